/-
  Texts of this proof, one behind the other: Da, Db, RBase, RBits, RMul64, RDiv64. No condition of their own.
-/
import Derived.Test.YtfffblanmdfidaaDoorX3
import Derived.Test.YtfffblanmdfidaaDoorProg
import Derived.Laws.Bits64b
import Derived.Lib.Mul64
section
namespace Go.Proofs.YtfffblanmdfidaaDoor.F
open Go.Proofs.YtfffblanmdfidaaDoor.E Go.RowKit Go.Proofs.YtfffblanmdfidaaDoorW.PrintWords Go.Proofs.YtfffblanmdfidaaDoorW.PrintLast
set_option linter.unusedVariables false
set_option maxRecDepth 100000
noncomputable abbrev PG : Program := Go.Proofs.Tryd.prog
def T0x : List (Nat × Bool) := []
theorem T0ex : ExAll PG T0x := trivial
noncomputable def T0 : TT := TT.of PG [2, 3, 4, 5, 9, 22, 27, 28, 31, 37, 41, 51, 52, 58, 61, 65, 74, 81, 89, 94] T0x
/-! bits_ReverseBytes64: function 43 -/
def bits_ReverseBytes64.A : AK := .p (.int .u64) .nil
def bits_ReverseBytes64.Q : RK := .p (.int .u64) .nil
def bits_ReverseBytes64.h : Int → bits_ReverseBytes64.Q.T × List Int := fun b => ((b, ()), [])
noncomputable def bits_ReverseBytes64.D : Decl Int := ⟨(Go.Proofs.Tryd.f43.body).getD .skip, 22, [.tmp 2], bits_ReverseBytes64.A, bits_ReverseBytes64.Q, fun y m => y.1, T0, [], [], []⟩
noncomputable def bits_ReverseBytes64.S (k : Nat) : List (Nat × E.Spec Int) := []
noncomputable def bits_ReverseBytes64.f0 (k : Nat) (a0 : Int) : Option Int := bits_ReverseBytes64.D.val bits_ReverseBytes64.S k (a0, ())
noncomputable def bits_ReverseBytes64.f := (still bits_ReverseBytes64.f0).1
theorem bits_ReverseBytes64.f_def : bits_ReverseBytes64.f = bits_ReverseBytes64.f0 := (still bits_ReverseBytes64.f0).2
noncomputable def bits_ReverseBytes64.g (k : Nat) (x : bits_ReverseBytes64.A.T) : Option Int := bits_ReverseBytes64.f k (x.1)
theorem bits_ReverseBytes64.does (k : Nat) : Does PG 43 bits_ReverseBytes64.A bits_ReverseBytes64.Q (bits_ReverseBytes64.g k) bits_ReverseBytes64.h := (show bits_ReverseBytes64.g k = bits_ReverseBytes64.D.val bits_ReverseBytes64.S k from funext fun _ => by unfold bits_ReverseBytes64.g; rw [bits_ReverseBytes64.f_def]; rfl) ▸ Decl.does (D := bits_ReverseBytes64.D) (S := bits_ReverseBytes64.S) (fn := Go.Proofs.Tryd.f43) ⟨by kernel_rfl, by kernel_rfl, by kernel_rfl, by kernel_rfl, by kernel_rfl, by kernel_rfl, TT.of_ok _ T0ex, by kernel_rfl⟩ (fun k => trivial) (fun _ _ h => by rw [h rfl]; rfl) k
/-! bits_Reverse64: function 26 -/
def bits_Reverse64.A : AK := .p (.int .u64) .nil
def bits_Reverse64.Q : RK := .p (.int .u64) .nil
def bits_Reverse64.h : Int → bits_Reverse64.Q.T × List Int := fun b => ((b, ()), [])
noncomputable def bits_Reverse64.D : Decl Int := ⟨(Go.Proofs.Tryd.f26.body).getD .skip, 26, [.tmp 2], bits_Reverse64.A, bits_Reverse64.Q, fun y m => y.1, T0, [], [], []⟩
noncomputable def bits_Reverse64.S (k : Nat) : List (Nat × E.Spec Int) := [(43, told _ bits_ReverseBytes64.A bits_ReverseBytes64.Q (bits_ReverseBytes64.g k) bits_ReverseBytes64.h)]
noncomputable def bits_Reverse64.f0 (k : Nat) (a0 : Int) : Option Int := bits_Reverse64.D.val bits_Reverse64.S k (a0, ())
noncomputable def bits_Reverse64.f := (still bits_Reverse64.f0).1
theorem bits_Reverse64.f_def : bits_Reverse64.f = bits_Reverse64.f0 := (still bits_Reverse64.f0).2
noncomputable def bits_Reverse64.g (k : Nat) (x : bits_Reverse64.A.T) : Option Int := bits_Reverse64.f k (x.1)
theorem bits_Reverse64.does (k : Nat) : Does PG 26 bits_Reverse64.A bits_Reverse64.Q (bits_Reverse64.g k) bits_Reverse64.h := (show bits_Reverse64.g k = bits_Reverse64.D.val bits_Reverse64.S k from funext fun _ => by unfold bits_Reverse64.g; rw [bits_Reverse64.f_def]; rfl) ▸ Decl.does (D := bits_Reverse64.D) (S := bits_Reverse64.S) (fn := Go.Proofs.Tryd.f26) ⟨by kernel_rfl, by kernel_rfl, by kernel_rfl, by kernel_rfl, by kernel_rfl, by kernel_rfl, TT.of_ok _ T0ex, by kernel_rfl⟩ (fun k => ⟨told_ok (bits_ReverseBytes64.does k), trivial⟩) (fun _ _ h => by rw [h rfl]; rfl) k
/-! tft_Turned: function 11 -/
def tft_Turned.A : AK := .p (.int .i64) (.p (.int .i64) .nil)
def tft_Turned.Q : RK := .p (.int .i64) (.p (.int .i64) .nil)
def tft_Turned.h : (Int × Int) → tft_Turned.Q.T × List Int := fun b => ((b.1, b.2, ()), [])
noncomputable def tft_Turned.D : Decl (Int × Int) := ⟨(Go.Proofs.Tryd.f11.body).getD .skip, 31, [.tmp 4, .tmp 5], tft_Turned.A, tft_Turned.Q, fun y m => (y.1, y.2.1), T0, [], [], []⟩
noncomputable def tft_Turned.S (k : Nat) : List (Nat × E.Spec (Int × Int)) := [(26, told _ bits_Reverse64.A bits_Reverse64.Q (bits_Reverse64.g k) bits_Reverse64.h)]
noncomputable def tft_Turned.f0 (k : Nat) (a0 : Int) (a1 : Int) : Option (Int × Int) := tft_Turned.D.val tft_Turned.S k (a0, a1, ())
noncomputable def tft_Turned.f := (still tft_Turned.f0).1
theorem tft_Turned.f_def : tft_Turned.f = tft_Turned.f0 := (still tft_Turned.f0).2
noncomputable def tft_Turned.g (k : Nat) (x : tft_Turned.A.T) : Option (Int × Int) := tft_Turned.f k (x.1) (x.2.1)
theorem tft_Turned.does (k : Nat) : Does PG 11 tft_Turned.A tft_Turned.Q (tft_Turned.g k) tft_Turned.h := (show tft_Turned.g k = tft_Turned.D.val tft_Turned.S k from funext fun _ => by unfold tft_Turned.g; rw [tft_Turned.f_def]; rfl) ▸ Decl.does (D := tft_Turned.D) (S := tft_Turned.S) (fn := Go.Proofs.Tryd.f11) ⟨by kernel_rfl, by kernel_rfl, by kernel_rfl, by kernel_rfl, by kernel_rfl, by kernel_rfl, TT.of_ok _ T0ex, by kernel_rfl⟩ (fun k => ⟨told_ok (bits_Reverse64.does k), trivial⟩) (fun _ _ h => by rw [h rfl]; rfl) k
/-! vinculumref07_Turned: function 12 -/
def vinculumref07_Turned.A : AK := .p (.int .i64) (.p (.int .i64) .nil)
def vinculumref07_Turned.Q : RK := .p (.int .i64) (.p (.int .i64) .nil)
def vinculumref07_Turned.h : (Int × Int) → vinculumref07_Turned.Q.T × List Int := fun b => ((b.1, b.2, ()), [])
noncomputable def vinculumref07_Turned.D : Decl (Int × Int) := ⟨(Go.Proofs.Tryd.f12.body).getD .skip, 33, [.tmp 4, .tmp 5], vinculumref07_Turned.A, vinculumref07_Turned.Q, fun y m => (y.1, y.2.1), T0, [], [(5, [(0, .p (some (.int .i64))), (1, .p (some (.int .i64))), (6, .p (some (.int .i64))), (7, .p (some (.int .i64)))])], []⟩
noncomputable def vinculumref07_Turned.S (k : Nat) : List (Nat × E.Spec (Int × Int)) := []
noncomputable def vinculumref07_Turned.l5 (k : Nat) (x0 : Int) (x1 : Int) (x6 : Int) (x7 : Int) : Option (Int × Int) := vinculumref07_Turned.D.F vinculumref07_Turned.S k 11 [.p (.lit (.int .i64 x0)), .p (.lit (.int .i64 x1)), .p (.lit (.int .i64 x6)), .p (.lit (.int .i64 x7))]
noncomputable def vinculumref07_Turned.f0 (k : Nat) (a0 : Int) (a1 : Int) : Option (Int × Int) := vinculumref07_Turned.D.val vinculumref07_Turned.S k (a0, a1, ())
noncomputable def vinculumref07_Turned.f := (still vinculumref07_Turned.f0).1
theorem vinculumref07_Turned.f_def : vinculumref07_Turned.f = vinculumref07_Turned.f0 := (still vinculumref07_Turned.f0).2
noncomputable def vinculumref07_Turned.g (k : Nat) (x : vinculumref07_Turned.A.T) : Option (Int × Int) := vinculumref07_Turned.f k (x.1) (x.2.1)
theorem vinculumref07_Turned.does (k : Nat) : Does PG 12 vinculumref07_Turned.A vinculumref07_Turned.Q (vinculumref07_Turned.g k) vinculumref07_Turned.h := (show vinculumref07_Turned.g k = vinculumref07_Turned.D.val vinculumref07_Turned.S k from funext fun _ => by unfold vinculumref07_Turned.g; rw [vinculumref07_Turned.f_def]; rfl) ▸ Decl.does (D := vinculumref07_Turned.D) (S := vinculumref07_Turned.S) (fn := Go.Proofs.Tryd.f12) ⟨by kernel_rfl, by kernel_rfl, by kernel_rfl, by kernel_rfl, by kernel_rfl, by kernel_rfl, TT.of_ok _ T0ex, by kernel_rfl⟩ (fun k => trivial) (fun _ _ h => by rw [h rfl]; rfl) k
/-! bits_Div64: function 57 -/
def bits_Div64.A : AK := .p (.int .u64) (.p (.int .u64) (.p (.int .u64) .nil))
def bits_Div64.Q : RK := .p (.int .u64) (.p (.int .u64) .nil)
def bits_Div64.h : (Int × Int) → bits_Div64.Q.T × List Int := fun b => ((b.1, b.2, ()), [])
noncomputable def bits_Div64.D : Decl (Int × Int) := ⟨(Go.Proofs.Tryd.f57.body).getD .skip, 135, [.tmp 6, .tmp 7], bits_Div64.A, bits_Div64.Q, fun y m => (y.1, y.2.1), T0, [], [(24, [(2, .p (some (.int .u64))), (8, .p (some (.int .u64))), (9, .p (some (.int .u64))), (10, .p (some (.int .u64))), (14, .p (some (.int .u64))), (15, .p (some (.int .u64))), (16, .p (some (.int .u64))), (17, .p (some (.int .u64))), (18, .p (some (.int .u64)))]), (17, [(2, .p (some (.int .u64))), (8, .p (some (.int .u64))), (9, .p (some (.int .u64))), (10, .p (some (.int .u64))), (11, .p (some (.int .u64))), (13, .p (some (.int .u64))), (14, .p (some (.int .u64))), (15, .p (some (.int .u64))), (16, .p (some (.int .u64)))])], []⟩
noncomputable def bits_Div64.S (k : Nat) : List (Nat × E.Spec (Int × Int)) := [(60, told _ bits_LeadingZeros64.A bits_LeadingZeros64.Q (bits_LeadingZeros64.g k) bits_LeadingZeros64.h)]
noncomputable def bits_Div64.l24 (k : Nat) (x2 : Int) (x8 : Int) (x9 : Int) (x10 : Int) (x14 : Int) (x15 : Int) (x16 : Int) (x17 : Int) (x18 : Int) : Option (Int × Int) := bits_Div64.D.F bits_Div64.S k 49 [.p (.lit (.int .u64 x2)), .p (.lit (.int .u64 x8)), .p (.lit (.int .u64 x9)), .p (.lit (.int .u64 x10)), .p (.lit (.int .u64 x14)), .p (.lit (.int .u64 x15)), .p (.lit (.int .u64 x16)), .p (.lit (.int .u64 x17)), .p (.lit (.int .u64 x18))]
noncomputable def bits_Div64.l17 (k : Nat) (x2 : Int) (x8 : Int) (x9 : Int) (x10 : Int) (x11 : Int) (x13 : Int) (x14 : Int) (x15 : Int) (x16 : Int) : Option (Int × Int) := bits_Div64.D.F bits_Div64.S k 35 [.p (.lit (.int .u64 x2)), .p (.lit (.int .u64 x8)), .p (.lit (.int .u64 x9)), .p (.lit (.int .u64 x10)), .p (.lit (.int .u64 x11)), .p (.lit (.int .u64 x13)), .p (.lit (.int .u64 x14)), .p (.lit (.int .u64 x15)), .p (.lit (.int .u64 x16))]
noncomputable def bits_Div64.f0 (k : Nat) (a0 : Int) (a1 : Int) (a2 : Int) : Option (Int × Int) := bits_Div64.D.val bits_Div64.S k (a0, a1, a2, ())
noncomputable def bits_Div64.f := (still bits_Div64.f0).1
theorem bits_Div64.f_def : bits_Div64.f = bits_Div64.f0 := (still bits_Div64.f0).2
noncomputable def bits_Div64.g (k : Nat) (x : bits_Div64.A.T) : Option (Int × Int) := bits_Div64.f k (x.1) (x.2.1) (x.2.2.1)
theorem bits_Div64.does (k : Nat) : Does PG 57 bits_Div64.A bits_Div64.Q (bits_Div64.g k) bits_Div64.h := (show bits_Div64.g k = bits_Div64.D.val bits_Div64.S k from funext fun _ => by unfold bits_Div64.g; rw [bits_Div64.f_def]; rfl) ▸ Decl.does (D := bits_Div64.D) (S := bits_Div64.S) (fn := Go.Proofs.Tryd.f57) ⟨by kernel_rfl, by kernel_rfl, by kernel_rfl, by kernel_rfl, by kernel_rfl, by kernel_rfl, TT.of_ok _ T0ex, by kernel_rfl⟩ (fun k => ⟨told_ok (bits_LeadingZeros64.does k), trivial⟩) (fun _ _ h => by rw [h rfl]; rfl) k
/-! bits_Rem64: function 47 -/
def bits_Rem64.A : AK := .p (.int .u64) (.p (.int .u64) (.p (.int .u64) .nil))
def bits_Rem64.Q : RK := .p (.int .u64) .nil
def bits_Rem64.h : Int → bits_Rem64.Q.T × List Int := fun b => ((b, ()), [])
noncomputable def bits_Rem64.D : Decl Int := ⟨(Go.Proofs.Tryd.f47.body).getD .skip, 19, [.tmp 6], bits_Rem64.A, bits_Rem64.Q, fun y m => y.1, T0, [], [], []⟩
noncomputable def bits_Rem64.S (k : Nat) : List (Nat × E.Spec Int) := [(57, told _ bits_Div64.A bits_Div64.Q (bits_Div64.g k) bits_Div64.h)]
noncomputable def bits_Rem64.f0 (k : Nat) (a0 : Int) (a1 : Int) (a2 : Int) : Option Int := bits_Rem64.D.val bits_Rem64.S k (a0, a1, a2, ())
noncomputable def bits_Rem64.f := (still bits_Rem64.f0).1
theorem bits_Rem64.f_def : bits_Rem64.f = bits_Rem64.f0 := (still bits_Rem64.f0).2
noncomputable def bits_Rem64.g (k : Nat) (x : bits_Rem64.A.T) : Option Int := bits_Rem64.f k (x.1) (x.2.1) (x.2.2.1)
theorem bits_Rem64.does (k : Nat) : Does PG 47 bits_Rem64.A bits_Rem64.Q (bits_Rem64.g k) bits_Rem64.h := (show bits_Rem64.g k = bits_Rem64.D.val bits_Rem64.S k from funext fun _ => by unfold bits_Rem64.g; rw [bits_Rem64.f_def]; rfl) ▸ Decl.does (D := bits_Rem64.D) (S := bits_Rem64.S) (fn := Go.Proofs.Tryd.f47) ⟨by kernel_rfl, by kernel_rfl, by kernel_rfl, by kernel_rfl, by kernel_rfl, by kernel_rfl, TT.of_ok _ T0ex, by kernel_rfl⟩ (fun k => ⟨told_ok (bits_Div64.does k), trivial⟩) (fun _ _ h => by rw [h rfl]; rfl) k
/-! word_Field_Mul: function 29 -/
def word_Field_Mul.A : AK := .p (.fp 81 (.cons (.int .u64) (.cons (.int .u64) (.cons (.int .u64) .nil)))) (.p (.int .u64) (.p (.int .u64) .nil))
def word_Field_Mul.Q : RK := .p (.int .u64) .nil
def word_Field_Mul.h : Int → word_Field_Mul.Q.T × List Int := fun b => ((b, ()), [])
noncomputable def word_Field_Mul.D : Decl Int := ⟨(Go.Proofs.Tryd.f29.body).getD .skip, 34, [.tmp 6], word_Field_Mul.A, word_Field_Mul.Q, fun y m => y.1, T0, [], [], []⟩
noncomputable def word_Field_Mul.S (k : Nat) : List (Nat × E.Spec Int) := [(46, told _ bits_Mul64.A bits_Mul64.Q (bits_Mul64.g k) bits_Mul64.h), (47, told _ bits_Rem64.A bits_Rem64.Q (bits_Rem64.g k) bits_Rem64.h)]
noncomputable def word_Field_Mul.f0 (k : Nat) (a0_0 : Int) (a0_1 : Int) (a0_2 : Int) (a1 : Int) (a2 : Int) : Option Int := word_Field_Mul.D.val word_Field_Mul.S k ((a0_0, a0_1, a0_2, ()), a1, a2, ())
noncomputable def word_Field_Mul.f := (still word_Field_Mul.f0).1
theorem word_Field_Mul.f_def : word_Field_Mul.f = word_Field_Mul.f0 := (still word_Field_Mul.f0).2
noncomputable def word_Field_Mul.g (k : Nat) (x : word_Field_Mul.A.T) : Option Int := word_Field_Mul.f k (x.1.1) (x.1.2.1) (x.1.2.2.1) (x.2.1) (x.2.2.1)
theorem word_Field_Mul.does (k : Nat) : Does PG 29 word_Field_Mul.A word_Field_Mul.Q (word_Field_Mul.g k) word_Field_Mul.h := (show word_Field_Mul.g k = word_Field_Mul.D.val word_Field_Mul.S k from funext fun _ => by unfold word_Field_Mul.g; rw [word_Field_Mul.f_def]; rfl) ▸ Decl.does (D := word_Field_Mul.D) (S := word_Field_Mul.S) (fn := Go.Proofs.Tryd.f29) ⟨by kernel_rfl, by kernel_rfl, by kernel_rfl, by kernel_rfl, by kernel_rfl, by kernel_rfl, TT.of_ok _ T0ex, by kernel_rfl⟩ (fun k => ⟨told_ok (bits_Mul64.does k), ⟨told_ok (bits_Rem64.does k), trivial⟩⟩) (fun _ _ h => by rw [h rfl]; rfl) k
/-! word_Field_Of: function 51 -/
def word_Field_Of.A : AK := .p (.fp 81 (.cons (.int .u64) (.cons (.int .u64) (.cons (.int .u64) .nil)))) (.p (.int .u64) .nil)
def word_Field_Of.Q : RK := .p (.int .u64) .nil
def word_Field_Of.h : Int → word_Field_Of.Q.T × List Int := fun b => ((b, ()), [])
noncomputable def word_Field_Of.D : Decl Int := ⟨(Go.Proofs.Tryd.f51.body).getD .skip, 13, [.tmp 4], word_Field_Of.A, word_Field_Of.Q, fun y m => y.1, T0, [], [], []⟩
noncomputable def word_Field_Of.S (k : Nat) : List (Nat × E.Spec Int) := []
noncomputable def word_Field_Of.f0 (k : Nat) (a0_0 : Int) (a0_1 : Int) (a0_2 : Int) (a1 : Int) : Option Int := word_Field_Of.D.val word_Field_Of.S k ((a0_0, a0_1, a0_2, ()), a1, ())
noncomputable def word_Field_Of.f := (still word_Field_Of.f0).1
theorem word_Field_Of.f_def : word_Field_Of.f = word_Field_Of.f0 := (still word_Field_Of.f0).2
noncomputable def word_Field_Of.g (k : Nat) (x : word_Field_Of.A.T) : Option Int := word_Field_Of.f k (x.1.1) (x.1.2.1) (x.1.2.2.1) (x.2.1)
theorem word_Field_Of.does (k : Nat) : Does PG 51 word_Field_Of.A word_Field_Of.Q (word_Field_Of.g k) word_Field_Of.h := (show word_Field_Of.g k = word_Field_Of.D.val word_Field_Of.S k from funext fun _ => by unfold word_Field_Of.g; rw [word_Field_Of.f_def]; rfl) ▸ Decl.does (D := word_Field_Of.D) (S := word_Field_Of.S) (fn := Go.Proofs.Tryd.f51) ⟨by kernel_rfl, by kernel_rfl, by kernel_rfl, by kernel_rfl, by kernel_rfl, by kernel_rfl, TT.of_ok _ T0ex, by kernel_rfl⟩ (fun k => trivial) (fun _ _ h => by rw [h rfl]; rfl) k
/-! word_Field_Pow: function 34 -/
def word_Field_Pow.A : AK := .p (.fp 81 (.cons (.int .u64) (.cons (.int .u64) (.cons (.int .u64) .nil)))) (.p (.int .u64) (.p (.int .u64) .nil))
def word_Field_Pow.Q : RK := .p (.int .u64) .nil
def word_Field_Pow.h : Int → word_Field_Pow.Q.T × List Int := fun b => ((b, ()), [])
noncomputable def word_Field_Pow.D : Decl Int := ⟨(Go.Proofs.Tryd.f34.body).getD .skip, 28, [.tmp 6], word_Field_Pow.A, word_Field_Pow.Q, fun y m => y.1, T0, [], [(2, [(0, .p (some (.fp 81 (.cons (.int .u64) (.cons (.int .u64) (.cons (.int .u64) .nil)))))), (1, .p (some (.int .u64))), (2, .p (some (.int .u64))), (7, .p (some (.int .u64)))])], []⟩
noncomputable def word_Field_Pow.S (k : Nat) : List (Nat × E.Spec Int) := [(29, told _ word_Field_Mul.A word_Field_Mul.Q (word_Field_Mul.g k) word_Field_Mul.h), (51, told _ word_Field_Of.A word_Field_Of.Q (word_Field_Of.g k) word_Field_Of.h)]
noncomputable def word_Field_Pow.l2 (k : Nat) (x0_0 : Int) (x0_1 : Int) (x0_2 : Int) (x1 : Int) (x2 : Int) (x7 : Int) : Option Int := word_Field_Pow.D.F word_Field_Pow.S k 5 [.p (.fp 81 [.lit (.int .u64 x0_0), .lit (.int .u64 x0_1), .lit (.int .u64 x0_2)]), .p (.lit (.int .u64 x1)), .p (.lit (.int .u64 x2)), .p (.lit (.int .u64 x7))]
noncomputable def word_Field_Pow.f0 (k : Nat) (a0_0 : Int) (a0_1 : Int) (a0_2 : Int) (a1 : Int) (a2 : Int) : Option Int := word_Field_Pow.D.val word_Field_Pow.S k ((a0_0, a0_1, a0_2, ()), a1, a2, ())
noncomputable def word_Field_Pow.f := (still word_Field_Pow.f0).1
theorem word_Field_Pow.f_def : word_Field_Pow.f = word_Field_Pow.f0 := (still word_Field_Pow.f0).2
noncomputable def word_Field_Pow.g (k : Nat) (x : word_Field_Pow.A.T) : Option Int := word_Field_Pow.f k (x.1.1) (x.1.2.1) (x.1.2.2.1) (x.2.1) (x.2.2.1)
theorem word_Field_Pow.does (k : Nat) : Does PG 34 word_Field_Pow.A word_Field_Pow.Q (word_Field_Pow.g k) word_Field_Pow.h := (show word_Field_Pow.g k = word_Field_Pow.D.val word_Field_Pow.S k from funext fun _ => by unfold word_Field_Pow.g; rw [word_Field_Pow.f_def]; rfl) ▸ Decl.does (D := word_Field_Pow.D) (S := word_Field_Pow.S) (fn := Go.Proofs.Tryd.f34) ⟨by kernel_rfl, by kernel_rfl, by kernel_rfl, by kernel_rfl, by kernel_rfl, by kernel_rfl, TT.of_ok _ T0ex, by kernel_rfl⟩ (fun k => ⟨told_ok (word_Field_Mul.does k), ⟨told_ok (word_Field_Of.does k), trivial⟩⟩) (fun _ _ h => by rw [h rfl]; rfl) k
/-! word_New: function 28 -/
def word_New.A : AK := .p (.int .u64) .nil
def word_New.Q : RK := .p (.np 81 (.cons (.int .u64) (.cons (.int .u64) (.cons (.int .u64) .nil)))) (.p (.int .i64) .nil)
def word_New.h : ((Option (Int × Int × Int × Unit)) × Int) → word_New.Q.T × List Int := fun b => ((b.1, b.2, ()), [])
noncomputable def word_New.D : Decl ((Option (Int × Int × Int × Unit)) × Int) := ⟨(Go.Proofs.Tryd.f28.body).getD .skip, 46, [.tmp 2, .tmp 3], word_New.A, word_New.Q, fun y m => (y.1, y.2.1), T0, [], [(7, [(0, .p (some (.int .u64))), (4, .p (some (.pt 3 0))), (5, .p (some (.int .u64))), (15, .b (some (.cons (.int .u64) (.cons (.int .u64) (.cons (.int .u64) .nil))))), (20, .p (some (.int .i64)))])], []⟩
noncomputable def word_New.S (k : Nat) : List (Nat × E.Spec ((Option (Int × Int × Int × Unit)) × Int)) := [(29, told _ word_Field_Mul.A word_Field_Mul.Q (word_Field_Mul.g k) word_Field_Mul.h)]
noncomputable def word_New.l7 (k : Nat) (x0 : Int) (x5 : Int) (x15_0 : Int) (x15_1 : Int) (x15_2 : Int) (x20 : Int) : Option ((Option (Int × Int × Int × Unit)) × Int) := word_New.D.F word_New.S k 15 [.p (.lit (.int .u64 x0)), .p (.ptr 3 0), .p (.lit (.int .u64 x5)), .b 81 [.lit (.int .u64 x15_0), .lit (.int .u64 x15_1), .lit (.int .u64 x15_2)], .p (.lit (.int .i64 x20))]
noncomputable def word_New.f0 (k : Nat) (a0 : Int) : Option ((Option (Int × Int × Int × Unit)) × Int) := word_New.D.val word_New.S k (a0, ())
noncomputable def word_New.f := (still word_New.f0).1
theorem word_New.f_def : word_New.f = word_New.f0 := (still word_New.f0).2
noncomputable def word_New.g (k : Nat) (x : word_New.A.T) : Option ((Option (Int × Int × Int × Unit)) × Int) := word_New.f k (x.1)
theorem word_New.does (k : Nat) : Does PG 28 word_New.A word_New.Q (word_New.g k) word_New.h := (show word_New.g k = word_New.D.val word_New.S k from funext fun _ => by unfold word_New.g; rw [word_New.f_def]; rfl) ▸ Decl.does (D := word_New.D) (S := word_New.S) (fn := Go.Proofs.Tryd.f28) ⟨by kernel_rfl, by kernel_rfl, by kernel_rfl, by kernel_rfl, by kernel_rfl, by kernel_rfl, TT.of_ok _ T0ex, by kernel_rfl⟩ (fun k => ⟨told_ok (word_Field_Mul.does k), trivial⟩) (fun _ _ h => by rw [h rfl]; rfl) k
/-! prime_bases: function 58 -/
def prime_bases.A : AK := .nil
def prime_bases.Q : RK := .p (.agg (.cons (.int .u64) (.cons (.int .u64) (.cons (.int .u64) (.cons (.int .u64) (.cons (.int .u64) (.cons (.int .u64) (.cons (.int .u64) (.cons (.int .u64) (.cons (.int .u64) (.cons (.int .u64) (.cons (.int .u64) (.cons (.int .u64) .nil))))))))))))) .nil
def prime_bases.h : (Int × Int × Int × Int × Int × Int × Int × Int × Int × Int × Int × Int) → prime_bases.Q.T × List Int := fun b => (((b.1, b.2.1, b.2.2.1, b.2.2.2.1, b.2.2.2.2.1, b.2.2.2.2.2.1, b.2.2.2.2.2.2.1, b.2.2.2.2.2.2.2.1, b.2.2.2.2.2.2.2.2.1, b.2.2.2.2.2.2.2.2.2.1, b.2.2.2.2.2.2.2.2.2.2.1, b.2.2.2.2.2.2.2.2.2.2.2, ()), ()), [])
noncomputable def prime_bases.D : Decl (Int × Int × Int × Int × Int × Int × Int × Int × Int × Int × Int × Int) := ⟨(Go.Proofs.Tryd.f58.body).getD .skip, 2, [.cell 0 89], prime_bases.A, prime_bases.Q, fun y m => (y.1.1, y.1.2.1, y.1.2.2.1, y.1.2.2.2.1, y.1.2.2.2.2.1, y.1.2.2.2.2.2.1, y.1.2.2.2.2.2.2.1, y.1.2.2.2.2.2.2.2.1, y.1.2.2.2.2.2.2.2.2.1, y.1.2.2.2.2.2.2.2.2.2.1, y.1.2.2.2.2.2.2.2.2.2.2.1, y.1.2.2.2.2.2.2.2.2.2.2.2.1), T0, [], [], []⟩
noncomputable def prime_bases.S (k : Nat) : List (Nat × E.Spec (Int × Int × Int × Int × Int × Int × Int × Int × Int × Int × Int × Int)) := []
noncomputable def prime_bases.f0 (k : Nat) : Option (Int × Int × Int × Int × Int × Int × Int × Int × Int × Int × Int × Int) := prime_bases.D.val prime_bases.S k (())
noncomputable def prime_bases.f := (still prime_bases.f0).1
theorem prime_bases.f_def : prime_bases.f = prime_bases.f0 := (still prime_bases.f0).2
noncomputable def prime_bases.g (k : Nat) (x : prime_bases.A.T) : Option (Int × Int × Int × Int × Int × Int × Int × Int × Int × Int × Int × Int) := prime_bases.f k
theorem prime_bases.does (k : Nat) : Does PG 58 prime_bases.A prime_bases.Q (prime_bases.g k) prime_bases.h := (show prime_bases.g k = prime_bases.D.val prime_bases.S k from funext fun _ => by unfold prime_bases.g; rw [prime_bases.f_def]; rfl) ▸ Decl.does (D := prime_bases.D) (S := prime_bases.S) (fn := Go.Proofs.Tryd.f58) ⟨by kernel_rfl, by kernel_rfl, by kernel_rfl, by kernel_rfl, by kernel_rfl, by kernel_rfl, TT.of_ok _ T0ex, by kernel_rfl⟩ (fun k => trivial) (fun _ _ h => by rw [h rfl]; rfl) k
/-! prime_mul: function 62 -/
def prime_mul.A : AK := .p (.int .u64) (.p (.int .u64) (.p (.int .u64) .nil))
def prime_mul.Q : RK := .p (.int .u64) .nil
def prime_mul.h : Int → prime_mul.Q.T × List Int := fun b => ((b, ()), [])
noncomputable def prime_mul.D : Decl Int := ⟨(Go.Proofs.Tryd.f62.body).getD .skip, 19, [.tmp 6], prime_mul.A, prime_mul.Q, fun y m => y.1, T0, [], [], []⟩
noncomputable def prime_mul.S (k : Nat) : List (Nat × E.Spec Int) := [(46, told _ bits_Mul64.A bits_Mul64.Q (bits_Mul64.g k) bits_Mul64.h), (47, told _ bits_Rem64.A bits_Rem64.Q (bits_Rem64.g k) bits_Rem64.h)]
noncomputable def prime_mul.f0 (k : Nat) (a0 : Int) (a1 : Int) (a2 : Int) : Option Int := prime_mul.D.val prime_mul.S k (a0, a1, a2, ())
noncomputable def prime_mul.f := (still prime_mul.f0).1
theorem prime_mul.f_def : prime_mul.f = prime_mul.f0 := (still prime_mul.f0).2
noncomputable def prime_mul.g (k : Nat) (x : prime_mul.A.T) : Option Int := prime_mul.f k (x.1) (x.2.1) (x.2.2.1)
theorem prime_mul.does (k : Nat) : Does PG 62 prime_mul.A prime_mul.Q (prime_mul.g k) prime_mul.h := (show prime_mul.g k = prime_mul.D.val prime_mul.S k from funext fun _ => by unfold prime_mul.g; rw [prime_mul.f_def]; rfl) ▸ Decl.does (D := prime_mul.D) (S := prime_mul.S) (fn := Go.Proofs.Tryd.f62) ⟨by kernel_rfl, by kernel_rfl, by kernel_rfl, by kernel_rfl, by kernel_rfl, by kernel_rfl, TT.of_ok _ T0ex, by kernel_rfl⟩ (fun k => ⟨told_ok (bits_Mul64.does k), ⟨told_ok (bits_Rem64.does k), trivial⟩⟩) (fun _ _ h => by rw [h rfl]; rfl) k
/-! prime_strong: function 59 -/
def prime_strong.A : AK := .p (.int .u64) (.p (.int .u64) .nil)
def prime_strong.Q : RK := .p (.bool) .nil
def prime_strong.h : Bool → prime_strong.Q.T × List Int := fun b => ((b, ()), [])
noncomputable def prime_strong.D : Decl Bool := ⟨(Go.Proofs.Tryd.f59.body).getD .skip, 49, [.tmp 4], prime_strong.A, prime_strong.Q, fun y m => y.1, T0, [], [(12, [(0, .p (some (.int .u64))), (6, .p (some (.int .u64))), (37, .p (some (.int .i64))), (38, .p (some (.int .i64)))]), (4, [(0, .p (some (.int .u64))), (5, .p (some (.int .i64))), (6, .p (some (.int .u64))), (7, .p (some (.int .u64))), (8, .p (some (.int .u64)))])], []⟩
noncomputable def prime_strong.S (k : Nat) : List (Nat × E.Spec Bool) := [(61, told _ bits_TrailingZeros64.A bits_TrailingZeros64.Q (bits_TrailingZeros64.g k) bits_TrailingZeros64.h), (62, told _ prime_mul.A prime_mul.Q (prime_mul.g k) prime_mul.h)]
noncomputable def prime_strong.l12 (k : Nat) (x0 : Int) (x6 : Int) (x37 : Int) (x38 : Int) : Option Bool := prime_strong.D.F prime_strong.S k 25 [.p (.lit (.int .u64 x0)), .p (.lit (.int .u64 x6)), .p (.lit (.int .i64 x37)), .p (.lit (.int .i64 x38))]
noncomputable def prime_strong.l4 (k : Nat) (x0 : Int) (x5 : Int) (x6 : Int) (x7 : Int) (x8 : Int) : Option Bool := prime_strong.D.F prime_strong.S k 9 [.p (.lit (.int .u64 x0)), .p (.lit (.int .i64 x5)), .p (.lit (.int .u64 x6)), .p (.lit (.int .u64 x7)), .p (.lit (.int .u64 x8))]
noncomputable def prime_strong.f0 (k : Nat) (a0 : Int) (a1 : Int) : Option Bool := prime_strong.D.val prime_strong.S k (a0, a1, ())
noncomputable def prime_strong.f := (still prime_strong.f0).1
theorem prime_strong.f_def : prime_strong.f = prime_strong.f0 := (still prime_strong.f0).2
noncomputable def prime_strong.g (k : Nat) (x : prime_strong.A.T) : Option Bool := prime_strong.f k (x.1) (x.2.1)
theorem prime_strong.does (k : Nat) : Does PG 59 prime_strong.A prime_strong.Q (prime_strong.g k) prime_strong.h := (show prime_strong.g k = prime_strong.D.val prime_strong.S k from funext fun _ => by unfold prime_strong.g; rw [prime_strong.f_def]; rfl) ▸ Decl.does (D := prime_strong.D) (S := prime_strong.S) (fn := Go.Proofs.Tryd.f59) ⟨by kernel_rfl, by kernel_rfl, by kernel_rfl, by kernel_rfl, by kernel_rfl, by kernel_rfl, TT.of_ok _ T0ex, by kernel_rfl⟩ (fun k => ⟨told_ok (bits_TrailingZeros64.does k), ⟨told_ok (prime_mul.does k), trivial⟩⟩) (fun _ _ h => by rw [h rfl]; rfl) k
/-! prime_Is: function 56 -/
def prime_Is.A : AK := .p (.int .u64) .nil
def prime_Is.Q : RK := .p (.bool) .nil
def prime_Is.h : Bool → prime_Is.Q.T × List Int := fun b => ((b, ()), [])
noncomputable def prime_Is.D : Decl Bool := ⟨(Go.Proofs.Tryd.f56.body).getD .skip, 30, [.tmp 2], prime_Is.A, prime_Is.Q, fun y m => y.1, T0, [], [(10, [(0, .p (some (.int .u64))), (21, .p (some (.agg (.cons (.int .u64) (.cons (.int .u64) (.cons (.int .u64) (.cons (.int .u64) (.cons (.int .u64) (.cons (.int .u64) (.cons (.int .u64) (.cons (.int .u64) (.cons (.int .u64) (.cons (.int .u64) (.cons (.int .u64) (.cons (.int .u64) .nil))))))))))))))), (22, .p (some (.int .i64)))]), (4, [(0, .p (some (.int .u64))), (9, .p (some (.agg (.cons (.int .u64) (.cons (.int .u64) (.cons (.int .u64) (.cons (.int .u64) (.cons (.int .u64) (.cons (.int .u64) (.cons (.int .u64) (.cons (.int .u64) (.cons (.int .u64) (.cons (.int .u64) (.cons (.int .u64) (.cons (.int .u64) .nil))))))))))))))), (10, .p (some (.int .i64)))])], []⟩
noncomputable def prime_Is.S (k : Nat) : List (Nat × E.Spec Bool) := [(58, told _ prime_bases.A prime_bases.Q (prime_bases.g k) prime_bases.h), (59, told _ prime_strong.A prime_strong.Q (prime_strong.g k) prime_strong.h)]
noncomputable def prime_Is.l10 (k : Nat) (x0 : Int) (x21_0 : Int) (x21_1 : Int) (x21_2 : Int) (x21_3 : Int) (x21_4 : Int) (x21_5 : Int) (x21_6 : Int) (x21_7 : Int) (x21_8 : Int) (x21_9 : Int) (x21_10 : Int) (x21_11 : Int) (x22 : Int) : Option Bool := prime_Is.D.F prime_Is.S k 21 [.p (.lit (.int .u64 x0)), .p (.agg [.lit (.int .u64 x21_0), .lit (.int .u64 x21_1), .lit (.int .u64 x21_2), .lit (.int .u64 x21_3), .lit (.int .u64 x21_4), .lit (.int .u64 x21_5), .lit (.int .u64 x21_6), .lit (.int .u64 x21_7), .lit (.int .u64 x21_8), .lit (.int .u64 x21_9), .lit (.int .u64 x21_10), .lit (.int .u64 x21_11)]), .p (.lit (.int .i64 x22))]
noncomputable def prime_Is.l4 (k : Nat) (x0 : Int) (x9_0 : Int) (x9_1 : Int) (x9_2 : Int) (x9_3 : Int) (x9_4 : Int) (x9_5 : Int) (x9_6 : Int) (x9_7 : Int) (x9_8 : Int) (x9_9 : Int) (x9_10 : Int) (x9_11 : Int) (x10 : Int) : Option Bool := prime_Is.D.F prime_Is.S k 9 [.p (.lit (.int .u64 x0)), .p (.agg [.lit (.int .u64 x9_0), .lit (.int .u64 x9_1), .lit (.int .u64 x9_2), .lit (.int .u64 x9_3), .lit (.int .u64 x9_4), .lit (.int .u64 x9_5), .lit (.int .u64 x9_6), .lit (.int .u64 x9_7), .lit (.int .u64 x9_8), .lit (.int .u64 x9_9), .lit (.int .u64 x9_10), .lit (.int .u64 x9_11)]), .p (.lit (.int .i64 x10))]
noncomputable def prime_Is.f0 (k : Nat) (a0 : Int) : Option Bool := prime_Is.D.val prime_Is.S k (a0, ())
noncomputable def prime_Is.f := (still prime_Is.f0).1
theorem prime_Is.f_def : prime_Is.f = prime_Is.f0 := (still prime_Is.f0).2
noncomputable def prime_Is.g (k : Nat) (x : prime_Is.A.T) : Option Bool := prime_Is.f k (x.1)
theorem prime_Is.does (k : Nat) : Does PG 56 prime_Is.A prime_Is.Q (prime_Is.g k) prime_Is.h := (show prime_Is.g k = prime_Is.D.val prime_Is.S k from funext fun _ => by unfold prime_Is.g; rw [prime_Is.f_def]; rfl) ▸ Decl.does (D := prime_Is.D) (S := prime_Is.S) (fn := Go.Proofs.Tryd.f56) ⟨by kernel_rfl, by kernel_rfl, by kernel_rfl, by kernel_rfl, by kernel_rfl, by kernel_rfl, TT.of_ok _ T0ex, by kernel_rfl⟩ (fun k => ⟨told_ok (prime_bases.does k), ⟨told_ok (prime_strong.does k), trivial⟩⟩) (fun _ _ h => by rw [h rfl]; rfl) k
/-! prime_field: function 44 -/
def prime_field.A : AK := .p (.int .u64) .nil
def prime_field.Q : RK := .p (.np 81 (.cons (.int .u64) (.cons (.int .u64) (.cons (.int .u64) .nil)))) (.p (.int .i64) .nil)
def prime_field.h : ((Option (Int × Int × Int × Unit)) × Int) → prime_field.Q.T × List Int := fun b => ((b.1, b.2, ()), [])
noncomputable def prime_field.D : Decl ((Option (Int × Int × Int × Unit)) × Int) := ⟨(Go.Proofs.Tryd.f44.body).getD .skip, 15, [.tmp 2, .tmp 3], prime_field.A, prime_field.Q, fun y m => (y.1, y.2.1), T0, [], [], []⟩
noncomputable def prime_field.S (k : Nat) : List (Nat × E.Spec ((Option (Int × Int × Int × Unit)) × Int)) := [(28, told _ word_New.A word_New.Q (word_New.g k) word_New.h), (56, told _ prime_Is.A prime_Is.Q (prime_Is.g k) prime_Is.h)]
noncomputable def prime_field.f0 (k : Nat) (a0 : Int) : Option ((Option (Int × Int × Int × Unit)) × Int) := prime_field.D.val prime_field.S k (a0, ())
noncomputable def prime_field.f := (still prime_field.f0).1
theorem prime_field.f_def : prime_field.f = prime_field.f0 := (still prime_field.f0).2
noncomputable def prime_field.g (k : Nat) (x : prime_field.A.T) : Option ((Option (Int × Int × Int × Unit)) × Int) := prime_field.f k (x.1)
theorem prime_field.does (k : Nat) : Does PG 44 prime_field.A prime_field.Q (prime_field.g k) prime_field.h := (show prime_field.g k = prime_field.D.val prime_field.S k from funext fun _ => by unfold prime_field.g; rw [prime_field.f_def]; rfl) ▸ Decl.does (D := prime_field.D) (S := prime_field.S) (fn := Go.Proofs.Tryd.f44) ⟨by kernel_rfl, by kernel_rfl, by kernel_rfl, by kernel_rfl, by kernel_rfl, by kernel_rfl, TT.of_ok _ T0ex, by kernel_rfl⟩ (fun k => ⟨told_ok (word_New.does k), ⟨told_ok (prime_Is.does k), trivial⟩⟩) (fun _ _ h => by rw [h rfl]; rfl) k
/-! prime_order: function 45 -/
def prime_order.A : AK := .p (.fp 81 (.cons (.int .u64) (.cons (.int .u64) (.cons (.int .u64) .nil)))) (.p (.int .u64) .nil)
def prime_order.Q : RK := .p (.int .i64) (.p (.bool) .nil)
def prime_order.h : (Int × Bool) → prime_order.Q.T × List Int := fun b => ((b.1, b.2, ()), [])
noncomputable def prime_order.D : Decl (Int × Bool) := ⟨(Go.Proofs.Tryd.f45.body).getD .skip, 18, [.tmp 4, .tmp 5], prime_order.A, prime_order.Q, fun y m => (y.1, y.2.1), T0, [], [(2, [(0, .p (some (.fp 81 (.cons (.int .u64) (.cons (.int .u64) (.cons (.int .u64) .nil)))))), (1, .p (some (.int .u64))), (7, .p (some (.int .i64)))])], []⟩
noncomputable def prime_order.S (k : Nat) : List (Nat × E.Spec (Int × Bool)) := [(29, told _ word_Field_Mul.A word_Field_Mul.Q (word_Field_Mul.g k) word_Field_Mul.h)]
noncomputable def prime_order.l2 (k : Nat) (x0_0 : Int) (x0_1 : Int) (x0_2 : Int) (x1 : Int) (x7 : Int) : Option (Int × Bool) := prime_order.D.F prime_order.S k 5 [.p (.fp 81 [.lit (.int .u64 x0_0), .lit (.int .u64 x0_1), .lit (.int .u64 x0_2)]), .p (.lit (.int .u64 x1)), .p (.lit (.int .i64 x7))]
noncomputable def prime_order.f0 (k : Nat) (a0_0 : Int) (a0_1 : Int) (a0_2 : Int) (a1 : Int) : Option (Int × Bool) := prime_order.D.val prime_order.S k ((a0_0, a0_1, a0_2, ()), a1, ())
noncomputable def prime_order.f := (still prime_order.f0).1
theorem prime_order.f_def : prime_order.f = prime_order.f0 := (still prime_order.f0).2
noncomputable def prime_order.g (k : Nat) (x : prime_order.A.T) : Option (Int × Bool) := prime_order.f k (x.1.1) (x.1.2.1) (x.1.2.2.1) (x.2.1)
theorem prime_order.does (k : Nat) : Does PG 45 prime_order.A prime_order.Q (prime_order.g k) prime_order.h := (show prime_order.g k = prime_order.D.val prime_order.S k from funext fun _ => by unfold prime_order.g; rw [prime_order.f_def]; rfl) ▸ Decl.does (D := prime_order.D) (S := prime_order.S) (fn := Go.Proofs.Tryd.f45) ⟨by kernel_rfl, by kernel_rfl, by kernel_rfl, by kernel_rfl, by kernel_rfl, by kernel_rfl, TT.of_ok _ T0ex, by kernel_rfl⟩ (fun k => ⟨told_ok (word_Field_Mul.does k), trivial⟩) (fun _ _ h => by rw [h rfl]; rfl) k
/-! prime_Root: function 27 -/
def prime_Root.A : AK := .p (.int .u64) (.p (.int .i64) .nil)
def prime_Root.Q : RK := .p (.int .u64) (.p (.int .i64) .nil)
def prime_Root.h : (Int × Int) → prime_Root.Q.T × List Int := fun b => ((b.1, b.2, ()), [])
noncomputable def prime_Root.D : Decl (Int × Int) := ⟨(Go.Proofs.Tryd.f27.body).getD .skip, 62, [.tmp 4, .tmp 5], prime_Root.A, prime_Root.Q, fun y m => (y.1, y.2.1), T0, [], [(8, [(0, .p (some (.int .u64))), (1, .p (some (.int .i64))), (6, .p (some (.fp 81 (.cons (.int .u64) (.cons (.int .u64) (.cons (.int .u64) .nil)))))), (8, .p (some (.int .u64)))])], []⟩
noncomputable def prime_Root.S (k : Nat) : List (Nat × E.Spec (Int × Int)) := [(34, told _ word_Field_Pow.A word_Field_Pow.Q (word_Field_Pow.g k) word_Field_Pow.h), (44, told _ prime_field.A prime_field.Q (prime_field.g k) prime_field.h), (45, told _ prime_order.A prime_order.Q (prime_order.g k) prime_order.h)]
noncomputable def prime_Root.l8 (k : Nat) (x0 : Int) (x1 : Int) (x6_0 : Int) (x6_1 : Int) (x6_2 : Int) (x8 : Int) : Option (Int × Int) := prime_Root.D.F prime_Root.S k 17 [.p (.lit (.int .u64 x0)), .p (.lit (.int .i64 x1)), .p (.fp 81 [.lit (.int .u64 x6_0), .lit (.int .u64 x6_1), .lit (.int .u64 x6_2)]), .p (.lit (.int .u64 x8))]
noncomputable def prime_Root.f0 (k : Nat) (a0 : Int) (a1 : Int) : Option (Int × Int) := prime_Root.D.val prime_Root.S k (a0, a1, ())
noncomputable def prime_Root.f := (still prime_Root.f0).1
theorem prime_Root.f_def : prime_Root.f = prime_Root.f0 := (still prime_Root.f0).2
noncomputable def prime_Root.g (k : Nat) (x : prime_Root.A.T) : Option (Int × Int) := prime_Root.f k (x.1) (x.2.1)
theorem prime_Root.does (k : Nat) : Does PG 27 prime_Root.A prime_Root.Q (prime_Root.g k) prime_Root.h := (show prime_Root.g k = prime_Root.D.val prime_Root.S k from funext fun _ => by unfold prime_Root.g; rw [prime_Root.f_def]; rfl) ▸ Decl.does (D := prime_Root.D) (S := prime_Root.S) (fn := Go.Proofs.Tryd.f27) ⟨by kernel_rfl, by kernel_rfl, by kernel_rfl, by kernel_rfl, by kernel_rfl, by kernel_rfl, TT.of_ok _ T0ex, by kernel_rfl⟩ (fun k => ⟨told_ok (word_Field_Pow.does k), ⟨told_ok (prime_field.does k), ⟨told_ok (prime_order.does k), trivial⟩⟩⟩) (fun _ _ h => by rw [h rfl]; rfl) k
/-! word_Field_Sub: function 48 -/
def word_Field_Sub.A : AK := .p (.fp 81 (.cons (.int .u64) (.cons (.int .u64) (.cons (.int .u64) .nil)))) (.p (.int .u64) (.p (.int .u64) .nil))
def word_Field_Sub.Q : RK := .p (.int .u64) .nil
def word_Field_Sub.h : Int → word_Field_Sub.Q.T × List Int := fun b => ((b, ()), [])
noncomputable def word_Field_Sub.D : Decl Int := ⟨(Go.Proofs.Tryd.f48.body).getD .skip, 33, [.tmp 6], word_Field_Sub.A, word_Field_Sub.Q, fun y m => y.1, T0, [], [], []⟩
noncomputable def word_Field_Sub.S (k : Nat) : List (Nat × E.Spec Int) := []
noncomputable def word_Field_Sub.f0 (k : Nat) (a0_0 : Int) (a0_1 : Int) (a0_2 : Int) (a1 : Int) (a2 : Int) : Option Int := word_Field_Sub.D.val word_Field_Sub.S k ((a0_0, a0_1, a0_2, ()), a1, a2, ())
noncomputable def word_Field_Sub.f := (still word_Field_Sub.f0).1
theorem word_Field_Sub.f_def : word_Field_Sub.f = word_Field_Sub.f0 := (still word_Field_Sub.f0).2
noncomputable def word_Field_Sub.g (k : Nat) (x : word_Field_Sub.A.T) : Option Int := word_Field_Sub.f k (x.1.1) (x.1.2.1) (x.1.2.2.1) (x.2.1) (x.2.2.1)
theorem word_Field_Sub.does (k : Nat) : Does PG 48 word_Field_Sub.A word_Field_Sub.Q (word_Field_Sub.g k) word_Field_Sub.h := (show word_Field_Sub.g k = word_Field_Sub.D.val word_Field_Sub.S k from funext fun _ => by unfold word_Field_Sub.g; rw [word_Field_Sub.f_def]; rfl) ▸ Decl.does (D := word_Field_Sub.D) (S := word_Field_Sub.S) (fn := Go.Proofs.Tryd.f48) ⟨by kernel_rfl, by kernel_rfl, by kernel_rfl, by kernel_rfl, by kernel_rfl, by kernel_rfl, TT.of_ok _ T0ex, by kernel_rfl⟩ (fun k => trivial) (fun _ _ h => by rw [h rfl]; rfl) k
/-! word_Field_Inv: function 30 -/
def word_Field_Inv.A : AK := .p (.fp 81 (.cons (.int .u64) (.cons (.int .u64) (.cons (.int .u64) .nil)))) (.p (.int .u64) .nil)
def word_Field_Inv.Q : RK := .p (.int .u64) (.p (.int .i64) .nil)
def word_Field_Inv.h : (Int × Int) → word_Field_Inv.Q.T × List Int := fun b => ((b.1, b.2, ()), [])
noncomputable def word_Field_Inv.D : Decl (Int × Int) := ⟨(Go.Proofs.Tryd.f30.body).getD .skip, 48, [.tmp 4, .tmp 5], word_Field_Inv.A, word_Field_Inv.Q, fun y m => (y.1, y.2.1), T0, [], [(8, [(0, .p (some (.fp 81 (.cons (.int .u64) (.cons (.int .u64) (.cons (.int .u64) .nil)))))), (6, .p (some (.int .u64))), (7, .p (some (.int .u64))), (8, .p (some (.int .u64))), (9, .p (some (.int .u64)))])], []⟩
noncomputable def word_Field_Inv.S (k : Nat) : List (Nat × E.Spec (Int × Int)) := [(29, told _ word_Field_Mul.A word_Field_Mul.Q (word_Field_Mul.g k) word_Field_Mul.h), (48, told _ word_Field_Sub.A word_Field_Sub.Q (word_Field_Sub.g k) word_Field_Sub.h)]
noncomputable def word_Field_Inv.l8 (k : Nat) (x0_0 : Int) (x0_1 : Int) (x0_2 : Int) (x6 : Int) (x7 : Int) (x8 : Int) (x9 : Int) : Option (Int × Int) := word_Field_Inv.D.F word_Field_Inv.S k 17 [.p (.fp 81 [.lit (.int .u64 x0_0), .lit (.int .u64 x0_1), .lit (.int .u64 x0_2)]), .p (.lit (.int .u64 x6)), .p (.lit (.int .u64 x7)), .p (.lit (.int .u64 x8)), .p (.lit (.int .u64 x9))]
noncomputable def word_Field_Inv.f0 (k : Nat) (a0_0 : Int) (a0_1 : Int) (a0_2 : Int) (a1 : Int) : Option (Int × Int) := word_Field_Inv.D.val word_Field_Inv.S k ((a0_0, a0_1, a0_2, ()), a1, ())
noncomputable def word_Field_Inv.f := (still word_Field_Inv.f0).1
theorem word_Field_Inv.f_def : word_Field_Inv.f = word_Field_Inv.f0 := (still word_Field_Inv.f0).2
noncomputable def word_Field_Inv.g (k : Nat) (x : word_Field_Inv.A.T) : Option (Int × Int) := word_Field_Inv.f k (x.1.1) (x.1.2.1) (x.1.2.2.1) (x.2.1)
theorem word_Field_Inv.does (k : Nat) : Does PG 30 word_Field_Inv.A word_Field_Inv.Q (word_Field_Inv.g k) word_Field_Inv.h := (show word_Field_Inv.g k = word_Field_Inv.D.val word_Field_Inv.S k from funext fun _ => by unfold word_Field_Inv.g; rw [word_Field_Inv.f_def]; rfl) ▸ Decl.does (D := word_Field_Inv.D) (S := word_Field_Inv.S) (fn := Go.Proofs.Tryd.f30) ⟨by kernel_rfl, by kernel_rfl, by kernel_rfl, by kernel_rfl, by kernel_rfl, by kernel_rfl, TT.of_ok _ T0ex, by kernel_rfl⟩ (fun k => ⟨told_ok (word_Field_Mul.does k), ⟨told_ok (word_Field_Sub.does k), trivial⟩⟩) (fun _ _ h => by rw [h rfl]; rfl) k
/-! tft_New: function 14 -/
def tft_New.A : AK := .p (.int .u64) (.p (.int .i64) .nil)
def tft_New.Q : RK := .p (.np 65 (.cons (.fp 81 (.cons (.int .u64) (.cons (.int .u64) (.cons (.int .u64) .nil)))) (.cons (.int .i64) (.cons (.row .u64) (.cons (.int .u64) .nil))))) (.p (.int .i64) .nil)
def tft_New.h : ((Option ((Int × Int × Int × Unit) × Int × List Int × Int × Unit)) × Int) → tft_New.Q.T × List Int := fun b => ((b.1, b.2, ()), [])
noncomputable def tft_New.D : Decl ((Option ((Int × Int × Int × Unit) × Int × List Int × Int × Unit)) × Int) := ⟨(Go.Proofs.Tryd.f14.body).getD .skip, 65, [.tmp 4, .tmp 5], tft_New.A, tft_New.Q, fun y m => (y.1, y.2.1), T0, [], [(11, [(1, .p (some (.int .i64))), (6, .p (some (.int .u64))), (7, .p (some (.int .i64))), (8, .p (some (.fp 81 (.cons (.int .u64) (.cons (.int .u64) (.cons (.int .u64) .nil)))))), (9, .p (some (.pt 7 0))), (10, .p (some (.int .i64))), (34, .m (.num .u64) 27), (36, .b (some (.cons (.fp 81 (.cons (.int .u64) (.cons (.int .u64) (.cons (.int .u64) .nil)))) (.cons (.int .i64) (.cons (.sl 6) (.cons (.int .u64) .nil))))))])], []⟩
noncomputable def tft_New.S (k : Nat) : List (Nat × E.Spec ((Option ((Int × Int × Int × Unit) × Int × List Int × Int × Unit)) × Int)) := [(27, told _ prime_Root.A prime_Root.Q (prime_Root.g k) prime_Root.h), (28, told _ word_New.A word_New.Q (word_New.g k) word_New.h), (29, told _ word_Field_Mul.A word_Field_Mul.Q (word_Field_Mul.g k) word_Field_Mul.h), (30, told _ word_Field_Inv.A word_Field_Inv.Q (word_Field_Inv.g k) word_Field_Inv.h)]
noncomputable def tft_New.l11 (k : Nat) (x1 : Int) (x6 : Int) (x7 : Int) (x8_0 : Int) (x8_1 : Int) (x8_2 : Int) (x10 : Int) (x34 : List Int) (x36_0 : Int) (x36_1 : Int) (x36_2 : Int) (x36_3 : Int) (x36_4 : Int) : Option ((Option ((Int × Int × Int × Unit) × Int × List Int × Int × Unit)) × Int) := tft_New.D.F tft_New.S k 23 [.p (.lit (.int .i64 x1)), .p (.lit (.int .u64 x6)), .p (.lit (.int .i64 x7)), .p (.fp 81 [.lit (.int .u64 x8_0), .lit (.int .u64 x8_1), .lit (.int .u64 x8_2)]), .p (.ptr 7 0), .p (.lit (.int .i64 x10)), .m x34, .b 65 [.fp 81 [.lit (.int .u64 x36_0), .lit (.int .u64 x36_1), .lit (.int .u64 x36_2)], .lit (.int .i64 x36_3), .sli 6, .lit (.int .u64 x36_4)]]
noncomputable def tft_New.f0 (k : Nat) (a0 : Int) (a1 : Int) : Option ((Option ((Int × Int × Int × Unit) × Int × List Int × Int × Unit)) × Int) := tft_New.D.val tft_New.S k (a0, a1, ())
noncomputable def tft_New.f := (still tft_New.f0).1
theorem tft_New.f_def : tft_New.f = tft_New.f0 := (still tft_New.f0).2
noncomputable def tft_New.g (k : Nat) (x : tft_New.A.T) : Option ((Option ((Int × Int × Int × Unit) × Int × List Int × Int × Unit)) × Int) := tft_New.f k (x.1) (x.2.1)
theorem tft_New.does (k : Nat) : Does PG 14 tft_New.A tft_New.Q (tft_New.g k) tft_New.h := (show tft_New.g k = tft_New.D.val tft_New.S k from funext fun _ => by unfold tft_New.g; rw [tft_New.f_def]; rfl) ▸ Decl.does (D := tft_New.D) (S := tft_New.S) (fn := Go.Proofs.Tryd.f14) ⟨by kernel_rfl, by kernel_rfl, by kernel_rfl, by kernel_rfl, by kernel_rfl, by kernel_rfl, TT.of_ok _ T0ex, by kernel_rfl⟩ (fun k => ⟨told_ok (prime_Root.does k), ⟨told_ok (word_New.does k), ⟨told_ok (word_Field_Mul.does k), ⟨told_ok (word_Field_Inv.does k), trivial⟩⟩⟩⟩) (fun _ _ h => by rw [h rfl]; rfl) k
/-! tft_Plan_Point: function 16 -/
def tft_Plan_Point.A : AK := .p (.np 65 (.cons (.fp 81 (.cons (.int .u64) (.cons (.int .u64) (.cons (.int .u64) .nil)))) (.cons (.int .i64) (.cons (.row .u64) (.cons (.int .u64) .nil))))) (.p (.int .i64) .nil)
def tft_Plan_Point.Q : RK := .p (.int .u64) (.p (.int .i64) .nil)
def tft_Plan_Point.h : (Int × Int) → tft_Plan_Point.Q.T × List Int := fun b => ((b.1, b.2, ()), [])
noncomputable def tft_Plan_Point.D : Decl (Int × Int) := ⟨(Go.Proofs.Tryd.f16.body).getD .skip, 39, [.tmp 4, .tmp 5], tft_Plan_Point.A, tft_Plan_Point.Q, fun y m => (y.1, y.2.1), T0, [], [], []⟩
noncomputable def tft_Plan_Point.S (k : Nat) : List (Nat × E.Spec (Int × Int)) := [(11, told _ tft_Turned.A tft_Turned.Q (tft_Turned.g k) tft_Turned.h), (34, told _ word_Field_Pow.A word_Field_Pow.Q (word_Field_Pow.g k) word_Field_Pow.h)]
noncomputable def tft_Plan_Point.f0 (k : Nat) (a0 : Option ((Int × Int × Int × Unit) × Int × List Int × Int × Unit)) (a1 : Int) : Option (Int × Int) := tft_Plan_Point.D.val tft_Plan_Point.S k (a0, a1, ())
noncomputable def tft_Plan_Point.f := (still tft_Plan_Point.f0).1
theorem tft_Plan_Point.f_def : tft_Plan_Point.f = tft_Plan_Point.f0 := (still tft_Plan_Point.f0).2
noncomputable def tft_Plan_Point.g (k : Nat) (x : tft_Plan_Point.A.T) : Option (Int × Int) := tft_Plan_Point.f k (x.1) (x.2.1)
theorem tft_Plan_Point.does (k : Nat) : Does PG 16 tft_Plan_Point.A tft_Plan_Point.Q (tft_Plan_Point.g k) tft_Plan_Point.h := (show tft_Plan_Point.g k = tft_Plan_Point.D.val tft_Plan_Point.S k from funext fun _ => by unfold tft_Plan_Point.g; rw [tft_Plan_Point.f_def]; rfl) ▸ Decl.does (D := tft_Plan_Point.D) (S := tft_Plan_Point.S) (fn := Go.Proofs.Tryd.f16) ⟨by kernel_rfl, by kernel_rfl, by kernel_rfl, by kernel_rfl, by kernel_rfl, by kernel_rfl, TT.of_ok _ T0ex, by kernel_rfl⟩ (fun k => ⟨told_ok (tft_Turned.does k), ⟨told_ok (word_Field_Pow.does k), trivial⟩⟩) (fun _ _ h => by rw [h rfl]; rfl) k
/-! tft_Plan_Most: function 17 -/
def tft_Plan_Most.A : AK := .p (.np 65 (.cons (.fp 81 (.cons (.int .u64) (.cons (.int .u64) (.cons (.int .u64) .nil)))) (.cons (.int .i64) (.cons (.row .u64) (.cons (.int .u64) .nil))))) .nil
def tft_Plan_Most.Q : RK := .p (.int .i64) .nil
def tft_Plan_Most.h : Int → tft_Plan_Most.Q.T × List Int := fun b => ((b, ()), [])
noncomputable def tft_Plan_Most.D : Decl Int := ⟨(Go.Proofs.Tryd.f17.body).getD .skip, 11, [.tmp 2], tft_Plan_Most.A, tft_Plan_Most.Q, fun y m => y.1, T0, [], [], []⟩
noncomputable def tft_Plan_Most.S (k : Nat) : List (Nat × E.Spec Int) := []
noncomputable def tft_Plan_Most.f0 (k : Nat) (a0 : Option ((Int × Int × Int × Unit) × Int × List Int × Int × Unit)) : Option Int := tft_Plan_Most.D.val tft_Plan_Most.S k (a0, ())
noncomputable def tft_Plan_Most.f := (still tft_Plan_Most.f0).1
theorem tft_Plan_Most.f_def : tft_Plan_Most.f = tft_Plan_Most.f0 := (still tft_Plan_Most.f0).2
noncomputable def tft_Plan_Most.g (k : Nat) (x : tft_Plan_Most.A.T) : Option Int := tft_Plan_Most.f k (x.1)
theorem tft_Plan_Most.does (k : Nat) : Does PG 17 tft_Plan_Most.A tft_Plan_Most.Q (tft_Plan_Most.g k) tft_Plan_Most.h := (show tft_Plan_Most.g k = tft_Plan_Most.D.val tft_Plan_Most.S k from funext fun _ => by unfold tft_Plan_Most.g; rw [tft_Plan_Most.f_def]; rfl) ▸ Decl.does (D := tft_Plan_Most.D) (S := tft_Plan_Most.S) (fn := Go.Proofs.Tryd.f17) ⟨by kernel_rfl, by kernel_rfl, by kernel_rfl, by kernel_rfl, by kernel_rfl, by kernel_rfl, TT.of_ok _ T0ex, by kernel_rfl⟩ (fun k => trivial) (fun _ _ h => by rw [h rfl]; rfl) k
/-! word_Field_Add: function 52 -/
def word_Field_Add.A : AK := .p (.fp 81 (.cons (.int .u64) (.cons (.int .u64) (.cons (.int .u64) .nil)))) (.p (.int .u64) (.p (.int .u64) .nil))
def word_Field_Add.Q : RK := .p (.int .u64) .nil
def word_Field_Add.h : Int → word_Field_Add.Q.T × List Int := fun b => ((b, ()), [])
noncomputable def word_Field_Add.D : Decl Int := ⟨(Go.Proofs.Tryd.f52.body).getD .skip, 36, [.tmp 6], word_Field_Add.A, word_Field_Add.Q, fun y m => y.1, T0, [], [], []⟩
noncomputable def word_Field_Add.S (k : Nat) : List (Nat × E.Spec Int) := []
noncomputable def word_Field_Add.f0 (k : Nat) (a0_0 : Int) (a0_1 : Int) (a0_2 : Int) (a1 : Int) (a2 : Int) : Option Int := word_Field_Add.D.val word_Field_Add.S k ((a0_0, a0_1, a0_2, ()), a1, a2, ())
noncomputable def word_Field_Add.f := (still word_Field_Add.f0).1
theorem word_Field_Add.f_def : word_Field_Add.f = word_Field_Add.f0 := (still word_Field_Add.f0).2
noncomputable def word_Field_Add.g (k : Nat) (x : word_Field_Add.A.T) : Option Int := word_Field_Add.f k (x.1.1) (x.1.2.1) (x.1.2.2.1) (x.2.1) (x.2.2.1)
theorem word_Field_Add.does (k : Nat) : Does PG 52 word_Field_Add.A word_Field_Add.Q (word_Field_Add.g k) word_Field_Add.h := (show word_Field_Add.g k = word_Field_Add.D.val word_Field_Add.S k from funext fun _ => by unfold word_Field_Add.g; rw [word_Field_Add.f_def]; rfl) ▸ Decl.does (D := word_Field_Add.D) (S := word_Field_Add.S) (fn := Go.Proofs.Tryd.f52) ⟨by kernel_rfl, by kernel_rfl, by kernel_rfl, by kernel_rfl, by kernel_rfl, by kernel_rfl, TT.of_ok _ T0ex, by kernel_rfl⟩ (fun k => trivial) (fun _ _ h => by rw [h rfl]; rfl) k
/-! tft_Plan_of: function 38 -/
def tft_Plan_of.A : AK := .p (.np 65 (.cons (.fp 81 (.cons (.int .u64) (.cons (.int .u64) (.cons (.int .u64) .nil)))) (.cons (.int .i64) (.cons (.row .u64) (.cons (.int .u64) .nil))))) (.p (.int .i64) (.p (.int .u64) .nil))
def tft_Plan_of.Q : RK := .p (.agg (.cons (.int .i64) (.cons (.int .u64) (.cons (.int .u64) .nil)))) .nil
def tft_Plan_of.h : (Int × Int × Int) → tft_Plan_of.Q.T × List Int := fun b => (((b.1, b.2.1, b.2.2, ()), ()), [])
noncomputable def tft_Plan_of.D : Decl (Int × Int × Int) := ⟨(Go.Proofs.Tryd.f38.body).getD .skip, 25, [.cell 6 74], tft_Plan_of.A, tft_Plan_of.Q, fun y m => (y.1.1, y.1.2.1, y.1.2.2.1), T0, [], [(3, [(0, .p (some (.fp 65 (.cons (.fp 81 (.cons (.int .u64) (.cons (.int .u64) (.cons (.int .u64) .nil)))) (.cons (.int .i64) (.cons (.row .u64) (.cons (.int .u64) .nil))))))), (1, .p (some (.int .i64))), (2, .p (some (.int .u64))), (6, .b (some (.cons (.int .i64) (.cons (.int .u64) (.cons (.int .u64) .nil))))), (7, .p (some (.int .u64))), (10, .p (some (.int .i64))), (11, .p (some (.int .i64)))])], []⟩
noncomputable def tft_Plan_of.S (k : Nat) : List (Nat × E.Spec (Int × Int × Int)) := [(29, told _ word_Field_Mul.A word_Field_Mul.Q (word_Field_Mul.g k) word_Field_Mul.h)]
noncomputable def tft_Plan_of.l3 (k : Nat) (x0_0 : Int) (x0_1 : Int) (x0_2 : Int) (x0_3 : Int) (x0_4 : List Int) (x0_5 : Int) (x1 : Int) (x2 : Int) (x6_0 : Int) (x6_1 : Int) (x6_2 : Int) (x7 : Int) (x10 : Int) (x11 : Int) : Option (Int × Int × Int) := tft_Plan_of.D.F tft_Plan_of.S k 7 [.p (.fp 65 [.fp 81 [.lit (.int .u64 x0_0), .lit (.int .u64 x0_1), .lit (.int .u64 x0_2)], .lit (.int .i64 x0_3), .row .u64 x0_4, .lit (.int .u64 x0_5)]), .p (.lit (.int .i64 x1)), .p (.lit (.int .u64 x2)), .b 74 [.lit (.int .i64 x6_0), .lit (.int .u64 x6_1), .lit (.int .u64 x6_2)], .p (.lit (.int .u64 x7)), .p (.lit (.int .i64 x10)), .p (.lit (.int .i64 x11))]
noncomputable def tft_Plan_of.f0 (k : Nat) (a0 : Option ((Int × Int × Int × Unit) × Int × List Int × Int × Unit)) (a1 : Int) (a2 : Int) : Option (Int × Int × Int) := tft_Plan_of.D.val tft_Plan_of.S k (a0, a1, a2, ())
noncomputable def tft_Plan_of.f := (still tft_Plan_of.f0).1
theorem tft_Plan_of.f_def : tft_Plan_of.f = tft_Plan_of.f0 := (still tft_Plan_of.f0).2
noncomputable def tft_Plan_of.g (k : Nat) (x : tft_Plan_of.A.T) : Option (Int × Int × Int) := tft_Plan_of.f k (x.1) (x.2.1) (x.2.2.1)
theorem tft_Plan_of.does (k : Nat) : Does PG 38 tft_Plan_of.A tft_Plan_of.Q (tft_Plan_of.g k) tft_Plan_of.h := (show tft_Plan_of.g k = tft_Plan_of.D.val tft_Plan_of.S k from funext fun _ => by unfold tft_Plan_of.g; rw [tft_Plan_of.f_def]; rfl) ▸ Decl.does (D := tft_Plan_of.D) (S := tft_Plan_of.S) (fn := Go.Proofs.Tryd.f38) ⟨by kernel_rfl, by kernel_rfl, by kernel_rfl, by kernel_rfl, by kernel_rfl, by kernel_rfl, TT.of_ok _ T0ex, by kernel_rfl⟩ (fun k => ⟨told_ok (word_Field_Mul.does k), trivial⟩) (fun _ _ h => by rw [h rfl]; rfl) k
/-! tft_Plan_first: function 53 -/
def tft_Plan_first.A : AK := .p (.np 65 (.cons (.fp 81 (.cons (.int .u64) (.cons (.int .u64) (.cons (.int .u64) .nil)))) (.cons (.int .i64) (.cons (.row .u64) (.cons (.int .u64) .nil))))) (.p (.agg (.cons (.int .i64) (.cons (.int .u64) (.cons (.int .u64) .nil)))) .nil)
def tft_Plan_first.Q : RK := .p (.agg (.cons (.int .i64) (.cons (.int .u64) (.cons (.int .u64) .nil)))) .nil
def tft_Plan_first.h : (Int × Int × Int) → tft_Plan_first.Q.T × List Int := fun b => (((b.1, b.2.1, b.2.2, ()), ()), [])
noncomputable def tft_Plan_first.D : Decl (Int × Int × Int) := ⟨(Go.Proofs.Tryd.f53.body).getD .skip, 12, [.cell 4 74], tft_Plan_first.A, tft_Plan_first.Q, fun y m => (y.1.1, y.1.2.1, y.1.2.2.1), T0, [], [], []⟩
noncomputable def tft_Plan_first.S (k : Nat) : List (Nat × E.Spec (Int × Int × Int)) := [(38, told _ tft_Plan_of.A tft_Plan_of.Q (tft_Plan_of.g k) tft_Plan_of.h)]
noncomputable def tft_Plan_first.f0 (k : Nat) (a0 : Option ((Int × Int × Int × Unit) × Int × List Int × Int × Unit)) (a1_0 : Int) (a1_1 : Int) (a1_2 : Int) : Option (Int × Int × Int) := tft_Plan_first.D.val tft_Plan_first.S k (a0, (a1_0, a1_1, a1_2, ()), ())
noncomputable def tft_Plan_first.f := (still tft_Plan_first.f0).1
theorem tft_Plan_first.f_def : tft_Plan_first.f = tft_Plan_first.f0 := (still tft_Plan_first.f0).2
noncomputable def tft_Plan_first.g (k : Nat) (x : tft_Plan_first.A.T) : Option (Int × Int × Int) := tft_Plan_first.f k (x.1) (x.2.1.1) (x.2.1.2.1) (x.2.1.2.2.1)
theorem tft_Plan_first.does (k : Nat) : Does PG 53 tft_Plan_first.A tft_Plan_first.Q (tft_Plan_first.g k) tft_Plan_first.h := (show tft_Plan_first.g k = tft_Plan_first.D.val tft_Plan_first.S k from funext fun _ => by unfold tft_Plan_first.g; rw [tft_Plan_first.f_def]; rfl) ▸ Decl.does (D := tft_Plan_first.D) (S := tft_Plan_first.S) (fn := Go.Proofs.Tryd.f53) ⟨by kernel_rfl, by kernel_rfl, by kernel_rfl, by kernel_rfl, by kernel_rfl, by kernel_rfl, TT.of_ok _ T0ex, by kernel_rfl⟩ (fun k => ⟨told_ok (tft_Plan_of.does k), trivial⟩) (fun _ _ h => by rw [h rfl]; rfl) k
/-! tft_Plan_second: function 54 -/
def tft_Plan_second.A : AK := .p (.np 65 (.cons (.fp 81 (.cons (.int .u64) (.cons (.int .u64) (.cons (.int .u64) .nil)))) (.cons (.int .i64) (.cons (.row .u64) (.cons (.int .u64) .nil))))) (.p (.agg (.cons (.int .i64) (.cons (.int .u64) (.cons (.int .u64) .nil)))) .nil)
def tft_Plan_second.Q : RK := .p (.agg (.cons (.int .i64) (.cons (.int .u64) (.cons (.int .u64) .nil)))) .nil
def tft_Plan_second.h : (Int × Int × Int) → tft_Plan_second.Q.T × List Int := fun b => (((b.1, b.2.1, b.2.2, ()), ()), [])
noncomputable def tft_Plan_second.D : Decl (Int × Int × Int) := ⟨(Go.Proofs.Tryd.f54.body).getD .skip, 25, [.cell 4 74], tft_Plan_second.A, tft_Plan_second.Q, fun y m => (y.1.1, y.1.2.1, y.1.2.2.1), T0, [], [], []⟩
noncomputable def tft_Plan_second.S (k : Nat) : List (Nat × E.Spec (Int × Int × Int)) := [(29, told _ word_Field_Mul.A word_Field_Mul.Q (word_Field_Mul.g k) word_Field_Mul.h), (38, told _ tft_Plan_of.A tft_Plan_of.Q (tft_Plan_of.g k) tft_Plan_of.h)]
noncomputable def tft_Plan_second.f0 (k : Nat) (a0 : Option ((Int × Int × Int × Unit) × Int × List Int × Int × Unit)) (a1_0 : Int) (a1_1 : Int) (a1_2 : Int) : Option (Int × Int × Int) := tft_Plan_second.D.val tft_Plan_second.S k (a0, (a1_0, a1_1, a1_2, ()), ())
noncomputable def tft_Plan_second.f := (still tft_Plan_second.f0).1
theorem tft_Plan_second.f_def : tft_Plan_second.f = tft_Plan_second.f0 := (still tft_Plan_second.f0).2
noncomputable def tft_Plan_second.g (k : Nat) (x : tft_Plan_second.A.T) : Option (Int × Int × Int) := tft_Plan_second.f k (x.1) (x.2.1.1) (x.2.1.2.1) (x.2.1.2.2.1)
theorem tft_Plan_second.does (k : Nat) : Does PG 54 tft_Plan_second.A tft_Plan_second.Q (tft_Plan_second.g k) tft_Plan_second.h := (show tft_Plan_second.g k = tft_Plan_second.D.val tft_Plan_second.S k from funext fun _ => by unfold tft_Plan_second.g; rw [tft_Plan_second.f_def]; rfl) ▸ Decl.does (D := tft_Plan_second.D) (S := tft_Plan_second.S) (fn := Go.Proofs.Tryd.f54) ⟨by kernel_rfl, by kernel_rfl, by kernel_rfl, by kernel_rfl, by kernel_rfl, by kernel_rfl, TT.of_ok _ T0ex, by kernel_rfl⟩ (fun k => ⟨told_ok (word_Field_Mul.does k), ⟨told_ok (tft_Plan_of.does k), trivial⟩⟩) (fun _ _ h => by rw [h rfl]; rfl) k
/-! tft_Plan_values: function 36 -/
def tft_Plan_values.A : AK := .p (.np 65 (.cons (.fp 81 (.cons (.int .u64) (.cons (.int .u64) (.cons (.int .u64) .nil)))) (.cons (.int .i64) (.cons (.row .u64) (.cons (.int .u64) .nil))))) (.p (.row .u64) (.p (.agg (.cons (.int .i64) (.cons (.int .u64) (.cons (.int .u64) .nil)))) (.p (.int .i64) .nil)))
def tft_Plan_values.Q : RK := .o (.num .u64) 27 .nil
def tft_Plan_values.h : List Int → tft_Plan_values.Q.T × List Int := fun b => (((b), ()), [])
noncomputable def tft_Plan_values.D : Decl (List Int) := ⟨(Go.Proofs.Tryd.f36.body).getD .skip, 101, [.tmp 8], tft_Plan_values.A, tft_Plan_values.Q, fun y m => y.1, T0, [], [(8, [(0, .p (some (.fp 65 (.cons (.fp 81 (.cons (.int .u64) (.cons (.int .u64) (.cons (.int .u64) .nil)))) (.cons (.int .i64) (.cons (.row .u64) (.cons (.int .u64) .nil))))))), (1, .p (some (.row .u64))), (3, .p (some (.int .i64))), (6, .b (some (.cons (.int .i64) (.cons (.int .u64) (.cons (.int .u64) .nil))))), (9, .p (some (.int .i64))), (10, .m (.num .u64) 27), (11, .m (.num .u64) 27), (33, .p (some (.int .i64))), (34, .p (some (.int .i64)))])], [(13, [10]), (15, [11])]⟩
def tft_Plan_values.rg (R : (Option ((Int × Int × Int × Unit) × Int × List Int × Int × Unit)) → (List Int) → Int → Int → Int → Int → Option (List Int)) (x : tft_Plan_values.A.T) : Option (List Int) := R (x.1) (x.2.1) (x.2.2.1.1) (x.2.2.1.2.1) (x.2.2.1.2.2.1) (x.2.2.2.1)
noncomputable def tft_Plan_values.S (R : (Option ((Int × Int × Int × Unit) × Int × List Int × Int × Unit)) → (List Int) → Int → Int → Int → Int → Option (List Int)) (k : Nat) : List (Nat × E.Spec (List Int)) := [(29, told _ word_Field_Mul.A word_Field_Mul.Q (word_Field_Mul.g k) word_Field_Mul.h), (36, told _ tft_Plan_values.A tft_Plan_values.Q (tft_Plan_values.rg R) tft_Plan_values.h), (48, told _ word_Field_Sub.A word_Field_Sub.Q (word_Field_Sub.g k) word_Field_Sub.h), (52, told _ word_Field_Add.A word_Field_Add.Q (word_Field_Add.g k) word_Field_Add.h), (53, told _ tft_Plan_first.A tft_Plan_first.Q (tft_Plan_first.g k) tft_Plan_first.h), (54, told _ tft_Plan_second.A tft_Plan_second.Q (tft_Plan_second.g k) tft_Plan_second.h)]
noncomputable def tft_Plan_values.l8 (R : (Option ((Int × Int × Int × Unit) × Int × List Int × Int × Unit)) → (List Int) → Int → Int → Int → Int → Option (List Int)) (k : Nat) (x0_0 : Int) (x0_1 : Int) (x0_2 : Int) (x0_3 : Int) (x0_4 : List Int) (x0_5 : Int) (x1 : List Int) (x3 : Int) (x6_0 : Int) (x6_1 : Int) (x6_2 : Int) (x9 : Int) (x10 : List Int) (x11 : List Int) (x33 : Int) (x34 : Int) : Option (List Int) := tft_Plan_values.D.F (tft_Plan_values.S R) k 17 [.p (.fp 65 [.fp 81 [.lit (.int .u64 x0_0), .lit (.int .u64 x0_1), .lit (.int .u64 x0_2)], .lit (.int .i64 x0_3), .row .u64 x0_4, .lit (.int .u64 x0_5)]), .p (.row .u64 x1), .p (.lit (.int .i64 x3)), .b 74 [.lit (.int .i64 x6_0), .lit (.int .u64 x6_1), .lit (.int .u64 x6_2)], .p (.lit (.int .i64 x9)), .m x10, .m x11, .p (.lit (.int .i64 x33)), .p (.lit (.int .i64 x34))]
noncomputable def tft_Plan_values.v (R : (Option ((Int × Int × Int × Unit) × Int × List Int × Int × Unit)) → (List Int) → Int → Int → Int → Int → Option (List Int)) (k : Nat) (a0 : Option ((Int × Int × Int × Unit) × Int × List Int × Int × Unit)) (a1 : List Int) (a2_0 : Int) (a2_1 : Int) (a2_2 : Int) (a3 : Int) : Option (List Int) := tft_Plan_values.D.val (tft_Plan_values.S R) k (a0, a1, (a2_0, a2_1, a2_2, ()), a3, ())
noncomputable def tft_Plan_values.rc : Nat → (Option ((Int × Int × Int × Unit) × Int × List Int × Int × Unit)) → (List Int) → Int → Int → Int → Int → Option (List Int)
  | 0 => fun _ _ _ _ _ _ => none
  | q + 1 => fun a0 a1 a2_0 a2_1 a2_2 a3 => tft_Plan_values.v (tft_Plan_values.rc q) q a0 a1 a2_0 a2_1 a2_2 a3
theorem tft_Plan_values.rdoes : ∀ q : Nat, Does PG 36 tft_Plan_values.A tft_Plan_values.Q (tft_Plan_values.rg (tft_Plan_values.rc q)) tft_Plan_values.h
  | 0 => fun _ _ h => by cases h
  | q + 1 => by
    have hR := tft_Plan_values.rdoes q
    generalize hr : tft_Plan_values.rc q = R at hR
    have e : tft_Plan_values.rg (tft_Plan_values.rc (q + 1)) = tft_Plan_values.D.val (tft_Plan_values.S R) q := by rw [← hr]; rfl
    rw [e]
    exact Decl.does (D := tft_Plan_values.D) (S := tft_Plan_values.S R) (fn := Go.Proofs.Tryd.f36) ⟨by kernel_rfl, by kernel_rfl, by kernel_rfl, by kernel_rfl, by kernel_rfl, by kernel_rfl, TT.of_ok _ T0ex, by kernel_rfl⟩ (fun k => ⟨told_ok (word_Field_Mul.does k), ⟨told_ok hR, ⟨told_ok (word_Field_Sub.does k), ⟨told_ok (word_Field_Add.does k), ⟨told_ok (tft_Plan_first.does k), ⟨told_ok (tft_Plan_second.does k), trivial⟩⟩⟩⟩⟩⟩) (fun _ _ h => by rw [h rfl]; rfl) q
noncomputable def tft_Plan_values.f0 (k : Nat) (a0 : Option ((Int × Int × Int × Unit) × Int × List Int × Int × Unit)) (a1 : List Int) (a2_0 : Int) (a2_1 : Int) (a2_2 : Int) (a3 : Int) : Option (List Int) := tft_Plan_values.rc k a0 a1 a2_0 a2_1 a2_2 a3
noncomputable def tft_Plan_values.f := (still tft_Plan_values.f0).1
theorem tft_Plan_values.f_def : tft_Plan_values.f = tft_Plan_values.f0 := (still tft_Plan_values.f0).2
noncomputable def tft_Plan_values.g (k : Nat) (x : tft_Plan_values.A.T) : Option (List Int) := tft_Plan_values.f k (x.1) (x.2.1) (x.2.2.1.1) (x.2.2.1.2.1) (x.2.2.1.2.2.1) (x.2.2.2.1)
theorem tft_Plan_values.f_rc (k : Nat) : tft_Plan_values.f k = tft_Plan_values.rc k := by rw [tft_Plan_values.f_def]; rfl
theorem tft_Plan_values.f_succ (k : Nat) (a0 : Option ((Int × Int × Int × Unit) × Int × List Int × Int × Unit)) (a1 : List Int) (a2_0 : Int) (a2_1 : Int) (a2_2 : Int) (a3 : Int) : tft_Plan_values.f (k + 1) a0 a1 a2_0 a2_1 a2_2 a3 = tft_Plan_values.v (tft_Plan_values.f k) k a0 a1 a2_0 a2_1 a2_2 a3 := by rw [tft_Plan_values.f_rc, tft_Plan_values.f_rc]; rfl
theorem tft_Plan_values.does (k : Nat) : Does PG 36 tft_Plan_values.A tft_Plan_values.Q (tft_Plan_values.g k) tft_Plan_values.h := (show tft_Plan_values.g k = tft_Plan_values.rg (tft_Plan_values.rc k) from funext fun _ => by unfold tft_Plan_values.g; rw [tft_Plan_values.f_rc]; rfl) ▸ tft_Plan_values.rdoes k
/-! tft_Plan_padded: function 37 -/
def tft_Plan_padded.A : AK := .p (.np 65 (.cons (.fp 81 (.cons (.int .u64) (.cons (.int .u64) (.cons (.int .u64) .nil)))) (.cons (.int .i64) (.cons (.row .u64) (.cons (.int .u64) .nil))))) (.p (.row .u64) .nil)
def tft_Plan_padded.Q : RK := .p (.row .u64) .nil
def tft_Plan_padded.h : List Int → tft_Plan_padded.Q.T × List Int := fun b => ((b, ()), [])
noncomputable def tft_Plan_padded.D : Decl (List Int) := ⟨(Go.Proofs.Tryd.f37.body).getD .skip, 29, [.tmp 4], tft_Plan_padded.A, tft_Plan_padded.Q, fun y m => y.1, T0, [], [(3, [(0, .p (some (.fp 65 (.cons (.fp 81 (.cons (.int .u64) (.cons (.int .u64) (.cons (.int .u64) .nil)))) (.cons (.int .i64) (.cons (.row .u64) (.cons (.int .u64) .nil))))))), (5, .m (.num .u64) 27), (11, .p (some (.row .u64))), (12, .p (some (.int .i64))), (13, .p (some (.int .i64)))])], []⟩
noncomputable def tft_Plan_padded.S (k : Nat) : List (Nat × E.Spec (List Int)) := [(17, told _ tft_Plan_Most.A tft_Plan_Most.Q (tft_Plan_Most.g k) tft_Plan_Most.h), (51, told _ word_Field_Of.A word_Field_Of.Q (word_Field_Of.g k) word_Field_Of.h)]
noncomputable def tft_Plan_padded.l3 (k : Nat) (x0_0 : Int) (x0_1 : Int) (x0_2 : Int) (x0_3 : Int) (x0_4 : List Int) (x0_5 : Int) (x5 : List Int) (x11 : List Int) (x12 : Int) (x13 : Int) : Option (List Int) := tft_Plan_padded.D.F tft_Plan_padded.S k 7 [.p (.fp 65 [.fp 81 [.lit (.int .u64 x0_0), .lit (.int .u64 x0_1), .lit (.int .u64 x0_2)], .lit (.int .i64 x0_3), .row .u64 x0_4, .lit (.int .u64 x0_5)]), .m x5, .p (.row .u64 x11), .p (.lit (.int .i64 x12)), .p (.lit (.int .i64 x13))]
noncomputable def tft_Plan_padded.f0 (k : Nat) (a0 : Option ((Int × Int × Int × Unit) × Int × List Int × Int × Unit)) (a1 : List Int) : Option (List Int) := tft_Plan_padded.D.val tft_Plan_padded.S k (a0, a1, ())
noncomputable def tft_Plan_padded.f := (still tft_Plan_padded.f0).1
theorem tft_Plan_padded.f_def : tft_Plan_padded.f = tft_Plan_padded.f0 := (still tft_Plan_padded.f0).2
noncomputable def tft_Plan_padded.g (k : Nat) (x : tft_Plan_padded.A.T) : Option (List Int) := tft_Plan_padded.f k (x.1) (x.2.1)
theorem tft_Plan_padded.does (k : Nat) : Does PG 37 tft_Plan_padded.A tft_Plan_padded.Q (tft_Plan_padded.g k) tft_Plan_padded.h := (show tft_Plan_padded.g k = tft_Plan_padded.D.val tft_Plan_padded.S k from funext fun _ => by unfold tft_Plan_padded.g; rw [tft_Plan_padded.f_def]; rfl) ▸ Decl.does (D := tft_Plan_padded.D) (S := tft_Plan_padded.S) (fn := Go.Proofs.Tryd.f37) ⟨by kernel_rfl, by kernel_rfl, by kernel_rfl, by kernel_rfl, by kernel_rfl, by kernel_rfl, TT.of_ok _ T0ex, by kernel_rfl⟩ (fun k => ⟨told_ok (tft_Plan_Most.does k), ⟨told_ok (word_Field_Of.does k), trivial⟩⟩) (fun _ _ h => by rw [h rfl]; rfl) k
/-! tft_Plan_Go: function 19 -/
def tft_Plan_Go.A : AK := .p (.np 65 (.cons (.fp 81 (.cons (.int .u64) (.cons (.int .u64) (.cons (.int .u64) .nil)))) (.cons (.int .i64) (.cons (.row .u64) (.cons (.int .u64) .nil))))) (.p (.row .u64) (.p (.int .i64) .nil))
def tft_Plan_Go.Q : RK := .o (.num .u64) 27 (.p (.int .i64) .nil)
def tft_Plan_Go.h : (List Int × Int) → tft_Plan_Go.Q.T × List Int := fun b => (((b.1), b.2, ()), [])
noncomputable def tft_Plan_Go.D : Decl (List Int × Int) := ⟨(Go.Proofs.Tryd.f19.body).getD .skip, 38, [.tmp 6, .tmp 7], tft_Plan_Go.A, tft_Plan_Go.Q, fun y m => (y.1, y.2.1), T0, [], [], []⟩
noncomputable def tft_Plan_Go.S (k : Nat) : List (Nat × E.Spec (List Int × Int)) := [(17, told _ tft_Plan_Most.A tft_Plan_Most.Q (tft_Plan_Most.g k) tft_Plan_Most.h), (36, told _ tft_Plan_values.A tft_Plan_values.Q (tft_Plan_values.g k) tft_Plan_values.h), (37, told _ tft_Plan_padded.A tft_Plan_padded.Q (tft_Plan_padded.g k) tft_Plan_padded.h), (38, told _ tft_Plan_of.A tft_Plan_of.Q (tft_Plan_of.g k) tft_Plan_of.h)]
noncomputable def tft_Plan_Go.f0 (k : Nat) (a0 : Option ((Int × Int × Int × Unit) × Int × List Int × Int × Unit)) (a1 : List Int) (a2 : Int) : Option (List Int × Int) := tft_Plan_Go.D.val tft_Plan_Go.S k (a0, a1, a2, ())
noncomputable def tft_Plan_Go.f := (still tft_Plan_Go.f0).1
theorem tft_Plan_Go.f_def : tft_Plan_Go.f = tft_Plan_Go.f0 := (still tft_Plan_Go.f0).2
noncomputable def tft_Plan_Go.g (k : Nat) (x : tft_Plan_Go.A.T) : Option (List Int × Int) := tft_Plan_Go.f k (x.1) (x.2.1) (x.2.2.1)
theorem tft_Plan_Go.does (k : Nat) : Does PG 19 tft_Plan_Go.A tft_Plan_Go.Q (tft_Plan_Go.g k) tft_Plan_Go.h := (show tft_Plan_Go.g k = tft_Plan_Go.D.val tft_Plan_Go.S k from funext fun _ => by unfold tft_Plan_Go.g; rw [tft_Plan_Go.f_def]; rfl) ▸ Decl.does (D := tft_Plan_Go.D) (S := tft_Plan_Go.S) (fn := Go.Proofs.Tryd.f19) ⟨by kernel_rfl, by kernel_rfl, by kernel_rfl, by kernel_rfl, by kernel_rfl, by kernel_rfl, TT.of_ok _ T0ex, by kernel_rfl⟩ (fun k => ⟨told_ok (tft_Plan_Most.does k), ⟨told_ok (tft_Plan_values.does k), ⟨told_ok (tft_Plan_padded.does k), ⟨told_ok (tft_Plan_of.does k), trivial⟩⟩⟩⟩) (fun _ _ h => by rw [h rfl]; rfl) k
/-! vinculumref06_Same: function 20 -/
def vinculumref06_Same.A : AK := .p (.row .u64) (.p (.row .u64) .nil)
def vinculumref06_Same.Q : RK := .p (.bool) .nil
def vinculumref06_Same.h : Bool → vinculumref06_Same.Q.T × List Int := fun b => ((b, ()), [])
noncomputable def vinculumref06_Same.D : Decl Bool := ⟨(Go.Proofs.Tryd.f20.body).getD .skip, 26, [.tmp 4], vinculumref06_Same.A, vinculumref06_Same.Q, fun y m => y.1, T0, [], [(4, [(0, .p (some (.row .u64))), (1, .p (some (.row .u64))), (5, .p (some (.int .i64)))])], []⟩
noncomputable def vinculumref06_Same.S (k : Nat) : List (Nat × E.Spec Bool) := []
noncomputable def vinculumref06_Same.l4 (k : Nat) (x0 : List Int) (x1 : List Int) (x5 : Int) : Option Bool := vinculumref06_Same.D.F vinculumref06_Same.S k 9 [.p (.row .u64 x0), .p (.row .u64 x1), .p (.lit (.int .i64 x5))]
noncomputable def vinculumref06_Same.f0 (k : Nat) (a0 : List Int) (a1 : List Int) : Option Bool := vinculumref06_Same.D.val vinculumref06_Same.S k (a0, a1, ())
noncomputable def vinculumref06_Same.f := (still vinculumref06_Same.f0).1
theorem vinculumref06_Same.f_def : vinculumref06_Same.f = vinculumref06_Same.f0 := (still vinculumref06_Same.f0).2
noncomputable def vinculumref06_Same.g (k : Nat) (x : vinculumref06_Same.A.T) : Option Bool := vinculumref06_Same.f k (x.1) (x.2.1)
theorem vinculumref06_Same.does (k : Nat) : Does PG 20 vinculumref06_Same.A vinculumref06_Same.Q (vinculumref06_Same.g k) vinculumref06_Same.h := (show vinculumref06_Same.g k = vinculumref06_Same.D.val vinculumref06_Same.S k from funext fun _ => by unfold vinculumref06_Same.g; rw [vinculumref06_Same.f_def]; rfl) ▸ Decl.does (D := vinculumref06_Same.D) (S := vinculumref06_Same.S) (fn := Go.Proofs.Tryd.f20) ⟨by kernel_rfl, by kernel_rfl, by kernel_rfl, by kernel_rfl, by kernel_rfl, by kernel_rfl, TT.of_ok _ T0ex, by kernel_rfl⟩ (fun k => trivial) (fun _ _ h => by rw [h rfl]; rfl) k
/-! tft_Plan_whole: function 40 -/
def tft_Plan_whole.A : AK := .p (.np 65 (.cons (.fp 81 (.cons (.int .u64) (.cons (.int .u64) (.cons (.int .u64) .nil)))) (.cons (.int .i64) (.cons (.row .u64) (.cons (.int .u64) .nil))))) (.p (.row .u64) (.p (.row .u64) (.p (.agg (.cons (.int .i64) (.cons (.int .u64) (.cons (.int .u64) .nil)))) .nil)))
def tft_Plan_whole.Q : RK := .p (.row .u64) .nil
def tft_Plan_whole.h : List Int → tft_Plan_whole.Q.T × List Int := fun b => ((b, ()), [])
noncomputable def tft_Plan_whole.D : Decl (List Int) := ⟨(Go.Proofs.Tryd.f40.body).getD .skip, 181, [.tmp 8], tft_Plan_whole.A, tft_Plan_whole.Q, fun y m => y.1, T0, [], [(21, [(0, .p (some (.fp 65 (.cons (.fp 81 (.cons (.int .u64) (.cons (.int .u64) (.cons (.int .u64) .nil)))) (.cons (.int .i64) (.cons (.row .u64) (.cons (.int .u64) .nil))))))), (10, .p (some (.int .i64))), (11, .p (some (.row .u64))), (16, .p (some (.row .u64))), (17, .p (some (.int .u64))), (19, .m (.num .u64) 27), (117, .p (some (.int .i64))), (118, .p (some (.int .i64)))]), (13, [(0, .p (some (.fp 65 (.cons (.fp 81 (.cons (.int .u64) (.cons (.int .u64) (.cons (.int .u64) .nil)))) (.cons (.int .i64) (.cons (.row .u64) (.cons (.int .u64) .nil))))))), (1, .p (some (.row .u64))), (7, .b (some (.cons (.int .i64) (.cons (.int .u64) (.cons (.int .u64) .nil))))), (9, .p (some (.int .i64))), (10, .p (some (.int .i64))), (11, .p (some (.row .u64))), (12, .m (.num .u64) 27), (13, .p (some (.int .u64))), (64, .p (some (.row .u64))), (65, .p (some (.int .i64))), (66, .p (some (.int .i64)))])], [(17, [12])]⟩
def tft_Plan_whole.rg (R : (Option ((Int × Int × Int × Unit) × Int × List Int × Int × Unit)) → (List Int) → (List Int) → Int → Int → Int → Option (List Int)) (x : tft_Plan_whole.A.T) : Option (List Int) := R (x.1) (x.2.1) (x.2.2.1) (x.2.2.2.1.1) (x.2.2.2.1.2.1) (x.2.2.2.1.2.2.1)
/-! tft_Plan_low: function 55 -/
def tft_Plan_low.A : AK := .p (.np 65 (.cons (.fp 81 (.cons (.int .u64) (.cons (.int .u64) (.cons (.int .u64) .nil)))) (.cons (.int .i64) (.cons (.row .u64) (.cons (.int .u64) .nil))))) (.p (.row .u64) (.p (.row .u64) (.p (.agg (.cons (.int .i64) (.cons (.int .u64) (.cons (.int .u64) .nil)))) (.p (.int .i64) .nil))))
def tft_Plan_low.Q : RK := .o (.num .u64) 27 .nil
def tft_Plan_low.h : List Int → tft_Plan_low.Q.T × List Int := fun b => (((b), ()), [])
noncomputable def tft_Plan_low.D : Decl (List Int) := ⟨(Go.Proofs.Tryd.f55.body).getD .skip, 104, [.tmp 10], tft_Plan_low.A, tft_Plan_low.Q, fun y m => y.1, T0, [], [(11, [(0, .p (some (.fp 65 (.cons (.fp 81 (.cons (.int .u64) (.cons (.int .u64) (.cons (.int .u64) .nil)))) (.cons (.int .i64) (.cons (.row .u64) (.cons (.int .u64) .nil))))))), (4, .p (some (.int .i64))), (8, .b (some (.cons (.int .i64) (.cons (.int .u64) (.cons (.int .u64) .nil))))), (12, .p (some (.row .u64))), (15, .p (some (.row .u64))), (16, .m (.num .u64) 27), (66, .p (some (.int .i64))), (67, .p (some (.int .i64)))]), (5, [(0, .p (some (.fp 65 (.cons (.fp 81 (.cons (.int .u64) (.cons (.int .u64) (.cons (.int .u64) .nil)))) (.cons (.int .i64) (.cons (.row .u64) (.cons (.int .u64) .nil))))))), (1, .p (some (.row .u64))), (2, .p (some (.row .u64))), (4, .p (some (.int .i64))), (8, .b (some (.cons (.int .i64) (.cons (.int .u64) (.cons (.int .u64) .nil))))), (11, .p (some (.int .i64))), (12, .p (some (.row .u64))), (13, .m (.num .u64) 27), (14, .p (some (.int .i64)))])], [(8, [13])]⟩
noncomputable def tft_Plan_low.S (R : (Option ((Int × Int × Int × Unit) × Int × List Int × Int × Unit)) → (List Int) → (List Int) → Int → Int → Int → Option (List Int)) (k : Nat) : List (Nat × E.Spec (List Int)) := [(29, told _ word_Field_Mul.A word_Field_Mul.Q (word_Field_Mul.g k) word_Field_Mul.h), (40, told _ tft_Plan_whole.A tft_Plan_whole.Q (tft_Plan_whole.rg R) tft_Plan_whole.h), (48, told _ word_Field_Sub.A word_Field_Sub.Q (word_Field_Sub.g k) word_Field_Sub.h), (52, told _ word_Field_Add.A word_Field_Add.Q (word_Field_Add.g k) word_Field_Add.h), (53, told _ tft_Plan_first.A tft_Plan_first.Q (tft_Plan_first.g k) tft_Plan_first.h)]
noncomputable def tft_Plan_low.l11 (R : (Option ((Int × Int × Int × Unit) × Int × List Int × Int × Unit)) → (List Int) → (List Int) → Int → Int → Int → Option (List Int)) (k : Nat) (x0_0 : Int) (x0_1 : Int) (x0_2 : Int) (x0_3 : Int) (x0_4 : List Int) (x0_5 : Int) (x4 : Int) (x8_0 : Int) (x8_1 : Int) (x8_2 : Int) (x12 : List Int) (x15 : List Int) (x16 : List Int) (x66 : Int) (x67 : Int) : Option (List Int) := tft_Plan_low.D.F (tft_Plan_low.S R) k 23 [.p (.fp 65 [.fp 81 [.lit (.int .u64 x0_0), .lit (.int .u64 x0_1), .lit (.int .u64 x0_2)], .lit (.int .i64 x0_3), .row .u64 x0_4, .lit (.int .u64 x0_5)]), .p (.lit (.int .i64 x4)), .b 74 [.lit (.int .i64 x8_0), .lit (.int .u64 x8_1), .lit (.int .u64 x8_2)], .p (.row .u64 x12), .p (.row .u64 x15), .m x16, .p (.lit (.int .i64 x66)), .p (.lit (.int .i64 x67))]
noncomputable def tft_Plan_low.l5 (R : (Option ((Int × Int × Int × Unit) × Int × List Int × Int × Unit)) → (List Int) → (List Int) → Int → Int → Int → Option (List Int)) (k : Nat) (x0_0 : Int) (x0_1 : Int) (x0_2 : Int) (x0_3 : Int) (x0_4 : List Int) (x0_5 : Int) (x1 : List Int) (x2 : List Int) (x4 : Int) (x8_0 : Int) (x8_1 : Int) (x8_2 : Int) (x11 : Int) (x12 : List Int) (x13 : List Int) (x14 : Int) : Option (List Int) := tft_Plan_low.D.F (tft_Plan_low.S R) k 11 [.p (.fp 65 [.fp 81 [.lit (.int .u64 x0_0), .lit (.int .u64 x0_1), .lit (.int .u64 x0_2)], .lit (.int .i64 x0_3), .row .u64 x0_4, .lit (.int .u64 x0_5)]), .p (.row .u64 x1), .p (.row .u64 x2), .p (.lit (.int .i64 x4)), .b 74 [.lit (.int .i64 x8_0), .lit (.int .u64 x8_1), .lit (.int .u64 x8_2)], .p (.lit (.int .i64 x11)), .p (.row .u64 x12), .m x13, .p (.lit (.int .i64 x14))]
noncomputable def tft_Plan_low.f0 (R : (Option ((Int × Int × Int × Unit) × Int × List Int × Int × Unit)) → (List Int) → (List Int) → Int → Int → Int → Option (List Int)) (k : Nat) (a0 : Option ((Int × Int × Int × Unit) × Int × List Int × Int × Unit)) (a1 : List Int) (a2 : List Int) (a3_0 : Int) (a3_1 : Int) (a3_2 : Int) (a4 : Int) : Option (List Int) := tft_Plan_low.D.val (tft_Plan_low.S R) k (a0, a1, a2, (a3_0, a3_1, a3_2, ()), a4, ())
noncomputable def tft_Plan_low.f := (still tft_Plan_low.f0).1
theorem tft_Plan_low.f_def : tft_Plan_low.f = tft_Plan_low.f0 := (still tft_Plan_low.f0).2
noncomputable def tft_Plan_low.g (R : (Option ((Int × Int × Int × Unit) × Int × List Int × Int × Unit)) → (List Int) → (List Int) → Int → Int → Int → Option (List Int)) (k : Nat) (x : tft_Plan_low.A.T) : Option (List Int) := tft_Plan_low.f R k (x.1) (x.2.1) (x.2.2.1) (x.2.2.2.1.1) (x.2.2.2.1.2.1) (x.2.2.2.1.2.2.1) (x.2.2.2.2.1)
theorem tft_Plan_low.does (R : (Option ((Int × Int × Int × Unit) × Int × List Int × Int × Unit)) → (List Int) → (List Int) → Int → Int → Int → Option (List Int)) (hR : Does PG 40 tft_Plan_whole.A tft_Plan_whole.Q (tft_Plan_whole.rg R) tft_Plan_whole.h) (k : Nat) : Does PG 55 tft_Plan_low.A tft_Plan_low.Q (tft_Plan_low.g R k) tft_Plan_low.h := (show tft_Plan_low.g R k = tft_Plan_low.D.val (tft_Plan_low.S R) k from funext fun _ => by unfold tft_Plan_low.g; rw [tft_Plan_low.f_def]; rfl) ▸ Decl.does (D := tft_Plan_low.D) (S := (tft_Plan_low.S R)) (fn := Go.Proofs.Tryd.f55) ⟨by kernel_rfl, by kernel_rfl, by kernel_rfl, by kernel_rfl, by kernel_rfl, by kernel_rfl, TT.of_ok _ T0ex, by kernel_rfl⟩ (fun k => ⟨told_ok (word_Field_Mul.does k), ⟨told_ok hR, ⟨told_ok (word_Field_Sub.does k), ⟨told_ok (word_Field_Add.does k), ⟨told_ok (tft_Plan_first.does k), trivial⟩⟩⟩⟩⟩) (fun _ _ h => by rw [h rfl]; rfl) k
noncomputable def tft_Plan_whole.S (R : (Option ((Int × Int × Int × Unit) × Int × List Int × Int × Unit)) → (List Int) → (List Int) → Int → Int → Int → Option (List Int)) (k : Nat) : List (Nat × E.Spec (List Int)) := [(29, told _ word_Field_Mul.A word_Field_Mul.Q (word_Field_Mul.g k) word_Field_Mul.h), (30, told _ word_Field_Inv.A word_Field_Inv.Q (word_Field_Inv.g k) word_Field_Inv.h), (40, told _ tft_Plan_whole.A tft_Plan_whole.Q (tft_Plan_whole.rg R) tft_Plan_whole.h), (48, told _ word_Field_Sub.A word_Field_Sub.Q (word_Field_Sub.g k) word_Field_Sub.h), (52, told _ word_Field_Add.A word_Field_Add.Q (word_Field_Add.g k) word_Field_Add.h), (53, told _ tft_Plan_first.A tft_Plan_first.Q (tft_Plan_first.g k) tft_Plan_first.h), (54, told _ tft_Plan_second.A tft_Plan_second.Q (tft_Plan_second.g k) tft_Plan_second.h), (55, told _ tft_Plan_low.A tft_Plan_low.Q (tft_Plan_low.g R k) tft_Plan_low.h)]
noncomputable def tft_Plan_whole.l21 (R : (Option ((Int × Int × Int × Unit) × Int × List Int × Int × Unit)) → (List Int) → (List Int) → Int → Int → Int → Option (List Int)) (k : Nat) (x0_0 : Int) (x0_1 : Int) (x0_2 : Int) (x0_3 : Int) (x0_4 : List Int) (x0_5 : Int) (x10 : Int) (x11 : List Int) (x16 : List Int) (x17 : Int) (x19 : List Int) (x117 : Int) (x118 : Int) : Option (List Int) := tft_Plan_whole.D.F (tft_Plan_whole.S R) k 43 [.p (.fp 65 [.fp 81 [.lit (.int .u64 x0_0), .lit (.int .u64 x0_1), .lit (.int .u64 x0_2)], .lit (.int .i64 x0_3), .row .u64 x0_4, .lit (.int .u64 x0_5)]), .p (.lit (.int .i64 x10)), .p (.row .u64 x11), .p (.row .u64 x16), .p (.lit (.int .u64 x17)), .m x19, .p (.lit (.int .i64 x117)), .p (.lit (.int .i64 x118))]
noncomputable def tft_Plan_whole.l13 (R : (Option ((Int × Int × Int × Unit) × Int × List Int × Int × Unit)) → (List Int) → (List Int) → Int → Int → Int → Option (List Int)) (k : Nat) (x0_0 : Int) (x0_1 : Int) (x0_2 : Int) (x0_3 : Int) (x0_4 : List Int) (x0_5 : Int) (x1 : List Int) (x7_0 : Int) (x7_1 : Int) (x7_2 : Int) (x9 : Int) (x10 : Int) (x11 : List Int) (x12 : List Int) (x13 : Int) (x64 : List Int) (x65 : Int) (x66 : Int) : Option (List Int) := tft_Plan_whole.D.F (tft_Plan_whole.S R) k 27 [.p (.fp 65 [.fp 81 [.lit (.int .u64 x0_0), .lit (.int .u64 x0_1), .lit (.int .u64 x0_2)], .lit (.int .i64 x0_3), .row .u64 x0_4, .lit (.int .u64 x0_5)]), .p (.row .u64 x1), .b 74 [.lit (.int .i64 x7_0), .lit (.int .u64 x7_1), .lit (.int .u64 x7_2)], .p (.lit (.int .i64 x9)), .p (.lit (.int .i64 x10)), .p (.row .u64 x11), .m x12, .p (.lit (.int .u64 x13)), .p (.row .u64 x64), .p (.lit (.int .i64 x65)), .p (.lit (.int .i64 x66))]
noncomputable def tft_Plan_whole.v (R : (Option ((Int × Int × Int × Unit) × Int × List Int × Int × Unit)) → (List Int) → (List Int) → Int → Int → Int → Option (List Int)) (k : Nat) (a0 : Option ((Int × Int × Int × Unit) × Int × List Int × Int × Unit)) (a1 : List Int) (a2 : List Int) (a3_0 : Int) (a3_1 : Int) (a3_2 : Int) : Option (List Int) := tft_Plan_whole.D.val (tft_Plan_whole.S R) k (a0, a1, a2, (a3_0, a3_1, a3_2, ()), ())
noncomputable def tft_Plan_whole.rc : Nat → (Option ((Int × Int × Int × Unit) × Int × List Int × Int × Unit)) → (List Int) → (List Int) → Int → Int → Int → Option (List Int)
  | 0 => fun _ _ _ _ _ _ => none
  | q + 1 => fun a0 a1 a2 a3_0 a3_1 a3_2 => tft_Plan_whole.v (tft_Plan_whole.rc q) q a0 a1 a2 a3_0 a3_1 a3_2
theorem tft_Plan_whole.rdoes : ∀ q : Nat, Does PG 40 tft_Plan_whole.A tft_Plan_whole.Q (tft_Plan_whole.rg (tft_Plan_whole.rc q)) tft_Plan_whole.h
  | 0 => fun _ _ h => by cases h
  | q + 1 => by
    have hR := tft_Plan_whole.rdoes q
    generalize hr : tft_Plan_whole.rc q = R at hR
    have e : tft_Plan_whole.rg (tft_Plan_whole.rc (q + 1)) = tft_Plan_whole.D.val (tft_Plan_whole.S R) q := by rw [← hr]; rfl
    rw [e]
    exact Decl.does (D := tft_Plan_whole.D) (S := tft_Plan_whole.S R) (fn := Go.Proofs.Tryd.f40) ⟨by kernel_rfl, by kernel_rfl, by kernel_rfl, by kernel_rfl, by kernel_rfl, by kernel_rfl, TT.of_ok _ T0ex, by kernel_rfl⟩ (fun k => ⟨told_ok (word_Field_Mul.does k), ⟨told_ok (word_Field_Inv.does k), ⟨told_ok hR, ⟨told_ok (word_Field_Sub.does k), ⟨told_ok (word_Field_Add.does k), ⟨told_ok (tft_Plan_first.does k), ⟨told_ok (tft_Plan_second.does k), ⟨told_ok (tft_Plan_low.does R hR k), trivial⟩⟩⟩⟩⟩⟩⟩⟩) (fun _ _ h => by rw [h rfl]; rfl) q
noncomputable def tft_Plan_whole.f0 (k : Nat) (a0 : Option ((Int × Int × Int × Unit) × Int × List Int × Int × Unit)) (a1 : List Int) (a2 : List Int) (a3_0 : Int) (a3_1 : Int) (a3_2 : Int) : Option (List Int) := tft_Plan_whole.rc k a0 a1 a2 a3_0 a3_1 a3_2
noncomputable def tft_Plan_whole.f := (still tft_Plan_whole.f0).1
theorem tft_Plan_whole.f_def : tft_Plan_whole.f = tft_Plan_whole.f0 := (still tft_Plan_whole.f0).2
noncomputable def tft_Plan_whole.g (k : Nat) (x : tft_Plan_whole.A.T) : Option (List Int) := tft_Plan_whole.f k (x.1) (x.2.1) (x.2.2.1) (x.2.2.2.1.1) (x.2.2.2.1.2.1) (x.2.2.2.1.2.2.1)
theorem tft_Plan_whole.f_rc (k : Nat) : tft_Plan_whole.f k = tft_Plan_whole.rc k := by rw [tft_Plan_whole.f_def]; rfl
theorem tft_Plan_whole.f_succ (k : Nat) (a0 : Option ((Int × Int × Int × Unit) × Int × List Int × Int × Unit)) (a1 : List Int) (a2 : List Int) (a3_0 : Int) (a3_1 : Int) (a3_2 : Int) : tft_Plan_whole.f (k + 1) a0 a1 a2 a3_0 a3_1 a3_2 = tft_Plan_whole.v (tft_Plan_whole.f k) k a0 a1 a2 a3_0 a3_1 a3_2 := by rw [tft_Plan_whole.f_rc, tft_Plan_whole.f_rc]; rfl
theorem tft_Plan_whole.does (k : Nat) : Does PG 40 tft_Plan_whole.A tft_Plan_whole.Q (tft_Plan_whole.g k) tft_Plan_whole.h := (show tft_Plan_whole.g k = tft_Plan_whole.rg (tft_Plan_whole.rc k) from funext fun _ => by unfold tft_Plan_whole.g; rw [tft_Plan_whole.f_rc]; rfl) ▸ tft_Plan_whole.rdoes k
/-! tft_Plan_Back: function 22 -/
def tft_Plan_Back.A : AK := .p (.np 65 (.cons (.fp 81 (.cons (.int .u64) (.cons (.int .u64) (.cons (.int .u64) .nil)))) (.cons (.int .i64) (.cons (.row .u64) (.cons (.int .u64) .nil))))) (.p (.row .u64) .nil)
def tft_Plan_Back.Q : RK := .p (.row .u64) (.p (.int .i64) .nil)
def tft_Plan_Back.h : (List Int × Int) → tft_Plan_Back.Q.T × List Int := fun b => ((b.1, b.2, ()), [])
noncomputable def tft_Plan_Back.D : Decl (List Int × Int) := ⟨(Go.Proofs.Tryd.f22.body).getD .skip, 42, [.tmp 4, .tmp 5], tft_Plan_Back.A, tft_Plan_Back.Q, fun y m => (y.1, y.2.1), T0, [], [], []⟩
noncomputable def tft_Plan_Back.S (k : Nat) : List (Nat × E.Spec (List Int × Int)) := [(17, told _ tft_Plan_Most.A tft_Plan_Most.Q (tft_Plan_Most.g k) tft_Plan_Most.h), (37, told _ tft_Plan_padded.A tft_Plan_padded.Q (tft_Plan_padded.g k) tft_Plan_padded.h), (38, told _ tft_Plan_of.A tft_Plan_of.Q (tft_Plan_of.g k) tft_Plan_of.h), (40, told _ tft_Plan_whole.A tft_Plan_whole.Q (tft_Plan_whole.g k) tft_Plan_whole.h)]
noncomputable def tft_Plan_Back.f0 (k : Nat) (a0 : Option ((Int × Int × Int × Unit) × Int × List Int × Int × Unit)) (a1 : List Int) : Option (List Int × Int) := tft_Plan_Back.D.val tft_Plan_Back.S k (a0, a1, ())
noncomputable def tft_Plan_Back.f := (still tft_Plan_Back.f0).1
theorem tft_Plan_Back.f_def : tft_Plan_Back.f = tft_Plan_Back.f0 := (still tft_Plan_Back.f0).2
noncomputable def tft_Plan_Back.g (k : Nat) (x : tft_Plan_Back.A.T) : Option (List Int × Int) := tft_Plan_Back.f k (x.1) (x.2.1)
theorem tft_Plan_Back.does (k : Nat) : Does PG 22 tft_Plan_Back.A tft_Plan_Back.Q (tft_Plan_Back.g k) tft_Plan_Back.h := (show tft_Plan_Back.g k = tft_Plan_Back.D.val tft_Plan_Back.S k from funext fun _ => by unfold tft_Plan_Back.g; rw [tft_Plan_Back.f_def]; rfl) ▸ Decl.does (D := tft_Plan_Back.D) (S := tft_Plan_Back.S) (fn := Go.Proofs.Tryd.f22) ⟨by kernel_rfl, by kernel_rfl, by kernel_rfl, by kernel_rfl, by kernel_rfl, by kernel_rfl, TT.of_ok _ T0ex, by kernel_rfl⟩ (fun k => ⟨told_ok (tft_Plan_Most.does k), ⟨told_ok (tft_Plan_padded.does k), ⟨told_ok (tft_Plan_of.does k), ⟨told_ok (tft_Plan_whole.does k), trivial⟩⟩⟩⟩) (fun _ _ h => by rw [h rfl]; rfl) k
/-! vinculumlaw07_awake: function 13 -/
def vinculumlaw07_awake.A : AK := .nil
def vinculumlaw07_awake.Q : RK := .p (.bool) .nil
def vinculumlaw07_awake.h : Bool → vinculumlaw07_awake.Q.T × List Int := fun b => ((b, ()), [])
noncomputable def vinculumlaw07_awake.D : Decl Bool := ⟨(Go.Proofs.Tryd.f13.body).getD .skip, 72, [.tmp 0], vinculumlaw07_awake.A, vinculumlaw07_awake.Q, fun y m => y.1, T0, [], [], []⟩
noncomputable def vinculumlaw07_awake.S (k : Nat) : List (Nat × E.Spec Bool) := [(14, told _ tft_New.A tft_New.Q (tft_New.g k) tft_New.h), (16, told _ tft_Plan_Point.A tft_Plan_Point.Q (tft_Plan_Point.g k) tft_Plan_Point.h), (17, told _ tft_Plan_Most.A tft_Plan_Most.Q (tft_Plan_Most.g k) tft_Plan_Most.h), (19, told _ tft_Plan_Go.A tft_Plan_Go.Q (tft_Plan_Go.g k) tft_Plan_Go.h), (20, told _ vinculumref06_Same.A vinculumref06_Same.Q (vinculumref06_Same.g k) vinculumref06_Same.h), (22, told _ tft_Plan_Back.A tft_Plan_Back.Q (tft_Plan_Back.g k) tft_Plan_Back.h)]
noncomputable def vinculumlaw07_awake.f0 (k : Nat) : Option Bool := vinculumlaw07_awake.D.val vinculumlaw07_awake.S k (())
noncomputable def vinculumlaw07_awake.f := (still vinculumlaw07_awake.f0).1
theorem vinculumlaw07_awake.f_def : vinculumlaw07_awake.f = vinculumlaw07_awake.f0 := (still vinculumlaw07_awake.f0).2
noncomputable def vinculumlaw07_awake.g (k : Nat) (x : vinculumlaw07_awake.A.T) : Option Bool := vinculumlaw07_awake.f k
theorem vinculumlaw07_awake.does (k : Nat) : Does PG 13 vinculumlaw07_awake.A vinculumlaw07_awake.Q (vinculumlaw07_awake.g k) vinculumlaw07_awake.h := (show vinculumlaw07_awake.g k = vinculumlaw07_awake.D.val vinculumlaw07_awake.S k from funext fun _ => by unfold vinculumlaw07_awake.g; rw [vinculumlaw07_awake.f_def]; rfl) ▸ Decl.does (D := vinculumlaw07_awake.D) (S := vinculumlaw07_awake.S) (fn := Go.Proofs.Tryd.f13) ⟨by kernel_rfl, by kernel_rfl, by kernel_rfl, by kernel_rfl, by kernel_rfl, by kernel_rfl, TT.of_ok _ T0ex, by kernel_rfl⟩ (fun k => ⟨told_ok (tft_New.does k), ⟨told_ok (tft_Plan_Point.does k), ⟨told_ok (tft_Plan_Most.does k), ⟨told_ok (tft_Plan_Go.does k), ⟨told_ok (vinculumref06_Same.does k), ⟨told_ok (tft_Plan_Back.does k), trivial⟩⟩⟩⟩⟩⟩) (fun _ _ h => by rw [h rfl]; rfl) k
/-! vinculumlaw07_TftTurns: function 3 -/
def vinculumlaw07_TftTurns.A : AK := .p (.int .i64) (.p (.int .i64) .nil)
def vinculumlaw07_TftTurns.Q : RK := .p (.bool) .nil
def vinculumlaw07_TftTurns.h : Bool → vinculumlaw07_TftTurns.Q.T × List Int := fun b => ((b, ()), [])
noncomputable def vinculumlaw07_TftTurns.D : Decl Bool := ⟨(Go.Proofs.Tryd.f3.body).getD .skip, 32, [.tmp 4], vinculumlaw07_TftTurns.A, vinculumlaw07_TftTurns.Q, fun y m => y.1, T0, [], [], []⟩
noncomputable def vinculumlaw07_TftTurns.S (k : Nat) : List (Nat × E.Spec Bool) := [(11, told _ tft_Turned.A tft_Turned.Q (tft_Turned.g k) tft_Turned.h), (12, told _ vinculumref07_Turned.A vinculumref07_Turned.Q (vinculumref07_Turned.g k) vinculumref07_Turned.h), (13, told _ vinculumlaw07_awake.A vinculumlaw07_awake.Q (vinculumlaw07_awake.g k) vinculumlaw07_awake.h)]
noncomputable def vinculumlaw07_TftTurns.f0 (k : Nat) (a0 : Int) (a1 : Int) : Option Bool := vinculumlaw07_TftTurns.D.val vinculumlaw07_TftTurns.S k (a0, a1, ())
noncomputable def vinculumlaw07_TftTurns.f := (still vinculumlaw07_TftTurns.f0).1
theorem vinculumlaw07_TftTurns.f_def : vinculumlaw07_TftTurns.f = vinculumlaw07_TftTurns.f0 := (still vinculumlaw07_TftTurns.f0).2
noncomputable def vinculumlaw07_TftTurns.g (k : Nat) (x : vinculumlaw07_TftTurns.A.T) : Option Bool := vinculumlaw07_TftTurns.f k (x.1) (x.2.1)
theorem vinculumlaw07_TftTurns.does (k : Nat) : Does PG 3 vinculumlaw07_TftTurns.A vinculumlaw07_TftTurns.Q (vinculumlaw07_TftTurns.g k) vinculumlaw07_TftTurns.h := (show vinculumlaw07_TftTurns.g k = vinculumlaw07_TftTurns.D.val vinculumlaw07_TftTurns.S k from funext fun _ => by unfold vinculumlaw07_TftTurns.g; rw [vinculumlaw07_TftTurns.f_def]; rfl) ▸ Decl.does (D := vinculumlaw07_TftTurns.D) (S := vinculumlaw07_TftTurns.S) (fn := Go.Proofs.Tryd.f3) ⟨by kernel_rfl, by kernel_rfl, by kernel_rfl, by kernel_rfl, by kernel_rfl, by kernel_rfl, TT.of_ok _ T0ex, by kernel_rfl⟩ (fun k => ⟨told_ok (tft_Turned.does k), ⟨told_ok (vinculumref07_Turned.does k), ⟨told_ok (vinculumlaw07_awake.does k), trivial⟩⟩⟩) (fun _ _ h => by rw [h rfl]; rfl) k
/-! vinculumref04_Is: function 31 -/
def vinculumref04_Is.A : AK := .p (.int .u64) .nil
def vinculumref04_Is.Q : RK := .p (.bool) .nil
def vinculumref04_Is.h : Bool → vinculumref04_Is.Q.T × List Int := fun b => ((b, ()), [])
noncomputable def vinculumref04_Is.D : Decl Bool := ⟨(Go.Proofs.Tryd.f31.body).getD .skip, 17, [.tmp 2], vinculumref04_Is.A, vinculumref04_Is.Q, fun y m => y.1, T0, [], [(4, [(0, .p (some (.int .u64))), (3, .p (some (.int .u64)))])], []⟩
noncomputable def vinculumref04_Is.S (k : Nat) : List (Nat × E.Spec Bool) := []
noncomputable def vinculumref04_Is.l4 (k : Nat) (x0 : Int) (x3 : Int) : Option Bool := vinculumref04_Is.D.F vinculumref04_Is.S k 9 [.p (.lit (.int .u64 x0)), .p (.lit (.int .u64 x3))]
noncomputable def vinculumref04_Is.f0 (k : Nat) (a0 : Int) : Option Bool := vinculumref04_Is.D.val vinculumref04_Is.S k (a0, ())
noncomputable def vinculumref04_Is.f := (still vinculumref04_Is.f0).1
theorem vinculumref04_Is.f_def : vinculumref04_Is.f = vinculumref04_Is.f0 := (still vinculumref04_Is.f0).2
noncomputable def vinculumref04_Is.g (k : Nat) (x : vinculumref04_Is.A.T) : Option Bool := vinculumref04_Is.f k (x.1)
theorem vinculumref04_Is.does (k : Nat) : Does PG 31 vinculumref04_Is.A vinculumref04_Is.Q (vinculumref04_Is.g k) vinculumref04_Is.h := (show vinculumref04_Is.g k = vinculumref04_Is.D.val vinculumref04_Is.S k from funext fun _ => by unfold vinculumref04_Is.g; rw [vinculumref04_Is.f_def]; rfl) ▸ Decl.does (D := vinculumref04_Is.D) (S := vinculumref04_Is.S) (fn := Go.Proofs.Tryd.f31) ⟨by kernel_rfl, by kernel_rfl, by kernel_rfl, by kernel_rfl, by kernel_rfl, by kernel_rfl, TT.of_ok _ T0ex, by kernel_rfl⟩ (fun k => trivial) (fun _ _ h => by rw [h rfl]; rfl) k
/-! vinculumref03_Add: function 41 -/
def vinculumref03_Add.A : AK := .p (.int .u64) (.p (.int .u64) (.p (.int .u64) .nil))
def vinculumref03_Add.Q : RK := .p (.int .u64) .nil
def vinculumref03_Add.h : Int → vinculumref03_Add.Q.T × List Int := fun b => ((b, ()), [])
noncomputable def vinculumref03_Add.D : Decl Int := ⟨(Go.Proofs.Tryd.f41.body).getD .skip, 16, [.tmp 6], vinculumref03_Add.A, vinculumref03_Add.Q, fun y m => y.1, T0, [], [], []⟩
noncomputable def vinculumref03_Add.S (k : Nat) : List (Nat × E.Spec Int) := []
noncomputable def vinculumref03_Add.f0 (k : Nat) (a0 : Int) (a1 : Int) (a2 : Int) : Option Int := vinculumref03_Add.D.val vinculumref03_Add.S k (a0, a1, a2, ())
noncomputable def vinculumref03_Add.f := (still vinculumref03_Add.f0).1
theorem vinculumref03_Add.f_def : vinculumref03_Add.f = vinculumref03_Add.f0 := (still vinculumref03_Add.f0).2
noncomputable def vinculumref03_Add.g (k : Nat) (x : vinculumref03_Add.A.T) : Option Int := vinculumref03_Add.f k (x.1) (x.2.1) (x.2.2.1)
theorem vinculumref03_Add.does (k : Nat) : Does PG 41 vinculumref03_Add.A vinculumref03_Add.Q (vinculumref03_Add.g k) vinculumref03_Add.h := (show vinculumref03_Add.g k = vinculumref03_Add.D.val vinculumref03_Add.S k from funext fun _ => by unfold vinculumref03_Add.g; rw [vinculumref03_Add.f_def]; rfl) ▸ Decl.does (D := vinculumref03_Add.D) (S := vinculumref03_Add.S) (fn := Go.Proofs.Tryd.f41) ⟨by kernel_rfl, by kernel_rfl, by kernel_rfl, by kernel_rfl, by kernel_rfl, by kernel_rfl, TT.of_ok _ T0ex, by kernel_rfl⟩ (fun k => trivial) (fun _ _ h => by rw [h rfl]; rfl) k
/-! vinculumref03_Mul: function 42 -/
def vinculumref03_Mul.A : AK := .p (.int .u64) (.p (.int .u64) (.p (.int .u64) .nil))
def vinculumref03_Mul.Q : RK := .p (.int .u64) .nil
def vinculumref03_Mul.h : Int → vinculumref03_Mul.Q.T × List Int := fun b => ((b, ()), [])
noncomputable def vinculumref03_Mul.D : Decl Int := ⟨(Go.Proofs.Tryd.f42.body).getD .skip, 30, [.tmp 6], vinculumref03_Mul.A, vinculumref03_Mul.Q, fun y m => y.1, T0, [], [(4, [(0, .p (some (.int .u64))), (1, .p (some (.int .u64))), (2, .p (some (.int .u64))), (7, .p (some (.int .u64)))])], []⟩
noncomputable def vinculumref03_Mul.S (k : Nat) : List (Nat × E.Spec Int) := [(41, told _ vinculumref03_Add.A vinculumref03_Add.Q (vinculumref03_Add.g k) vinculumref03_Add.h)]
noncomputable def vinculumref03_Mul.l4 (k : Nat) (x0 : Int) (x1 : Int) (x2 : Int) (x7 : Int) : Option Int := vinculumref03_Mul.D.F vinculumref03_Mul.S k 9 [.p (.lit (.int .u64 x0)), .p (.lit (.int .u64 x1)), .p (.lit (.int .u64 x2)), .p (.lit (.int .u64 x7))]
noncomputable def vinculumref03_Mul.f0 (k : Nat) (a0 : Int) (a1 : Int) (a2 : Int) : Option Int := vinculumref03_Mul.D.val vinculumref03_Mul.S k (a0, a1, a2, ())
noncomputable def vinculumref03_Mul.f := (still vinculumref03_Mul.f0).1
theorem vinculumref03_Mul.f_def : vinculumref03_Mul.f = vinculumref03_Mul.f0 := (still vinculumref03_Mul.f0).2
noncomputable def vinculumref03_Mul.g (k : Nat) (x : vinculumref03_Mul.A.T) : Option Int := vinculumref03_Mul.f k (x.1) (x.2.1) (x.2.2.1)
theorem vinculumref03_Mul.does (k : Nat) : Does PG 42 vinculumref03_Mul.A vinculumref03_Mul.Q (vinculumref03_Mul.g k) vinculumref03_Mul.h := (show vinculumref03_Mul.g k = vinculumref03_Mul.D.val vinculumref03_Mul.S k from funext fun _ => by unfold vinculumref03_Mul.g; rw [vinculumref03_Mul.f_def]; rfl) ▸ Decl.does (D := vinculumref03_Mul.D) (S := vinculumref03_Mul.S) (fn := Go.Proofs.Tryd.f42) ⟨by kernel_rfl, by kernel_rfl, by kernel_rfl, by kernel_rfl, by kernel_rfl, by kernel_rfl, TT.of_ok _ T0ex, by kernel_rfl⟩ (fun k => ⟨told_ok (vinculumref03_Add.does k), trivial⟩) (fun _ _ h => by rw [h rfl]; rfl) k
/-! vinculumref03_Pow: function 35 -/
def vinculumref03_Pow.A : AK := .p (.int .u64) (.p (.int .u64) (.p (.int .u64) .nil))
def vinculumref03_Pow.Q : RK := .p (.int .u64) .nil
def vinculumref03_Pow.h : Int → vinculumref03_Pow.Q.T × List Int := fun b => ((b, ()), [])
noncomputable def vinculumref03_Pow.D : Decl Int := ⟨(Go.Proofs.Tryd.f35.body).getD .skip, 26, [.tmp 6], vinculumref03_Pow.A, vinculumref03_Pow.Q, fun y m => y.1, T0, [], [(2, [(0, .p (some (.int .u64))), (1, .p (some (.int .u64))), (2, .p (some (.int .u64))), (7, .p (some (.int .u64)))])], []⟩
noncomputable def vinculumref03_Pow.S (k : Nat) : List (Nat × E.Spec Int) := [(42, told _ vinculumref03_Mul.A vinculumref03_Mul.Q (vinculumref03_Mul.g k) vinculumref03_Mul.h)]
noncomputable def vinculumref03_Pow.l2 (k : Nat) (x0 : Int) (x1 : Int) (x2 : Int) (x7 : Int) : Option Int := vinculumref03_Pow.D.F vinculumref03_Pow.S k 5 [.p (.lit (.int .u64 x0)), .p (.lit (.int .u64 x1)), .p (.lit (.int .u64 x2)), .p (.lit (.int .u64 x7))]
noncomputable def vinculumref03_Pow.f0 (k : Nat) (a0 : Int) (a1 : Int) (a2 : Int) : Option Int := vinculumref03_Pow.D.val vinculumref03_Pow.S k (a0, a1, a2, ())
noncomputable def vinculumref03_Pow.f := (still vinculumref03_Pow.f0).1
theorem vinculumref03_Pow.f_def : vinculumref03_Pow.f = vinculumref03_Pow.f0 := (still vinculumref03_Pow.f0).2
noncomputable def vinculumref03_Pow.g (k : Nat) (x : vinculumref03_Pow.A.T) : Option Int := vinculumref03_Pow.f k (x.1) (x.2.1) (x.2.2.1)
theorem vinculumref03_Pow.does (k : Nat) : Does PG 35 vinculumref03_Pow.A vinculumref03_Pow.Q (vinculumref03_Pow.g k) vinculumref03_Pow.h := (show vinculumref03_Pow.g k = vinculumref03_Pow.D.val vinculumref03_Pow.S k from funext fun _ => by unfold vinculumref03_Pow.g; rw [vinculumref03_Pow.f_def]; rfl) ▸ Decl.does (D := vinculumref03_Pow.D) (S := vinculumref03_Pow.S) (fn := Go.Proofs.Tryd.f35) ⟨by kernel_rfl, by kernel_rfl, by kernel_rfl, by kernel_rfl, by kernel_rfl, by kernel_rfl, TT.of_ok _ T0ex, by kernel_rfl⟩ (fun k => ⟨told_ok (vinculumref03_Mul.does k), trivial⟩) (fun _ _ h => by rw [h rfl]; rfl) k
/-! vinculumref04_Twos: function 49 -/
def vinculumref04_Twos.A : AK := .p (.int .u64) .nil
def vinculumref04_Twos.Q : RK := .p (.int .i64) .nil
def vinculumref04_Twos.h : Int → vinculumref04_Twos.Q.T × List Int := fun b => ((b, ()), [])
noncomputable def vinculumref04_Twos.D : Decl Int := ⟨(Go.Proofs.Tryd.f49.body).getD .skip, 16, [.tmp 2], vinculumref04_Twos.A, vinculumref04_Twos.Q, fun y m => y.1, T0, [], [(2, [(0, .p (some (.int .u64))), (3, .p (some (.int .i64)))])], []⟩
noncomputable def vinculumref04_Twos.S (k : Nat) : List (Nat × E.Spec Int) := []
noncomputable def vinculumref04_Twos.l2 (k : Nat) (x0 : Int) (x3 : Int) : Option Int := vinculumref04_Twos.D.F vinculumref04_Twos.S k 5 [.p (.lit (.int .u64 x0)), .p (.lit (.int .i64 x3))]
noncomputable def vinculumref04_Twos.f0 (k : Nat) (a0 : Int) : Option Int := vinculumref04_Twos.D.val vinculumref04_Twos.S k (a0, ())
noncomputable def vinculumref04_Twos.f := (still vinculumref04_Twos.f0).1
theorem vinculumref04_Twos.f_def : vinculumref04_Twos.f = vinculumref04_Twos.f0 := (still vinculumref04_Twos.f0).2
noncomputable def vinculumref04_Twos.g (k : Nat) (x : vinculumref04_Twos.A.T) : Option Int := vinculumref04_Twos.f k (x.1)
theorem vinculumref04_Twos.does (k : Nat) : Does PG 49 vinculumref04_Twos.A vinculumref04_Twos.Q (vinculumref04_Twos.g k) vinculumref04_Twos.h := (show vinculumref04_Twos.g k = vinculumref04_Twos.D.val vinculumref04_Twos.S k from funext fun _ => by unfold vinculumref04_Twos.g; rw [vinculumref04_Twos.f_def]; rfl) ▸ Decl.does (D := vinculumref04_Twos.D) (S := vinculumref04_Twos.S) (fn := Go.Proofs.Tryd.f49) ⟨by kernel_rfl, by kernel_rfl, by kernel_rfl, by kernel_rfl, by kernel_rfl, by kernel_rfl, TT.of_ok _ T0ex, by kernel_rfl⟩ (fun k => trivial) (fun _ _ h => by rw [h rfl]; rfl) k
/-! vinculumref04_Order: function 50 -/
def vinculumref04_Order.A : AK := .p (.int .u64) (.p (.int .u64) .nil)
def vinculumref04_Order.Q : RK := .p (.int .i64) .nil
def vinculumref04_Order.h : Int → vinculumref04_Order.Q.T × List Int := fun b => ((b, ()), [])
noncomputable def vinculumref04_Order.D : Decl Int := ⟨(Go.Proofs.Tryd.f50.body).getD .skip, 22, [.tmp 4], vinculumref04_Order.A, vinculumref04_Order.Q, fun y m => y.1, T0, [], [(3, [(0, .p (some (.int .u64))), (1, .p (some (.int .u64))), (5, .p (some (.int .i64)))])], []⟩
noncomputable def vinculumref04_Order.S (k : Nat) : List (Nat × E.Spec Int) := [(42, told _ vinculumref03_Mul.A vinculumref03_Mul.Q (vinculumref03_Mul.g k) vinculumref03_Mul.h)]
noncomputable def vinculumref04_Order.l3 (k : Nat) (x0 : Int) (x1 : Int) (x5 : Int) : Option Int := vinculumref04_Order.D.F vinculumref04_Order.S k 7 [.p (.lit (.int .u64 x0)), .p (.lit (.int .u64 x1)), .p (.lit (.int .i64 x5))]
noncomputable def vinculumref04_Order.f0 (k : Nat) (a0 : Int) (a1 : Int) : Option Int := vinculumref04_Order.D.val vinculumref04_Order.S k (a0, a1, ())
noncomputable def vinculumref04_Order.f := (still vinculumref04_Order.f0).1
theorem vinculumref04_Order.f_def : vinculumref04_Order.f = vinculumref04_Order.f0 := (still vinculumref04_Order.f0).2
noncomputable def vinculumref04_Order.g (k : Nat) (x : vinculumref04_Order.A.T) : Option Int := vinculumref04_Order.f k (x.1) (x.2.1)
theorem vinculumref04_Order.does (k : Nat) : Does PG 50 vinculumref04_Order.A vinculumref04_Order.Q (vinculumref04_Order.g k) vinculumref04_Order.h := (show vinculumref04_Order.g k = vinculumref04_Order.D.val vinculumref04_Order.S k from funext fun _ => by unfold vinculumref04_Order.g; rw [vinculumref04_Order.f_def]; rfl) ▸ Decl.does (D := vinculumref04_Order.D) (S := vinculumref04_Order.S) (fn := Go.Proofs.Tryd.f50) ⟨by kernel_rfl, by kernel_rfl, by kernel_rfl, by kernel_rfl, by kernel_rfl, by kernel_rfl, TT.of_ok _ T0ex, by kernel_rfl⟩ (fun k => ⟨told_ok (vinculumref03_Mul.does k), trivial⟩) (fun _ _ h => by rw [h rfl]; rfl) k
/-! vinculumref04_Root: function 32 -/
def vinculumref04_Root.A : AK := .p (.int .u64) (.p (.int .i64) .nil)
def vinculumref04_Root.Q : RK := .p (.int .u64) (.p (.int .i64) .nil)
def vinculumref04_Root.h : (Int × Int) → vinculumref04_Root.Q.T × List Int := fun b => ((b.1, b.2, ()), [])
noncomputable def vinculumref04_Root.D : Decl (Int × Int) := ⟨(Go.Proofs.Tryd.f32.body).getD .skip, 53, [.tmp 4, .tmp 5], vinculumref04_Root.A, vinculumref04_Root.Q, fun y m => (y.1, y.2.1), T0, [], [(9, [(0, .p (some (.int .u64))), (1, .p (some (.int .i64))), (6, .p (some (.int .u64))), (8, .p (some (.int .u64)))]), (5, [(0, .p (some (.int .u64))), (1, .p (some (.int .i64))), (6, .p (some (.int .u64))), (7, .p (some (.int .i64)))])], []⟩
noncomputable def vinculumref04_Root.S (k : Nat) : List (Nat × E.Spec (Int × Int)) := [(35, told _ vinculumref03_Pow.A vinculumref03_Pow.Q (vinculumref03_Pow.g k) vinculumref03_Pow.h), (49, told _ vinculumref04_Twos.A vinculumref04_Twos.Q (vinculumref04_Twos.g k) vinculumref04_Twos.h), (50, told _ vinculumref04_Order.A vinculumref04_Order.Q (vinculumref04_Order.g k) vinculumref04_Order.h)]
noncomputable def vinculumref04_Root.l9 (k : Nat) (x0 : Int) (x1 : Int) (x6 : Int) (x8 : Int) : Option (Int × Int) := vinculumref04_Root.D.F vinculumref04_Root.S k 19 [.p (.lit (.int .u64 x0)), .p (.lit (.int .i64 x1)), .p (.lit (.int .u64 x6)), .p (.lit (.int .u64 x8))]
noncomputable def vinculumref04_Root.l5 (k : Nat) (x0 : Int) (x1 : Int) (x6 : Int) (x7 : Int) : Option (Int × Int) := vinculumref04_Root.D.F vinculumref04_Root.S k 11 [.p (.lit (.int .u64 x0)), .p (.lit (.int .i64 x1)), .p (.lit (.int .u64 x6)), .p (.lit (.int .i64 x7))]
noncomputable def vinculumref04_Root.f0 (k : Nat) (a0 : Int) (a1 : Int) : Option (Int × Int) := vinculumref04_Root.D.val vinculumref04_Root.S k (a0, a1, ())
noncomputable def vinculumref04_Root.f := (still vinculumref04_Root.f0).1
theorem vinculumref04_Root.f_def : vinculumref04_Root.f = vinculumref04_Root.f0 := (still vinculumref04_Root.f0).2
noncomputable def vinculumref04_Root.g (k : Nat) (x : vinculumref04_Root.A.T) : Option (Int × Int) := vinculumref04_Root.f k (x.1) (x.2.1)
theorem vinculumref04_Root.does (k : Nat) : Does PG 32 vinculumref04_Root.A vinculumref04_Root.Q (vinculumref04_Root.g k) vinculumref04_Root.h := (show vinculumref04_Root.g k = vinculumref04_Root.D.val vinculumref04_Root.S k from funext fun _ => by unfold vinculumref04_Root.g; rw [vinculumref04_Root.f_def]; rfl) ▸ Decl.does (D := vinculumref04_Root.D) (S := vinculumref04_Root.S) (fn := Go.Proofs.Tryd.f32) ⟨by kernel_rfl, by kernel_rfl, by kernel_rfl, by kernel_rfl, by kernel_rfl, by kernel_rfl, TT.of_ok _ T0ex, by kernel_rfl⟩ (fun k => ⟨told_ok (vinculumref03_Pow.does k), ⟨told_ok (vinculumref04_Twos.does k), ⟨told_ok (vinculumref04_Order.does k), trivial⟩⟩⟩) (fun _ _ h => by rw [h rfl]; rfl) k
/-! vinculumref06_Given: function 33 -/
def vinculumref06_Given.A : AK := .p (.int .u64) (.p (.int .i64) (.p (.int .u64) .nil))
def vinculumref06_Given.Q : RK := .p (.np 37 (.cons (.int .u64) (.cons (.int .i64) (.cons (.int .i64) (.cons (.int .u64) .nil))))) .nil
def vinculumref06_Given.h : ((Option (Int × Int × Int × Int × Unit))) → vinculumref06_Given.Q.T × List Int := fun b => ((b, ()), [])
noncomputable def vinculumref06_Given.D : Decl ((Option (Int × Int × Int × Int × Unit))) := ⟨(Go.Proofs.Tryd.f33.body).getD .skip, 28, [.tmp 6], vinculumref06_Given.A, vinculumref06_Given.Q, fun y m => y.1, T0, [], [(3, [(1, .p (some (.int .i64))), (7, .p (some (.pt 3 0))), (8, .p (some (.int .i64))), (13, .b (some (.cons (.int .u64) (.cons (.int .i64) (.cons (.int .i64) (.cons (.int .u64) .nil))))))])], []⟩
noncomputable def vinculumref06_Given.S (k : Nat) : List (Nat × E.Spec ((Option (Int × Int × Int × Int × Unit)))) := []
noncomputable def vinculumref06_Given.l3 (k : Nat) (x1 : Int) (x8 : Int) (x13_0 : Int) (x13_1 : Int) (x13_2 : Int) (x13_3 : Int) : Option ((Option (Int × Int × Int × Int × Unit))) := vinculumref06_Given.D.F vinculumref06_Given.S k 7 [.p (.lit (.int .i64 x1)), .p (.ptr 3 0), .p (.lit (.int .i64 x8)), .b 37 [.lit (.int .u64 x13_0), .lit (.int .i64 x13_1), .lit (.int .i64 x13_2), .lit (.int .u64 x13_3)]]
noncomputable def vinculumref06_Given.f0 (k : Nat) (a0 : Int) (a1 : Int) (a2 : Int) : Option ((Option (Int × Int × Int × Int × Unit))) := vinculumref06_Given.D.val vinculumref06_Given.S k (a0, a1, a2, ())
noncomputable def vinculumref06_Given.f := (still vinculumref06_Given.f0).1
theorem vinculumref06_Given.f_def : vinculumref06_Given.f = vinculumref06_Given.f0 := (still vinculumref06_Given.f0).2
noncomputable def vinculumref06_Given.g (k : Nat) (x : vinculumref06_Given.A.T) : Option ((Option (Int × Int × Int × Int × Unit))) := vinculumref06_Given.f k (x.1) (x.2.1) (x.2.2.1)
theorem vinculumref06_Given.does (k : Nat) : Does PG 33 vinculumref06_Given.A vinculumref06_Given.Q (vinculumref06_Given.g k) vinculumref06_Given.h := (show vinculumref06_Given.g k = vinculumref06_Given.D.val vinculumref06_Given.S k from funext fun _ => by unfold vinculumref06_Given.g; rw [vinculumref06_Given.f_def]; rfl) ▸ Decl.does (D := vinculumref06_Given.D) (S := vinculumref06_Given.S) (fn := Go.Proofs.Tryd.f33) ⟨by kernel_rfl, by kernel_rfl, by kernel_rfl, by kernel_rfl, by kernel_rfl, by kernel_rfl, TT.of_ok _ T0ex, by kernel_rfl⟩ (fun k => trivial) (fun _ _ h => by rw [h rfl]; rfl) k
/-! vinculumref06_New: function 15 -/
def vinculumref06_New.A : AK := .p (.int .u64) (.p (.int .i64) .nil)
def vinculumref06_New.Q : RK := .p (.np 37 (.cons (.int .u64) (.cons (.int .i64) (.cons (.int .i64) (.cons (.int .u64) .nil))))) (.p (.int .i64) .nil)
def vinculumref06_New.h : ((Option (Int × Int × Int × Int × Unit)) × Int) → vinculumref06_New.Q.T × List Int := fun b => ((b.1, b.2, ()), [])
noncomputable def vinculumref06_New.D : Decl ((Option (Int × Int × Int × Int × Unit)) × Int) := ⟨(Go.Proofs.Tryd.f15.body).getD .skip, 26, [.tmp 4, .tmp 5], vinculumref06_New.A, vinculumref06_New.Q, fun y m => (y.1, y.2.1), T0, [], [], []⟩
noncomputable def vinculumref06_New.S (k : Nat) : List (Nat × E.Spec ((Option (Int × Int × Int × Int × Unit)) × Int)) := [(31, told _ vinculumref04_Is.A vinculumref04_Is.Q (vinculumref04_Is.g k) vinculumref04_Is.h), (32, told _ vinculumref04_Root.A vinculumref04_Root.Q (vinculumref04_Root.g k) vinculumref04_Root.h), (33, told _ vinculumref06_Given.A vinculumref06_Given.Q (vinculumref06_Given.g k) vinculumref06_Given.h)]
noncomputable def vinculumref06_New.f0 (k : Nat) (a0 : Int) (a1 : Int) : Option ((Option (Int × Int × Int × Int × Unit)) × Int) := vinculumref06_New.D.val vinculumref06_New.S k (a0, a1, ())
noncomputable def vinculumref06_New.f := (still vinculumref06_New.f0).1
theorem vinculumref06_New.f_def : vinculumref06_New.f = vinculumref06_New.f0 := (still vinculumref06_New.f0).2
noncomputable def vinculumref06_New.g (k : Nat) (x : vinculumref06_New.A.T) : Option ((Option (Int × Int × Int × Int × Unit)) × Int) := vinculumref06_New.f k (x.1) (x.2.1)
theorem vinculumref06_New.does (k : Nat) : Does PG 15 vinculumref06_New.A vinculumref06_New.Q (vinculumref06_New.g k) vinculumref06_New.h := (show vinculumref06_New.g k = vinculumref06_New.D.val vinculumref06_New.S k from funext fun _ => by unfold vinculumref06_New.g; rw [vinculumref06_New.f_def]; rfl) ▸ Decl.does (D := vinculumref06_New.D) (S := vinculumref06_New.S) (fn := Go.Proofs.Tryd.f15) ⟨by kernel_rfl, by kernel_rfl, by kernel_rfl, by kernel_rfl, by kernel_rfl, by kernel_rfl, TT.of_ok _ T0ex, by kernel_rfl⟩ (fun k => ⟨told_ok (vinculumref04_Is.does k), ⟨told_ok (vinculumref04_Root.does k), ⟨told_ok (vinculumref06_Given.does k), trivial⟩⟩⟩) (fun _ _ h => by rw [h rfl]; rfl) k
/-! vinculumref07_Point: function 18 -/
def vinculumref07_Point.A : AK := .p (.fp 37 (.cons (.int .u64) (.cons (.int .i64) (.cons (.int .i64) (.cons (.int .u64) .nil))))) (.p (.int .i64) .nil)
def vinculumref07_Point.Q : RK := .p (.int .u64) .nil
def vinculumref07_Point.h : Int → vinculumref07_Point.Q.T × List Int := fun b => ((b, ()), [])
noncomputable def vinculumref07_Point.D : Decl Int := ⟨(Go.Proofs.Tryd.f18.body).getD .skip, 27, [.tmp 4], vinculumref07_Point.A, vinculumref07_Point.Q, fun y m => y.1, T0, [], [], []⟩
noncomputable def vinculumref07_Point.S (k : Nat) : List (Nat × E.Spec Int) := [(12, told _ vinculumref07_Turned.A vinculumref07_Turned.Q (vinculumref07_Turned.g k) vinculumref07_Turned.h), (35, told _ vinculumref03_Pow.A vinculumref03_Pow.Q (vinculumref03_Pow.g k) vinculumref03_Pow.h)]
noncomputable def vinculumref07_Point.f0 (k : Nat) (a0_0 : Int) (a0_1 : Int) (a0_2 : Int) (a0_3 : Int) (a1 : Int) : Option Int := vinculumref07_Point.D.val vinculumref07_Point.S k ((a0_0, a0_1, a0_2, a0_3, ()), a1, ())
noncomputable def vinculumref07_Point.f := (still vinculumref07_Point.f0).1
theorem vinculumref07_Point.f_def : vinculumref07_Point.f = vinculumref07_Point.f0 := (still vinculumref07_Point.f0).2
noncomputable def vinculumref07_Point.g (k : Nat) (x : vinculumref07_Point.A.T) : Option Int := vinculumref07_Point.f k (x.1.1) (x.1.2.1) (x.1.2.2.1) (x.1.2.2.2.1) (x.2.1)
theorem vinculumref07_Point.does (k : Nat) : Does PG 18 vinculumref07_Point.A vinculumref07_Point.Q (vinculumref07_Point.g k) vinculumref07_Point.h := (show vinculumref07_Point.g k = vinculumref07_Point.D.val vinculumref07_Point.S k from funext fun _ => by unfold vinculumref07_Point.g; rw [vinculumref07_Point.f_def]; rfl) ▸ Decl.does (D := vinculumref07_Point.D) (S := vinculumref07_Point.S) (fn := Go.Proofs.Tryd.f18) ⟨by kernel_rfl, by kernel_rfl, by kernel_rfl, by kernel_rfl, by kernel_rfl, by kernel_rfl, TT.of_ok _ T0ex, by kernel_rfl⟩ (fun k => ⟨told_ok (vinculumref07_Turned.does k), ⟨told_ok (vinculumref03_Pow.does k), trivial⟩⟩) (fun _ _ h => by rw [h rfl]; rfl) k
/-! vinculumlaw07_TftPoints: function 4 -/
def vinculumlaw07_TftPoints.A : AK := .p (.int .u64) (.p (.int .i64) (.p (.int .i64) .nil))
def vinculumlaw07_TftPoints.Q : RK := .p (.bool) .nil
def vinculumlaw07_TftPoints.h : Bool → vinculumlaw07_TftPoints.Q.T × List Int := fun b => ((b, ()), [])
noncomputable def vinculumlaw07_TftPoints.D : Decl Bool := ⟨(Go.Proofs.Tryd.f4.body).getD .skip, 104, [.tmp 6], vinculumlaw07_TftPoints.A, vinculumlaw07_TftPoints.Q, fun y m => y.1, T0, [], [], []⟩
noncomputable def vinculumlaw07_TftPoints.S (k : Nat) : List (Nat × E.Spec Bool) := [(13, told _ vinculumlaw07_awake.A vinculumlaw07_awake.Q (vinculumlaw07_awake.g k) vinculumlaw07_awake.h), (14, told _ tft_New.A tft_New.Q (tft_New.g k) tft_New.h), (15, told _ vinculumref06_New.A vinculumref06_New.Q (vinculumref06_New.g k) vinculumref06_New.h), (16, told _ tft_Plan_Point.A tft_Plan_Point.Q (tft_Plan_Point.g k) tft_Plan_Point.h), (17, told _ tft_Plan_Most.A tft_Plan_Most.Q (tft_Plan_Most.g k) tft_Plan_Most.h), (18, told _ vinculumref07_Point.A vinculumref07_Point.Q (vinculumref07_Point.g k) vinculumref07_Point.h)]
noncomputable def vinculumlaw07_TftPoints.f0 (k : Nat) (a0 : Int) (a1 : Int) (a2 : Int) : Option Bool := vinculumlaw07_TftPoints.D.val vinculumlaw07_TftPoints.S k (a0, a1, a2, ())
noncomputable def vinculumlaw07_TftPoints.f := (still vinculumlaw07_TftPoints.f0).1
theorem vinculumlaw07_TftPoints.f_def : vinculumlaw07_TftPoints.f = vinculumlaw07_TftPoints.f0 := (still vinculumlaw07_TftPoints.f0).2
noncomputable def vinculumlaw07_TftPoints.g (k : Nat) (x : vinculumlaw07_TftPoints.A.T) : Option Bool := vinculumlaw07_TftPoints.f k (x.1) (x.2.1) (x.2.2.1)
theorem vinculumlaw07_TftPoints.does (k : Nat) : Does PG 4 vinculumlaw07_TftPoints.A vinculumlaw07_TftPoints.Q (vinculumlaw07_TftPoints.g k) vinculumlaw07_TftPoints.h := (show vinculumlaw07_TftPoints.g k = vinculumlaw07_TftPoints.D.val vinculumlaw07_TftPoints.S k from funext fun _ => by unfold vinculumlaw07_TftPoints.g; rw [vinculumlaw07_TftPoints.f_def]; rfl) ▸ Decl.does (D := vinculumlaw07_TftPoints.D) (S := vinculumlaw07_TftPoints.S) (fn := Go.Proofs.Tryd.f4) ⟨by kernel_rfl, by kernel_rfl, by kernel_rfl, by kernel_rfl, by kernel_rfl, by kernel_rfl, TT.of_ok _ T0ex, by kernel_rfl⟩ (fun k => ⟨told_ok (vinculumlaw07_awake.does k), ⟨told_ok (tft_New.does k), ⟨told_ok (vinculumref06_New.does k), ⟨told_ok (tft_Plan_Point.does k), ⟨told_ok (tft_Plan_Most.does k), ⟨told_ok (vinculumref07_Point.does k), trivial⟩⟩⟩⟩⟩⟩) (fun _ _ h => by rw [h rfl]; rfl) k
/-! vinculumref06_Value: function 39 -/
def vinculumref06_Value.A : AK := .p (.row .u64) (.p (.int .u64) (.p (.int .u64) .nil))
def vinculumref06_Value.Q : RK := .p (.int .u64) .nil
def vinculumref06_Value.h : Int → vinculumref06_Value.Q.T × List Int := fun b => ((b, ()), [])
noncomputable def vinculumref06_Value.D : Decl Int := ⟨(Go.Proofs.Tryd.f39.body).getD .skip, 27, [.tmp 6], vinculumref06_Value.A, vinculumref06_Value.Q, fun y m => y.1, T0, [], [(3, [(0, .p (some (.row .u64))), (1, .p (some (.int .u64))), (2, .p (some (.int .u64))), (7, .p (some (.int .u64))), (8, .p (some (.int .i64)))])], []⟩
noncomputable def vinculumref06_Value.S (k : Nat) : List (Nat × E.Spec Int) := [(41, told _ vinculumref03_Add.A vinculumref03_Add.Q (vinculumref03_Add.g k) vinculumref03_Add.h), (42, told _ vinculumref03_Mul.A vinculumref03_Mul.Q (vinculumref03_Mul.g k) vinculumref03_Mul.h)]
noncomputable def vinculumref06_Value.l3 (k : Nat) (x0 : List Int) (x1 : Int) (x2 : Int) (x7 : Int) (x8 : Int) : Option Int := vinculumref06_Value.D.F vinculumref06_Value.S k 7 [.p (.row .u64 x0), .p (.lit (.int .u64 x1)), .p (.lit (.int .u64 x2)), .p (.lit (.int .u64 x7)), .p (.lit (.int .i64 x8))]
noncomputable def vinculumref06_Value.f0 (k : Nat) (a0 : List Int) (a1 : Int) (a2 : Int) : Option Int := vinculumref06_Value.D.val vinculumref06_Value.S k (a0, a1, a2, ())
noncomputable def vinculumref06_Value.f := (still vinculumref06_Value.f0).1
theorem vinculumref06_Value.f_def : vinculumref06_Value.f = vinculumref06_Value.f0 := (still vinculumref06_Value.f0).2
noncomputable def vinculumref06_Value.g (k : Nat) (x : vinculumref06_Value.A.T) : Option Int := vinculumref06_Value.f k (x.1) (x.2.1) (x.2.2.1)
theorem vinculumref06_Value.does (k : Nat) : Does PG 39 vinculumref06_Value.A vinculumref06_Value.Q (vinculumref06_Value.g k) vinculumref06_Value.h := (show vinculumref06_Value.g k = vinculumref06_Value.D.val vinculumref06_Value.S k from funext fun _ => by unfold vinculumref06_Value.g; rw [vinculumref06_Value.f_def]; rfl) ▸ Decl.does (D := vinculumref06_Value.D) (S := vinculumref06_Value.S) (fn := Go.Proofs.Tryd.f39) ⟨by kernel_rfl, by kernel_rfl, by kernel_rfl, by kernel_rfl, by kernel_rfl, by kernel_rfl, TT.of_ok _ T0ex, by kernel_rfl⟩ (fun k => ⟨told_ok (vinculumref03_Add.does k), ⟨told_ok (vinculumref03_Mul.does k), trivial⟩⟩) (fun _ _ h => by rw [h rfl]; rfl) k
/-! vinculumref07_Go: function 21 -/
def vinculumref07_Go.A : AK := .p (.fp 37 (.cons (.int .u64) (.cons (.int .i64) (.cons (.int .i64) (.cons (.int .u64) .nil))))) (.p (.row .u64) (.p (.int .i64) .nil))
def vinculumref07_Go.Q : RK := .o (.num .u64) 27 .nil
def vinculumref07_Go.h : List Int → vinculumref07_Go.Q.T × List Int := fun b => (((b), ()), [])
noncomputable def vinculumref07_Go.D : Decl (List Int) := ⟨(Go.Proofs.Tryd.f21.body).getD .skip, 27, [.tmp 6], vinculumref07_Go.A, vinculumref07_Go.Q, fun y m => y.1, T0, [], [(3, [(0, .p (some (.fp 37 (.cons (.int .u64) (.cons (.int .i64) (.cons (.int .i64) (.cons (.int .u64) .nil))))))), (1, .p (some (.row .u64))), (2, .p (some (.int .i64))), (7, .m (.num .u64) 27), (8, .p (some (.int .i64)))])], []⟩
noncomputable def vinculumref07_Go.S (k : Nat) : List (Nat × E.Spec (List Int)) := [(18, told _ vinculumref07_Point.A vinculumref07_Point.Q (vinculumref07_Point.g k) vinculumref07_Point.h), (39, told _ vinculumref06_Value.A vinculumref06_Value.Q (vinculumref06_Value.g k) vinculumref06_Value.h)]
noncomputable def vinculumref07_Go.l3 (k : Nat) (x0_0 : Int) (x0_1 : Int) (x0_2 : Int) (x0_3 : Int) (x1 : List Int) (x2 : Int) (x7 : List Int) (x8 : Int) : Option (List Int) := vinculumref07_Go.D.F vinculumref07_Go.S k 7 [.p (.fp 37 [.lit (.int .u64 x0_0), .lit (.int .i64 x0_1), .lit (.int .i64 x0_2), .lit (.int .u64 x0_3)]), .p (.row .u64 x1), .p (.lit (.int .i64 x2)), .m x7, .p (.lit (.int .i64 x8))]
noncomputable def vinculumref07_Go.f0 (k : Nat) (a0_0 : Int) (a0_1 : Int) (a0_2 : Int) (a0_3 : Int) (a1 : List Int) (a2 : Int) : Option (List Int) := vinculumref07_Go.D.val vinculumref07_Go.S k ((a0_0, a0_1, a0_2, a0_3, ()), a1, a2, ())
noncomputable def vinculumref07_Go.f := (still vinculumref07_Go.f0).1
theorem vinculumref07_Go.f_def : vinculumref07_Go.f = vinculumref07_Go.f0 := (still vinculumref07_Go.f0).2
noncomputable def vinculumref07_Go.g (k : Nat) (x : vinculumref07_Go.A.T) : Option (List Int) := vinculumref07_Go.f k (x.1.1) (x.1.2.1) (x.1.2.2.1) (x.1.2.2.2.1) (x.2.1) (x.2.2.1)
theorem vinculumref07_Go.does (k : Nat) : Does PG 21 vinculumref07_Go.A vinculumref07_Go.Q (vinculumref07_Go.g k) vinculumref07_Go.h := (show vinculumref07_Go.g k = vinculumref07_Go.D.val vinculumref07_Go.S k from funext fun _ => by unfold vinculumref07_Go.g; rw [vinculumref07_Go.f_def]; rfl) ▸ Decl.does (D := vinculumref07_Go.D) (S := vinculumref07_Go.S) (fn := Go.Proofs.Tryd.f21) ⟨by kernel_rfl, by kernel_rfl, by kernel_rfl, by kernel_rfl, by kernel_rfl, by kernel_rfl, TT.of_ok _ T0ex, by kernel_rfl⟩ (fun k => ⟨told_ok (vinculumref07_Point.does k), ⟨told_ok (vinculumref06_Value.does k), trivial⟩⟩) (fun _ _ h => by rw [h rfl]; rfl) k
/-! vinculumlaw07_TftValues: function 5 -/
def vinculumlaw07_TftValues.A : AK := .p (.int .u64) (.p (.row .u64) (.p (.int .i64) .nil))
def vinculumlaw07_TftValues.Q : RK := .p (.bool) .nil
def vinculumlaw07_TftValues.h : Bool → vinculumlaw07_TftValues.Q.T × List Int := fun b => ((b, ()), [])
noncomputable def vinculumlaw07_TftValues.D : Decl Bool := ⟨(Go.Proofs.Tryd.f5.body).getD .skip, 93, [.tmp 6], vinculumlaw07_TftValues.A, vinculumlaw07_TftValues.Q, fun y m => y.1, T0, [], [], []⟩
noncomputable def vinculumlaw07_TftValues.S (k : Nat) : List (Nat × E.Spec Bool) := [(13, told _ vinculumlaw07_awake.A vinculumlaw07_awake.Q (vinculumlaw07_awake.g k) vinculumlaw07_awake.h), (14, told _ tft_New.A tft_New.Q (tft_New.g k) tft_New.h), (15, told _ vinculumref06_New.A vinculumref06_New.Q (vinculumref06_New.g k) vinculumref06_New.h), (19, told _ tft_Plan_Go.A tft_Plan_Go.Q (tft_Plan_Go.g k) tft_Plan_Go.h), (20, told _ vinculumref06_Same.A vinculumref06_Same.Q (vinculumref06_Same.g k) vinculumref06_Same.h), (21, told _ vinculumref07_Go.A vinculumref07_Go.Q (vinculumref07_Go.g k) vinculumref07_Go.h)]
noncomputable def vinculumlaw07_TftValues.f0 (k : Nat) (a0 : Int) (a1 : List Int) (a2 : Int) : Option Bool := vinculumlaw07_TftValues.D.val vinculumlaw07_TftValues.S k (a0, a1, a2, ())
noncomputable def vinculumlaw07_TftValues.f := (still vinculumlaw07_TftValues.f0).1
theorem vinculumlaw07_TftValues.f_def : vinculumlaw07_TftValues.f = vinculumlaw07_TftValues.f0 := (still vinculumlaw07_TftValues.f0).2
noncomputable def vinculumlaw07_TftValues.g (k : Nat) (x : vinculumlaw07_TftValues.A.T) : Option Bool := vinculumlaw07_TftValues.f k (x.1) (x.2.1) (x.2.2.1)
theorem vinculumlaw07_TftValues.does (k : Nat) : Does PG 5 vinculumlaw07_TftValues.A vinculumlaw07_TftValues.Q (vinculumlaw07_TftValues.g k) vinculumlaw07_TftValues.h := (show vinculumlaw07_TftValues.g k = vinculumlaw07_TftValues.D.val vinculumlaw07_TftValues.S k from funext fun _ => by unfold vinculumlaw07_TftValues.g; rw [vinculumlaw07_TftValues.f_def]; rfl) ▸ Decl.does (D := vinculumlaw07_TftValues.D) (S := vinculumlaw07_TftValues.S) (fn := Go.Proofs.Tryd.f5) ⟨by kernel_rfl, by kernel_rfl, by kernel_rfl, by kernel_rfl, by kernel_rfl, by kernel_rfl, TT.of_ok _ T0ex, by kernel_rfl⟩ (fun k => ⟨told_ok (vinculumlaw07_awake.does k), ⟨told_ok (tft_New.does k), ⟨told_ok (vinculumref06_New.does k), ⟨told_ok (tft_Plan_Go.does k), ⟨told_ok (vinculumref06_Same.does k), ⟨told_ok (vinculumref07_Go.does k), trivial⟩⟩⟩⟩⟩⟩) (fun _ _ h => by rw [h rfl]; rfl) k
/-! vinculumlaw07_TftFinds: function 6 -/
def vinculumlaw07_TftFinds.A : AK := .p (.int .u64) (.p (.row .u64) .nil)
def vinculumlaw07_TftFinds.Q : RK := .p (.bool) .nil
def vinculumlaw07_TftFinds.h : Bool → vinculumlaw07_TftFinds.Q.T × List Int := fun b => ((b, ()), [])
noncomputable def vinculumlaw07_TftFinds.D : Decl Bool := ⟨(Go.Proofs.Tryd.f6.body).getD .skip, 103, [.tmp 4], vinculumlaw07_TftFinds.A, vinculumlaw07_TftFinds.Q, fun y m => y.1, T0, [], [(16, [(0, .p (some (.int .u64))), (1, .p (some (.row .u64))), (9, .p (some (.row .u64))), (11, .p (some (.row .u64))), (12, .p (some (.int .i64)))])], []⟩
noncomputable def vinculumlaw07_TftFinds.S (k : Nat) : List (Nat × E.Spec Bool) := [(13, told _ vinculumlaw07_awake.A vinculumlaw07_awake.Q (vinculumlaw07_awake.g k) vinculumlaw07_awake.h), (14, told _ tft_New.A tft_New.Q (tft_New.g k) tft_New.h), (15, told _ vinculumref06_New.A vinculumref06_New.Q (vinculumref06_New.g k) vinculumref06_New.h), (21, told _ vinculumref07_Go.A vinculumref07_Go.Q (vinculumref07_Go.g k) vinculumref07_Go.h), (22, told _ tft_Plan_Back.A tft_Plan_Back.Q (tft_Plan_Back.g k) tft_Plan_Back.h)]
noncomputable def vinculumlaw07_TftFinds.l16 (k : Nat) (x0 : Int) (x1 : List Int) (x9 : List Int) (x11 : List Int) (x12 : Int) : Option Bool := vinculumlaw07_TftFinds.D.F vinculumlaw07_TftFinds.S k 33 [.p (.lit (.int .u64 x0)), .p (.row .u64 x1), .p (.row .u64 x9), .p (.row .u64 x11), .p (.lit (.int .i64 x12))]
noncomputable def vinculumlaw07_TftFinds.f0 (k : Nat) (a0 : Int) (a1 : List Int) : Option Bool := vinculumlaw07_TftFinds.D.val vinculumlaw07_TftFinds.S k (a0, a1, ())
noncomputable def vinculumlaw07_TftFinds.f := (still vinculumlaw07_TftFinds.f0).1
theorem vinculumlaw07_TftFinds.f_def : vinculumlaw07_TftFinds.f = vinculumlaw07_TftFinds.f0 := (still vinculumlaw07_TftFinds.f0).2
noncomputable def vinculumlaw07_TftFinds.g (k : Nat) (x : vinculumlaw07_TftFinds.A.T) : Option Bool := vinculumlaw07_TftFinds.f k (x.1) (x.2.1)
theorem vinculumlaw07_TftFinds.does (k : Nat) : Does PG 6 vinculumlaw07_TftFinds.A vinculumlaw07_TftFinds.Q (vinculumlaw07_TftFinds.g k) vinculumlaw07_TftFinds.h := (show vinculumlaw07_TftFinds.g k = vinculumlaw07_TftFinds.D.val vinculumlaw07_TftFinds.S k from funext fun _ => by unfold vinculumlaw07_TftFinds.g; rw [vinculumlaw07_TftFinds.f_def]; rfl) ▸ Decl.does (D := vinculumlaw07_TftFinds.D) (S := vinculumlaw07_TftFinds.S) (fn := Go.Proofs.Tryd.f6) ⟨by kernel_rfl, by kernel_rfl, by kernel_rfl, by kernel_rfl, by kernel_rfl, by kernel_rfl, TT.of_ok _ T0ex, by kernel_rfl⟩ (fun k => ⟨told_ok (vinculumlaw07_awake.does k), ⟨told_ok (tft_New.does k), ⟨told_ok (vinculumref06_New.does k), ⟨told_ok (vinculumref07_Go.does k), ⟨told_ok (tft_Plan_Back.does k), trivial⟩⟩⟩⟩⟩) (fun _ _ h => by rw [h rfl]; rfl) k
/-! vinculumlaw07_great: function 23 -/
def vinculumlaw07_great.A : AK := .p (.int .i64) .nil
def vinculumlaw07_great.Q : RK := .p (.int .u64) .nil
def vinculumlaw07_great.h : Int → vinculumlaw07_great.Q.T × List Int := fun b => ((b, ()), [])
noncomputable def vinculumlaw07_great.D : Decl Int := ⟨(Go.Proofs.Tryd.f23.body).getD .skip, 12, [.tmp 2], vinculumlaw07_great.A, vinculumlaw07_great.Q, fun y m => y.1, T0, [], [], []⟩
noncomputable def vinculumlaw07_great.S (k : Nat) : List (Nat × E.Spec Int) := []
noncomputable def vinculumlaw07_great.f0 (k : Nat) (a0 : Int) : Option Int := vinculumlaw07_great.D.val vinculumlaw07_great.S k (a0, ())
noncomputable def vinculumlaw07_great.f := (still vinculumlaw07_great.f0).1
theorem vinculumlaw07_great.f_def : vinculumlaw07_great.f = vinculumlaw07_great.f0 := (still vinculumlaw07_great.f0).2
noncomputable def vinculumlaw07_great.g (k : Nat) (x : vinculumlaw07_great.A.T) : Option Int := vinculumlaw07_great.f k (x.1)
theorem vinculumlaw07_great.does (k : Nat) : Does PG 23 vinculumlaw07_great.A vinculumlaw07_great.Q (vinculumlaw07_great.g k) vinculumlaw07_great.h := (show vinculumlaw07_great.g k = vinculumlaw07_great.D.val vinculumlaw07_great.S k from funext fun _ => by unfold vinculumlaw07_great.g; rw [vinculumlaw07_great.f_def]; rfl) ▸ Decl.does (D := vinculumlaw07_great.D) (S := vinculumlaw07_great.S) (fn := Go.Proofs.Tryd.f23) ⟨by kernel_rfl, by kernel_rfl, by kernel_rfl, by kernel_rfl, by kernel_rfl, by kernel_rfl, TT.of_ok _ T0ex, by kernel_rfl⟩ (fun k => trivial) (fun _ _ h => by rw [h rfl]; rfl) k
/-! vinculumlaw07_TftBack: function 7 -/
def vinculumlaw07_TftBack.A : AK := .p (.int .i64) (.p (.int .i64) (.p (.row .u64) .nil))
def vinculumlaw07_TftBack.Q : RK := .p (.bool) .nil
def vinculumlaw07_TftBack.h : Bool → vinculumlaw07_TftBack.Q.T × List Int := fun b => ((b, ()), [])
noncomputable def vinculumlaw07_TftBack.D : Decl Bool := ⟨(Go.Proofs.Tryd.f7.body).getD .skip, 104, [.tmp 6], vinculumlaw07_TftBack.A, vinculumlaw07_TftBack.Q, fun y m => y.1, T0, [], [(15, [(2, .p (some (.row .u64))), (7, .p (some (.int .u64))), (14, .p (some (.row .u64))), (16, .p (some (.int .i64)))])], []⟩
noncomputable def vinculumlaw07_TftBack.S (k : Nat) : List (Nat × E.Spec Bool) := [(13, told _ vinculumlaw07_awake.A vinculumlaw07_awake.Q (vinculumlaw07_awake.g k) vinculumlaw07_awake.h), (14, told _ tft_New.A tft_New.Q (tft_New.g k) tft_New.h), (17, told _ tft_Plan_Most.A tft_Plan_Most.Q (tft_Plan_Most.g k) tft_Plan_Most.h), (19, told _ tft_Plan_Go.A tft_Plan_Go.Q (tft_Plan_Go.g k) tft_Plan_Go.h), (22, told _ tft_Plan_Back.A tft_Plan_Back.Q (tft_Plan_Back.g k) tft_Plan_Back.h), (23, told _ vinculumlaw07_great.A vinculumlaw07_great.Q (vinculumlaw07_great.g k) vinculumlaw07_great.h)]
noncomputable def vinculumlaw07_TftBack.l15 (k : Nat) (x2 : List Int) (x7 : Int) (x14 : List Int) (x16 : Int) : Option Bool := vinculumlaw07_TftBack.D.F vinculumlaw07_TftBack.S k 31 [.p (.row .u64 x2), .p (.lit (.int .u64 x7)), .p (.row .u64 x14), .p (.lit (.int .i64 x16))]
noncomputable def vinculumlaw07_TftBack.f0 (k : Nat) (a0 : Int) (a1 : Int) (a2 : List Int) : Option Bool := vinculumlaw07_TftBack.D.val vinculumlaw07_TftBack.S k (a0, a1, a2, ())
noncomputable def vinculumlaw07_TftBack.f := (still vinculumlaw07_TftBack.f0).1
theorem vinculumlaw07_TftBack.f_def : vinculumlaw07_TftBack.f = vinculumlaw07_TftBack.f0 := (still vinculumlaw07_TftBack.f0).2
noncomputable def vinculumlaw07_TftBack.g (k : Nat) (x : vinculumlaw07_TftBack.A.T) : Option Bool := vinculumlaw07_TftBack.f k (x.1) (x.2.1) (x.2.2.1)
theorem vinculumlaw07_TftBack.does (k : Nat) : Does PG 7 vinculumlaw07_TftBack.A vinculumlaw07_TftBack.Q (vinculumlaw07_TftBack.g k) vinculumlaw07_TftBack.h := (show vinculumlaw07_TftBack.g k = vinculumlaw07_TftBack.D.val vinculumlaw07_TftBack.S k from funext fun _ => by unfold vinculumlaw07_TftBack.g; rw [vinculumlaw07_TftBack.f_def]; rfl) ▸ Decl.does (D := vinculumlaw07_TftBack.D) (S := vinculumlaw07_TftBack.S) (fn := Go.Proofs.Tryd.f7) ⟨by kernel_rfl, by kernel_rfl, by kernel_rfl, by kernel_rfl, by kernel_rfl, by kernel_rfl, TT.of_ok _ T0ex, by kernel_rfl⟩ (fun k => ⟨told_ok (vinculumlaw07_awake.does k), ⟨told_ok (tft_New.does k), ⟨told_ok (tft_Plan_Most.does k), ⟨told_ok (tft_Plan_Go.does k), ⟨told_ok (tft_Plan_Back.does k), ⟨told_ok (vinculumlaw07_great.does k), trivial⟩⟩⟩⟩⟩⟩) (fun _ _ h => by rw [h rfl]; rfl) k
/-! vinculumlaw07_TftApart: function 8 -/
def vinculumlaw07_TftApart.A : AK := .p (.int .i64) (.p (.row .u64) (.p (.agg (.cons (.int .i64) (.cons (.int .i64) .nil))) .nil))
def vinculumlaw07_TftApart.Q : RK := .p (.bool) .nil
def vinculumlaw07_TftApart.h : Bool → vinculumlaw07_TftApart.Q.T × List Int := fun b => ((b, ()), [])
noncomputable def vinculumlaw07_TftApart.D : Decl Bool := ⟨(Go.Proofs.Tryd.f8.body).getD .skip, 130, [.tmp 6], vinculumlaw07_TftApart.A, vinculumlaw07_TftApart.Q, fun y m => y.1, T0, [], [(7, [(1, .p (some (.row .u64))), (5, .b (some (.cons (.int .i64) (.cons (.int .i64) .nil)))), (8, .p (some (.fp 65 (.cons (.fp 81 (.cons (.int .u64) (.cons (.int .u64) (.cons (.int .u64) .nil)))) (.cons (.int .i64) (.cons (.row .u64) (.cons (.int .u64) .nil))))))), (10, .q .u64 .i64), (11, .p (some (.int .i64)))])], [(17, [16])]⟩
noncomputable def vinculumlaw07_TftApart.S (k : Nat) : List (Nat × E.Spec Bool) := [(13, told _ vinculumlaw07_awake.A vinculumlaw07_awake.Q (vinculumlaw07_awake.g k) vinculumlaw07_awake.h), (14, told _ tft_New.A tft_New.Q (tft_New.g k) tft_New.h), (16, told _ tft_Plan_Point.A tft_Plan_Point.Q (tft_Plan_Point.g k) tft_Plan_Point.h), (17, told _ tft_Plan_Most.A tft_Plan_Most.Q (tft_Plan_Most.g k) tft_Plan_Most.h), (19, told _ tft_Plan_Go.A tft_Plan_Go.Q (tft_Plan_Go.g k) tft_Plan_Go.h), (20, told _ vinculumref06_Same.A vinculumref06_Same.Q (vinculumref06_Same.g k) vinculumref06_Same.h), (23, told _ vinculumlaw07_great.A vinculumlaw07_great.Q (vinculumlaw07_great.g k) vinculumlaw07_great.h)]
noncomputable def vinculumlaw07_TftApart.l7 (k : Nat) (x1 : List Int) (x5_0 : Int) (x5_1 : Int) (x8_0 : Int) (x8_1 : Int) (x8_2 : Int) (x8_3 : Int) (x8_4 : List Int) (x8_5 : Int) (x10 : List Int) (x11 : Int) : Option Bool := vinculumlaw07_TftApart.D.F vinculumlaw07_TftApart.S k 15 [.p (.row .u64 x1), .b 51 [.lit (.int .i64 x5_0), .lit (.int .i64 x5_1)], .p (.fp 65 [.fp 81 [.lit (.int .u64 x8_0), .lit (.int .u64 x8_1), .lit (.int .u64 x8_2)], .lit (.int .i64 x8_3), .row .u64 x8_4, .lit (.int .u64 x8_5)]), .q x10, .p (.lit (.int .i64 x11))]
noncomputable def vinculumlaw07_TftApart.f0 (k : Nat) (a0 : Int) (a1 : List Int) (a2_0 : Int) (a2_1 : Int) : Option Bool := vinculumlaw07_TftApart.D.val vinculumlaw07_TftApart.S k (a0, a1, (a2_0, a2_1, ()), ())
noncomputable def vinculumlaw07_TftApart.f := (still vinculumlaw07_TftApart.f0).1
theorem vinculumlaw07_TftApart.f_def : vinculumlaw07_TftApart.f = vinculumlaw07_TftApart.f0 := (still vinculumlaw07_TftApart.f0).2
noncomputable def vinculumlaw07_TftApart.g (k : Nat) (x : vinculumlaw07_TftApart.A.T) : Option Bool := vinculumlaw07_TftApart.f k (x.1) (x.2.1) (x.2.2.1.1) (x.2.2.1.2.1)
theorem vinculumlaw07_TftApart.does (k : Nat) : Does PG 8 vinculumlaw07_TftApart.A vinculumlaw07_TftApart.Q (vinculumlaw07_TftApart.g k) vinculumlaw07_TftApart.h := (show vinculumlaw07_TftApart.g k = vinculumlaw07_TftApart.D.val vinculumlaw07_TftApart.S k from funext fun _ => by unfold vinculumlaw07_TftApart.g; rw [vinculumlaw07_TftApart.f_def]; rfl) ▸ Decl.does (D := vinculumlaw07_TftApart.D) (S := vinculumlaw07_TftApart.S) (fn := Go.Proofs.Tryd.f8) ⟨by kernel_rfl, by kernel_rfl, by kernel_rfl, by kernel_rfl, by kernel_rfl, by kernel_rfl, TT.of_ok _ T0ex, by kernel_rfl⟩ (fun k => ⟨told_ok (vinculumlaw07_awake.does k), ⟨told_ok (tft_New.does k), ⟨told_ok (tft_Plan_Point.does k), ⟨told_ok (tft_Plan_Most.does k), ⟨told_ok (tft_Plan_Go.does k), ⟨told_ok (vinculumref06_Same.does k), ⟨told_ok (vinculumlaw07_great.does k), trivial⟩⟩⟩⟩⟩⟩⟩) (fun _ _ h => by rw [h rfl]; rfl) k
/-! tft_Plan_Mul: function 24 -/
def tft_Plan_Mul.A : AK := .p (.np 65 (.cons (.fp 81 (.cons (.int .u64) (.cons (.int .u64) (.cons (.int .u64) .nil)))) (.cons (.int .i64) (.cons (.row .u64) (.cons (.int .u64) .nil))))) (.p (.row .u64) (.p (.row .u64) .nil))
def tft_Plan_Mul.Q : RK := .p (.row .u64) (.p (.int .i64) .nil)
def tft_Plan_Mul.h : (List Int × Int) → tft_Plan_Mul.Q.T × List Int := fun b => ((b.1, b.2, ()), [])
noncomputable def tft_Plan_Mul.D : Decl (List Int × Int) := ⟨(Go.Proofs.Tryd.f24.body).getD .skip, 82, [.tmp 6, .tmp 7], tft_Plan_Mul.A, tft_Plan_Mul.Q, fun y m => (y.1, y.2.1), T0, [], [(15, [(0, .p (some (.fp 65 (.cons (.fp 81 (.cons (.int .u64) (.cons (.int .u64) (.cons (.int .u64) .nil)))) (.cons (.int .i64) (.cons (.row .u64) (.cons (.int .u64) .nil))))))), (9, .m (.num .u64) 27), (11, .p (some (.row .u64))), (56, .p (some (.int .i64))), (57, .p (some (.int .i64)))])], [(19, [9])]⟩
noncomputable def tft_Plan_Mul.S (k : Nat) : List (Nat × E.Spec (List Int × Int)) := [(17, told _ tft_Plan_Most.A tft_Plan_Most.Q (tft_Plan_Most.g k) tft_Plan_Most.h), (19, told _ tft_Plan_Go.A tft_Plan_Go.Q (tft_Plan_Go.g k) tft_Plan_Go.h), (22, told _ tft_Plan_Back.A tft_Plan_Back.Q (tft_Plan_Back.g k) tft_Plan_Back.h), (29, told _ word_Field_Mul.A word_Field_Mul.Q (word_Field_Mul.g k) word_Field_Mul.h)]
noncomputable def tft_Plan_Mul.l15 (k : Nat) (x0_0 : Int) (x0_1 : Int) (x0_2 : Int) (x0_3 : Int) (x0_4 : List Int) (x0_5 : Int) (x9 : List Int) (x11 : List Int) (x56 : Int) (x57 : Int) : Option (List Int × Int) := tft_Plan_Mul.D.F tft_Plan_Mul.S k 31 [.p (.fp 65 [.fp 81 [.lit (.int .u64 x0_0), .lit (.int .u64 x0_1), .lit (.int .u64 x0_2)], .lit (.int .i64 x0_3), .row .u64 x0_4, .lit (.int .u64 x0_5)]), .m x9, .p (.row .u64 x11), .p (.lit (.int .i64 x56)), .p (.lit (.int .i64 x57))]
noncomputable def tft_Plan_Mul.f0 (k : Nat) (a0 : Option ((Int × Int × Int × Unit) × Int × List Int × Int × Unit)) (a1 : List Int) (a2 : List Int) : Option (List Int × Int) := tft_Plan_Mul.D.val tft_Plan_Mul.S k (a0, a1, a2, ())
noncomputable def tft_Plan_Mul.f := (still tft_Plan_Mul.f0).1
theorem tft_Plan_Mul.f_def : tft_Plan_Mul.f = tft_Plan_Mul.f0 := (still tft_Plan_Mul.f0).2
noncomputable def tft_Plan_Mul.g (k : Nat) (x : tft_Plan_Mul.A.T) : Option (List Int × Int) := tft_Plan_Mul.f k (x.1) (x.2.1) (x.2.2.1)
theorem tft_Plan_Mul.does (k : Nat) : Does PG 24 tft_Plan_Mul.A tft_Plan_Mul.Q (tft_Plan_Mul.g k) tft_Plan_Mul.h := (show tft_Plan_Mul.g k = tft_Plan_Mul.D.val tft_Plan_Mul.S k from funext fun _ => by unfold tft_Plan_Mul.g; rw [tft_Plan_Mul.f_def]; rfl) ▸ Decl.does (D := tft_Plan_Mul.D) (S := tft_Plan_Mul.S) (fn := Go.Proofs.Tryd.f24) ⟨by kernel_rfl, by kernel_rfl, by kernel_rfl, by kernel_rfl, by kernel_rfl, by kernel_rfl, TT.of_ok _ T0ex, by kernel_rfl⟩ (fun k => ⟨told_ok (tft_Plan_Most.does k), ⟨told_ok (tft_Plan_Go.does k), ⟨told_ok (tft_Plan_Back.does k), ⟨told_ok (word_Field_Mul.does k), trivial⟩⟩⟩⟩) (fun _ _ h => by rw [h rfl]; rfl) k
/-! vinculumref06_Mul: function 25 -/
def vinculumref06_Mul.A : AK := .p (.row .u64) (.p (.row .u64) (.p (.int .u64) .nil))
def vinculumref06_Mul.Q : RK := .o (.num .u64) 27 .nil
def vinculumref06_Mul.h : List Int → vinculumref06_Mul.Q.T × List Int := fun b => (((b), ()), [])
noncomputable def vinculumref06_Mul.D : Decl (List Int) := ⟨(Go.Proofs.Tryd.f25.body).getD .skip, 61, [.tmp 6], vinculumref06_Mul.A, vinculumref06_Mul.Q, fun y m => y.1, T0, [], [(8, [(0, .p (some (.row .u64))), (1, .p (some (.row .u64))), (2, .p (some (.int .u64))), (7, .m (.num .u64) 27), (8, .p (some (.int .i64))), (9, .p (some (.int .i64)))]), (5, [(0, .p (some (.row .u64))), (1, .p (some (.row .u64))), (2, .p (some (.int .u64))), (7, .m (.num .u64) 27), (8, .p (some (.int .i64)))])], []⟩
noncomputable def vinculumref06_Mul.S (k : Nat) : List (Nat × E.Spec (List Int)) := [(41, told _ vinculumref03_Add.A vinculumref03_Add.Q (vinculumref03_Add.g k) vinculumref03_Add.h), (42, told _ vinculumref03_Mul.A vinculumref03_Mul.Q (vinculumref03_Mul.g k) vinculumref03_Mul.h)]
noncomputable def vinculumref06_Mul.l8 (k : Nat) (x0 : List Int) (x1 : List Int) (x2 : Int) (x7 : List Int) (x8 : Int) (x9 : Int) : Option (List Int) := vinculumref06_Mul.D.F vinculumref06_Mul.S k 17 [.p (.row .u64 x0), .p (.row .u64 x1), .p (.lit (.int .u64 x2)), .m x7, .p (.lit (.int .i64 x8)), .p (.lit (.int .i64 x9))]
noncomputable def vinculumref06_Mul.l5 (k : Nat) (x0 : List Int) (x1 : List Int) (x2 : Int) (x7 : List Int) (x8 : Int) : Option (List Int) := vinculumref06_Mul.D.F vinculumref06_Mul.S k 11 [.p (.row .u64 x0), .p (.row .u64 x1), .p (.lit (.int .u64 x2)), .m x7, .p (.lit (.int .i64 x8))]
noncomputable def vinculumref06_Mul.f0 (k : Nat) (a0 : List Int) (a1 : List Int) (a2 : Int) : Option (List Int) := vinculumref06_Mul.D.val vinculumref06_Mul.S k (a0, a1, a2, ())
noncomputable def vinculumref06_Mul.f := (still vinculumref06_Mul.f0).1
theorem vinculumref06_Mul.f_def : vinculumref06_Mul.f = vinculumref06_Mul.f0 := (still vinculumref06_Mul.f0).2
noncomputable def vinculumref06_Mul.g (k : Nat) (x : vinculumref06_Mul.A.T) : Option (List Int) := vinculumref06_Mul.f k (x.1) (x.2.1) (x.2.2.1)
theorem vinculumref06_Mul.does (k : Nat) : Does PG 25 vinculumref06_Mul.A vinculumref06_Mul.Q (vinculumref06_Mul.g k) vinculumref06_Mul.h := (show vinculumref06_Mul.g k = vinculumref06_Mul.D.val vinculumref06_Mul.S k from funext fun _ => by unfold vinculumref06_Mul.g; rw [vinculumref06_Mul.f_def]; rfl) ▸ Decl.does (D := vinculumref06_Mul.D) (S := vinculumref06_Mul.S) (fn := Go.Proofs.Tryd.f25) ⟨by kernel_rfl, by kernel_rfl, by kernel_rfl, by kernel_rfl, by kernel_rfl, by kernel_rfl, TT.of_ok _ T0ex, by kernel_rfl⟩ (fun k => ⟨told_ok (vinculumref03_Add.does k), ⟨told_ok (vinculumref03_Mul.does k), trivial⟩⟩) (fun _ _ h => by rw [h rfl]; rfl) k
/-! vinculumlaw07_TftMuls: function 9 -/
def vinculumlaw07_TftMuls.A : AK := .p (.int .u64) (.p (.row .u64) (.p (.row .u64) .nil))
def vinculumlaw07_TftMuls.Q : RK := .p (.bool) .nil
def vinculumlaw07_TftMuls.h : Bool → vinculumlaw07_TftMuls.Q.T × List Int := fun b => ((b, ()), [])
noncomputable def vinculumlaw07_TftMuls.D : Decl Bool := ⟨(Go.Proofs.Tryd.f9.body).getD .skip, 96, [.tmp 6], vinculumlaw07_TftMuls.A, vinculumlaw07_TftMuls.Q, fun y m => y.1, T0, [], [], []⟩
noncomputable def vinculumlaw07_TftMuls.S (k : Nat) : List (Nat × E.Spec Bool) := [(13, told _ vinculumlaw07_awake.A vinculumlaw07_awake.Q (vinculumlaw07_awake.g k) vinculumlaw07_awake.h), (14, told _ tft_New.A tft_New.Q (tft_New.g k) tft_New.h), (15, told _ vinculumref06_New.A vinculumref06_New.Q (vinculumref06_New.g k) vinculumref06_New.h), (20, told _ vinculumref06_Same.A vinculumref06_Same.Q (vinculumref06_Same.g k) vinculumref06_Same.h), (24, told _ tft_Plan_Mul.A tft_Plan_Mul.Q (tft_Plan_Mul.g k) tft_Plan_Mul.h), (25, told _ vinculumref06_Mul.A vinculumref06_Mul.Q (vinculumref06_Mul.g k) vinculumref06_Mul.h)]
noncomputable def vinculumlaw07_TftMuls.f0 (k : Nat) (a0 : Int) (a1 : List Int) (a2 : List Int) : Option Bool := vinculumlaw07_TftMuls.D.val vinculumlaw07_TftMuls.S k (a0, a1, a2, ())
noncomputable def vinculumlaw07_TftMuls.f := (still vinculumlaw07_TftMuls.f0).1
theorem vinculumlaw07_TftMuls.f_def : vinculumlaw07_TftMuls.f = vinculumlaw07_TftMuls.f0 := (still vinculumlaw07_TftMuls.f0).2
noncomputable def vinculumlaw07_TftMuls.g (k : Nat) (x : vinculumlaw07_TftMuls.A.T) : Option Bool := vinculumlaw07_TftMuls.f k (x.1) (x.2.1) (x.2.2.1)
theorem vinculumlaw07_TftMuls.does (k : Nat) : Does PG 9 vinculumlaw07_TftMuls.A vinculumlaw07_TftMuls.Q (vinculumlaw07_TftMuls.g k) vinculumlaw07_TftMuls.h := (show vinculumlaw07_TftMuls.g k = vinculumlaw07_TftMuls.D.val vinculumlaw07_TftMuls.S k from funext fun _ => by unfold vinculumlaw07_TftMuls.g; rw [vinculumlaw07_TftMuls.f_def]; rfl) ▸ Decl.does (D := vinculumlaw07_TftMuls.D) (S := vinculumlaw07_TftMuls.S) (fn := Go.Proofs.Tryd.f9) ⟨by kernel_rfl, by kernel_rfl, by kernel_rfl, by kernel_rfl, by kernel_rfl, by kernel_rfl, TT.of_ok _ T0ex, by kernel_rfl⟩ (fun k => ⟨told_ok (vinculumlaw07_awake.does k), ⟨told_ok (tft_New.does k), ⟨told_ok (vinculumref06_New.does k), ⟨told_ok (vinculumref06_Same.does k), ⟨told_ok (tft_Plan_Mul.does k), ⟨told_ok (vinculumref06_Mul.does k), trivial⟩⟩⟩⟩⟩⟩) (fun _ _ h => by rw [h rfl]; rfl) k
/-! vinculumlaw07_TftNil: function 10 -/
def vinculumlaw07_TftNil.A : AK := .p (.row .u64) (.p (.int .i64) .nil)
def vinculumlaw07_TftNil.Q : RK := .p (.bool) .nil
def vinculumlaw07_TftNil.h : Bool → vinculumlaw07_TftNil.Q.T × List Int := fun b => ((b, ()), [])
noncomputable def vinculumlaw07_TftNil.D : Decl Bool := ⟨(Go.Proofs.Tryd.f10.body).getD .skip, 66, [.tmp 4], vinculumlaw07_TftNil.A, vinculumlaw07_TftNil.Q, fun y m => y.1, T0, [], [], []⟩
noncomputable def vinculumlaw07_TftNil.S (k : Nat) : List (Nat × E.Spec Bool) := [(13, told _ vinculumlaw07_awake.A vinculumlaw07_awake.Q (vinculumlaw07_awake.g k) vinculumlaw07_awake.h), (16, told _ tft_Plan_Point.A tft_Plan_Point.Q (tft_Plan_Point.g k) tft_Plan_Point.h), (17, told _ tft_Plan_Most.A tft_Plan_Most.Q (tft_Plan_Most.g k) tft_Plan_Most.h), (19, told _ tft_Plan_Go.A tft_Plan_Go.Q (tft_Plan_Go.g k) tft_Plan_Go.h), (22, told _ tft_Plan_Back.A tft_Plan_Back.Q (tft_Plan_Back.g k) tft_Plan_Back.h), (24, told _ tft_Plan_Mul.A tft_Plan_Mul.Q (tft_Plan_Mul.g k) tft_Plan_Mul.h)]
noncomputable def vinculumlaw07_TftNil.f0 (k : Nat) (a0 : List Int) (a1 : Int) : Option Bool := vinculumlaw07_TftNil.D.val vinculumlaw07_TftNil.S k (a0, a1, ())
noncomputable def vinculumlaw07_TftNil.f := (still vinculumlaw07_TftNil.f0).1
theorem vinculumlaw07_TftNil.f_def : vinculumlaw07_TftNil.f = vinculumlaw07_TftNil.f0 := (still vinculumlaw07_TftNil.f0).2
noncomputable def vinculumlaw07_TftNil.g (k : Nat) (x : vinculumlaw07_TftNil.A.T) : Option Bool := vinculumlaw07_TftNil.f k (x.1) (x.2.1)
theorem vinculumlaw07_TftNil.does (k : Nat) : Does PG 10 vinculumlaw07_TftNil.A vinculumlaw07_TftNil.Q (vinculumlaw07_TftNil.g k) vinculumlaw07_TftNil.h := (show vinculumlaw07_TftNil.g k = vinculumlaw07_TftNil.D.val vinculumlaw07_TftNil.S k from funext fun _ => by unfold vinculumlaw07_TftNil.g; rw [vinculumlaw07_TftNil.f_def]; rfl) ▸ Decl.does (D := vinculumlaw07_TftNil.D) (S := vinculumlaw07_TftNil.S) (fn := Go.Proofs.Tryd.f10) ⟨by kernel_rfl, by kernel_rfl, by kernel_rfl, by kernel_rfl, by kernel_rfl, by kernel_rfl, TT.of_ok _ T0ex, by kernel_rfl⟩ (fun k => ⟨told_ok (vinculumlaw07_awake.does k), ⟨told_ok (tft_Plan_Point.does k), ⟨told_ok (tft_Plan_Most.does k), ⟨told_ok (tft_Plan_Go.does k), ⟨told_ok (tft_Plan_Back.does k), ⟨told_ok (tft_Plan_Mul.does k), trivial⟩⟩⟩⟩⟩⟩) (fun _ _ h => by rw [h rfl]; rfl) k
end Go.Proofs.YtfffblanmdfidaaDoor.F
end
section
namespace Go.Proofs.YtfffblanmdfidaaDoor.F
open Go.Proofs.YtfffblanmdfidaaDoor.E Go Go.RowKit Go.Proofs.YtfffblanmdfidaaDoorW.PrintWords Go.Proofs.YtfffblanmdfidaaDoorW.PrintLast
set_option linter.unusedVariables false
set_option maxRecDepth 100000
theorem bits_ReverseBytes64.f_eq (k : Nat) (a0 : Int) : bits_ReverseBytes64.f k a0 = (some (bits .or .u64 (shr .u64 (bits .or .u64 (bits .and .u64 (shr .u64 (bits .or .u64 (bits .and .u64 (shr .u64 a0 8) 71777214294589695) (shl .u64 (bits .and .u64 a0 71777214294589695) 8)) 16) 281470681808895) (shl .u64 (bits .and .u64 (bits .or .u64 (bits .and .u64 (shr .u64 a0 8) 71777214294589695) (shl .u64 (bits .and .u64 a0 71777214294589695) 8)) 281470681808895) 16)) 32) (shl .u64 (bits .or .u64 (bits .and .u64 (shr .u64 (bits .or .u64 (bits .and .u64 (shr .u64 a0 8) 71777214294589695) (shl .u64 (bits .and .u64 a0 71777214294589695) 8)) 16) 281470681808895) (shl .u64 (bits .and .u64 (bits .or .u64 (bits .and .u64 (shr .u64 a0 8) 71777214294589695) (shl .u64 (bits .and .u64 a0 71777214294589695) 8)) 281470681808895) 16)) 32)) : Option Int) := by rw [bits_ReverseBytes64.f_def]; kernel_rfl
theorem bits_Reverse64.f_eq (k : Nat) (a0 : Int) : bits_Reverse64.f k a0 = (((bits_ReverseBytes64.f k (bits .or .u64 (bits .and .u64 (shr .u64 (bits .or .u64 (bits .and .u64 (shr .u64 (bits .or .u64 (bits .and .u64 (shr .u64 a0 1) 6148914691236517205) (shl .u64 (bits .and .u64 a0 6148914691236517205) 1)) 2) 3689348814741910323) (shl .u64 (bits .and .u64 (bits .or .u64 (bits .and .u64 (shr .u64 a0 1) 6148914691236517205) (shl .u64 (bits .and .u64 a0 6148914691236517205) 1)) 3689348814741910323) 2)) 4) 1085102592571150095) (shl .u64 (bits .and .u64 (bits .or .u64 (bits .and .u64 (shr .u64 (bits .or .u64 (bits .and .u64 (shr .u64 a0 1) 6148914691236517205) (shl .u64 (bits .and .u64 a0 6148914691236517205) 1)) 2) 3689348814741910323) (shl .u64 (bits .and .u64 (bits .or .u64 (bits .and .u64 (shr .u64 a0 1) 6148914691236517205) (shl .u64 (bits .and .u64 a0 6148914691236517205) 1)) 3689348814741910323) 2)) 1085102592571150095) 4))).bind fun t0 => some t0) : Option Int) := by rw [bits_Reverse64.f_def]; kernel_rfl
theorem tft_Turned.f_eq (k : Nat) (a0 : Int) (a1 : Int) : tft_Turned.f k a0 a1 = ((if a1 < 0 then some (0, 1) else (if a1 > 20 then some (0, 1) else (if a0 < 0 then some (0, 1) else (if 0 ≤ (IntKind.u64.wrap a1) then (if a0 ≥ (shl .i64 1 (IntKind.u64.wrap a1)) then some (0, 1) else ((bits_Reverse64.f k (IntKind.u64.wrap a0)).bind fun t0 => (if 0 ≤ (IntKind.u64.wrap (wrap64 (64 - a1))) then some ((wrap64 (shr .u64 t0 (IntKind.u64.wrap (wrap64 (64 - a1))))), 0) else none))) else none)))) : Option (Int × Int)) := by rw [← W64_eq, ← WK_eq, tft_Turned.f_def]; kernel_rfl
theorem vinculumref07_Turned.l5_eq (k : Nat) (x0 : Int) (x1 : Int) (x6 : Int) (x7 : Int) : vinculumref07_Turned.l5 (k + 1) x0 x1 x6 x7 = ((if x7 < x1 then vinculumref07_Turned.l5 k (wrap64 (Int.tdiv x0 2)) x1 (wrap64 ((wrap64 (2 * x6)) + (Int.tmod x0 2))) (wrap64 (x7 + 1)) else (if x0 > 0 then some (0, 1) else some (x6, 0))) : Option (Int × Int)) := by rw [← W64_eq]; kernel_rfl
theorem vinculumref07_Turned.f_eq (k : Nat) (a0 : Int) (a1 : Int) : vinculumref07_Turned.f k a0 a1 = ((if a1 < 0 then some (0, 1) else (if a1 > 20 then some (0, 1) else (if a0 < 0 then some (0, 1) else vinculumref07_Turned.l5 k a0 a1 0 0))) : Option (Int × Int)) := by rw [vinculumref07_Turned.f_def]; kernel_rfl
theorem bits_Div64.l24_eq (k : Nat) (x2 : Int) (x8 : Int) (x9 : Int) (x10 : Int) (x14 : Int) (x15 : Int) (x16 : Int) (x17 : Int) (x18 : Int) : bits_Div64.l24 (k + 1) x2 x8 x9 x10 x14 x15 x16 x17 x18 = ((if x18 ≥ 4294967296 then (if (IntKind.u64.wrap (x16 + x9)) ≥ 4294967296 then (if 0 ≤ x8 then some ((IntKind.u64.wrap ((IntKind.u64.wrap (x15 * 4294967296)) + (IntKind.u64.wrap (x18 - 1)))), (shr .u64 (IntKind.u64.wrap ((IntKind.u64.wrap ((IntKind.u64.wrap (x17 * 4294967296)) + x14)) - (IntKind.u64.wrap ((IntKind.u64.wrap (x18 - 1)) * x2)))) x8)) else none) else bits_Div64.l24 k x2 x8 x9 x10 x14 x15 (IntKind.u64.wrap (x16 + x9)) x17 (IntKind.u64.wrap (x18 - 1))) else (if (IntKind.u64.wrap (x18 * x10)) > (IntKind.u64.wrap ((IntKind.u64.wrap (4294967296 * x16)) + x14)) then (if (IntKind.u64.wrap (x16 + x9)) ≥ 4294967296 then (if 0 ≤ x8 then some ((IntKind.u64.wrap ((IntKind.u64.wrap (x15 * 4294967296)) + (IntKind.u64.wrap (x18 - 1)))), (shr .u64 (IntKind.u64.wrap ((IntKind.u64.wrap ((IntKind.u64.wrap (x17 * 4294967296)) + x14)) - (IntKind.u64.wrap ((IntKind.u64.wrap (x18 - 1)) * x2)))) x8)) else none) else bits_Div64.l24 k x2 x8 x9 x10 x14 x15 (IntKind.u64.wrap (x16 + x9)) x17 (IntKind.u64.wrap (x18 - 1))) else (if 0 ≤ x8 then some ((IntKind.u64.wrap ((IntKind.u64.wrap (x15 * 4294967296)) + x18)), (shr .u64 (IntKind.u64.wrap ((IntKind.u64.wrap ((IntKind.u64.wrap (x17 * 4294967296)) + x14)) - (IntKind.u64.wrap (x18 * x2)))) x8)) else none))) : Option (Int × Int)) := by rw [← WK_eq]; kernel_rfl
theorem bits_Div64.l17_eq (k : Nat) (x2 : Int) (x8 : Int) (x9 : Int) (x10 : Int) (x11 : Int) (x13 : Int) (x14 : Int) (x15 : Int) (x16 : Int) : bits_Div64.l17 (k + 1) x2 x8 x9 x10 x11 x13 x14 x15 x16 = ((if x15 ≥ 4294967296 then (if (IntKind.u64.wrap (x16 + x9)) ≥ 4294967296 then (if x9 = 0 then none else bits_Div64.l24 k x2 x8 x9 x10 x14 (IntKind.u64.wrap (x15 - 1)) (IntKind.u64.wrap ((IntKind.u64.wrap ((IntKind.u64.wrap ((IntKind.u64.wrap (x11 * 4294967296)) + x13)) - (IntKind.u64.wrap ((IntKind.u64.wrap (x15 - 1)) * x2)))) - (IntKind.u64.wrap ((IntKind.u64.wrap (Int.tdiv (IntKind.u64.wrap ((IntKind.u64.wrap ((IntKind.u64.wrap (x11 * 4294967296)) + x13)) - (IntKind.u64.wrap ((IntKind.u64.wrap (x15 - 1)) * x2)))) x9)) * x9)))) (IntKind.u64.wrap ((IntKind.u64.wrap ((IntKind.u64.wrap (x11 * 4294967296)) + x13)) - (IntKind.u64.wrap ((IntKind.u64.wrap (x15 - 1)) * x2)))) (IntKind.u64.wrap (Int.tdiv (IntKind.u64.wrap ((IntKind.u64.wrap ((IntKind.u64.wrap (x11 * 4294967296)) + x13)) - (IntKind.u64.wrap ((IntKind.u64.wrap (x15 - 1)) * x2)))) x9))) else bits_Div64.l17 k x2 x8 x9 x10 x11 x13 x14 (IntKind.u64.wrap (x15 - 1)) (IntKind.u64.wrap (x16 + x9))) else (if (IntKind.u64.wrap (x15 * x10)) > (IntKind.u64.wrap ((IntKind.u64.wrap (4294967296 * x16)) + x13)) then (if (IntKind.u64.wrap (x16 + x9)) ≥ 4294967296 then (if x9 = 0 then none else bits_Div64.l24 k x2 x8 x9 x10 x14 (IntKind.u64.wrap (x15 - 1)) (IntKind.u64.wrap ((IntKind.u64.wrap ((IntKind.u64.wrap ((IntKind.u64.wrap (x11 * 4294967296)) + x13)) - (IntKind.u64.wrap ((IntKind.u64.wrap (x15 - 1)) * x2)))) - (IntKind.u64.wrap ((IntKind.u64.wrap (Int.tdiv (IntKind.u64.wrap ((IntKind.u64.wrap ((IntKind.u64.wrap (x11 * 4294967296)) + x13)) - (IntKind.u64.wrap ((IntKind.u64.wrap (x15 - 1)) * x2)))) x9)) * x9)))) (IntKind.u64.wrap ((IntKind.u64.wrap ((IntKind.u64.wrap (x11 * 4294967296)) + x13)) - (IntKind.u64.wrap ((IntKind.u64.wrap (x15 - 1)) * x2)))) (IntKind.u64.wrap (Int.tdiv (IntKind.u64.wrap ((IntKind.u64.wrap ((IntKind.u64.wrap (x11 * 4294967296)) + x13)) - (IntKind.u64.wrap ((IntKind.u64.wrap (x15 - 1)) * x2)))) x9))) else bits_Div64.l17 k x2 x8 x9 x10 x11 x13 x14 (IntKind.u64.wrap (x15 - 1)) (IntKind.u64.wrap (x16 + x9))) else (if x9 = 0 then none else bits_Div64.l24 k x2 x8 x9 x10 x14 x15 (IntKind.u64.wrap ((IntKind.u64.wrap ((IntKind.u64.wrap ((IntKind.u64.wrap (x11 * 4294967296)) + x13)) - (IntKind.u64.wrap (x15 * x2)))) - (IntKind.u64.wrap ((IntKind.u64.wrap (Int.tdiv (IntKind.u64.wrap ((IntKind.u64.wrap ((IntKind.u64.wrap (x11 * 4294967296)) + x13)) - (IntKind.u64.wrap (x15 * x2)))) x9)) * x9)))) (IntKind.u64.wrap ((IntKind.u64.wrap ((IntKind.u64.wrap (x11 * 4294967296)) + x13)) - (IntKind.u64.wrap (x15 * x2)))) (IntKind.u64.wrap (Int.tdiv (IntKind.u64.wrap ((IntKind.u64.wrap ((IntKind.u64.wrap (x11 * 4294967296)) + x13)) - (IntKind.u64.wrap (x15 * x2)))) x9))))) : Option (Int × Int)) := by rw [← WK_eq]; kernel_rfl
theorem bits_Div64.f_eq (k : Nat) (a0 : Int) (a1 : Int) (a2 : Int) : bits_Div64.f k a0 a1 a2 = ((if a2 = 0 then none else (if a2 ≤ a0 then none else (if a0 = 0 then (if a2 = 0 then none else (if a2 = 0 then none else some ((IntKind.u64.wrap (Int.tdiv a1 a2)), (Int.tmod a1 a2)))) else ((bits_LeadingZeros64.f k a2).bind fun t0 => (if 0 ≤ (IntKind.u64.wrap t0) then (if 0 ≤ (IntKind.u64.wrap t0) then (if 0 ≤ (IntKind.u64.wrap (64 - (IntKind.u64.wrap t0))) then (if 0 ≤ (IntKind.u64.wrap t0) then (if (shr .u64 (shl .u64 a2 (IntKind.u64.wrap t0)) 32) = 0 then none else bits_Div64.l17 k (shl .u64 a2 (IntKind.u64.wrap t0)) (IntKind.u64.wrap t0) (shr .u64 (shl .u64 a2 (IntKind.u64.wrap t0)) 32) (bits .and .u64 (shl .u64 a2 (IntKind.u64.wrap t0)) 4294967295) (bits .or .u64 (shl .u64 a0 (IntKind.u64.wrap t0)) (shr .u64 a1 (IntKind.u64.wrap (64 - (IntKind.u64.wrap t0))))) (shr .u64 (shl .u64 a1 (IntKind.u64.wrap t0)) 32) (bits .and .u64 (shl .u64 a1 (IntKind.u64.wrap t0)) 4294967295) (IntKind.u64.wrap (Int.tdiv (bits .or .u64 (shl .u64 a0 (IntKind.u64.wrap t0)) (shr .u64 a1 (IntKind.u64.wrap (64 - (IntKind.u64.wrap t0))))) (shr .u64 (shl .u64 a2 (IntKind.u64.wrap t0)) 32))) (IntKind.u64.wrap ((bits .or .u64 (shl .u64 a0 (IntKind.u64.wrap t0)) (shr .u64 a1 (IntKind.u64.wrap (64 - (IntKind.u64.wrap t0))))) - (IntKind.u64.wrap ((IntKind.u64.wrap (Int.tdiv (bits .or .u64 (shl .u64 a0 (IntKind.u64.wrap t0)) (shr .u64 a1 (IntKind.u64.wrap (64 - (IntKind.u64.wrap t0))))) (shr .u64 (shl .u64 a2 (IntKind.u64.wrap t0)) 32))) * (shr .u64 (shl .u64 a2 (IntKind.u64.wrap t0)) 32)))))) else none) else none) else none) else none))))) : Option (Int × Int)) := by rw [← WK_eq, bits_Div64.f_def]; kernel_rfl
theorem bits_Rem64.f_eq (k : Nat) (a0 : Int) (a1 : Int) (a2 : Int) : bits_Rem64.f k a0 a1 a2 = ((if a2 = 0 then none else ((bits_Div64.f k (Int.tmod a0 a2) a1 a2).bind fun t0 => some t0.2)) : Option Int) := by rw [bits_Rem64.f_def]; kernel_rfl
theorem word_Field_Mul.f_eq (k : Nat) (a0_0 : Int) (a0_1 : Int) (a0_2 : Int) (a1 : Int) (a2 : Int) : word_Field_Mul.f k a0_0 a0_1 a0_2 a1 a2 = ((if a0_0 = 0 then none else (if a0_0 = 0 then none else ((bits_Mul64.f k (Int.tmod a1 a0_0) (Int.tmod a2 a0_0)).bind fun t0 => ((bits_Rem64.f k t0.1 t0.2 a0_0).bind fun t1 => some t1)))) : Option Int) := by rw [word_Field_Mul.f_def]; kernel_rfl
theorem word_Field_Of.f_eq (k : Nat) (a0_0 : Int) (a0_1 : Int) (a0_2 : Int) (a1 : Int) : word_Field_Of.f k a0_0 a0_1 a0_2 a1 = ((if a0_0 = 0 then none else some (Int.tmod a1 a0_0)) : Option Int) := by rw [word_Field_Of.f_def]; kernel_rfl
theorem word_Field_Pow.l2_eq (k : Nat) (x0_0 : Int) (x0_1 : Int) (x0_2 : Int) (x1 : Int) (x2 : Int) (x7 : Int) : word_Field_Pow.l2 (k + 1) x0_0 x0_1 x0_2 x1 x2 x7 = ((if x2 = 0 then some x7 else (if (bits .and .u64 x2 1) = 1 then ((word_Field_Mul.f k x0_0 x0_1 x0_2 x7 x1).bind fun t0 => ((word_Field_Mul.f k x0_0 x0_1 x0_2 x1 x1).bind fun t1 => word_Field_Pow.l2 k x0_0 x0_1 x0_2 t1 (shr .u64 x2 1) t0)) else ((word_Field_Mul.f k x0_0 x0_1 x0_2 x1 x1).bind fun t0 => word_Field_Pow.l2 k x0_0 x0_1 x0_2 t0 (shr .u64 x2 1) x7))) : Option Int) := by kernel_rfl
theorem word_Field_Pow.f_eq (k : Nat) (a0_0 : Int) (a0_1 : Int) (a0_2 : Int) (a1 : Int) (a2 : Int) : word_Field_Pow.f k a0_0 a0_1 a0_2 a1 a2 = (((word_Field_Of.f k a0_0 a0_1 a0_2 1).bind fun t0 => word_Field_Pow.l2 k a0_0 a0_1 a0_2 a1 a2 t0) : Option Int) := by rw [word_Field_Pow.f_def]; kernel_rfl
theorem word_New.l7_eq (k : Nat) (x0 : Int) (x5 : Int) (x15_0 : Int) (x15_1 : Int) (x15_2 : Int) (x20 : Int) : word_New.l7 (k + 1) x0 x5 x15_0 x15_1 x15_2 x20 = ((if x20 < 5 then word_New.l7 k x0 (IntKind.u64.wrap (x5 * (IntKind.u64.wrap (2 - (IntKind.u64.wrap (x0 * x5)))))) x15_0 x15_1 x15_2 (wrap64 (x20 + 1)) else (if x0 = 0 then none else ((word_Field_Mul.f k x15_0 (IntKind.u64.wrap (-x5)) x15_2 (Int.tmod (IntKind.u64.wrap (-x0)) x0) (Int.tmod (IntKind.u64.wrap (-x0)) x0)).bind fun t0 => some ((some (x15_0, (IntKind.u64.wrap (-x5)), t0, ())), 0)))) : Option ((Option (Int × Int × Int × Unit)) × Int)) := by rw [← W64_eq, ← WK_eq]; kernel_rfl
theorem word_New.f_eq (k : Nat) (a0 : Int) : word_New.f k a0 = ((if a0 < 2 then some (none, 1) else (if a0 ≥ 9223372036854775808 then some (none, 1) else (if (bits .and .u64 a0 1) = 1 then word_New.l7 k a0 a0 a0 0 0 0 else some ((some (a0, 0, 0, ())), 0)))) : Option ((Option (Int × Int × Int × Unit)) × Int)) := by rw [word_New.f_def]; kernel_rfl
theorem prime_bases.f_eq (k : Nat) : prime_bases.f k = (some (2, 3, 5, 7, 11, 13, 17, 19, 23, 29, 31, 37) : Option (Int × Int × Int × Int × Int × Int × Int × Int × Int × Int × Int × Int)) := by rw [prime_bases.f_def]; kernel_rfl
theorem prime_mul.f_eq (k : Nat) (a0 : Int) (a1 : Int) (a2 : Int) : prime_mul.f k a0 a1 a2 = (((bits_Mul64.f k a0 a1).bind fun t0 => ((bits_Rem64.f k t0.1 t0.2 a2).bind fun t1 => some t1)) : Option Int) := by rw [prime_mul.f_def]; kernel_rfl
theorem prime_strong.l12_eq (k : Nat) (x0 : Int) (x6 : Int) (x37 : Int) (x38 : Int) : prime_strong.l12 (k + 1) x0 x6 x37 x38 = ((if x38 < x37 then (if x6 = (IntKind.u64.wrap (x0 - 1)) then some true else ((prime_mul.f k x6 x6 x0).bind fun t0 => prime_strong.l12 k x0 t0 x37 (wrap64 (x38 + 1)))) else some false) : Option Bool) := by rw [← W64_eq, ← WK_eq]; kernel_rfl
theorem prime_strong.l4_eq (k : Nat) (x0 : Int) (x5 : Int) (x6 : Int) (x7 : Int) (x8 : Int) : prime_strong.l4 (k + 1) x0 x5 x6 x7 x8 = ((if x8 > 0 then (if (bits .and .u64 x8 1) = 1 then ((prime_mul.f k x6 x7 x0).bind fun t0 => ((prime_mul.f k x7 x7 x0).bind fun t1 => prime_strong.l4 k x0 x5 t0 t1 (shr .u64 x8 1))) else ((prime_mul.f k x7 x7 x0).bind fun t0 => prime_strong.l4 k x0 x5 x6 t0 (shr .u64 x8 1))) else (if x6 = 1 then some true else prime_strong.l12 k x0 x6 x5 0)) : Option Bool) := by kernel_rfl
theorem prime_strong.f_eq (k : Nat) (a0 : Int) (a1 : Int) : prime_strong.f k a0 a1 = (((bits_TrailingZeros64.f k (IntKind.u64.wrap (a0 - 1))).bind fun t0 => (if a0 = 0 then none else (if 0 ≤ (IntKind.u64.wrap t0) then prime_strong.l4 k a0 t0 1 (Int.tmod a1 a0) (shr .u64 (IntKind.u64.wrap (a0 - 1)) (IntKind.u64.wrap t0)) else none))) : Option Bool) := by rw [← WK_eq, prime_strong.f_def]; kernel_rfl
theorem prime_Is.l10_eq (k : Nat) (x0 : Int) (x21_0 : Int) (x21_1 : Int) (x21_2 : Int) (x21_3 : Int) (x21_4 : Int) (x21_5 : Int) (x21_6 : Int) (x21_7 : Int) (x21_8 : Int) (x21_9 : Int) (x21_10 : Int) (x21_11 : Int) (x22 : Int) : prime_Is.l10 (k + 1) x0 x21_0 x21_1 x21_2 x21_3 x21_4 x21_5 x21_6 x21_7 x21_8 x21_9 x21_10 x21_11 x22 = ((if x22 < 12 then (if 0 ≤ x22 then (if x22 < 12 then ((prime_strong.f k x0 (rd ([x21_0, x21_1, x21_2, x21_3, x21_4, x21_5, x21_6, x21_7, x21_8, x21_9, x21_10, x21_11] : List Int) x22)).bind fun t0 => (if (!t0) = true then some false else prime_Is.l10 k x0 x21_0 x21_1 x21_2 x21_3 x21_4 x21_5 x21_6 x21_7 x21_8 x21_9 x21_10 x21_11 (wrap64 (x22 + 1)))) else none) else none) else some true) : Option Bool) := by rw [← W64_eq]; kernel_rfl
theorem prime_Is.l4_eq (k : Nat) (x0 : Int) (x9_0 : Int) (x9_1 : Int) (x9_2 : Int) (x9_3 : Int) (x9_4 : Int) (x9_5 : Int) (x9_6 : Int) (x9_7 : Int) (x9_8 : Int) (x9_9 : Int) (x9_10 : Int) (x9_11 : Int) (x10 : Int) : prime_Is.l4 (k + 1) x0 x9_0 x9_1 x9_2 x9_3 x9_4 x9_5 x9_6 x9_7 x9_8 x9_9 x9_10 x9_11 x10 = ((if x10 < 12 then (if 0 ≤ x10 then (if x10 < 12 then (if (rd ([x9_0, x9_1, x9_2, x9_3, x9_4, x9_5, x9_6, x9_7, x9_8, x9_9, x9_10, x9_11] : List Int) x10) = 0 then none else (if (Int.tmod x0 (rd ([x9_0, x9_1, x9_2, x9_3, x9_4, x9_5, x9_6, x9_7, x9_8, x9_9, x9_10, x9_11] : List Int) x10)) = 0 then some (decide (x0 = (rd ([x9_0, x9_1, x9_2, x9_3, x9_4, x9_5, x9_6, x9_7, x9_8, x9_9, x9_10, x9_11] : List Int) x10))) else prime_Is.l4 k x0 x9_0 x9_1 x9_2 x9_3 x9_4 x9_5 x9_6 x9_7 x9_8 x9_9 x9_10 x9_11 (wrap64 (x10 + 1)))) else none) else none) else ((prime_bases.f k).bind fun t0 => prime_Is.l10 k x0 t0.1 t0.2.1 t0.2.2.1 t0.2.2.2.1 t0.2.2.2.2.1 t0.2.2.2.2.2.1 t0.2.2.2.2.2.2.1 t0.2.2.2.2.2.2.2.1 t0.2.2.2.2.2.2.2.2.1 t0.2.2.2.2.2.2.2.2.2.1 t0.2.2.2.2.2.2.2.2.2.2.1 t0.2.2.2.2.2.2.2.2.2.2.2 0)) : Option Bool) := by rw [← W64_eq]; kernel_rfl
theorem prime_Is.f_eq (k : Nat) (a0 : Int) : prime_Is.f k a0 = ((if a0 < 2 then some false else ((prime_bases.f k).bind fun t0 => prime_Is.l4 k a0 t0.1 t0.2.1 t0.2.2.1 t0.2.2.2.1 t0.2.2.2.2.1 t0.2.2.2.2.2.1 t0.2.2.2.2.2.2.1 t0.2.2.2.2.2.2.2.1 t0.2.2.2.2.2.2.2.2.1 t0.2.2.2.2.2.2.2.2.2.1 t0.2.2.2.2.2.2.2.2.2.2.1 t0.2.2.2.2.2.2.2.2.2.2.2 0)) : Option Bool) := by rw [prime_Is.f_def]; kernel_rfl
theorem prime_field.f_eq (k : Nat) (a0 : Int) : prime_field.f k a0 = ((if a0 ≥ 9223372036854775808 then some (none, 14) else ((prime_Is.f k a0).bind fun t0 => (if (!t0) = true then some (none, 14) else ((word_New.f k a0).bind fun t1 => (Option.elim t1.1 (some (none, t1.2)) fun t2 => some ((some (t2.1, t2.2.1, t2.2.2.1, ())), t1.2)))))) : Option ((Option (Int × Int × Int × Unit)) × Int)) := by rw [prime_field.f_def]; kernel_rfl
theorem prime_order.l2_eq (k : Nat) (x0_0 : Int) (x0_1 : Int) (x0_2 : Int) (x1 : Int) (x7 : Int) : prime_order.l2 (k + 1) x0_0 x0_1 x0_2 x1 x7 = ((if x7 < 63 then (if x1 = 1 then some (x7, true) else ((word_Field_Mul.f k x0_0 x0_1 x0_2 x1 x1).bind fun t0 => prime_order.l2 k x0_0 x0_1 x0_2 t0 (wrap64 (x7 + 1)))) else some (0, false)) : Option (Int × Bool)) := by rw [← W64_eq]; kernel_rfl
theorem prime_order.f_eq (k : Nat) (a0_0 : Int) (a0_1 : Int) (a0_2 : Int) (a1 : Int) : prime_order.f k a0_0 a0_1 a0_2 a1 = (prime_order.l2 k a0_0 a0_1 a0_2 a1 0 : Option (Int × Bool)) := by rw [prime_order.f_def]; kernel_rfl
theorem prime_Root.l8_eq (k : Nat) (x0 : Int) (x1 : Int) (x6_0 : Int) (x6_1 : Int) (x6_2 : Int) (x8 : Int) : prime_Root.l8 (k + 1) x0 x1 x6_0 x6_1 x6_2 x8 = ((if 0 ≤ (IntKind.u64.wrap x1) then ((word_Field_Pow.f k x6_0 x6_1 x6_2 x8 (shr .u64 (IntKind.u64.wrap (x0 - 1)) (IntKind.u64.wrap x1))).bind fun t0 => ((prime_order.f k x6_0 x6_1 x6_2 t0).bind fun t1 => (if (!t1.2) = true then prime_Root.l8 k x0 x1 x6_0 x6_1 x6_2 (IntKind.u64.wrap (x8 + 1)) else (if t1.1 = x1 then some (t0, 0) else prime_Root.l8 k x0 x1 x6_0 x6_1 x6_2 (IntKind.u64.wrap (x8 + 1)))))) else none) : Option (Int × Int)) := by rw [← WK_eq]; kernel_rfl
theorem prime_Root.f_eq (k : Nat) (a0 : Int) (a1 : Int) : prime_Root.f k a0 a1 = (((prime_field.f k a0).bind fun t0 => (Option.elim t0.1 ((if t0.2 = 0 then (if a1 < 0 then some (0, 1) else (if a1 > 62 then some (0, 1) else (if 0 ≤ (IntKind.u64.wrap a1) then (if (bits .and .u64 (IntKind.u64.wrap (a0 - 1)) (IntKind.u64.wrap ((shl .u64 1 (IntKind.u64.wrap a1)) - 1))) = 0 then none else some (0, 1)) else none))) else some (0, t0.2))) fun t1 => (if t0.2 = 0 then (if a1 < 0 then some (0, 1) else (if a1 > 62 then some (0, 1) else (if 0 ≤ (IntKind.u64.wrap a1) then (if (bits .and .u64 (IntKind.u64.wrap (a0 - 1)) (IntKind.u64.wrap ((shl .u64 1 (IntKind.u64.wrap a1)) - 1))) = 0 then prime_Root.l8 k a0 a1 t1.1 t1.2.1 t1.2.2.1 1 else some (0, 1)) else none))) else some (0, t0.2)))) : Option (Int × Int)) := by rw [← WK_eq, prime_Root.f_def]; kernel_rfl
theorem word_Field_Sub.f_eq (k : Nat) (a0_0 : Int) (a0_1 : Int) (a0_2 : Int) (a1 : Int) (a2 : Int) : word_Field_Sub.f k a0_0 a0_1 a0_2 a1 a2 = ((if a0_0 = 0 then none else (if a0_0 = 0 then none else (if (Int.tmod a1 a0_0) < (Int.tmod a2 a0_0) then some (IntKind.u64.wrap ((IntKind.u64.wrap ((Int.tmod a1 a0_0) + a0_0)) - (Int.tmod a2 a0_0))) else some (IntKind.u64.wrap ((Int.tmod a1 a0_0) - (Int.tmod a2 a0_0)))))) : Option Int) := by rw [← WK_eq, word_Field_Sub.f_def]; kernel_rfl
theorem word_Field_Inv.l8_eq (k : Nat) (x0_0 : Int) (x0_1 : Int) (x0_2 : Int) (x6 : Int) (x7 : Int) (x8 : Int) (x9 : Int) : word_Field_Inv.l8 (k + 1) x0_0 x0_1 x0_2 x6 x7 x8 x9 = ((if x7 > 0 then (if x7 = 0 then none else ((word_Field_Mul.f k x0_0 x0_1 x0_2 (IntKind.u64.wrap (Int.tdiv x6 x7)) x9).bind fun t0 => ((word_Field_Sub.f k x0_0 x0_1 x0_2 x8 t0).bind fun t1 => word_Field_Inv.l8 k x0_0 x0_1 x0_2 x7 (IntKind.u64.wrap (x6 - (IntKind.u64.wrap ((IntKind.u64.wrap (Int.tdiv x6 x7)) * x7)))) x9 t1))) else (if x6 = 1 then some (x8, 0) else some (0, 11))) : Option (Int × Int)) := by rw [← WK_eq]; kernel_rfl
theorem word_Field_Inv.f_eq (k : Nat) (a0_0 : Int) (a0_1 : Int) (a0_2 : Int) (a1 : Int) : word_Field_Inv.f k a0_0 a0_1 a0_2 a1 = ((if a0_0 = 0 then none else (if (Int.tmod a1 a0_0) = 0 then some (0, 10) else word_Field_Inv.l8 k a0_0 a0_1 a0_2 a0_0 (Int.tmod a1 a0_0) 0 1)) : Option (Int × Int)) := by rw [word_Field_Inv.f_def]; kernel_rfl
theorem tft_New.l11_eq (k : Nat) (x1 : Int) (x6 : Int) (x7 : Int) (x8_0 : Int) (x8_1 : Int) (x8_2 : Int) (x10 : Int) (x34 : List Int) (x36_0 : Int) (x36_1 : Int) (x36_2 : Int) (x36_3 : Int) (x36_4 : Int) : tft_New.l11 (k + 1) x1 x6 x7 x8_0 x8_1 x8_2 x10 x34 x36_0 x36_1 x36_2 x36_3 x36_4 = ((if x10 ≥ 0 then (if 0 ≤ x10 then (if x10 < (x34.length : Int) then ((word_Field_Mul.f k x8_0 x8_1 x8_2 x6 x6).bind fun t0 => tft_New.l11 k x1 t0 x7 x8_0 x8_1 x8_2 (wrap64 (x10 - 1)) (x34.set (x10 : Int).toNat x6) x36_0 x36_1 x36_2 x36_3 x36_4) else none) else none) else (if x1 > 0 then ((word_Field_Inv.f k x8_0 x8_1 x8_2 2).bind fun t0 => some ((some ((x36_0, x36_1, x36_2, ()), x36_3, x34, t0.1, ())), t0.2)) else some ((some ((x36_0, x36_1, x36_2, ()), x36_3, x34, x36_4, ())), x7))) : Option ((Option ((Int × Int × Int × Unit) × Int × List Int × Int × Unit)) × Int)) := by rw [← W64_eq]; kernel_rfl
theorem tft_New.f_eq (k : Nat) (a0 : Int) (a1 : Int) : tft_New.f k a0 a1 = ((if a1 > 20 then some (none, 13) else ((prime_Root.f k a0 a1).bind fun t0 => (if t0.2 = 0 then ((word_New.f k a0).bind fun t1 => (Option.elim t1.1 ((if t1.2 = 0 then (if 0 ≤ (wrap64 (a1 + 1)) then (if ((wrap64 (a1 + 1)) : Int).toNat ≤ 35184372088832 then none else none) else none) else some (none, t1.2))) fun t2 => (if t1.2 = 0 then (if 0 ≤ (wrap64 (a1 + 1)) then (if ((wrap64 (a1 + 1)) : Int).toNat ≤ 35184372088832 then tft_New.l11 k a1 t0.1 t1.2 t2.1 t2.2.1 t2.2.2.1 a1 (List.replicate ((wrap64 (a1 + 1)) : Int).toNat (0 : Int)) t2.1 t2.2.1 t2.2.2.1 a1 0 else none) else none) else some (none, t1.2)))) else some (none, t0.2)))) : Option ((Option ((Int × Int × Int × Unit) × Int × List Int × Int × Unit)) × Int)) := by rw [← W64_eq, tft_New.f_def]; kernel_rfl
theorem tft_Plan_Point.f_eq (k : Nat) (a0 : Option ((Int × Int × Int × Unit) × Int × List Int × Int × Unit)) (a1 : Int) : tft_Plan_Point.f k a0 a1 = ((Option.elim a0 (some (0, 2)) fun t0 => ((tft_Turned.f k a1 t0.2.1).bind fun t1 => (if t1.2 = 0 then (if 0 ≤ t0.2.1 then (if t0.2.1 < (t0.2.2.1.length : Int) then ((word_Field_Pow.f k t0.1.1 t0.1.2.1 t0.1.2.2.1 (rd t0.2.2.1 t0.2.1) (IntKind.u64.wrap t1.1)).bind fun t2 => some (t2, 0)) else none) else none) else some (0, t1.2)))) : Option (Int × Int)) := by rw [← WK_eq, tft_Plan_Point.f_def]; kernel_rfl
theorem tft_Plan_Most.f_eq (k : Nat) (a0 : Option ((Int × Int × Int × Unit) × Int × List Int × Int × Unit)) : tft_Plan_Most.f k a0 = ((Option.elim a0 (some 0) fun t0 => (if 0 ≤ (IntKind.u64.wrap t0.2.1) then some (shl .i64 1 (IntKind.u64.wrap t0.2.1)) else none)) : Option Int) := by rw [← WK_eq, tft_Plan_Most.f_def]; kernel_rfl
theorem word_Field_Add.f_eq (k : Nat) (a0_0 : Int) (a0_1 : Int) (a0_2 : Int) (a1 : Int) (a2 : Int) : word_Field_Add.f k a0_0 a0_1 a0_2 a1 a2 = ((if a0_0 = 0 then none else (if a0_0 = 0 then none else (if (IntKind.u64.wrap ((Int.tmod a1 a0_0) + (Int.tmod a2 a0_0))) ≥ a0_0 then some (IntKind.u64.wrap ((IntKind.u64.wrap ((Int.tmod a1 a0_0) + (Int.tmod a2 a0_0))) - a0_0)) else some (IntKind.u64.wrap ((Int.tmod a1 a0_0) + (Int.tmod a2 a0_0)))))) : Option Int) := by rw [← WK_eq, word_Field_Add.f_def]; kernel_rfl
theorem tft_Plan_of.l3_eq (k : Nat) (x0_0 : Int) (x0_1 : Int) (x0_2 : Int) (x0_3 : Int) (x0_4 : List Int) (x0_5 : Int) (x1 : Int) (x2 : Int) (x6_0 : Int) (x6_1 : Int) (x6_2 : Int) (x7 : Int) (x10 : Int) (x11 : Int) : tft_Plan_of.l3 (k + 1) x0_0 x0_1 x0_2 x0_3 x0_4 x0_5 x1 x2 x6_0 x6_1 x6_2 x7 x10 x11 = ((if x11 < x10 then ((word_Field_Mul.f k x0_0 x0_1 x0_2 x7 x7).bind fun t0 => tft_Plan_of.l3 k x0_0 x0_1 x0_2 x0_3 x0_4 x0_5 x1 x2 x6_0 x6_1 x6_2 t0 x10 (wrap64 (x11 + 1))) else some (x1, x2, x7)) : Option (Int × Int × Int)) := by rw [← W64_eq]; kernel_rfl
theorem tft_Plan_of.f_eq (k : Nat) (a0 : Option ((Int × Int × Int × Unit) × Int × List Int × Int × Unit)) (a1 : Int) (a2 : Int) : tft_Plan_of.f k a0 a1 a2 = ((Option.elim a0 (none) fun t0 => tft_Plan_of.l3 k t0.1.1 t0.1.2.1 t0.1.2.2.1 t0.2.1 t0.2.2.1 t0.2.2.2.1 a1 a2 0 0 0 a2 (wrap64 (a1 - 1)) 0) : Option (Int × Int × Int)) := by rw [← W64_eq, tft_Plan_of.f_def]; kernel_rfl
theorem tft_Plan_first.f_eq (k : Nat) (a0 : Option ((Int × Int × Int × Unit) × Int × List Int × Int × Unit)) (a1_0 : Int) (a1_1 : Int) (a1_2 : Int) : tft_Plan_first.f k a0 a1_0 a1_1 a1_2 = ((Option.elim a0 (((tft_Plan_of.f k none (wrap64 (a1_0 - 1)) a1_1).bind fun t0 => some (t0.1, t0.2.1, t0.2.2))) fun t0 => ((tft_Plan_of.f k (some ((t0.1.1, t0.1.2.1, t0.1.2.2.1, ()), t0.2.1, t0.2.2.1, t0.2.2.2.1, ())) (wrap64 (a1_0 - 1)) a1_1).bind fun t1 => some (t1.1, t1.2.1, t1.2.2))) : Option (Int × Int × Int)) := by rw [← W64_eq, tft_Plan_first.f_def]; kernel_rfl
theorem tft_Plan_second.f_eq (k : Nat) (a0 : Option ((Int × Int × Int × Unit) × Int × List Int × Int × Unit)) (a1_0 : Int) (a1_1 : Int) (a1_2 : Int) : tft_Plan_second.f k a0 a1_0 a1_1 a1_2 = ((Option.elim a0 (none) fun t0 => (if 0 ≤ a1_0 then (if a1_0 < (t0.2.2.1.length : Int) then ((word_Field_Mul.f k t0.1.1 t0.1.2.1 t0.1.2.2.1 a1_1 (rd t0.2.2.1 a1_0)).bind fun t1 => ((tft_Plan_of.f k (some ((t0.1.1, t0.1.2.1, t0.1.2.2.1, ()), t0.2.1, t0.2.2.1, t0.2.2.2.1, ())) (wrap64 (a1_0 - 1)) t1).bind fun t2 => some (t2.1, t2.2.1, t2.2.2))) else none) else none)) : Option (Int × Int × Int)) := by rw [← W64_eq, tft_Plan_second.f_def]; kernel_rfl
theorem tft_Plan_values.l8_eq (R : (Option ((Int × Int × Int × Unit) × Int × List Int × Int × Unit)) → (List Int) → Int → Int → Int → Int → Option (List Int)) (k : Nat) (x0_0 : Int) (x0_1 : Int) (x0_2 : Int) (x0_3 : Int) (x0_4 : List Int) (x0_5 : Int) (x1 : List Int) (x3 : Int) (x6_0 : Int) (x6_1 : Int) (x6_2 : Int) (x9 : Int) (x10 : List Int) (x11 : List Int) (x33 : Int) (x34 : Int) : tft_Plan_values.l8 R (k + 1) x0_0 x0_1 x0_2 x0_3 x0_4 x0_5 x1 x3 x6_0 x6_1 x6_2 x9 x10 x11 x33 x34 = ((if x34 < x33 then (if 0 ≤ (wrap64 (x9 + x34)) then (if (wrap64 (x9 + x34)) < (x1.length : Int) then ((word_Field_Mul.f k x0_0 x0_1 x0_2 x6_2 (rd x1 (wrap64 (x9 + x34)))).bind fun t0 => (if 0 ≤ x34 then (if x34 < (x1.length : Int) then ((word_Field_Add.f k x0_0 x0_1 x0_2 (rd x1 x34) t0).bind fun t1 => (if 0 ≤ x34 then (if x34 < (x1.length : Int) then ((word_Field_Sub.f k x0_0 x0_1 x0_2 (rd x1 x34) t0).bind fun t2 => (if 0 ≤ x34 then (if x34 < (x10.length : Int) then (if 0 ≤ x34 then (if x34 < (x11.length : Int) then tft_Plan_values.l8 R k x0_0 x0_1 x0_2 x0_3 x0_4 x0_5 x1 x3 x6_0 x6_1 x6_2 x9 (x10.set (x34 : Int).toNat t1) (x11.set (x34 : Int).toNat t2) x33 (wrap64 (x34 + 1)) else none) else none) else none) else none)) else none) else none)) else none) else none)) else none) else none) else ((tft_Plan_first.f k (some ((x0_0, x0_1, x0_2, ()), x0_3, x0_4, x0_5, ())) x6_0 x6_1 x6_2).bind fun t0 => (if x9 < x3 then ((R (some ((x0_0, x0_1, x0_2, ()), x0_3, x0_4, x0_5, ())) x10 t0.1 t0.2.1 t0.2.2 x9).bind fun t1 => (if x3 > x9 then ((tft_Plan_second.f k (some ((x0_0, x0_1, x0_2, ()), x0_3, x0_4, x0_5, ())) x6_0 x6_1 x6_2).bind fun t2 => ((R (some ((x0_0, x0_1, x0_2, ()), x0_3, x0_4, x0_5, ())) x11 t2.1 t2.2.1 t2.2.2 (wrap64 (x3 - x9))).bind fun t3 => (if (t1.length + t3.length) ≤ 17592186044416 then some (t1 ++ t3) else none))) else some t1)) else ((R (some ((x0_0, x0_1, x0_2, ()), x0_3, x0_4, x0_5, ())) x10 t0.1 t0.2.1 t0.2.2 x3).bind fun t1 => (if x3 > x9 then ((tft_Plan_second.f k (some ((x0_0, x0_1, x0_2, ()), x0_3, x0_4, x0_5, ())) x6_0 x6_1 x6_2).bind fun t2 => ((R (some ((x0_0, x0_1, x0_2, ()), x0_3, x0_4, x0_5, ())) x11 t2.1 t2.2.1 t2.2.2 (wrap64 (x3 - x9))).bind fun t3 => (if (t1.length + t3.length) ≤ 17592186044416 then some (t1 ++ t3) else none))) else some t1))))) : Option (List Int)) := by rw [← W64_eq]; kernel_rfl
theorem tft_Plan_values.v_eq (R : (Option ((Int × Int × Int × Unit) × Int × List Int × Int × Unit)) → (List Int) → Int → Int → Int → Int → Option (List Int)) (k : Nat) (a0 : Option ((Int × Int × Int × Unit) × Int × List Int × Int × Unit)) (a1 : List Int) (a2_0 : Int) (a2_1 : Int) (a2_2 : Int) (a3 : Int) : tft_Plan_values.v R k a0 a1 a2_0 a2_1 a2_2 a3 = ((Option.elim a0 ((if a3 = 0 then some ([] : List Int) else (if a2_0 = 0 then (if 0 < (a1.length : Int) then some ([(rd a1 0)] : List Int) else none) else (if 0 ≤ (wrap64 (Int.tdiv (a1.length : Int) 2)) then (if ((wrap64 (Int.tdiv (a1.length : Int) 2)) : Int).toNat ≤ 35184372088832 then (if 0 ≤ (wrap64 (Int.tdiv (a1.length : Int) 2)) then (if ((wrap64 (Int.tdiv (a1.length : Int) 2)) : Int).toNat ≤ 35184372088832 then none else none) else none) else none) else none)))) fun t0 => (if a3 = 0 then some ([] : List Int) else (if a2_0 = 0 then (if 0 < (a1.length : Int) then some ([(rd a1 0)] : List Int) else none) else (if 0 ≤ (wrap64 (Int.tdiv (a1.length : Int) 2)) then (if ((wrap64 (Int.tdiv (a1.length : Int) 2)) : Int).toNat ≤ 35184372088832 then (if 0 ≤ (wrap64 (Int.tdiv (a1.length : Int) 2)) then (if ((wrap64 (Int.tdiv (a1.length : Int) 2)) : Int).toNat ≤ 35184372088832 then tft_Plan_values.l8 R k t0.1.1 t0.1.2.1 t0.1.2.2.1 t0.2.1 t0.2.2.1 t0.2.2.2.1 a1 a3 a2_0 a2_1 a2_2 (wrap64 (Int.tdiv (a1.length : Int) 2)) (List.replicate ((wrap64 (Int.tdiv (a1.length : Int) 2)) : Int).toNat (0 : Int)) (List.replicate ((wrap64 (Int.tdiv (a1.length : Int) 2)) : Int).toNat (0 : Int)) (wrap64 (Int.tdiv (a1.length : Int) 2)) 0 else none) else none) else none) else none)))) : Option (List Int)) := by rw [← W64_eq]; kernel_rfl
theorem tft_Plan_padded.l3_eq (k : Nat) (x0_0 : Int) (x0_1 : Int) (x0_2 : Int) (x0_3 : Int) (x0_4 : List Int) (x0_5 : Int) (x5 : List Int) (x11 : List Int) (x12 : Int) (x13 : Int) : tft_Plan_padded.l3 (k + 1) x0_0 x0_1 x0_2 x0_3 x0_4 x0_5 x5 x11 x12 x13 = ((if x13 < x12 then (if 0 ≤ x13 then (if x13 < (x11.length : Int) then ((word_Field_Of.f k x0_0 x0_1 x0_2 (rd x11 x13)).bind fun t0 => (if 0 ≤ x13 then (if x13 < (x5.length : Int) then tft_Plan_padded.l3 k x0_0 x0_1 x0_2 x0_3 x0_4 x0_5 (x5.set (x13 : Int).toNat t0) x11 x12 (wrap64 (x13 + 1)) else none) else none)) else none) else none) else some x5) : Option (List Int)) := by rw [← W64_eq]; kernel_rfl
theorem tft_Plan_padded.f_eq (k : Nat) (a0 : Option ((Int × Int × Int × Unit) × Int × List Int × Int × Unit)) (a1 : List Int) : tft_Plan_padded.f k a0 a1 = ((Option.elim a0 (((tft_Plan_Most.f k none).bind fun t0 => (if 0 ≤ t0 then (if (t0 : Int).toNat ≤ 35184372088832 then none else none) else none))) fun t0 => ((tft_Plan_Most.f k (some ((t0.1.1, t0.1.2.1, t0.1.2.2.1, ()), t0.2.1, t0.2.2.1, t0.2.2.2.1, ()))).bind fun t1 => (if 0 ≤ t1 then (if (t1 : Int).toNat ≤ 35184372088832 then tft_Plan_padded.l3 k t0.1.1 t0.1.2.1 t0.1.2.2.1 t0.2.1 t0.2.2.1 t0.2.2.2.1 (List.replicate (t1 : Int).toNat (0 : Int)) a1 (a1.length : Int) 0 else none) else none))) : Option (List Int)) := by rw [tft_Plan_padded.f_def]; kernel_rfl
theorem tft_Plan_Go.f_eq (k : Nat) (a0 : Option ((Int × Int × Int × Unit) × Int × List Int × Int × Unit)) (a1 : List Int) (a2 : Int) : tft_Plan_Go.f k a0 a1 a2 = ((Option.elim a0 (some (([] : List Int), 2)) fun t0 => ((tft_Plan_Most.f k (some ((t0.1.1, t0.1.2.1, t0.1.2.2.1, ()), t0.2.1, t0.2.2.1, t0.2.2.2.1, ()))).bind fun t1 => (if (a1.length : Int) > t1 then some (([] : List Int), 13) else (if a2 < 0 then some (([] : List Int), 1) else ((tft_Plan_Most.f k (some ((t0.1.1, t0.1.2.1, t0.1.2.2.1, ()), t0.2.1, t0.2.2.1, t0.2.2.2.1, ()))).bind fun t2 => (if a2 > t2 then some (([] : List Int), 1) else ((tft_Plan_padded.f k (some ((t0.1.1, t0.1.2.1, t0.1.2.2.1, ()), t0.2.1, t0.2.2.1, t0.2.2.2.1, ())) a1).bind fun t3 => ((tft_Plan_of.f k (some ((t0.1.1, t0.1.2.1, t0.1.2.2.1, ()), t0.2.1, t0.2.2.1, t0.2.2.2.1, ())) t0.2.1 1).bind fun t4 => ((tft_Plan_values.f k (some ((t0.1.1, t0.1.2.1, t0.1.2.2.1, ()), t0.2.1, t0.2.2.1, t0.2.2.2.1, ())) t3 t4.1 t4.2.1 t4.2.2 a2).bind fun t5 => some (t5, 0)))))))))) : Option (List Int × Int)) := by rw [tft_Plan_Go.f_def]; kernel_rfl
theorem vinculumref06_Same.l4_eq (k : Nat) (x0 : List Int) (x1 : List Int) (x5 : Int) : vinculumref06_Same.l4 (k + 1) x0 x1 x5 = ((if x5 < (x0.length : Int) then (if 0 ≤ x5 then (if x5 < (x0.length : Int) then (if 0 ≤ x5 then (if x5 < (x1.length : Int) then (if (rd x0 x5) = (rd x1 x5) then vinculumref06_Same.l4 k x0 x1 (wrap64 (x5 + 1)) else some false) else none) else none) else none) else none) else some true) : Option Bool) := by rw [← W64_eq]; kernel_rfl
theorem vinculumref06_Same.f_eq (k : Nat) (a0 : List Int) (a1 : List Int) : vinculumref06_Same.f k a0 a1 = ((if (a0.length : Int) = (a1.length : Int) then vinculumref06_Same.l4 k a0 a1 0 else some false) : Option Bool) := by rw [vinculumref06_Same.f_def]; kernel_rfl
theorem tft_Plan_low.l11_eq (R : (Option ((Int × Int × Int × Unit) × Int × List Int × Int × Unit)) → (List Int) → (List Int) → Int → Int → Int → Option (List Int)) (k : Nat) (x0_0 : Int) (x0_1 : Int) (x0_2 : Int) (x0_3 : Int) (x0_4 : List Int) (x0_5 : Int) (x4 : Int) (x8_0 : Int) (x8_1 : Int) (x8_2 : Int) (x12 : List Int) (x15 : List Int) (x16 : List Int) (x66 : Int) (x67 : Int) : tft_Plan_low.l11 R (k + 1) x0_0 x0_1 x0_2 x0_3 x0_4 x0_5 x4 x8_0 x8_1 x8_2 x12 x15 x16 x66 x67 = ((if x67 < x66 then (if 0 ≤ x67 then (if x67 < (x15.length : Int) then (if 0 ≤ x67 then (if x67 < (x12.length : Int) then ((word_Field_Mul.f k x0_0 x0_1 x0_2 x8_2 (rd x12 x67)).bind fun t0 => ((word_Field_Sub.f k x0_0 x0_1 x0_2 (rd x15 x67) t0).bind fun t1 => (if 0 ≤ x67 then (if x67 < (x16.length : Int) then (if 0 ≤ x67 then (if x67 < (x12.length : Int) then (if 0 ≤ (wrap64 (x4 + x67)) then (if (wrap64 (x4 + x67)) < ((x16.set (x67 : Int).toNat t1).length : Int) then tft_Plan_low.l11 R k x0_0 x0_1 x0_2 x0_3 x0_4 x0_5 x4 x8_0 x8_1 x8_2 x12 x15 ((x16.set (x67 : Int).toNat t1).set ((wrap64 (x4 + x67)) : Int).toNat (rd x12 x67)) x66 (wrap64 (x67 + 1)) else none) else none) else none) else none) else none) else none))) else none) else none) else none) else none) else some x16) : Option (List Int)) := by rw [← W64_eq]; kernel_rfl
theorem tft_Plan_low.l5_eq (R : (Option ((Int × Int × Int × Unit) × Int × List Int × Int × Unit)) → (List Int) → (List Int) → Int → Int → Int → Option (List Int)) (k : Nat) (x0_0 : Int) (x0_1 : Int) (x0_2 : Int) (x0_3 : Int) (x0_4 : List Int) (x0_5 : Int) (x1 : List Int) (x2 : List Int) (x4 : Int) (x8_0 : Int) (x8_1 : Int) (x8_2 : Int) (x11 : Int) (x12 : List Int) (x13 : List Int) (x14 : Int) : tft_Plan_low.l5 R (k + 1) x0_0 x0_1 x0_2 x0_3 x0_4 x0_5 x1 x2 x4 x8_0 x8_1 x8_2 x11 x12 x13 x14 = ((if x14 < x4 then (if 0 ≤ (wrap64 (x14 - x11)) then (if (wrap64 (x14 - x11)) < (x2.length : Int) then (if 0 ≤ x14 then (if x14 < (x12.length : Int) then ((word_Field_Mul.f k x0_0 x0_1 x0_2 x8_2 (rd x12 x14)).bind fun t0 => ((word_Field_Add.f k x0_0 x0_1 x0_2 (rd x2 (wrap64 (x14 - x11))) t0).bind fun t1 => (if (x13.length + ([t1] : List Int).length) ≤ 17592186044416 then tft_Plan_low.l5 R k x0_0 x0_1 x0_2 x0_3 x0_4 x0_5 x1 x2 x4 x8_0 x8_1 x8_2 x11 x12 (x13 ++ ([t1] : List Int)) (wrap64 (x14 + 1)) else none))) else none) else none) else none) else none) else ((tft_Plan_first.f k (some ((x0_0, x0_1, x0_2, ()), x0_3, x0_4, x0_5, ())) x8_0 x8_1 x8_2).bind fun t0 => ((R (some ((x0_0, x0_1, x0_2, ()), x0_3, x0_4, x0_5, ())) x1 x13 t0.1 t0.2.1 t0.2.2).bind fun t1 => (if 0 ≤ (wrap64 (2 * x4)) then (if ((wrap64 (2 * x4)) : Int).toNat ≤ 35184372088832 then tft_Plan_low.l11 R k x0_0 x0_1 x0_2 x0_3 x0_4 x0_5 x4 x8_0 x8_1 x8_2 x12 t1 (List.replicate ((wrap64 (2 * x4)) : Int).toNat (0 : Int)) x4 0 else none) else none)))) : Option (List Int)) := by rw [← W64_eq]; kernel_rfl
theorem tft_Plan_low.f_eq (R : (Option ((Int × Int × Int × Unit) × Int × List Int × Int × Unit)) → (List Int) → (List Int) → Int → Int → Int → Option (List Int)) (k : Nat) (a0 : Option ((Int × Int × Int × Unit) × Int × List Int × Int × Unit)) (a1 : List Int) (a2 : List Int) (a3_0 : Int) (a3_1 : Int) (a3_2 : Int) (a4 : Int) : tft_Plan_low.f R k a0 a1 a2 a3_0 a3_1 a3_2 a4 = ((Option.elim a0 ((if 0 ≤ (wrap64 (a4 - (a1.length : Int))) then (if (wrap64 (a4 - (a1.length : Int))) ≤ (a2.length : Int) then none else none) else none)) fun t0 => (if 0 ≤ (wrap64 (a4 - (a1.length : Int))) then (if (wrap64 (a4 - (a1.length : Int))) ≤ (a2.length : Int) then tft_Plan_low.l5 R k t0.1.1 t0.1.2.1 t0.1.2.2.1 t0.2.1 t0.2.2.1 t0.2.2.2.1 a1 a2 a4 a3_0 a3_1 a3_2 (a1.length : Int) (a2.drop ((wrap64 (a4 - (a1.length : Int))) : Int).toNat) ([] : List Int) (a1.length : Int) else none) else none)) : Option (List Int)) := by rw [← W64_eq, tft_Plan_low.f_def]; kernel_rfl
theorem tft_Plan_whole.l21_eq (R : (Option ((Int × Int × Int × Unit) × Int × List Int × Int × Unit)) → (List Int) → (List Int) → Int → Int → Int → Option (List Int)) (k : Nat) (x0_0 : Int) (x0_1 : Int) (x0_2 : Int) (x0_3 : Int) (x0_4 : List Int) (x0_5 : Int) (x10 : Int) (x11 : List Int) (x16 : List Int) (x17 : Int) (x19 : List Int) (x117 : Int) (x118 : Int) : tft_Plan_whole.l21 R (k + 1) x0_0 x0_1 x0_2 x0_3 x0_4 x0_5 x10 x11 x16 x17 x19 x117 x118 = ((if x118 < x117 then (if 0 ≤ x118 then (if x118 < (x11.length : Int) then (if 0 ≤ x118 then (if x118 < (x16.length : Int) then ((word_Field_Add.f k x0_0 x0_1 x0_2 (rd x11 x118) (rd x16 x118)).bind fun t0 => ((word_Field_Mul.f k x0_0 x0_1 x0_2 x0_5 t0).bind fun t1 => (if 0 ≤ x118 then (if x118 < (x19.length : Int) then (if 0 ≤ x118 then (if x118 < (x11.length : Int) then (if 0 ≤ x118 then (if x118 < (x16.length : Int) then ((word_Field_Sub.f k x0_0 x0_1 x0_2 (rd x11 x118) (rd x16 x118)).bind fun t2 => ((word_Field_Mul.f k x0_0 x0_1 x0_2 x0_5 t2).bind fun t3 => ((word_Field_Mul.f k x0_0 x0_1 x0_2 x17 t3).bind fun t4 => (if 0 ≤ (wrap64 (x10 + x118)) then (if (wrap64 (x10 + x118)) < ((x19.set (x118 : Int).toNat t1).length : Int) then tft_Plan_whole.l21 R k x0_0 x0_1 x0_2 x0_3 x0_4 x0_5 x10 x11 x16 x17 ((x19.set (x118 : Int).toNat t1).set ((wrap64 (x10 + x118)) : Int).toNat t4) x117 (wrap64 (x118 + 1)) else none) else none)))) else none) else none) else none) else none) else none) else none))) else none) else none) else none) else none) else some x19) : Option (List Int)) := by rw [← W64_eq]; kernel_rfl
theorem tft_Plan_whole.l13_eq (R : (Option ((Int × Int × Int × Unit) × Int × List Int × Int × Unit)) → (List Int) → (List Int) → Int → Int → Int → Option (List Int)) (k : Nat) (x0_0 : Int) (x0_1 : Int) (x0_2 : Int) (x0_3 : Int) (x0_4 : List Int) (x0_5 : Int) (x1 : List Int) (x7_0 : Int) (x7_1 : Int) (x7_2 : Int) (x9 : Int) (x10 : Int) (x11 : List Int) (x12 : List Int) (x13 : Int) (x64 : List Int) (x65 : Int) (x66 : Int) : tft_Plan_whole.l13 R (k + 1) x0_0 x0_1 x0_2 x0_3 x0_4 x0_5 x1 x7_0 x7_1 x7_2 x9 x10 x11 x12 x13 x64 x65 x66 = ((if x66 < x65 then (if 0 ≤ x66 then (if x66 < (x64.length : Int) then (if 0 ≤ (wrap64 ((wrap64 (x9 - x10)) + x66)) then (if (wrap64 ((wrap64 (x9 - x10)) + x66)) < (x11.length : Int) then ((word_Field_Mul.f k x0_0 x0_1 x0_2 x13 (rd x64 x66)).bind fun t0 => ((word_Field_Sub.f k x0_0 x0_1 x0_2 (rd x11 (wrap64 ((wrap64 (x9 - x10)) + x66))) t0).bind fun t1 => (if (x12.length + ([t1] : List Int).length) ≤ 17592186044416 then tft_Plan_whole.l13 R k x0_0 x0_1 x0_2 x0_3 x0_4 x0_5 x1 x7_0 x7_1 x7_2 x9 x10 x11 (x12 ++ ([t1] : List Int)) x13 x64 x65 (wrap64 (x66 + 1)) else none))) else none) else none) else none) else none) else (if 0 ≤ x10 then (if x10 ≤ (x1.length : Int) then ((tft_Plan_second.f k (some ((x0_0, x0_1, x0_2, ()), x0_3, x0_4, x0_5, ())) x7_0 x7_1 x7_2).bind fun t0 => ((R (some ((x0_0, x0_1, x0_2, ()), x0_3, x0_4, x0_5, ())) (x1.drop (x10 : Int).toNat) x12 t0.1 t0.2.1 t0.2.2).bind fun t1 => ((word_Field_Inv.f k x0_0 x0_1 x0_2 x7_2).bind fun t2 => (if 0 ≤ (wrap64 (2 * x10)) then (if ((wrap64 (2 * x10)) : Int).toNat ≤ 35184372088832 then tft_Plan_whole.l21 R k x0_0 x0_1 x0_2 x0_3 x0_4 x0_5 x10 x11 t1 t2.1 (List.replicate ((wrap64 (2 * x10)) : Int).toNat (0 : Int)) x10 0 else none) else none)))) else none) else none)) : Option (List Int)) := by rw [← W64_eq]; kernel_rfl
theorem tft_Plan_whole.v_eq (R : (Option ((Int × Int × Int × Unit) × Int × List Int × Int × Unit)) → (List Int) → (List Int) → Int → Int → Int → Option (List Int)) (k : Nat) (a0 : Option ((Int × Int × Int × Unit) × Int × List Int × Int × Unit)) (a1 : List Int) (a2 : List Int) (a3_0 : Int) (a3_1 : Int) (a3_2 : Int) : tft_Plan_whole.v R k a0 a1 a2 a3_0 a3_1 a3_2 = ((Option.elim a0 ((if (a1.length : Int) = 0 then some a2 else (if a3_0 = 0 then some a1 else (if 0 ≤ (IntKind.u64.wrap (wrap64 (a3_0 - 1))) then (if (a1.length : Int) < (shl .i64 1 (IntKind.u64.wrap (wrap64 (a3_0 - 1)))) then ((tft_Plan_low.f R k none a1 a2 a3_0 a3_1 a3_2 (shl .i64 1 (IntKind.u64.wrap (wrap64 (a3_0 - 1))))).bind fun t0 => some t0) else (if 0 ≤ (shl .i64 1 (IntKind.u64.wrap (wrap64 (a3_0 - 1)))) then (if (shl .i64 1 (IntKind.u64.wrap (wrap64 (a3_0 - 1)))) ≤ (a1.length : Int) then (if 0 ≤ (shl .i64 1 (IntKind.u64.wrap (wrap64 (a3_0 - 1)))) then (if (shl .i64 1 (IntKind.u64.wrap (wrap64 (a3_0 - 1)))) ≤ (shl .i64 1 (IntKind.u64.wrap (wrap64 (a3_0 - 1)))) then ((tft_Plan_first.f k none a3_0 a3_1 a3_2).bind fun t0 => ((R none (a1.take ((shl .i64 1 (IntKind.u64.wrap (wrap64 (a3_0 - 1)))) : Int).toNat) ([] : List Int) t0.1 t0.2.1 t0.2.2).bind fun t1 => none)) else none) else none) else none) else none)) else none)))) fun t0 => (if (a1.length : Int) = 0 then some a2 else (if a3_0 = 0 then some a1 else (if 0 ≤ (IntKind.u64.wrap (wrap64 (a3_0 - 1))) then (if (a1.length : Int) < (shl .i64 1 (IntKind.u64.wrap (wrap64 (a3_0 - 1)))) then ((tft_Plan_low.f R k (some ((t0.1.1, t0.1.2.1, t0.1.2.2.1, ()), t0.2.1, t0.2.2.1, t0.2.2.2.1, ())) a1 a2 a3_0 a3_1 a3_2 (shl .i64 1 (IntKind.u64.wrap (wrap64 (a3_0 - 1))))).bind fun t1 => some t1) else (if 0 ≤ (shl .i64 1 (IntKind.u64.wrap (wrap64 (a3_0 - 1)))) then (if (shl .i64 1 (IntKind.u64.wrap (wrap64 (a3_0 - 1)))) ≤ (a1.length : Int) then (if 0 ≤ (shl .i64 1 (IntKind.u64.wrap (wrap64 (a3_0 - 1)))) then (if (shl .i64 1 (IntKind.u64.wrap (wrap64 (a3_0 - 1)))) ≤ (shl .i64 1 (IntKind.u64.wrap (wrap64 (a3_0 - 1)))) then ((tft_Plan_first.f k (some ((t0.1.1, t0.1.2.1, t0.1.2.2.1, ()), t0.2.1, t0.2.2.1, t0.2.2.2.1, ())) a3_0 a3_1 a3_2).bind fun t1 => ((R (some ((t0.1.1, t0.1.2.1, t0.1.2.2.1, ()), t0.2.1, t0.2.2.1, t0.2.2.2.1, ())) (a1.take ((shl .i64 1 (IntKind.u64.wrap (wrap64 (a3_0 - 1)))) : Int).toNat) ([] : List Int) t1.1 t1.2.1 t1.2.2).bind fun t2 => ((word_Field_Add.f k t0.1.1 t0.1.2.1 t0.1.2.2.1 a3_2 a3_2).bind fun t3 => tft_Plan_whole.l13 R k t0.1.1 t0.1.2.1 t0.1.2.2.1 t0.2.1 t0.2.2.1 t0.2.2.2.1 a1 a3_0 a3_1 a3_2 (a1.length : Int) (shl .i64 1 (IntKind.u64.wrap (wrap64 (a3_0 - 1)))) t2 ([] : List Int) t3 a2 (a2.length : Int) 0))) else none) else none) else none) else none)) else none)))) : Option (List Int)) := by rw [← W64_eq, ← WK_eq]; kernel_rfl
theorem tft_Plan_Back.f_eq (k : Nat) (a0 : Option ((Int × Int × Int × Unit) × Int × List Int × Int × Unit)) (a1 : List Int) : tft_Plan_Back.f k a0 a1 = ((Option.elim a0 (some (([] : List Int), 2)) fun t0 => ((tft_Plan_Most.f k (some ((t0.1.1, t0.1.2.1, t0.1.2.2.1, ()), t0.2.1, t0.2.2.1, t0.2.2.2.1, ()))).bind fun t1 => (if (a1.length : Int) > t1 then some (([] : List Int), 13) else ((tft_Plan_padded.f k (some ((t0.1.1, t0.1.2.1, t0.1.2.2.1, ()), t0.2.1, t0.2.2.1, t0.2.2.2.1, ())) a1).bind fun t2 => (if 0 ≤ (a1.length : Int) then (if (a1.length : Int) ≤ (t2.length : Int) then (if 0 ≤ (a1.length : Int) then (if (a1.length : Int) ≤ (a1.length : Int) then ((tft_Plan_Most.f k (some ((t0.1.1, t0.1.2.1, t0.1.2.2.1, ()), t0.2.1, t0.2.2.1, t0.2.2.2.1, ()))).bind fun t3 => (if 0 ≤ (wrap64 (t3 - (a1.length : Int))) then (if ((wrap64 (t3 - (a1.length : Int))) : Int).toNat ≤ 35184372088832 then ((tft_Plan_of.f k (some ((t0.1.1, t0.1.2.1, t0.1.2.2.1, ()), t0.2.1, t0.2.2.1, t0.2.2.2.1, ())) t0.2.1 1).bind fun t4 => ((tft_Plan_whole.f k (some ((t0.1.1, t0.1.2.1, t0.1.2.2.1, ()), t0.2.1, t0.2.2.1, t0.2.2.2.1, ())) (t2.take ((a1.length : Int) : Int).toNat) (List.replicate ((wrap64 (t3 - (a1.length : Int))) : Int).toNat (0 : Int)) t4.1 t4.2.1 t4.2.2).bind fun t5 => (if 0 ≤ (a1.length : Int) then (if (a1.length : Int) ≤ (t5.length : Int) then (if 0 ≤ (a1.length : Int) then (if (a1.length : Int) ≤ (a1.length : Int) then some ((t5.take ((a1.length : Int) : Int).toNat), 0) else none) else none) else none) else none))) else none) else none)) else none) else none) else none) else none))))) : Option (List Int × Int)) := by rw [← W64_eq, tft_Plan_Back.f_def]; kernel_rfl
theorem vinculumlaw07_awake.f_eq (k : Nat) : vinculumlaw07_awake.f k = (((tft_New.f k 17 2).bind fun t0 => (Option.elim t0.1 ((if t0.2 = 0 then some false else some false)) fun t1 => (if t0.2 = 0 then ((tft_Plan_Point.f k (some ((t1.1.1, t1.1.2.1, t1.1.2.2.1, ()), t1.2.1, t1.2.2.1, t1.2.2.2.1, ())) 1).bind fun t2 => ((tft_Plan_Point.f k (some ((t1.1.1, t1.1.2.1, t1.1.2.2.1, ()), t1.2.1, t1.2.2.1, t1.2.2.2.1, ())) 2).bind fun t3 => ((tft_Plan_Go.f k (some ((t1.1.1, t1.1.2.1, t1.1.2.2.1, ()), t1.2.1, t1.2.2.1, t1.2.2.2.1, ())) ([1, 2, 3] : List Int) 3).bind fun t4 => ((tft_Plan_Back.f k (some ((t1.1.1, t1.1.2.1, t1.1.2.2.1, ()), t1.2.1, t1.2.2.1, t1.2.2.2.1, ())) ([6, 2, 7] : List Int)).bind fun t5 => ((tft_Plan_Most.f k (some ((t1.1.1, t1.1.2.1, t1.1.2.2.1, ()), t1.2.1, t1.2.2.1, t1.2.2.2.1, ()))).bind fun t6 => (if t6 = 4 then (if t2.1 = 16 then (if t3.1 = 13 then ((vinculumref06_Same.f k t4.1 ([6, 2, 7] : List Int)).bind fun t7 => (if t7 = true then (if t4.2 = 0 then ((vinculumref06_Same.f k t5.1 ([1, 2, 3] : List Int)).bind fun t8 => (if t8 = true then some (decide (t5.2 = 0)) else some false)) else some false) else some false)) else some false) else some false) else some false)))))) else some false))) : Option Bool) := by rw [vinculumlaw07_awake.f_def]; kernel_rfl
theorem vinculumlaw07_TftTurns.f_eq (k : Nat) (a0 : Int) (a1 : Int) : vinculumlaw07_TftTurns.f k a0 a1 = (((tft_Turned.f k a0 a1).bind fun t0 => ((vinculumref07_Turned.f k a0 a1).bind fun t1 => (if t0.1 = t1.1 then (if t0.2 = t1.2 then ((vinculumlaw07_awake.f k).bind fun t2 => some t2) else some false) else some false))) : Option Bool) := by rw [vinculumlaw07_TftTurns.f_def]; kernel_rfl
theorem vinculumref04_Is.l4_eq (k : Nat) (x0 : Int) (x3 : Int) : vinculumref04_Is.l4 (k + 1) x0 x3 = ((if (IntKind.u64.wrap (x3 * x3)) ≤ x0 then (if x3 = 0 then none else (if (Int.tmod x0 x3) = 0 then some false else vinculumref04_Is.l4 k x0 (IntKind.u64.wrap (x3 + 1)))) else some true) : Option Bool) := by rw [← WK_eq]; kernel_rfl
theorem vinculumref04_Is.f_eq (k : Nat) (a0 : Int) : vinculumref04_Is.f k a0 = ((if a0 < 2 then some false else vinculumref04_Is.l4 k a0 2) : Option Bool) := by rw [vinculumref04_Is.f_def]; kernel_rfl
theorem vinculumref03_Add.f_eq (k : Nat) (a0 : Int) (a1 : Int) (a2 : Int) : vinculumref03_Add.f k a0 a1 a2 = ((if a2 = 0 then none else (if a2 = 0 then none else (if a2 = 0 then none else some (Int.tmod (IntKind.u64.wrap ((Int.tmod a0 a2) + (Int.tmod a1 a2))) a2)))) : Option Int) := by rw [← WK_eq, vinculumref03_Add.f_def]; kernel_rfl
theorem vinculumref03_Mul.l4_eq (k : Nat) (x0 : Int) (x1 : Int) (x2 : Int) (x7 : Int) : vinculumref03_Mul.l4 (k + 1) x0 x1 x2 x7 = ((if x1 > 0 then (if (Int.tmod x1 2) = 1 then ((vinculumref03_Add.f k x7 x0 x2).bind fun t0 => ((vinculumref03_Add.f k x0 x0 x2).bind fun t1 => vinculumref03_Mul.l4 k t1 (IntKind.u64.wrap (Int.tdiv x1 2)) x2 t0)) else ((vinculumref03_Add.f k x0 x0 x2).bind fun t0 => vinculumref03_Mul.l4 k t0 (IntKind.u64.wrap (Int.tdiv x1 2)) x2 x7)) else some x7) : Option Int) := by rw [← WK_eq]; kernel_rfl
theorem vinculumref03_Mul.f_eq (k : Nat) (a0 : Int) (a1 : Int) (a2 : Int) : vinculumref03_Mul.f k a0 a1 a2 = ((if a2 = 0 then none else (if a2 = 0 then none else vinculumref03_Mul.l4 k (Int.tmod a0 a2) (Int.tmod a1 a2) a2 0)) : Option Int) := by rw [vinculumref03_Mul.f_def]; kernel_rfl
theorem vinculumref03_Pow.l2_eq (k : Nat) (x0 : Int) (x1 : Int) (x2 : Int) (x7 : Int) : vinculumref03_Pow.l2 (k + 1) x0 x1 x2 x7 = ((if x1 > 0 then (if (Int.tmod x1 2) = 1 then ((vinculumref03_Mul.f k x7 x0 x2).bind fun t0 => ((vinculumref03_Mul.f k x0 x0 x2).bind fun t1 => vinculumref03_Pow.l2 k t1 (IntKind.u64.wrap (Int.tdiv x1 2)) x2 t0)) else ((vinculumref03_Mul.f k x0 x0 x2).bind fun t0 => vinculumref03_Pow.l2 k t0 (IntKind.u64.wrap (Int.tdiv x1 2)) x2 x7)) else some x7) : Option Int) := by rw [← WK_eq]; kernel_rfl
theorem vinculumref03_Pow.f_eq (k : Nat) (a0 : Int) (a1 : Int) (a2 : Int) : vinculumref03_Pow.f k a0 a1 a2 = ((if a2 = 0 then none else vinculumref03_Pow.l2 k a0 a1 a2 (Int.tmod 1 a2)) : Option Int) := by rw [vinculumref03_Pow.f_def]; kernel_rfl
theorem vinculumref04_Twos.l2_eq (k : Nat) (x0 : Int) (x3 : Int) : vinculumref04_Twos.l2 (k + 1) x0 x3 = ((if x0 > 0 then (if (Int.tmod x0 2) = 0 then vinculumref04_Twos.l2 k (IntKind.u64.wrap (Int.tdiv x0 2)) (wrap64 (x3 + 1)) else some x3) else some x3) : Option Int) := by rw [← W64_eq, ← WK_eq]; kernel_rfl
theorem vinculumref04_Twos.f_eq (k : Nat) (a0 : Int) : vinculumref04_Twos.f k a0 = (vinculumref04_Twos.l2 k a0 0 : Option Int) := by rw [vinculumref04_Twos.f_def]; kernel_rfl
theorem vinculumref04_Order.l3_eq (k : Nat) (x0 : Int) (x1 : Int) (x5 : Int) : vinculumref04_Order.l3 (k + 1) x0 x1 x5 = ((if x5 < 64 then (if x0 = 0 then none else (if x1 = (Int.tmod 1 x0) then some x5 else ((vinculumref03_Mul.f k x1 x1 x0).bind fun t0 => vinculumref04_Order.l3 k x0 t0 (wrap64 (x5 + 1))))) else some (-1)) : Option Int) := by rw [← W64_eq]; kernel_rfl
theorem vinculumref04_Order.f_eq (k : Nat) (a0 : Int) (a1 : Int) : vinculumref04_Order.f k a0 a1 = ((if a0 = 0 then none else vinculumref04_Order.l3 k a0 (Int.tmod a1 a0) 0) : Option Int) := by rw [vinculumref04_Order.f_def]; kernel_rfl
theorem vinculumref04_Root.l9_eq (k : Nat) (x0 : Int) (x1 : Int) (x6 : Int) (x8 : Int) : vinculumref04_Root.l9 (k + 1) x0 x1 x6 x8 = (((vinculumref03_Pow.f k x8 x6 x0).bind fun t0 => ((vinculumref04_Order.f k x0 t0).bind fun t1 => (if t1 = x1 then ((vinculumref03_Pow.f k x8 x6 x0).bind fun t2 => some (t2, 0)) else vinculumref04_Root.l9 k x0 x1 x6 (IntKind.u64.wrap (x8 + 1))))) : Option (Int × Int)) := by rw [← WK_eq]; kernel_rfl
theorem vinculumref04_Root.l5_eq (k : Nat) (x0 : Int) (x1 : Int) (x6 : Int) (x7 : Int) : vinculumref04_Root.l5 (k + 1) x0 x1 x6 x7 = ((if x7 < x1 then vinculumref04_Root.l5 k x0 x1 (IntKind.u64.wrap (Int.tdiv x6 2)) (wrap64 (x7 + 1)) else vinculumref04_Root.l9 k x0 x1 x6 1) : Option (Int × Int)) := by rw [← W64_eq, ← WK_eq]; kernel_rfl
theorem vinculumref04_Root.f_eq (k : Nat) (a0 : Int) (a1 : Int) : vinculumref04_Root.f k a0 a1 = ((if a1 < 0 then some (0, 1) else ((vinculumref04_Twos.f k (IntKind.u64.wrap (a0 - 1))).bind fun t0 => (if a1 > t0 then (if a0 > 2 then some (0, 1) else (if a0 = 2 then (if a1 > 0 then some (0, 1) else vinculumref04_Root.l5 k a0 a1 (IntKind.u64.wrap (a0 - 1)) 0) else vinculumref04_Root.l5 k a0 a1 (IntKind.u64.wrap (a0 - 1)) 0)) else (if a0 = 2 then (if a1 > 0 then some (0, 1) else vinculumref04_Root.l5 k a0 a1 (IntKind.u64.wrap (a0 - 1)) 0) else vinculumref04_Root.l5 k a0 a1 (IntKind.u64.wrap (a0 - 1)) 0)))) : Option (Int × Int)) := by rw [← WK_eq, vinculumref04_Root.f_def]; kernel_rfl
theorem vinculumref06_Given.l3_eq (k : Nat) (x1 : Int) (x8 : Int) (x13_0 : Int) (x13_1 : Int) (x13_2 : Int) (x13_3 : Int) : vinculumref06_Given.l3 (k + 1) x1 x8 x13_0 x13_1 x13_2 x13_3 = ((if x8 < x1 then vinculumref06_Given.l3 k x1 (wrap64 (x8 + 1)) x13_0 x13_1 (wrap64 (2 * x13_2)) x13_3 else some (some (x13_0, x13_1, x13_2, x13_3, ()))) : Option ((Option (Int × Int × Int × Int × Unit)))) := by rw [← W64_eq]; kernel_rfl
theorem vinculumref06_Given.f_eq (k : Nat) (a0 : Int) (a1 : Int) (a2 : Int) : vinculumref06_Given.f k a0 a1 a2 = (vinculumref06_Given.l3 k a1 0 a0 a1 1 a2 : Option ((Option (Int × Int × Int × Int × Unit)))) := by rw [vinculumref06_Given.f_def]; kernel_rfl
theorem vinculumref06_New.f_eq (k : Nat) (a0 : Int) (a1 : Int) : vinculumref06_New.f k a0 a1 = ((if a1 > 20 then some (none, 13) else ((vinculumref04_Is.f k a0).bind fun t0 => (if (!t0) = true then some (none, 14) else ((vinculumref04_Root.f k a0 a1).bind fun t1 => (if t1.2 = 0 then ((vinculumref06_Given.f k a0 a1 t1.1).bind fun t2 => (Option.elim t2 (some (none, 0)) fun t3 => some ((some (t3.1, t3.2.1, t3.2.2.1, t3.2.2.2.1, ())), 0))) else some (none, t1.2)))))) : Option ((Option (Int × Int × Int × Int × Unit)) × Int)) := by rw [vinculumref06_New.f_def]; kernel_rfl
theorem vinculumref07_Point.f_eq (k : Nat) (a0_0 : Int) (a0_1 : Int) (a0_2 : Int) (a0_3 : Int) (a1 : Int) : vinculumref07_Point.f k a0_0 a0_1 a0_2 a0_3 a1 = (((vinculumref07_Turned.f k a1 a0_1).bind fun t0 => ((vinculumref03_Pow.f k a0_3 (IntKind.u64.wrap t0.1) a0_0).bind fun t1 => some t1)) : Option Int) := by rw [← WK_eq, vinculumref07_Point.f_def]; kernel_rfl
theorem vinculumlaw07_TftPoints.f_eq (k : Nat) (a0 : Int) (a1 : Int) (a2 : Int) : vinculumlaw07_TftPoints.f k a0 a1 a2 = ((if a0 > 100000 then ((vinculumlaw07_awake.f k).bind fun t0 => some t0) else (if a1 > 8 then (if a1 ≤ 20 then ((vinculumlaw07_awake.f k).bind fun t0 => some t0) else ((tft_New.f k a0 a1).bind fun t0 => (Option.elim t0.1 (((vinculumref06_New.f k a0 a1).bind fun t1 => (Option.elim t1.1 ((if t0.2 = t1.2 then ((vinculumlaw07_awake.f k).bind fun t2 => some t2) else some false)) fun t2 => (if t0.2 = t1.2 then some false else some false)))) fun t1 => ((vinculumref06_New.f k a0 a1).bind fun t2 => (Option.elim t2.1 ((if t0.2 = t2.2 then some false else some false)) fun t3 => (if t0.2 = t2.2 then ((tft_Plan_Point.f k (some ((t1.1.1, t1.1.2.1, t1.1.2.2.1, ()), t1.2.1, t1.2.2.1, t1.2.2.2.1, ())) a2).bind fun t4 => (if a2 < 0 then (if t4.2 = 1 then (if t4.1 = 0 then ((tft_Plan_Most.f k (some ((t1.1.1, t1.1.2.1, t1.1.2.2.1, ()), t1.2.1, t1.2.2.1, t1.2.2.2.1, ()))).bind fun t5 => (if t5 = t3.2.2.1 then ((vinculumlaw07_awake.f k).bind fun t6 => some t6) else some false)) else some false) else some false) else (if a2 ≥ t3.2.2.1 then (if t4.2 = 1 then (if t4.1 = 0 then ((tft_Plan_Most.f k (some ((t1.1.1, t1.1.2.1, t1.1.2.2.1, ()), t1.2.1, t1.2.2.1, t1.2.2.2.1, ()))).bind fun t5 => (if t5 = t3.2.2.1 then ((vinculumlaw07_awake.f k).bind fun t6 => some t6) else some false)) else some false) else some false) else (if t4.2 = 0 then ((vinculumref07_Point.f k t3.1 t3.2.1 t3.2.2.1 t3.2.2.2.1 a2).bind fun t5 => (if t4.1 = t5 then ((tft_Plan_Most.f k (some ((t1.1.1, t1.1.2.1, t1.1.2.2.1, ()), t1.2.1, t1.2.2.1, t1.2.2.2.1, ()))).bind fun t6 => (if t6 = t3.2.2.1 then ((vinculumlaw07_awake.f k).bind fun t7 => some t7) else some false)) else some false)) else some false)))) else some false)))))) else ((tft_New.f k a0 a1).bind fun t0 => (Option.elim t0.1 (((vinculumref06_New.f k a0 a1).bind fun t1 => (Option.elim t1.1 ((if t0.2 = t1.2 then ((vinculumlaw07_awake.f k).bind fun t2 => some t2) else some false)) fun t2 => (if t0.2 = t1.2 then some false else some false)))) fun t1 => ((vinculumref06_New.f k a0 a1).bind fun t2 => (Option.elim t2.1 ((if t0.2 = t2.2 then some false else some false)) fun t3 => (if t0.2 = t2.2 then ((tft_Plan_Point.f k (some ((t1.1.1, t1.1.2.1, t1.1.2.2.1, ()), t1.2.1, t1.2.2.1, t1.2.2.2.1, ())) a2).bind fun t4 => (if a2 < 0 then (if t4.2 = 1 then (if t4.1 = 0 then ((tft_Plan_Most.f k (some ((t1.1.1, t1.1.2.1, t1.1.2.2.1, ()), t1.2.1, t1.2.2.1, t1.2.2.2.1, ()))).bind fun t5 => (if t5 = t3.2.2.1 then ((vinculumlaw07_awake.f k).bind fun t6 => some t6) else some false)) else some false) else some false) else (if a2 ≥ t3.2.2.1 then (if t4.2 = 1 then (if t4.1 = 0 then ((tft_Plan_Most.f k (some ((t1.1.1, t1.1.2.1, t1.1.2.2.1, ()), t1.2.1, t1.2.2.1, t1.2.2.2.1, ()))).bind fun t5 => (if t5 = t3.2.2.1 then ((vinculumlaw07_awake.f k).bind fun t6 => some t6) else some false)) else some false) else some false) else (if t4.2 = 0 then ((vinculumref07_Point.f k t3.1 t3.2.1 t3.2.2.1 t3.2.2.2.1 a2).bind fun t5 => (if t4.1 = t5 then ((tft_Plan_Most.f k (some ((t1.1.1, t1.1.2.1, t1.1.2.2.1, ()), t1.2.1, t1.2.2.1, t1.2.2.2.1, ()))).bind fun t6 => (if t6 = t3.2.2.1 then ((vinculumlaw07_awake.f k).bind fun t7 => some t7) else some false)) else some false)) else some false)))) else some false))))))) : Option Bool) := by rw [vinculumlaw07_TftPoints.f_def]; kernel_rfl
theorem vinculumref06_Value.l3_eq (k : Nat) (x0 : List Int) (x1 : Int) (x2 : Int) (x7 : Int) (x8 : Int) : vinculumref06_Value.l3 (k + 1) x0 x1 x2 x7 x8 = ((if x8 ≥ 0 then ((vinculumref03_Mul.f k x7 x1 x2).bind fun t0 => (if 0 ≤ x8 then (if x8 < (x0.length : Int) then ((vinculumref03_Add.f k t0 (rd x0 x8) x2).bind fun t1 => vinculumref06_Value.l3 k x0 x1 x2 t1 (wrap64 (x8 - 1))) else none) else none)) else some x7) : Option Int) := by rw [← W64_eq]; kernel_rfl
theorem vinculumref06_Value.f_eq (k : Nat) (a0 : List Int) (a1 : Int) (a2 : Int) : vinculumref06_Value.f k a0 a1 a2 = (vinculumref06_Value.l3 k a0 a1 a2 0 (wrap64 ((a0.length : Int) - 1)) : Option Int) := by rw [← W64_eq, vinculumref06_Value.f_def]; kernel_rfl
theorem vinculumref07_Go.l3_eq (k : Nat) (x0_0 : Int) (x0_1 : Int) (x0_2 : Int) (x0_3 : Int) (x1 : List Int) (x2 : Int) (x7 : List Int) (x8 : Int) : vinculumref07_Go.l3 (k + 1) x0_0 x0_1 x0_2 x0_3 x1 x2 x7 x8 = ((if x8 < x2 then ((vinculumref07_Point.f k x0_0 x0_1 x0_2 x0_3 x8).bind fun t0 => ((vinculumref06_Value.f k x1 t0 x0_0).bind fun t1 => (if (x7.length + ([t1] : List Int).length) ≤ 17592186044416 then vinculumref07_Go.l3 k x0_0 x0_1 x0_2 x0_3 x1 x2 (x7 ++ ([t1] : List Int)) (wrap64 (x8 + 1)) else none))) else some x7) : Option (List Int)) := by rw [← W64_eq]; kernel_rfl
theorem vinculumref07_Go.f_eq (k : Nat) (a0_0 : Int) (a0_1 : Int) (a0_2 : Int) (a0_3 : Int) (a1 : List Int) (a2 : Int) : vinculumref07_Go.f k a0_0 a0_1 a0_2 a0_3 a1 a2 = (vinculumref07_Go.l3 k a0_0 a0_1 a0_2 a0_3 a1 a2 ([] : List Int) 0 : Option (List Int)) := by rw [vinculumref07_Go.f_def]; kernel_rfl
theorem vinculumlaw07_TftValues.f_eq (k : Nat) (a0 : Int) (a1 : List Int) (a2 : Int) : vinculumlaw07_TftValues.f k a0 a1 a2 = ((if a0 > 100000 then ((vinculumlaw07_awake.f k).bind fun t0 => some t0) else (if (a1.length : Int) > 70 then ((vinculumlaw07_awake.f k).bind fun t0 => some t0) else ((tft_New.f k a0 5).bind fun t0 => (Option.elim t0.1 (((vinculumref06_New.f k a0 5).bind fun t1 => (Option.elim t1.1 ((if t0.2 = t1.2 then ((vinculumlaw07_awake.f k).bind fun t2 => some t2) else some false)) fun t2 => (if t0.2 = t1.2 then some false else some false)))) fun t1 => ((vinculumref06_New.f k a0 5).bind fun t2 => (Option.elim t2.1 ((if t0.2 = t2.2 then some false else some false)) fun t3 => (if t0.2 = t2.2 then ((tft_Plan_Go.f k (some ((t1.1.1, t1.1.2.1, t1.1.2.2.1, ()), t1.2.1, t1.2.2.1, t1.2.2.2.1, ())) a1 a2).bind fun t4 => (if (a1.length : Int) > 32 then (if t4.2 = 13 then (if (t4.1.length : Int) = 0 then ((vinculumlaw07_awake.f k).bind fun t5 => some t5) else some false) else some false) else (if a2 < 0 then (if t4.2 = 1 then (if (t4.1.length : Int) = 0 then ((vinculumlaw07_awake.f k).bind fun t5 => some t5) else some false) else some false) else (if a2 > 32 then (if t4.2 = 1 then (if (t4.1.length : Int) = 0 then ((vinculumlaw07_awake.f k).bind fun t5 => some t5) else some false) else some false) else (if t4.2 = 0 then ((vinculumref07_Go.f k t3.1 t3.2.1 t3.2.2.1 t3.2.2.2.1 a1 a2).bind fun t5 => ((vinculumref06_Same.f k t4.1 t5).bind fun t6 => (if t6 = true then ((vinculumlaw07_awake.f k).bind fun t7 => some t7) else some false))) else some false))))) else some false))))))) : Option Bool) := by rw [vinculumlaw07_TftValues.f_def]; kernel_rfl
theorem vinculumlaw07_TftFinds.l16_eq (k : Nat) (x0 : Int) (x1 : List Int) (x9 : List Int) (x11 : List Int) (x12 : Int) : vinculumlaw07_TftFinds.l16 (k + 1) x0 x1 x9 x11 x12 = ((if x12 < (x1.length : Int) then (if 0 ≤ x12 then (if x12 < (x11.length : Int) then (if 0 ≤ x12 then (if x12 < (x1.length : Int) then (if x0 = 0 then none else (if (rd x11 x12) = (Int.tmod (rd x1 x12) x0) then (if 0 ≤ x12 then (if x12 < (x9.length : Int) then (if (rd x9 x12) ≥ x0 then some false else vinculumlaw07_TftFinds.l16 k x0 x1 x9 x11 (wrap64 (x12 + 1))) else none) else none) else some false)) else none) else none) else none) else none) else ((vinculumlaw07_awake.f k).bind fun t0 => some t0)) : Option Bool) := by rw [← W64_eq]; kernel_rfl
theorem vinculumlaw07_TftFinds.f_eq (k : Nat) (a0 : Int) (a1 : List Int) : vinculumlaw07_TftFinds.f k a0 a1 = ((if a0 > 100000 then ((vinculumlaw07_awake.f k).bind fun t0 => some t0) else (if (a1.length : Int) > 70 then ((vinculumlaw07_awake.f k).bind fun t0 => some t0) else ((tft_New.f k a0 5).bind fun t0 => (Option.elim t0.1 (((vinculumref06_New.f k a0 5).bind fun t1 => (Option.elim t1.1 ((if t0.2 = t1.2 then ((vinculumlaw07_awake.f k).bind fun t2 => some t2) else some false)) fun t2 => (if t0.2 = t1.2 then some false else some false)))) fun t1 => ((vinculumref06_New.f k a0 5).bind fun t2 => (Option.elim t2.1 ((if t0.2 = t2.2 then some false else some false)) fun t3 => (if t0.2 = t2.2 then ((tft_Plan_Back.f k (some ((t1.1.1, t1.1.2.1, t1.1.2.2.1, ()), t1.2.1, t1.2.2.1, t1.2.2.2.1, ())) a1).bind fun t4 => (if (a1.length : Int) > 32 then (if t4.2 = 13 then (if (t4.1.length : Int) = 0 then ((vinculumlaw07_awake.f k).bind fun t5 => some t5) else some false) else some false) else (if t4.2 = 0 then (if (t4.1.length : Int) = (a1.length : Int) then ((vinculumref07_Go.f k t3.1 t3.2.1 t3.2.2.1 t3.2.2.2.1 t4.1 (a1.length : Int)).bind fun t5 => vinculumlaw07_TftFinds.l16 k a0 a1 t4.1 t5 0) else some false) else some false))) else some false))))))) : Option Bool) := by rw [vinculumlaw07_TftFinds.f_def]; kernel_rfl
theorem vinculumlaw07_great.f_eq (k : Nat) (a0 : Int) : vinculumlaw07_great.f k a0 = ((if 0 ≤ (Int.tmod (wrap64 ((Int.tmod a0 3) + 3)) 3) then (if (Int.tmod (wrap64 ((Int.tmod a0 3) + 3)) 3) < (([998244353, 4179340454199820289, 180143985094819841] : List Int).length : Int) then some (rd ([998244353, 4179340454199820289, 180143985094819841] : List Int) (Int.tmod (wrap64 ((Int.tmod a0 3) + 3)) 3)) else none) else none) : Option Int) := by rw [← W64_eq, vinculumlaw07_great.f_def]; kernel_rfl
theorem vinculumlaw07_TftBack.l15_eq (k : Nat) (x2 : List Int) (x7 : Int) (x14 : List Int) (x16 : Int) : vinculumlaw07_TftBack.l15 (k + 1) x2 x7 x14 x16 = ((if x16 < (x2.length : Int) then (if 0 ≤ x16 then (if x16 < (x14.length : Int) then (if 0 ≤ x16 then (if x16 < (x2.length : Int) then (if x7 = 0 then none else (if (rd x14 x16) = (Int.tmod (rd x2 x16) x7) then vinculumlaw07_TftBack.l15 k x2 x7 x14 (wrap64 (x16 + 1)) else some false)) else none) else none) else none) else none) else ((vinculumlaw07_awake.f k).bind fun t0 => some t0)) : Option Bool) := by rw [← W64_eq]; kernel_rfl
theorem vinculumlaw07_TftBack.f_eq (k : Nat) (a0 : Int) (a1 : Int) (a2 : List Int) : vinculumlaw07_TftBack.f k a0 a1 a2 = ((if a1 < 0 then ((vinculumlaw07_awake.f k).bind fun t0 => some t0) else (if a1 > 10 then ((vinculumlaw07_awake.f k).bind fun t0 => some t0) else (if (a2.length : Int) > 1024 then ((vinculumlaw07_awake.f k).bind fun t0 => some t0) else ((vinculumlaw07_great.f k a0).bind fun t0 => ((tft_New.f k t0 a1).bind fun t1 => (Option.elim t1.1 ((if t1.2 = 0 then some false else some false)) fun t2 => (if t1.2 = 0 then ((tft_Plan_Most.f k (some ((t2.1.1, t2.1.2.1, t2.1.2.2.1, ()), t2.2.1, t2.2.2.1, t2.2.2.2.1, ()))).bind fun t3 => (if (a2.length : Int) > t3 then ((tft_Plan_Back.f k (some ((t2.1.1, t2.1.2.1, t2.1.2.2.1, ()), t2.2.1, t2.2.2.1, t2.2.2.2.1, ())) a2).bind fun t4 => (if t4.2 = 13 then ((vinculumlaw07_awake.f k).bind fun t5 => some t5) else some false)) else ((tft_Plan_Go.f k (some ((t2.1.1, t2.1.2.1, t2.1.2.2.1, ()), t2.2.1, t2.2.2.1, t2.2.2.2.1, ())) a2 (a2.length : Int)).bind fun t4 => ((tft_Plan_Back.f k (some ((t2.1.1, t2.1.2.1, t2.1.2.2.1, ()), t2.2.1, t2.2.2.1, t2.2.2.2.1, ())) t4.1).bind fun t5 => (if t4.2 = 0 then (if t5.2 = 0 then (if (t5.1.length : Int) = (a2.length : Int) then vinculumlaw07_TftBack.l15 k a2 t0 t5.1 0 else some false) else some false) else some false))))) else some false))))))) : Option Bool) := by rw [vinculumlaw07_TftBack.f_def]; kernel_rfl
theorem vinculumlaw07_TftApart.l7_eq (k : Nat) (x1 : List Int) (x5_0 : Int) (x5_1 : Int) (x8_0 : Int) (x8_1 : Int) (x8_2 : Int) (x8_3 : Int) (x8_4 : List Int) (x8_5 : Int) (x10 : List Int) (x11 : Int) : vinculumlaw07_TftApart.l7 (k + 1) x1 x5_0 x5_1 x8_0 x8_1 x8_2 x8_3 x8_4 x8_5 x10 x11 = (((tft_Plan_Most.f k (some ((x8_0, x8_1, x8_2, ()), x8_3, x8_4, x8_5, ()))).bind fun t0 => (if x11 < t0 then ((tft_Plan_Point.f k (some ((x8_0, x8_1, x8_2, ()), x8_3, x8_4, x8_5, ())) x11).bind fun t1 => (if t1.2 = 0 then (if (mget (dcR (rd x10 0)) t1.1) = 0 then vinculumlaw07_TftApart.l7 k x1 x5_0 x5_1 x8_0 x8_1 x8_2 x8_3 x8_4 x8_5 ([(cdR (mset (dcR (rd x10 0)) t1.1 1))] : List Int) (wrap64 (x11 + 1)) else some false) else some false)) else ((tft_Plan_Most.f k (some ((x8_0, x8_1, x8_2, ()), x8_3, x8_4, x8_5, ()))).bind fun t1 => (if (x1.length : Int) > t1 then ((vinculumlaw07_awake.f k).bind fun t2 => some t2) else (if x5_0 < 0 then ((vinculumlaw07_awake.f k).bind fun t2 => some t2) else (if x5_1 < x5_0 then ((vinculumlaw07_awake.f k).bind fun t2 => some t2) else ((tft_Plan_Most.f k (some ((x8_0, x8_1, x8_2, ()), x8_3, x8_4, x8_5, ()))).bind fun t2 => (if x5_1 > t2 then ((vinculumlaw07_awake.f k).bind fun t3 => some t3) else ((tft_Plan_Go.f k (some ((x8_0, x8_1, x8_2, ()), x8_3, x8_4, x8_5, ())) x1 x5_0).bind fun t3 => ((tft_Plan_Go.f k (some ((x8_0, x8_1, x8_2, ()), x8_3, x8_4, x8_5, ())) x1 x5_1).bind fun t4 => (if t3.2 = 0 then (if t4.2 = 0 then (if (t3.1.length : Int) = x5_0 then (if (t4.1.length : Int) = x5_1 then (if 0 ≤ (t3.1.length : Int) then (if (t3.1.length : Int) ≤ (t4.1.length : Int) then ((vinculumref06_Same.f k t3.1 (t4.1.take ((t3.1.length : Int) : Int).toNat)).bind fun t5 => (if t5 = true then ((vinculumlaw07_awake.f k).bind fun t6 => some t6) else some false)) else none) else none) else some false) else some false) else some false) else some false))))))))))) : Option Bool) := by rw [← W64_eq]; kernel_rfl
theorem vinculumlaw07_TftApart.f_eq (k : Nat) (a0 : Int) (a1 : List Int) (a2_0 : Int) (a2_1 : Int) : vinculumlaw07_TftApart.f k a0 a1 a2_0 a2_1 = (((vinculumlaw07_great.f k a0).bind fun t0 => ((tft_New.f k t0 (Int.tmod (wrap64 ((Int.tmod a0 7) + 7)) 7)).bind fun t1 => (Option.elim t1.1 ((if t1.2 = 0 then some false else some false)) fun t2 => (if t1.2 = 0 then vinculumlaw07_TftApart.l7 k a1 a2_0 a2_1 t2.1.1 t2.1.2.1 t2.1.2.2.1 t2.2.1 t2.2.2.1 t2.2.2.2.1 ([(cdR ([] : List Int))] : List Int) 0 else some false)))) : Option Bool) := by rw [← W64_eq, vinculumlaw07_TftApart.f_def]; kernel_rfl
theorem tft_Plan_Mul.l15_eq (k : Nat) (x0_0 : Int) (x0_1 : Int) (x0_2 : Int) (x0_3 : Int) (x0_4 : List Int) (x0_5 : Int) (x9 : List Int) (x11 : List Int) (x56 : Int) (x57 : Int) : tft_Plan_Mul.l15 (k + 1) x0_0 x0_1 x0_2 x0_3 x0_4 x0_5 x9 x11 x56 x57 = ((if x57 < x56 then (if 0 ≤ x57 then (if x57 < (x9.length : Int) then (if 0 ≤ x57 then (if x57 < (x11.length : Int) then ((word_Field_Mul.f k x0_0 x0_1 x0_2 (rd x9 x57) (rd x11 x57)).bind fun t0 => (if 0 ≤ x57 then (if x57 < (x9.length : Int) then tft_Plan_Mul.l15 k x0_0 x0_1 x0_2 x0_3 x0_4 x0_5 (x9.set (x57 : Int).toNat t0) x11 x56 (wrap64 (x57 + 1)) else none) else none)) else none) else none) else none) else none) else ((tft_Plan_Back.f k (some ((x0_0, x0_1, x0_2, ()), x0_3, x0_4, x0_5, ())) x9).bind fun t0 => some (t0.1, t0.2))) : Option (List Int × Int)) := by rw [← W64_eq]; kernel_rfl
theorem tft_Plan_Mul.f_eq (k : Nat) (a0 : Option ((Int × Int × Int × Unit) × Int × List Int × Int × Unit)) (a1 : List Int) (a2 : List Int) : tft_Plan_Mul.f k a0 a1 a2 = ((Option.elim a0 (some (([] : List Int), 2)) fun t0 => (if (a1.length : Int) = 0 then some (([] : List Int), 0) else (if (a2.length : Int) = 0 then some (([] : List Int), 0) else ((tft_Plan_Most.f k (some ((t0.1.1, t0.1.2.1, t0.1.2.2.1, ()), t0.2.1, t0.2.2.1, t0.2.2.2.1, ()))).bind fun t1 => (if (wrap64 ((wrap64 ((a1.length : Int) + (a2.length : Int))) - 1)) > t1 then some (([] : List Int), 13) else ((tft_Plan_Go.f k (some ((t0.1.1, t0.1.2.1, t0.1.2.2.1, ()), t0.2.1, t0.2.2.1, t0.2.2.2.1, ())) a1 (wrap64 ((wrap64 ((a1.length : Int) + (a2.length : Int))) - 1))).bind fun t2 => (if t2.2 = 0 then ((tft_Plan_Go.f k (some ((t0.1.1, t0.1.2.1, t0.1.2.2.1, ()), t0.2.1, t0.2.2.1, t0.2.2.2.1, ())) a2 (wrap64 ((wrap64 ((a1.length : Int) + (a2.length : Int))) - 1))).bind fun t3 => (if t3.2 = 0 then tft_Plan_Mul.l15 k t0.1.1 t0.1.2.1 t0.1.2.2.1 t0.2.1 t0.2.2.1 t0.2.2.2.1 t2.1 t3.1 (t2.1.length : Int) 0 else some (([] : List Int), t3.2))) else some (([] : List Int), t2.2)))))))) : Option (List Int × Int)) := by rw [← W64_eq, tft_Plan_Mul.f_def]; kernel_rfl
theorem vinculumref06_Mul.l8_eq (k : Nat) (x0 : List Int) (x1 : List Int) (x2 : Int) (x7 : List Int) (x8 : Int) (x9 : Int) : vinculumref06_Mul.l8 (k + 1) x0 x1 x2 x7 x8 x9 = ((if x9 < (x1.length : Int) then (if 0 ≤ (wrap64 (x8 + x9)) then (if (wrap64 (x8 + x9)) < (x7.length : Int) then (if 0 ≤ x8 then (if x8 < (x0.length : Int) then (if 0 ≤ x9 then (if x9 < (x1.length : Int) then ((vinculumref03_Mul.f k (rd x0 x8) (rd x1 x9) x2).bind fun t0 => ((vinculumref03_Add.f k (rd x7 (wrap64 (x8 + x9))) t0 x2).bind fun t1 => (if 0 ≤ (wrap64 (x8 + x9)) then (if (wrap64 (x8 + x9)) < (x7.length : Int) then vinculumref06_Mul.l8 k x0 x1 x2 (x7.set ((wrap64 (x8 + x9)) : Int).toNat t1) x8 (wrap64 (x9 + 1)) else none) else none))) else none) else none) else none) else none) else none) else none) else vinculumref06_Mul.l5 k x0 x1 x2 x7 (wrap64 (x8 + 1))) : Option (List Int)) := by rw [← W64_eq]; kernel_rfl
theorem vinculumref06_Mul.l5_eq (k : Nat) (x0 : List Int) (x1 : List Int) (x2 : Int) (x7 : List Int) (x8 : Int) : vinculumref06_Mul.l5 (k + 1) x0 x1 x2 x7 x8 = ((if x8 < (x0.length : Int) then vinculumref06_Mul.l8 k x0 x1 x2 x7 x8 0 else some x7) : Option (List Int)) := by kernel_rfl
theorem vinculumref06_Mul.f_eq (k : Nat) (a0 : List Int) (a1 : List Int) (a2 : Int) : vinculumref06_Mul.f k a0 a1 a2 = ((if (a0.length : Int) = 0 then some ([] : List Int) else (if (a1.length : Int) = 0 then some ([] : List Int) else (if 0 ≤ (wrap64 ((wrap64 ((a0.length : Int) + (a1.length : Int))) - 1)) then (if ((wrap64 ((wrap64 ((a0.length : Int) + (a1.length : Int))) - 1)) : Int).toNat ≤ 35184372088832 then vinculumref06_Mul.l5 k a0 a1 a2 (List.replicate ((wrap64 ((wrap64 ((a0.length : Int) + (a1.length : Int))) - 1)) : Int).toNat (0 : Int)) 0 else none) else none))) : Option (List Int)) := by rw [← W64_eq, vinculumref06_Mul.f_def]; kernel_rfl
theorem vinculumlaw07_TftMuls.f_eq (k : Nat) (a0 : Int) (a1 : List Int) (a2 : List Int) : vinculumlaw07_TftMuls.f k a0 a1 a2 = ((if a0 > 100000 then ((vinculumlaw07_awake.f k).bind fun t0 => some t0) else (if (a1.length : Int) > 40 then ((vinculumlaw07_awake.f k).bind fun t0 => some t0) else (if (a2.length : Int) > 40 then ((vinculumlaw07_awake.f k).bind fun t0 => some t0) else ((tft_New.f k a0 5).bind fun t0 => (Option.elim t0.1 (((vinculumref06_New.f k a0 5).bind fun t1 => (Option.elim t1.1 ((if t0.2 = t1.2 then ((vinculumlaw07_awake.f k).bind fun t2 => some t2) else some false)) fun t2 => (if t0.2 = t1.2 then some false else some false)))) fun t1 => ((vinculumref06_New.f k a0 5).bind fun t2 => (Option.elim t2.1 ((if t0.2 = t2.2 then some false else some false)) fun t3 => (if t0.2 = t2.2 then ((tft_Plan_Mul.f k (some ((t1.1.1, t1.1.2.1, t1.1.2.2.1, ()), t1.2.1, t1.2.2.1, t1.2.2.2.1, ())) a1 a2).bind fun t4 => (if (a1.length : Int) > 0 then (if (a2.length : Int) > 0 then (if (wrap64 ((wrap64 ((a1.length : Int) + (a2.length : Int))) - 1)) > 32 then (if t4.2 = 13 then (if (t4.1.length : Int) = 0 then ((vinculumlaw07_awake.f k).bind fun t5 => some t5) else some false) else some false) else (if t4.2 = 0 then ((vinculumref06_Mul.f k a1 a2 a0).bind fun t5 => ((vinculumref06_Same.f k t4.1 t5).bind fun t6 => (if t6 = true then ((vinculumlaw07_awake.f k).bind fun t7 => some t7) else some false))) else some false)) else (if t4.2 = 0 then ((vinculumref06_Mul.f k a1 a2 a0).bind fun t5 => ((vinculumref06_Same.f k t4.1 t5).bind fun t6 => (if t6 = true then ((vinculumlaw07_awake.f k).bind fun t7 => some t7) else some false))) else some false)) else (if t4.2 = 0 then ((vinculumref06_Mul.f k a1 a2 a0).bind fun t5 => ((vinculumref06_Same.f k t4.1 t5).bind fun t6 => (if t6 = true then ((vinculumlaw07_awake.f k).bind fun t7 => some t7) else some false))) else some false))) else some false)))))))) : Option Bool) := by rw [← W64_eq, vinculumlaw07_TftMuls.f_def]; kernel_rfl
theorem vinculumlaw07_TftNil.f_eq (k : Nat) (a0 : List Int) (a1 : Int) : vinculumlaw07_TftNil.f k a0 a1 = ((if (a0.length : Int) > 10 then ((vinculumlaw07_awake.f k).bind fun t0 => some t0) else ((tft_Plan_Point.f k none a1).bind fun t0 => ((tft_Plan_Go.f k none a0 a1).bind fun t1 => ((tft_Plan_Back.f k none a0).bind fun t2 => ((tft_Plan_Mul.f k none a0 a0).bind fun t3 => ((tft_Plan_Most.f k none).bind fun t4 => (if t4 = 0 then (if t0.2 = 2 then (if t1.2 = 2 then (if t2.2 = 2 then (if t3.2 = 2 then ((vinculumlaw07_awake.f k).bind fun t5 => some t5) else some false) else some false) else some false) else some false) else some false))))))) : Option Bool) := by rw [vinculumlaw07_TftNil.f_def]; kernel_rfl
end Go.Proofs.YtfffblanmdfidaaDoor.F
end
section
/-
  Plain numbers and words for this seat's laws: words of 64 bits, the model's sums and differences with carry, numbers as lists of words. No condition.
-/
namespace Go.Proofs.YtfffblanmdfidaaDoor.Pure
open Go.RowKit Go.Proofs.YtfffblanmdfidaaDoor.F Go.Proofs.YtfffblanmdfidaaDoorW.PrintWords Go.Proofs.YtfffblanmdfidaaDoorW.PrintLast Go.Proofs.YtfffblanmdfidaaDoorW.PrintMore
set_option linter.unusedVariables false
set_option linter.unusedSimpArgs false

/-- A word. -/
def U (x : Int) : Prop := 0 ≤ x ∧ x < 18446744073709551616
/-- All are words. -/
def WF (l : List Int) : Prop := ∀ x ∈ l, U x
theorem U_of_wf {x : Int} (h : (Lit.int .u64 x).wf = true) : U x := by
  simp [Lit.wf, IntKind.min, IntKind.max, IntKind.signed, IntKind.bits] at h
  exact ⟨by omega, by omega⟩
theorem WF_of_wf {l : List Int} (h : ∀ x ∈ l, (Lit.int .u64 x).wf = true) : WF l := fun x hx => U_of_wf (h x hx)
theorem wu (x : Int) : IntKind.u64.wrap x = x % 18446744073709551616 := by rw [IntKind.wrap_u64]
theorem wu_of {x : Int} (h : U x) : IntKind.u64.wrap x = x := by have := h.1; have := h.2; rw [wu]; omega
theorem w64_of {x : Int} (h0 : -9223372036854775808 ≤ x) (h1 : x ≤ 9223372036854775807) : wrap64 x = x := by unfold wrap64; omega
theorem w64_nat {a : Nat} (h : a ≤ 1099511627780) : wrap64 (a : Int) = (a : Int) := w64_of (by omega) (by omega)
theorem w64_add {a b : Nat} (h : a + b ≤ 1099511627780) : wrap64 ((a : Int) + (b : Int)) = ((a + b : Nat) : Int) := by rw [w64_of (by omega) (by omega)]; omega
theorem w64_succ {a : Nat} (h : a ≤ 1099511627779) : wrap64 ((a : Int) + 1) = ((a + 1 : Nat) : Int) := by rw [w64_of (by omega) (by omega)]; omega
theorem w64_pred {a : Nat} (h : a ≤ 1099511627779) : wrap64 (((a + 1 : Nat) : Int) - 1) = (a : Int) := by rw [w64_of (by omega) (by omega)]; omega
theorem w64_dec {a : Nat} (h : a ≤ 1099511627779) : wrap64 ((a : Int) - 1) = (a : Int) - 1 := w64_of (by omega) (by omega)

/-! ### numbers as lists of words, the lowest one first -/
def nv : List Int → Nat
  | [] => 0
  | x :: xs => x.toNat + 18446744073709551616 * nv xs
theorem WF.nil : WF [] := fun x hx => by cases hx
theorem WF.head {x : Int} {l : List Int} (h : WF (x :: l)) : U x := h x (by simp)
theorem WF.tail {x : Int} {l : List Int} (h : WF (x :: l)) : WF l := fun y hy => h y (by simp [hy])
theorem WF.cons {x : Int} {l : List Int} (hx : U x) (h : WF l) : WF (x :: l) := fun y hy => by
  rcases List.mem_cons.1 hy with rfl | hy
  · exact hx
  · exact h y hy
theorem WF.append {a b : List Int} (ha : WF a) (hb : WF b) : WF (a ++ b) := fun x hx => by
  rcases List.mem_append.1 hx with h | h
  · exact ha x h
  · exact hb x h
theorem WF.take {l : List Int} (h : WF l) (n : Nat) : WF (l.take n) := fun x hx => h x (List.mem_of_mem_take hx)
theorem WF.drop {l : List Int} (h : WF l) (n : Nat) : WF (l.drop n) := fun x hx => h x (List.mem_of_mem_drop hx)
theorem WF.set {l : List Int} (h : WF l) (n : Nat) {v : Int} (hv : U v) : WF (l.set n v) := fun x hx => by
  rcases List.mem_or_eq_of_mem_set hx with hx | rfl
  · exact h x hx
  · exact hv
theorem WF.zeros (n : Nat) : WF (List.replicate n 0) := fun x hx => by
  have := List.eq_of_mem_replicate hx
  subst this
  exact ⟨by omega, by omega⟩
theorem rd_of {l : List Int} {i : Int} {n : Nat} (hn : i = n) (h : n < l.length) : rd l i = l[n] := by
  subst hn
  simp [rd, List.getD_eq_getElem?_getD, h]
theorem WF.get {l : List Int} (h : WF l) {n : Nat} (hn : n < l.length) : U l[n] := h _ (List.getElem_mem hn)
theorem WF.rdU {l : List Int} (h : WF l) (i : Int) : U (rd l i) := by
  by_cases hi : i.toNat < l.length
  · have e : rd l i = l[i.toNat] := by simp [rd, List.getD_eq_getElem?_getD, hi]
    rw [e]; exact h.get hi
  · have e : rd l i = 0 := by simp [rd, List.getD_eq_getElem?_getD, List.getElem?_eq_none (Nat.le_of_not_lt hi)]
    rw [e]; exact ⟨by omega, by omega⟩
theorem nv_append (a b : List Int) : nv (a ++ b) = nv a + 18446744073709551616 ^ a.length * nv b := by
  induction a with
  | nil => simp [nv]
  | cons x xs ih => simp only [List.cons_append, nv, ih, List.length_cons, Nat.pow_succ]; grind
theorem nv_zeros (n : Nat) : nv (List.replicate n 0) = 0 := by
  induction n with
  | zero => rfl
  | succ n ih => simp [List.replicate_succ, nv, ih]
theorem nv_lt {l : List Int} (h : WF l) : nv l < 18446744073709551616 ^ l.length := by
  induction l with
  | nil => simp [nv]
  | cons x xs ih =>
    have h1 := ih h.tail
    have h2 := h.head
    have := h2.1; have := h2.2
    simp only [nv, List.length_cons, Nat.pow_succ]
    have h3 : nv xs + 1 ≤ 18446744073709551616 ^ xs.length := h1
    have h4 := Nat.mul_le_mul_left 18446744073709551616 h3
    rw [Nat.mul_comm (18446744073709551616 ^ xs.length)]
    omega
theorem nv_set (l : List Int) (n : Nat) (v : Int) (hn : n < l.length) : nv (l.set n v) + l[n].toNat * 18446744073709551616 ^ n = nv l + v.toNat * 18446744073709551616 ^ n := by
  induction l generalizing n with
  | nil => simp at hn
  | cons x xs ih =>
    cases n with
    | zero => simp [nv]; omega
    | succ n =>
      have h1 := ih n (by simpa using hn)
      simp only [List.set_cons_succ, nv, List.getElem_cons_succ, Nat.pow_succ]
      grind
theorem nv_split (l : List Int) (n : Nat) (hn : n ≤ l.length) : nv l = nv (l.take n) + 18446744073709551616 ^ n * nv (l.drop n) := by
  have := nv_append (l.take n) (l.drop n)
  rw [List.take_append_drop, List.length_take, Nat.min_eq_left hn] at this
  exact this
theorem nv_take_succ (l : List Int) (n : Nat) (hn : n < l.length) : nv (l.take (n + 1)) = nv (l.take n) + 18446744073709551616 ^ n * l[n].toNat := by
  rw [List.take_succ_eq_append_getElem hn, nv_append, List.length_take, Nat.min_eq_left (by omega)]
  simp [nv]
theorem nv_drop (l : List Int) (n : Nat) (hn : n < l.length) : nv (l.drop n) = l[n].toNat + 18446744073709551616 * nv (l.drop (n + 1)) := by
  rw [List.drop_eq_getElem_cons hn]; rfl

/-- The words of a number. -/
def limbs (n : Nat) : List Int := if h : n = 0 then [] else ((n % 18446744073709551616 : Nat) : Int) :: limbs (n / 18446744073709551616)
termination_by n
decreasing_by omega
theorem limbs_zero : limbs 0 = [] := by rw [limbs]; simp
theorem limbs_pos {n : Nat} (h : n ≠ 0) : limbs n = ((n % 18446744073709551616 : Nat) : Int) :: limbs (n / 18446744073709551616) := by rw [limbs]; simp [h]
theorem nv_limbs (n : Nat) : nv (limbs n) = n := by
  induction n using Nat.strongRecOn with
  | _ n ih =>
    by_cases h : n = 0
    · subst h; rw [limbs_zero]; rfl
    · rw [limbs_pos h, nv, ih (n / 18446744073709551616) (by omega)]; omega
theorem limbs_WF (n : Nat) : WF (limbs n) := by
  induction n using Nat.strongRecOn with
  | _ n ih =>
    by_cases h : n = 0
    · subst h; rw [limbs_zero]; exact WF.nil
    · rw [limbs_pos h]; exact WF.cons ⟨by omega, by omega⟩ (ih _ (by omega))
/-- No word 0 at the end. -/
def Nz (l : List Int) : Prop := ∀ h : l ≠ [], l.getLast h ≠ 0
theorem Nz.nil : Nz [] := fun h => absurd rfl h
theorem nv_pos_of_Nz {l : List Int} (hw : WF l) (hz : Nz l) (hl : l ≠ []) : 0 < nv l := by
  induction l with
  | nil => exact absurd rfl hl
  | cons x xs ih =>
    simp only [nv]
    by_cases hx : xs = []
    · subst hx
      have h1 := hz hl
      simp at h1
      have := hw.head.1
      omega
    · have h1 := ih hw.tail (fun h => by have := hz (by simp); rwa [List.getLast_cons h] at this) hx
      omega
theorem limbs_of {l : List Int} (hw : WF l) (hz : Nz l) : l = limbs (nv l) := by
  induction l with
  | nil => rw [nv, limbs_zero]
  | cons x xs ih =>
    have hx := hw.head
    have := hx.1; have := hx.2
    have hp := nv_pos_of_Nz hw hz (by simp)
    have hz' : Nz xs := fun h => by have := hz (by simp); rwa [List.getLast_cons h] at this
    rw [limbs_pos (by omega)]
    simp only [nv]
    have e1 : (x.toNat + 18446744073709551616 * nv xs) % 18446744073709551616 = x.toNat := by omega
    have e2 : (x.toNat + 18446744073709551616 * nv xs) / 18446744073709551616 = nv xs := by omega
    rw [e1, e2, ← ih hw.tail hz', Int.toNat_of_nonneg hx.1]
theorem limbs_Nz (n : Nat) : Nz (limbs n) := by
  induction n using Nat.strongRecOn with
  | _ n ih =>
    by_cases h : n = 0
    · subst h; rw [limbs_zero]; exact Nz.nil
    · intro hne
      have e := limbs_pos h
      by_cases h2 : n / 18446744073709551616 = 0
      · have : limbs n = [((n % 18446744073709551616 : Nat) : Int)] := by rw [e, h2, limbs_zero]
        simp only [this, List.getLast_singleton]
        omega
      · have h3 : limbs (n / 18446744073709551616) ≠ [] := by rw [limbs_pos h2]; simp
        have h4 := ih _ (by omega) h3
        have : (limbs n).getLast hne = (limbs (n / 18446744073709551616)).getLast h3 := by simp only [e]; rw [List.getLast_cons h3]
        rw [this]; exact h4
theorem limbs_length_le {n m : Nat} (h : n < 18446744073709551616 ^ m) : (limbs n).length ≤ m := by
  induction m generalizing n with
  | zero => have : n = 0 := by simpa using h
            subst this; rw [limbs_zero]; simp
  | succ m ih =>
    by_cases h0 : n = 0
    · subst h0; rw [limbs_zero]; simp
    · rw [limbs_pos h0]
      have : n / 18446744073709551616 < 18446744073709551616 ^ m := by
        rw [Nat.pow_succ] at h
        exact Nat.div_lt_of_lt_mul (by rw [Nat.mul_comm]; exact h)
      have := ih this
      simp; omega
theorem limbs_inj {a b : Nat} (h : limbs a = limbs b) : a = b := by rw [← nv_limbs a, h, nv_limbs]
theorem limbs_eq_nil {n : Nat} : limbs n = [] ↔ n = 0 := ⟨fun h => by rw [← nv_limbs n, h]; rfl, fun h => by rw [h, limbs_zero]⟩
theorem limbs_length_pos {n : Nat} (h : n ≠ 0) : 0 < (limbs n).length := by rw [limbs_pos h]; simp
/-- How many words: the number is below. -/
theorem lt_pow_limbs (n : Nat) : n < 18446744073709551616 ^ (limbs n).length := by have := nv_lt (limbs_WF n); rwa [nv_limbs] at this
theorem pow_le_limbs {n : Nat} (h : n ≠ 0) : 18446744073709551616 ^ ((limbs n).length - 1) ≤ n := by
  induction n using Nat.strongRecOn with
  | _ n ih =>
    rw [limbs_pos h]
    by_cases h2 : n / 18446744073709551616 = 0
    · rw [h2, limbs_zero]; simp; omega
    · have h1 := ih _ (by omega) h2
      have h3 := limbs_length_pos h2
      simp only [List.length_cons, Nat.add_sub_cancel]
      have e : (limbs (n / 18446744073709551616)).length = ((limbs (n / 18446744073709551616)).length - 1) + 1 := by omega
      rw [e, Nat.pow_succ]
      have := Nat.mul_le_mul_right 18446744073709551616 h1
      omega
theorem limbs_length_mono {a b : Nat} (h : a ≤ b) : (limbs a).length ≤ (limbs b).length := limbs_length_le (Nat.lt_of_le_of_lt h (lt_pow_limbs b))
theorem limbs_take_last {n : Nat} (h : n ≠ 0) : ∃ (t : List Int) (x : Int), limbs n = t ++ [x] ∧ WF t ∧ U x ∧ x ≠ 0 := by
  have hne : limbs n ≠ [] := by rw [limbs_pos h]; simp
  refine ⟨(limbs n).dropLast, (limbs n).getLast hne, (List.dropLast_concat_getLast hne).symm, fun y hy => limbs_WF n y (List.dropLast_subset _ hy), limbs_WF n _ (List.getLast_mem hne), limbs_Nz n hne⟩
end Go.Proofs.YtfffblanmdfidaaDoor.Pure
end
section
/-
  How many bits a word has: Len64, LeadingZeros64. No condition.
-/
namespace Go.Proofs.YtfffblanmdfidaaDoor.Pure
open Go.RowKit Go.Proofs.YtfffblanmdfidaaDoor.F Go.Proofs.YtfffblanmdfidaaDoorW.PrintWords Go.Proofs.YtfffblanmdfidaaDoorW.PrintLast Go.Proofs.YtfffblanmdfidaaDoorW.PrintMore
set_option linter.unusedVariables false
set_option linter.unusedSimpArgs false

/-- How many bits. -/
def bits (n : Nat) : Nat := if n = 0 then 0 else Nat.log2 n + 1
theorem lt_bits (n : Nat) : n < 2 ^ bits n := by
  unfold bits
  by_cases h : n = 0
  · subst h; decide
  · rw [if_neg h]; exact Nat.lt_log2_self
theorem le_bits {n i : Nat} (h : 2 ^ i ≤ n) : i < bits n := by
  have h0 : n ≠ 0 := by have := Nat.pow_pos (n := i) (show 0 < 2 by decide); omega
  unfold bits
  rw [if_neg h0]
  exact Nat.lt_succ_of_le ((Nat.le_log2 h0).2 h)
theorem bits_unique {n i : Nat} (h1 : n < 2 ^ i) (h2 : i = 0 ∨ 2 ^ (i - 1) ≤ n) : bits n = i := by
  have h3 : bits n ≤ i := Nat.le_of_not_lt fun h => by
    have h4 : i ≤ bits n - 1 := by omega
    have h5 : bits n ≠ 0 := by omega
    have h6 : 2 ^ (bits n - 1) ≤ n := by
      unfold bits at h5 ⊢
      by_cases h0 : n = 0
      · rw [if_pos h0] at h5; exact absurd rfl h5
      · rw [if_neg h0]; exact Nat.log2_self_le h0
    have := Nat.pow_le_pow_right (n := 2) (by decide) h4
    omega
  rcases h2 with h2 | h2
  · omega
  · have := le_bits h2; omega
theorem bits_le {n : Nat} (h : bits n ≠ 0) : 2 ^ (bits n - 1) ≤ n := by
  unfold bits at h ⊢
  by_cases h0 : n = 0
  · rw [if_pos h0] at h; exact absurd rfl h
  · rw [if_neg h0]; exact Nat.log2_self_le h0
theorem bits_shift {x s : Nat} (h : 2 ^ s ≤ x) : bits x = s + bits (x / 2 ^ s) := by
  have hp : 0 < 2 ^ s := Nat.pow_pos (by decide)
  have h0 : 1 ≤ x / 2 ^ s := (Nat.le_div_iff_mul_le hp).2 (by omega)
  have hb : bits (x / 2 ^ s) ≠ 0 := by unfold bits; rw [if_neg (by omega)]; omega
  apply bits_unique
  · rw [Nat.pow_add]
    have h1 := lt_bits (x / 2 ^ s)
    rw [Nat.mul_comm]
    exact (Nat.div_lt_iff_lt_mul hp).1 h1
  · refine .inr ?_
    have e : s + bits (x / 2 ^ s) - 1 = s + (bits (x / 2 ^ s) - 1) := by omega
    rw [e, Nat.pow_add, Nat.mul_comm]
    exact (Nat.le_div_iff_mul_le hp).1 (bits_le hb)
theorem bitLen_aux : ∀ (f x : Nat), x < 2 ^ f → Lib.bitLenAux f x = bits x
  | 0, x, h => by
    have : x = 0 := by simpa using h
    subst this; rfl
  | f + 1, x, h => by
    unfold Lib.bitLenAux
    by_cases h0 : x = 0
    · subst h0; rfl
    · rw [if_neg h0, bitLen_aux f (x / 2) (by rw [Nat.pow_succ] at h; omega)]
      by_cases h1 : x = 1
      · subst h1; rfl
      · have := bits_shift (x := x) (s := 1) (by omega)
        rw [this]
theorem bitLen_eq {x : Nat} (h : x < 18446744073709551616) : Lib.bitLen x = bits x := bitLen_aux 64 x h
theorem len64_ev {a : Nat} (ha : a < 18446744073709551616) : Ev (fun k => bits_Len64.f k (a : Int)) (bits a : Int) := by
  refine Ev.congr (fun k => ?_) (Ev.now _)
  unfold bits_Len64.f
  rw [if_pos (isW_nat ha), Int.toNat_natCast, bitLen_eq ha]
theorem bits_le64 {a : Nat} (ha : a < 18446744073709551616) : bits a ≤ 64 := Nat.le_of_not_lt fun h => by
  have h1 := bits_le (show bits a ≠ 0 by omega)
  have h2 : 2 ^ 64 ≤ 2 ^ (bits a - 1) := Nat.pow_le_pow_right (by decide) (by omega)
  omega
theorem lz64_ev {a : Nat} (ha : a < 18446744073709551616) : Ev (fun k => bits_LeadingZeros64.f k (a : Int)) ((64 - bits a : Nat) : Int) := by
  have h := bits_le64 ha
  refine Ev.congr (fun k => ?_) (Ev.now _)
  unfold bits_LeadingZeros64.f
  rw [if_pos (isW_nat ha), Int.toNat_natCast, bitLen_eq ha]
  congr 1
  omega
end Go.Proofs.YtfffblanmdfidaaDoor.Pure
end
section
/-
  What math/bits.Mul64 computes. No condition.
-/
namespace Go.Proofs.YtfffblanmdfidaaDoor.Pure
open Go.RowKit Go.Proofs.YtfffblanmdfidaaDoor.F Go.Proofs.YtfffblanmdfidaaDoorW.PrintWords Go.Proofs.YtfffblanmdfidaaDoorW.PrintLast Go.Proofs.YtfffblanmdfidaaDoorW.PrintMore
set_option linter.unusedVariables false
set_option linter.unusedSimpArgs false

/-! ### Mul64 -/
theorem maskN (a : Nat) (ha : a < 18446744073709551616) : Go.bits .and .u64 (a : Int) 4294967295 = ((a % 4294967296 : Nat) : Int) := by
  have h := bits_and_u64_nat a 4294967295 ha (by omega)
  have e : a &&& 4294967295 = a % 4294967296 := Nat.and_two_pow_sub_one_eq_mod a 32
  rw [e] at h
  exact h
theorem divN (a : Nat) : (a : Int) / 4294967296 = ((a / 4294967296 : Nat) : Int) := by omega
theorem mulN (a b : Nat) : (a : Int) * (b : Int) = ((a * b : Nat) : Int) := (Int.natCast_mul a b).symm
theorem addN (a b : Nat) : (a : Int) + (b : Int) = ((a + b : Nat) : Int) := (Int.natCast_add a b).symm
theorem wrapN (a : Nat) (ha : a < 18446744073709551616) : IntKind.u64.wrap (a : Int) = (a : Int) := by rw [wu]; omega
theorem wrapM (a : Nat) : IntKind.u64.wrap (a : Int) = ((a % 18446744073709551616 : Nat) : Int) := by rw [wu]; omega
theorem mul64_f (k : Nat) {x y : Nat} (hx : x < 18446744073709551616) (hy : y < 18446744073709551616) : bits_Mul64.f k (x : Int) (y : Int) = some (((x * y / 18446744073709551616 : Nat) : Int), ((x * y % 18446744073709551616 : Nat) : Int)) := by
  unfold bits_Mul64.f
  rw [isW_nat hx, isW_nat hy]
  simp only [Bool.and_self, if_true, Int.toNat_natCast]
theorem mul64_ev {x y : Nat} (hx : x < 18446744073709551616) (hy : y < 18446744073709551616) : Ev (fun k => bits_Mul64.f k (x : Int) (y : Int)) (((x * y / 18446744073709551616 : Nat) : Int), ((x * y % 18446744073709551616 : Nat) : Int)) := ⟨0, fun k _ => mul64_f k hx hy⟩
end Go.Proofs.YtfffblanmdfidaaDoor.Pure
end
section
/-
  Two words by one: what bits.Div64 computes. Condition: the high word is below the divisor.
-/
namespace Go.Proofs.YtfffblanmdfidaaDoor.Pure
open Go.RowKit Go.Proofs.YtfffblanmdfidaaDoor.F Go.Proofs.YtfffblanmdfidaaDoorW.PrintWords Go.Proofs.YtfffblanmdfidaaDoorW.PrintLast Go.Proofs.YtfffblanmdfidaaDoorW.PrintMore
set_option linter.unusedVariables false
set_option linter.unusedSimpArgs false

/-- The facts of a half: V = p·b + o, u below V, a digit d; a guess t with rest r. -/
structure Half (V p o u d t r : Nat) : Prop where
  hV : V = p * 4294967296 + o
  hp : 2147483648 ≤ p
  hp2 : p < 4294967296
  ho : o < 4294967296
  hu : u < V
  hd : d < 4294967296
  inv : t * p + r = u
  le : (u * 4294967296 + d) / V ≤ t
  top : t ≤ 4294967297
theorem half_mul {V p o u d t r : Nat} (h : Half V p o u d t r) : t * V = (u - r) * 4294967296 + t * o ∧ r ≤ u := by
  have h1 := h.inv
  have e : t * V = t * p * 4294967296 + t * o := by rw [h.hV, Nat.mul_add, Nat.mul_assoc]
  rw [e]
  generalize t * p = m at *
  constructor
  · have : m = u - r := by omega
    rw [this]
  · omega
theorem half_over {V p o u d t r : Nat} (h : Half V p o u d t r) (c : 4294967296 * r + d < t * o) : (u * 4294967296 + d) / V < t := by
  obtain ⟨e, hr⟩ := half_mul h
  have hV : 0 < V := Nat.lt_of_le_of_lt (Nat.zero_le _) h.hu
  rw [Nat.div_lt_iff_lt_mul hV, e]
  generalize t * o = m at *
  clear e h
  omega
theorem half_fit {V p o u d t r : Nat} (h : Half V p o u d t r) (c : t * o ≤ 4294967296 * r + d) : (u * 4294967296 + d) / V = t := by
  obtain ⟨e, hr⟩ := half_mul h
  have hV : 0 < V := Nat.lt_of_le_of_lt (Nat.zero_le _) h.hu
  apply Nat.le_antisymm h.le
  rw [Nat.le_div_iff_mul_le hV, e]
  generalize t * o = m at *
  clear e h
  omega
theorem half_lt {V u d : Nat} (hu : u < V) (hd : d < 4294967296) : (u * 4294967296 + d) / V < 4294967296 := by
  rw [Nat.div_lt_iff_lt_mul (Nat.lt_of_le_of_lt (Nat.zero_le _) hu)]
  omega
/-- One less, where the guess was too great. -/
theorem half_next {V p o u d t r : Nat} (h : Half V p o u d t r) (c : 4294967296 ≤ t ∨ 4294967296 * r + d < t * o) : ∃ t', t = t' + 1 ∧ Half V p o u d t' (r + p) ∧ t' ≤ 4294967296 := by
  have hlt : (u * 4294967296 + d) / V < t := by
    rcases c with c | c
    · exact Nat.lt_of_lt_of_le (half_lt h.hu h.hd) c
    · exact half_over h c
  obtain ⟨t', rfl⟩ : ∃ m, t = m + 1 := ⟨t - 1, by have := Nat.lt_of_le_of_lt (Nat.zero_le _) hlt; clear hlt c; omega⟩
  have h1 := h.inv
  have h2 := h.top
  rw [Nat.add_mul, Nat.one_mul] at h1
  exact ⟨t', rfl, ⟨h.hV, h.hp, h.hp2, h.ho, h.hu, h.hd, by clear hlt c; omega, Nat.le_of_lt_succ hlt, by clear hlt c; omega⟩, by clear hlt c; omega⟩
theorem half_big {V p o u d t r : Nat} (h : Half V p o u d t r) (ht : t ≤ 4294967296) (hr : 4294967296 ≤ r) : (u * 4294967296 + d) / V = t := by
  apply half_fit h
  have h1 : t * o ≤ 4294967296 * 4294967295 := Nat.mul_le_mul ht (by have := h.ho; omega)
  generalize t * o = m at *
  clear h
  omega
/-- The first guess. -/
theorem half_first {V p o u d : Nat} (hV : V = p * 4294967296 + o) (hp : 2147483648 ≤ p) (hp2 : p < 4294967296) (ho : o < 4294967296) (hu : u < V) (hd : d < 4294967296) : Half V p o u d (u / p) (u % p) := by
  have hp0 : 0 < p := by omega
  have e := Nat.div_add_mod u p
  have hm := Nat.mod_lt u hp0
  refine ⟨hV, hp, hp2, ho, hu, hd, by rw [Nat.mul_comm]; exact e, ?_, ?_⟩
  · have hVp : p * 4294967296 ≤ V := by omega
    refine Nat.le_of_lt_succ ((Nat.div_lt_iff_lt_mul (by omega)).2 ?_)
    have h1 : (u / p + 1) * (p * 4294967296) ≤ (u / p + 1) * V := Nat.mul_le_mul_left _ hVp
    refine Nat.lt_of_lt_of_le ?_ h1
    have h2 : (u / p + 1) * (p * 4294967296) = (p * (u / p) + p) * 4294967296 := by grind
    rw [h2]
    generalize p * (u / p) = m at *
    clear h1 h2 hVp
    omega
  · refine Nat.le_of_lt_succ ((Nat.div_lt_iff_lt_mul hp0).2 ?_)
    clear e hm
    omega
theorem half_word {V p o u d t r : Nat} (h : Half V p o u d t r) (hr : r < 4294967296) : t * o < 18446744073709551616 ∧ 4294967296 * r + d < 18446744073709551616 := by
  have h1 : t * o ≤ 4294967297 * 4294967295 := Nat.mul_le_mul h.top (by have := h.ho; omega)
  have := h.hd
  constructor
  · generalize t * o = m at *
    clear h
    omega
  · clear h h1
    omega
theorem wrap_lt {t p r o d : Nat} (h1 : t * o < 18446744073709551616) (h2 : 4294967296 * r + d < 18446744073709551616) :
    IntKind.u64.wrap ((t : Int) * (o : Int)) = ((t * o : Nat) : Int) ∧ IntKind.u64.wrap ((IntKind.u64.wrap (4294967296 * (r : Int))) + (d : Int)) = ((4294967296 * r + d : Nat) : Int) := by
  constructor
  · rw [mulN, wrapN _ h1]
  · have e : (4294967296 : Int) * (r : Int) = ((4294967296 * r : Nat) : Int) := by omega
    rw [e, wrapN _ (by omega), addN, wrapN _ h2]
theorem wrap_dec {t' : Nat} (h : t' ≤ 4294967296) : IntKind.u64.wrap (((t' + 1 : Nat) : Int) - 1) = (t' : Int) := by
  have e : ((t' + 1 : Nat) : Int) - 1 = (t' : Int) := by omega
  rw [e, wrapN _ (by omega)]
theorem wrap_inc {r p : Nat} (h : r < 4294967296) (h2 : p < 4294967296) : IntKind.u64.wrap ((r : Int) + (p : Int)) = ((r + p : Nat) : Int) := by
  rw [addN, wrapN _ (by omega)]
/-- What the second half answers. -/
theorem d64_l24 {V s p o u d q1 : Nat} (R : Int × Int) (hR : R = (IntKind.u64.wrap ((IntKind.u64.wrap ((q1 : Int) * 4294967296)) + (((u * 4294967296 + d) / V : Nat) : Int)), shr .u64 (IntKind.u64.wrap ((IntKind.u64.wrap ((IntKind.u64.wrap ((u : Int) * 4294967296)) + (d : Int))) - (IntKind.u64.wrap ((((u * 4294967296 + d) / V : Nat) : Int) * (V : Int))))) (s : Int))) :
    ∀ (n t r : Nat), 4294967296 - r ≤ n → r < 4294967296 → Half V p o u d t r → Ev (fun k => bits_Div64.l24 k (V : Int) (s : Int) (p : Int) (o : Int) (d : Int) (q1 : Int) (r : Int) (u : Int) (t : Int)) R := by
  intro n
  induction n with
  | zero => intro t r hn hr; omega
  | succ n ih =>
    intro t r hn hr h
    obtain ⟨w1, w2⟩ := half_word h hr
    obtain ⟨e1, e2⟩ := wrap_lt (p := p) w1 w2
    have down : (4294967296 ≤ t ∨ 4294967296 * r + d < t * o) → Ev (fun k => (if (IntKind.u64.wrap ((r : Int) + (p : Int))) ≥ 4294967296 then (if 0 ≤ (s : Int) then some ((IntKind.u64.wrap ((IntKind.u64.wrap ((q1 : Int) * 4294967296)) + (IntKind.u64.wrap ((t : Int) - 1)))), (shr .u64 (IntKind.u64.wrap ((IntKind.u64.wrap ((IntKind.u64.wrap ((u : Int) * 4294967296)) + (d : Int))) - (IntKind.u64.wrap ((IntKind.u64.wrap ((t : Int) - 1)) * (V : Int))))) (s : Int))) else none) else bits_Div64.l24 k (V : Int) (s : Int) (p : Int) (o : Int) (d : Int) (q1 : Int) (IntKind.u64.wrap ((r : Int) + (p : Int))) (u : Int) (IntKind.u64.wrap ((t : Int) - 1)))) R := fun c => by
      obtain ⟨t', rfl, h', ht'⟩ := half_next h c
      have e3 := wrap_dec ht'
      have e4 := wrap_inc hr h.hp2
      have hp := h.hp
      by_cases hb : r + p ≥ 4294967296
      · rw [half_big h' ht' hb] at hR
        refine Ev.congr (fun k => ?_) (Ev.now R)
        rw [e4, if_pos (by clear e1 e2 e3 e4 hR; omega), if_pos (Int.natCast_nonneg s), e3, hR]
      · refine Ev.congr (fun k => ?_) (ih t' (r + p) (by clear e1 e2 e3 e4 hR; omega) (by clear e1 e2 e3 e4 hR; omega) h')
        rw [e4, if_neg (by clear e1 e2 e3 e4 hR; omega), e3]
    by_cases c1 : 4294967296 ≤ t
    · exact Ev.step (fun k => (bits_Div64.l24_eq ..).trans (if_pos (Int.ofNat_le.2 c1))) (down (.inl c1))
    · have c1' : ¬ ((t : Int) ≥ 4294967296) := by clear e1 e2 hR; omega
      by_cases c2 : 4294967296 * r + d < t * o
      · exact Ev.step (fun k => (bits_Div64.l24_eq ..).trans ((if_neg c1').trans (if_pos (by rw [e1, e2]; exact Int.ofNat_lt.2 c2)))) (down (.inr c2))
      · rw [half_fit h (Nat.le_of_not_lt c2)] at hR
        refine Ev.step (f := fun k => some R) (fun k => (bits_Div64.l24_eq ..).trans ((if_neg c1').trans ((if_neg ?_).trans ((if_pos (Int.natCast_nonneg s)).trans ?_)))) (Ev.now _)
        · rw [e1, e2]; exact fun h3 => c2 (Int.ofNat_lt.1 h3)
        · rw [hR]
/-! ### shifts and their sums -/
theorem shl_nat (a : Nat) {s : Nat} (hs : s ≤ 64) : shl .u64 (a : Int) (s : Int) = ((a * 2 ^ s % 18446744073709551616 : Nat) : Int) := by
  unfold shl
  have e : min ((s : Int).toNat) (IntKind.bits .u64) = s := by rw [Int.toNat_natCast]; exact Nat.min_eq_left hs
  rw [e, wu]
  have e2 : (a : Int) * 2 ^ s = ((a * 2 ^ s : Nat) : Int) := by simp
  rw [e2]; rfl
theorem shr_nat (a : Nat) {s : Nat} (hs : s ≤ 64) : shr .u64 (a : Int) (s : Int) = ((a / 2 ^ s : Nat) : Int) := by
  unfold shr
  have e : min ((s : Int).toNat) (IntKind.bits .u64) = s := by rw [Int.toNat_natCast]; exact Nat.min_eq_left hs
  rw [e]
  have e2 : (2 : Int) ^ s = ((2 ^ s : Nat) : Int) := by simp
  rw [e2]; rfl
theorem shr32 (a : Nat) : shr .u64 (a : Int) 32 = ((a / 4294967296 : Nat) : Int) := shr_nat a (s := 32) (by decide)
theorem or_add {a b s : Nat} (hb : b < 2 ^ s) (h : a * 2 ^ s + b < 18446744073709551616) : Go.bits .or .u64 ((a * 2 ^ s : Nat) : Int) (b : Int) = ((a * 2 ^ s + b : Nat) : Int) := by
  rw [bits_or_u64_nat _ _ (by omega) (by omega), Nat.mul_comm a, Nat.two_pow_add_eq_or_of_lt hb]
theorem shift_split {lo s : Nat} (hs : s ≤ 64) : lo * 2 ^ s = lo / 2 ^ (64 - s) * 18446744073709551616 + lo * 2 ^ s % 18446744073709551616 := by
  have e : (18446744073709551616 : Nat) = 2 ^ (64 - s) * 2 ^ s := by rw [← Nat.pow_add, Nat.sub_add_cancel hs]
  have h := Nat.div_add_mod (lo * 2 ^ s) 18446744073709551616
  have h2 : lo * 2 ^ s / 18446744073709551616 = lo / 2 ^ (64 - s) := by
    rw [e, Nat.mul_div_mul_right _ _ (Nat.pow_pos (by decide))]
  rw [h2] at h
  rw [Nat.mul_comm (lo / 2 ^ (64 - s))]
  exact h.symm
theorem norm_y {y : Nat} (h0 : 0 < y) (h : y < 18446744073709551616) : 9223372036854775808 ≤ y * 2 ^ (64 - bits y) ∧ y * 2 ^ (64 - bits y) < 18446744073709551616 ∧ 64 - bits y ≤ 63 := by
  have hb := bits_le64 h
  have h1 := lt_bits y
  have hb0 : bits y ≠ 0 := by unfold bits; rw [if_neg (by omega)]; omega
  have h2 := bits_le hb0
  have e1 : (18446744073709551616 : Nat) = 2 ^ bits y * 2 ^ (64 - bits y) := by rw [← Nat.pow_add, Nat.add_sub_cancel' hb]
  have e2 : (9223372036854775808 : Nat) = 2 ^ (bits y - 1) * 2 ^ (64 - bits y) := by
    rw [← Nat.pow_add, show bits y - 1 + (64 - bits y) = 63 by omega]
  have hp : 0 < 2 ^ (64 - bits y) := Nat.pow_pos (by decide)
  refine ⟨?_, ?_, by omega⟩
  · rw [e2]; exact Nat.mul_le_mul_right _ h2
  · rw [e1]; exact Nat.mul_lt_mul_of_pos_right h1 hp
theorem wrap3 (a c e : Int) : IntKind.u64.wrap ((IntKind.u64.wrap ((IntKind.u64.wrap a) + c)) - (IntKind.u64.wrap e)) = (a + c - e) % 18446744073709551616 := by
  rw [wu, wu, wu, wu]; omega
theorem wrap_rest {u V d : Nat} (hV : V ≤ 18446744073709551616) (hu : u < V) : IntKind.u64.wrap ((IntKind.u64.wrap ((IntKind.u64.wrap ((u : Int) * 4294967296)) + (d : Int))) - (IntKind.u64.wrap ((((u * 4294967296 + d) / V : Nat) : Int) * (V : Int)))) = (((u * 4294967296 + d) % V : Nat) : Int) := by
  rw [wrap3]
  have h := Nat.div_add_mod (u * 4294967296 + d) V
  have hm := Nat.mod_lt (u * 4294967296 + d) (show 0 < V by omega)
  have e : (((u * 4294967296 + d) / V : Nat) : Int) * (V : Int) = ((V * ((u * 4294967296 + d) / V) : Nat) : Int) := by rw [mulN, Nat.mul_comm]
  rw [e]
  generalize V * ((u * 4294967296 + d) / V) = m at *
  generalize (u * 4294967296 + d) % V = r at *
  clear e
  omega
theorem wrap_mod {u p : Nat} (hu : u < 18446744073709551616) : IntKind.u64.wrap ((u : Int) - (IntKind.u64.wrap (((u / p : Nat) : Int) * (p : Int)))) = ((u % p : Nat) : Int) := by
  have h := Nat.div_add_mod u p
  rw [mulN, Nat.mul_comm]
  rw [wu, wu]
  generalize p * (u / p) = m at *
  generalize u % p = r at *
  omega
theorem tdivN (a b : Nat) : Int.tdiv (a : Int) (b : Int) = ((a / b : Nat) : Int) := rfl
theorem tmodN (a b : Nat) : Int.tmod (a : Int) (b : Int) = ((a % b : Nat) : Int) := rfl
theorem join_core {V u un q1 u2 q0 r M2 : Nat} (h1 : V * q1 + u2 = u * 4294967296 + un / 4294967296) (h2 : V * q0 + r = u2 * 4294967296 + un % 4294967296) (hM : M2 = u * 18446744073709551616 + un) : M2 = V * (q1 * 4294967296 + q0) + r := by
  rw [hM, Nat.mul_add, ← Nat.mul_assoc]
  generalize V * q1 = a at *
  generalize V * q0 = b at *
  omega
theorem join_end {V M2 Q r y s M : Nat} (hM : M * 2 ^ s = V * Q + r) (hV : V = y * 2 ^ s) (hy : 0 < y) (hr : r < V) : Q = M / y ∧ r / 2 ^ s = M % y := by
  have hp : 0 < 2 ^ s := Nat.pow_pos (by decide)
  have hV0 : 0 < V := by rw [hV]; exact Nat.mul_pos hy hp
  have d1 : M * 2 ^ s / (y * 2 ^ s) = M / y := Nat.mul_div_mul_right _ _ hp
  have m1 : M * 2 ^ s % (y * 2 ^ s) = M % y * 2 ^ s := Nat.mul_mod_mul_right _ _ _
  rw [hM, ← hV] at d1 m1
  rw [Nat.mul_add_div hV0, Nat.div_eq_of_lt hr] at d1
  rw [Nat.mul_add_mod, Nat.mod_eq_of_lt hr] at m1
  exact ⟨by rw [← d1]; rfl, by rw [m1, Nat.mul_div_cancel _ hp]⟩
theorem join_shift {hi lo s u un : Nat} (hs : s ≤ 64) (hu : u = hi * 2 ^ s + lo / 2 ^ (64 - s)) (hun : un = lo * 2 ^ s % 18446744073709551616) : (hi * 18446744073709551616 + lo) * 2 ^ s = u * 18446744073709551616 + un := by
  have := shift_split (lo := lo) hs
  rw [Nat.add_mul, this, ← hun, hu, Nat.add_mul (hi * 2 ^ s)]
  have e : hi * 18446744073709551616 * 2 ^ s = hi * 2 ^ s * 18446744073709551616 := by rw [Nat.mul_assoc, Nat.mul_comm 18446744073709551616, Nat.mul_assoc]
  rw [e, Nat.add_assoc]
theorem d64_next {V s p o u d un0 u2 : Nat} (hp0 : 0 < p) (hV1 : V ≤ 18446744073709551616) (hu : u < V) (hu2 : u2 = (u * 4294967296 + d) % V) (R : Int × Int) (H : Ev (fun k => bits_Div64.l24 k (V : Int) (s : Int) (p : Int) (o : Int) (un0 : Int) (((u * 4294967296 + d) / V : Nat) : Int) ((u2 % p : Nat) : Int) (u2 : Int) ((u2 / p : Nat) : Int)) R) (q : Int) (hq : q = (((u * 4294967296 + d) / V : Nat) : Int)) :
    Ev (fun k => (if (p : Int) = 0 then none else bits_Div64.l24 k (V : Int) (s : Int) (p : Int) (o : Int) (un0 : Int) q (IntKind.u64.wrap ((IntKind.u64.wrap ((IntKind.u64.wrap ((IntKind.u64.wrap ((u : Int) * 4294967296)) + (d : Int))) - (IntKind.u64.wrap (q * (V : Int))))) - (IntKind.u64.wrap ((IntKind.u64.wrap (Int.tdiv (IntKind.u64.wrap ((IntKind.u64.wrap ((IntKind.u64.wrap ((u : Int) * 4294967296)) + (d : Int))) - (IntKind.u64.wrap (q * (V : Int))))) (p : Int))) * (p : Int))))) (IntKind.u64.wrap ((IntKind.u64.wrap ((IntKind.u64.wrap ((u : Int) * 4294967296)) + (d : Int))) - (IntKind.u64.wrap (q * (V : Int))))) (IntKind.u64.wrap (Int.tdiv (IntKind.u64.wrap ((IntKind.u64.wrap ((IntKind.u64.wrap ((u : Int) * 4294967296)) + (d : Int))) - (IntKind.u64.wrap (q * (V : Int))))) (p : Int))))) R := by
  have hlt : u2 < 18446744073709551616 := by rw [hu2]; exact Nat.lt_of_lt_of_le (Nat.mod_lt _ (by omega)) hV1
  refine Ev.congr (fun k => ?_) H
  have e1 := wrap_rest (d := d) hV1 hu
  rw [← hu2] at e1
  have e2 : IntKind.u64.wrap (Int.tdiv (u2 : Int) (p : Int)) = ((u2 / p : Nat) : Int) := by
    rw [tdivN]; exact wrapN _ (Nat.lt_of_le_of_lt (Nat.div_le_self _ _) hlt)
  have e3 := wrap_mod (p := p) hlt
  have hpne : ¬ (p : Int) = 0 := by clear e1 e2 e3; omega
  rw [if_neg hpne, hq, e1, e2, e3]
theorem d64_l17 {V s p o u d un0 : Nat} (hp0 : 0 < p) (hV1 : V ≤ 18446744073709551616) (hu : u < V) (R : Int × Int) (H : Ev (fun k => bits_Div64.l24 k (V : Int) (s : Int) (p : Int) (o : Int) (un0 : Int) (((u * 4294967296 + d) / V : Nat) : Int) (((u * 4294967296 + d) % V % p : Nat) : Int) (((u * 4294967296 + d) % V : Nat) : Int) (((u * 4294967296 + d) % V / p : Nat) : Int)) R) :
    ∀ (n t r : Nat), 4294967296 - r ≤ n → r < 4294967296 → Half V p o u d t r → Ev (fun k => bits_Div64.l17 k (V : Int) (s : Int) (p : Int) (o : Int) (u : Int) (d : Int) (un0 : Int) (t : Int) (r : Int)) R := by
  intro n
  induction n with
  | zero => intro t r hn hr; omega
  | succ n ih =>
    intro t r hn hr h
    obtain ⟨w1, w2⟩ := half_word h hr
    obtain ⟨e1, e2⟩ := wrap_lt (p := p) w1 w2
    have nx := d64_next hp0 hV1 hu rfl R H
    by_cases c : 4294967296 ≤ t ∨ 4294967296 * r + d < t * o
    · obtain ⟨t', ht1, h', ht'⟩ := half_next h c
      have e3 : IntKind.u64.wrap ((t : Int) - 1) = (t' : Int) := by rw [ht1]; exact wrap_dec ht'
      have e4 := wrap_inc hr h.hp2
      have hp := h.hp
      by_cases hb : r + p ≥ 4294967296
      · have hb' : IntKind.u64.wrap ((r : Int) + (p : Int)) ≥ 4294967296 := by rw [e4]; exact Int.ofNat_le.2 hb
        have nx' := nx (IntKind.u64.wrap ((t : Int) - 1)) (by rw [e3, half_big h' ht' hb])
        by_cases c1 : 4294967296 ≤ t
        · exact Ev.step (fun k => (bits_Div64.l17_eq ..).trans ((if_pos (Int.ofNat_le.2 c1)).trans (if_pos hb'))) nx'
        · have c1' : ¬ ((t : Int) ≥ 4294967296) := fun hc => c1 (Int.ofNat_le.1 hc)
          have c2 := c.resolve_left c1
          exact Ev.step (fun k => (bits_Div64.l17_eq ..).trans ((if_neg c1').trans ((if_pos (by rw [e1, e2]; exact Int.ofNat_lt.2 c2)).trans (if_pos hb')))) nx'
      · have hb' : ¬ IntKind.u64.wrap ((r : Int) + (p : Int)) ≥ 4294967296 := by rw [e4]; exact fun hc => hb (Int.ofNat_le.1 hc)
        have nx' := ih t' (r + p) (by clear e1 e2 e3 e4 hb'; omega) (Nat.lt_of_not_le hb) h'
        by_cases c1 : 4294967296 ≤ t
        · refine Ev.step (fun k => (bits_Div64.l17_eq ..).trans ((if_pos (Int.ofNat_le.2 c1)).trans ((if_neg hb').trans ?_))) nx'
          rw [e3, e4]
        · have c1' : ¬ ((t : Int) ≥ 4294967296) := fun hc => c1 (Int.ofNat_le.1 hc)
          have c2 := c.resolve_left c1
          refine Ev.step (fun k => (bits_Div64.l17_eq ..).trans ((if_neg c1').trans ((if_pos (by rw [e1, e2]; exact Int.ofNat_lt.2 c2)).trans ((if_neg hb').trans ?_)))) nx'
          rw [e3, e4]
    · have c1' : ¬ ((t : Int) ≥ 4294967296) := fun hc => c (.inl (Int.ofNat_le.1 hc))
      have c2 : t * o ≤ 4294967296 * r + d := Nat.le_of_not_lt fun hc => c (.inr hc)
      exact Ev.step (fun k => (bits_Div64.l17_eq ..).trans ((if_neg c1').trans (if_neg (by rw [e1, e2]; exact fun h3 => absurd (Int.ofNat_lt.1 h3) (Nat.not_lt.2 c2))))) (nx (t : Int) (by rw [half_fit h c2]))
theorem d64_core {V s p o u d1 d0 u2 : Nat} (hV : V = p * 4294967296 + o) (hp : 2147483648 ≤ p) (hp2 : p < 4294967296) (ho : o < 4294967296) (hV1 : V ≤ 18446744073709551616) (hu : u < V) (hd1 : d1 < 4294967296) (hd0 : d0 < 4294967296) (hs : s ≤ 64) (hu2 : u2 = (u * 4294967296 + d1) % V) :
    Ev (fun k => bits_Div64.l17 k (V : Int) (s : Int) (p : Int) (o : Int) (u : Int) (d1 : Int) (d0 : Int) ((u / p : Nat) : Int) ((u % p : Nat) : Int)) (IntKind.u64.wrap ((IntKind.u64.wrap ((((u * 4294967296 + d1) / V : Nat) : Int) * 4294967296)) + (((u2 * 4294967296 + d0) / V : Nat) : Int)), (((u2 * 4294967296 + d0) % V / 2 ^ s : Nat) : Int)) := by
  have hp0 : 0 < p := by omega
  have hu2V : u2 < V := by rw [hu2]; exact Nat.mod_lt _ (Nat.lt_of_le_of_lt (Nat.zero_le _) hu)
  have er := wrap_rest (d := d0) hV1 hu2V
  have es := shr_nat ((u2 * 4294967296 + d0) % V) hs
  have m1 := Nat.mod_lt u hp0
  have m2 := Nat.mod_lt u2 hp0
  subst hu2
  refine d64_l17 hp0 hV1 hu _ (d64_l24 _ ?_ 4294967296 _ _ (Nat.sub_le _ _) (Nat.lt_trans m2 hp2) (half_first hV hp hp2 ho hu2V hd0)) 4294967296 _ _ (Nat.sub_le _ _) (Nat.lt_trans m1 hp2) (half_first hV hp hp2 ho hu hd1)
  rw [er, es]
theorem d64_nat {hi lo y : Nat} (hy : hi < y) (hy2 : y < 18446744073709551616) (hlo : lo < 18446744073709551616) : Ev (fun k => bits_Div64.f k (hi : Int) (lo : Int) (y : Int)) ((((hi * 18446744073709551616 + lo) / y : Nat) : Int), (((hi * 18446744073709551616 + lo) % y : Nat) : Int)) := by
  simp only [bits_Div64.f_eq]
  have y0 : 0 < y := by omega
  refine Ev.congr (fun k => if_neg (show ¬ (y : Int) = 0 by omega)) (Ev.congr (fun k => if_neg (show ¬ (y : Int) ≤ (hi : Int) by omega)) ?_)
  by_cases h0 : hi = 0
  · subst h0
    refine Ev.congr (fun k => (if_pos rfl).trans ((if_neg (show ¬ (y : Int) = 0 by omega)).trans (if_neg (show ¬ (y : Int) = 0 by omega)))) ?_
    have e1 : IntKind.u64.wrap (Int.tdiv (lo : Int) (y : Int)) = ((lo / y : Nat) : Int) := by
      rw [tdivN]; exact wrapN _ (Nat.lt_of_le_of_lt (Nat.div_le_self _ _) hlo)
    rw [e1, tmodN, Nat.zero_mul, Nat.zero_add]
    exact Ev.now _
  · refine Ev.congr (fun k => if_neg (show ¬ (hi : Int) = 0 by omega)) (Ev.bind (lz64_ev hy2) ?_)
    obtain ⟨n1, n2, n3⟩ := norm_y y0 hy2
    have hsplit := shift_split (lo := lo) (s := 64 - bits y) (by omega)
    generalize hs : 64 - bits y = s at *
    have hs64 : s ≤ 64 := by omega
    have ws : IntKind.u64.wrap (s : Int) = (s : Int) := wrapN _ (by omega)
    have ws2 : IntKind.u64.wrap (64 - (s : Int)) = ((64 - s : Nat) : Int) := by
      have e : (64 : Int) - (s : Int) = ((64 - s : Nat) : Int) := by omega
      rw [e, wrapN _ (by omega)]
    have hpos : 0 < 2 ^ s := Nat.pow_pos (by decide)
    have hlt : lo / 2 ^ (64 - s) < 2 ^ s := by
      rw [Nat.div_lt_iff_lt_mul (Nat.pow_pos (by decide)), ← Nat.pow_add, Nat.add_sub_cancel' hs64]; exact hlo
    have hule : (hi + 1) * 2 ^ s ≤ y * 2 ^ s := Nat.mul_le_mul_right _ hy
    rw [Nat.add_mul, Nat.one_mul] at hule
    have huV : hi * 2 ^ s + lo / 2 ^ (64 - s) < y * 2 ^ s := by omega
    have hhi : hi * 2 ^ s < 18446744073709551616 := by omega
    have ev : shl .u64 (y : Int) (s : Int) = ((y * 2 ^ s : Nat) : Int) := by rw [shl_nat y hs64, Nat.mod_eq_of_lt n2]
    have eh : shl .u64 (hi : Int) (s : Int) = ((hi * 2 ^ s : Nat) : Int) := by rw [shl_nat hi hs64, Nat.mod_eq_of_lt hhi]
    have el : shr .u64 (lo : Int) ((64 - s : Nat) : Int) = ((lo / 2 ^ (64 - s) : Nat) : Int) := shr_nat lo (by omega)
    have eo := or_add hlt (Nat.lt_trans huV n2)
    have en : shl .u64 (lo : Int) (s : Int) = ((lo * 2 ^ s % 18446744073709551616 : Nat) : Int) := shl_nat lo hs64
    rw [ws, ws2, ev, eh, el, eo, en]
    clear ws ws2 ev eh el eo en
    have hun : lo * 2 ^ s % 18446744073709551616 < 18446744073709551616 := Nat.mod_lt _ (by decide)
    have hM := join_shift (hi := hi) (lo := lo) (un := lo * 2 ^ s % 18446744073709551616) hs64 rfl rfl
    generalize hu : hi * 2 ^ s + lo / 2 ^ (64 - s) = u at *
    generalize hue : lo * 2 ^ s % 18446744073709551616 = un at *
    generalize hV : y * 2 ^ s = V at *
    have hV64 : V ≤ 18446744073709551616 := Nat.le_of_lt n2
    have hsplitV : V = V / 4294967296 * 4294967296 + V % 4294967296 := by omega
    have hp : 2147483648 ≤ V / 4294967296 := by omega
    have hp2 : V / 4294967296 < 4294967296 := by omega
    have ho : V % 4294967296 < 4294967296 := Nat.mod_lt _ (by decide)
    have hpne : ¬ (((V / 4294967296 : Nat) : Int) = 0) := by omega
    have hd1 : un / 4294967296 < 4294967296 := by omega
    have hd0 : un % 4294967296 < 4294967296 := Nat.mod_lt _ (by decide)
    have hu64 : u < 18446744073709551616 := by omega
    have core := d64_core (s := s) hsplitV hp hp2 ho hV64 huV hd1 hd0 hs64 rfl
    have j1 := Nat.div_add_mod (u * 4294967296 + un / 4294967296) V
    have j2 := Nat.div_add_mod ((u * 4294967296 + un / 4294967296) % V * 4294967296 + un % 4294967296) V
    have hK := join_core j1 j2 hM
    have hr := Nat.mod_lt ((u * 4294967296 + un / 4294967296) % V * 4294967296 + un % 4294967296) (show 0 < V by omega)
    obtain ⟨f1, f2⟩ := join_end (M2 := 0) hK hV.symm y0 hr
    have q1lt := half_lt huV hd1
    have hQ : (hi * 18446744073709551616 + lo) / y < 18446744073709551616 := by
      rw [Nat.div_lt_iff_lt_mul y0]; omega
    rw [← f1] at hQ
    have eq1 : IntKind.u64.wrap ((IntKind.u64.wrap ((((u * 4294967296 + un / 4294967296) / V : Nat) : Int) * 4294967296)) + ((((u * 4294967296 + un / 4294967296) % V * 4294967296 + un % 4294967296) / V : Nat) : Int)) = (((hi * 18446744073709551616 + lo) / y : Nat) : Int) := by
      rw [← f1]
      have e : (((u * 4294967296 + un / 4294967296) / V : Nat) : Int) * 4294967296 = (((u * 4294967296 + un / 4294967296) / V * 4294967296 : Nat) : Int) := mulN _ 4294967296
      rw [e, wrapN _ (Nat.lt_of_le_of_lt (Nat.le_add_right _ _) hQ), addN, wrapN _ hQ]
    rw [eq1, f2] at core
    have em : Go.bits .and .u64 (V : Int) 4294967295 = ((V % 4294967296 : Nat) : Int) := maskN V n2
    have em2 : Go.bits .and .u64 (un : Int) 4294967295 = ((un % 4294967296 : Nat) : Int) := maskN un hun
    have et : IntKind.u64.wrap (Int.tdiv (u : Int) ((V / 4294967296 : Nat) : Int)) = ((u / (V / 4294967296) : Nat) : Int) := by
      rw [tdivN]; exact wrapN _ (Nat.lt_of_le_of_lt (Nat.div_le_self _ _) hu64)
    have ew := wrap_mod (p := V / 4294967296) hu64
    rw [shr32 V, shr32 un]
    refine Ev.congr (fun k => (if_pos (Int.natCast_nonneg s)).trans ((if_pos (Int.natCast_nonneg s)).trans ((if_pos (Int.natCast_nonneg (64 - s))).trans ((if_pos (Int.natCast_nonneg s)).trans (if_neg hpne))))) ?_
    rw [em, em2, et, ew]
    exact core
theorem div64 {hi lo y : Int} (h0 : 0 ≤ hi) (hy : hi < y) (hy2 : y < 18446744073709551616) (hlo : U lo) : Ev (fun k => bits_Div64.f k hi lo y) ((hi * 18446744073709551616 + lo) / y, (hi * 18446744073709551616 + lo) % y) := by
  obtain ⟨a, rfl⟩ := Int.eq_ofNat_of_zero_le h0
  obtain ⟨b, rfl⟩ := Int.eq_ofNat_of_zero_le hlo.1
  obtain ⟨c, rfl⟩ := Int.eq_ofNat_of_zero_le (show 0 ≤ y by omega)
  have := hlo.2
  have g := d64_nat (hi := a) (lo := b) (y := c) (by omega) (by omega) (by omega)
  simpa using g
end Go.Proofs.YtfffblanmdfidaaDoor.Pure
end
