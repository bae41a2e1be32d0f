/-
  Texts of this proof, one behind the other: Da. No condition of their own.
-/
import Derived.Test.YtkoeddgbhohggaaDoorX3
import Derived.Test.YtkoeddgbhohggaaDoorProg
section
namespace Go.Proofs.YtkoeddgbhohggaaDoor.F
open Go.Proofs.YtkoeddgbhohggaaDoor.E Go.RowKit Go.Proofs.YtkoeddgbhohggaaDoorW.PrintWords Go.Proofs.YtkoeddgbhohggaaDoorW.PrintLast
set_option linter.unusedVariables false
set_option maxRecDepth 100000
noncomputable abbrev PG : Program := Go.Proofs.Tryd.prog
def T0x : List (Nat × Bool) := [(52, true), (71, false)]
theorem T0ex : ExAll PG T0x := ⟨fun x y c h w => by rw [run_callFunc_extern Go.Proofs.Tryd.func52 (by kernel_rfl) (by kernel_rfl) (by kernel_rfl) (e := adEntry) (by kernel_rfl), adRun0 x y c h]; rfl, ⟨fun x y c h w => by rw [run_callFunc_extern Go.Proofs.Tryd.func71 (by kernel_rfl) (by kernel_rfl) (by kernel_rfl) (e := sbEntry) (by kernel_rfl), sbRun0 x y c h]; rfl, trivial⟩⟩
noncomputable def T0 : TT := TT.of PG [2, 3, 4, 5, 9, 22, 24, 29, 30, 31, 32, 37, 42, 44, 47, 56, 62, 64, 72, 81, 84, 85, 102, 111, 116, 119, 133] T0x
def conv_Size_1.A : AK := .p (.int .i64) .nil
def conv_Size_1.Q : RK := .p (.bool) .nil
def conv_Size_1.h : Bool → conv_Size_1.Q.T × List Int := fun b => ((b, ()), [])
noncomputable def conv_Size_1.D : Decl Bool := ⟨(Go.Proofs.Tryd.f18.body).getD .skip, 5, [.tmp 2], conv_Size_1.A, conv_Size_1.Q, fun y m => y.1, T0, [], [], []⟩
noncomputable def conv_Size_1.S (k : Nat) : List (Nat × E.Spec Bool) := []
noncomputable def conv_Size_1.f0 (k : Nat) (a0 : Int) : Option Bool := conv_Size_1.D.val conv_Size_1.S k (a0, ())
noncomputable def conv_Size_1.f := (still conv_Size_1.f0).1
theorem conv_Size_1.f_def : conv_Size_1.f = conv_Size_1.f0 := (still conv_Size_1.f0).2
noncomputable def conv_Size_1.g (k : Nat) (x : conv_Size_1.A.T) : Option Bool := conv_Size_1.f k (x.1)
theorem conv_Size_1.does (k : Nat) : Does PG 18 conv_Size_1.A conv_Size_1.Q (conv_Size_1.g k) conv_Size_1.h := (show conv_Size_1.g k = conv_Size_1.D.val conv_Size_1.S k from funext fun _ => by unfold conv_Size_1.g; rw [conv_Size_1.f_def]; rfl) ▸ Decl.does (D := conv_Size_1.D) (S := conv_Size_1.S) (fn := Go.Proofs.Tryd.f18) ⟨by kernel_rfl, by kernel_rfl, by kernel_rfl, by kernel_rfl, by kernel_rfl, by kernel_rfl, TT.of_ok _ T0ex, by kernel_rfl⟩ (fun k => trivial) (fun _ _ h => by rw [h rfl]; rfl) k
def slices_IndexFunc_int_int.A : AK := .p (.row .i64) (.p (.clo 18 .nil) .nil)
def slices_IndexFunc_int_int.Q : RK := .p (.int .i64) .nil
def slices_IndexFunc_int_int.h : Int → slices_IndexFunc_int_int.Q.T × List Int := fun b => ((b, ()), [])
noncomputable def slices_IndexFunc_int_int.D : Decl Int := ⟨(Go.Proofs.Tryd.f29.body).getD .skip, 19, [.tmp 4], slices_IndexFunc_int_int.A, slices_IndexFunc_int_int.Q, fun y m => y.1, T0, [], [(2, [(0, .p (some (.row .i64))), (1, .p (some (.clo 18 .nil))), (7, .p (some (.int .i64))), (8, .p (some (.int .i64)))])], []⟩
noncomputable def slices_IndexFunc_int_int.S (k : Nat) : List (Nat × E.Spec Int) := [(18, told _ conv_Size_1.A conv_Size_1.Q (conv_Size_1.g k) conv_Size_1.h)]
noncomputable def slices_IndexFunc_int_int.l2 (k : Nat) (x0 : List Int) (x7 : Int) (x8 : Int) : Option Int := slices_IndexFunc_int_int.D.F slices_IndexFunc_int_int.S k 5 [.p (.row .i64 x0), .p (.clo 18 []), .p (.lit (.int .i64 x7)), .p (.lit (.int .i64 x8))]
noncomputable def slices_IndexFunc_int_int.f0 (k : Nat) (a0 : List Int) : Option Int := slices_IndexFunc_int_int.D.val slices_IndexFunc_int_int.S k (a0, (()), ())
noncomputable def slices_IndexFunc_int_int.f := (still slices_IndexFunc_int_int.f0).1
theorem slices_IndexFunc_int_int.f_def : slices_IndexFunc_int_int.f = slices_IndexFunc_int_int.f0 := (still slices_IndexFunc_int_int.f0).2
noncomputable def slices_IndexFunc_int_int.g (k : Nat) (x : slices_IndexFunc_int_int.A.T) : Option Int := slices_IndexFunc_int_int.f k (x.1)
theorem slices_IndexFunc_int_int.does (k : Nat) : Does PG 29 slices_IndexFunc_int_int.A slices_IndexFunc_int_int.Q (slices_IndexFunc_int_int.g k) slices_IndexFunc_int_int.h := (show slices_IndexFunc_int_int.g k = slices_IndexFunc_int_int.D.val slices_IndexFunc_int_int.S k from funext fun _ => by unfold slices_IndexFunc_int_int.g; rw [slices_IndexFunc_int_int.f_def]; rfl) ▸ Decl.does (D := slices_IndexFunc_int_int.D) (S := slices_IndexFunc_int_int.S) (fn := Go.Proofs.Tryd.f29) ⟨by kernel_rfl, by kernel_rfl, by kernel_rfl, by kernel_rfl, by kernel_rfl, by kernel_rfl, TT.of_ok _ T0ex, by kernel_rfl⟩ (fun k => ⟨told_ok (conv_Size_1.does k), trivial⟩) (fun _ _ h => by rw [h rfl]; rfl) k
def slices_ContainsFunc_int_int.A : AK := .p (.row .i64) (.p (.clo 18 .nil) .nil)
def slices_ContainsFunc_int_int.Q : RK := .p (.bool) .nil
def slices_ContainsFunc_int_int.h : Bool → slices_ContainsFunc_int_int.Q.T × List Int := fun b => ((b, ()), [])
noncomputable def slices_ContainsFunc_int_int.D : Decl Bool := ⟨(Go.Proofs.Tryd.f17.body).getD .skip, 9, [.tmp 4], slices_ContainsFunc_int_int.A, slices_ContainsFunc_int_int.Q, fun y m => y.1, T0, [], [], []⟩
noncomputable def slices_ContainsFunc_int_int.S (k : Nat) : List (Nat × E.Spec Bool) := [(18, told _ conv_Size_1.A conv_Size_1.Q (conv_Size_1.g k) conv_Size_1.h), (29, told _ slices_IndexFunc_int_int.A slices_IndexFunc_int_int.Q (slices_IndexFunc_int_int.g k) slices_IndexFunc_int_int.h)]
noncomputable def slices_ContainsFunc_int_int.f0 (k : Nat) (a0 : List Int) : Option Bool := slices_ContainsFunc_int_int.D.val slices_ContainsFunc_int_int.S k (a0, (()), ())
noncomputable def slices_ContainsFunc_int_int.f := (still slices_ContainsFunc_int_int.f0).1
theorem slices_ContainsFunc_int_int.f_def : slices_ContainsFunc_int_int.f = slices_ContainsFunc_int_int.f0 := (still slices_ContainsFunc_int_int.f0).2
noncomputable def slices_ContainsFunc_int_int.g (k : Nat) (x : slices_ContainsFunc_int_int.A.T) : Option Bool := slices_ContainsFunc_int_int.f k (x.1)
theorem slices_ContainsFunc_int_int.does (k : Nat) : Does PG 17 slices_ContainsFunc_int_int.A slices_ContainsFunc_int_int.Q (slices_ContainsFunc_int_int.g k) slices_ContainsFunc_int_int.h := (show slices_ContainsFunc_int_int.g k = slices_ContainsFunc_int_int.D.val slices_ContainsFunc_int_int.S k from funext fun _ => by unfold slices_ContainsFunc_int_int.g; rw [slices_ContainsFunc_int_int.f_def]; rfl) ▸ Decl.does (D := slices_ContainsFunc_int_int.D) (S := slices_ContainsFunc_int_int.S) (fn := Go.Proofs.Tryd.f17) ⟨by kernel_rfl, by kernel_rfl, by kernel_rfl, by kernel_rfl, by kernel_rfl, by kernel_rfl, TT.of_ok _ T0ex, by kernel_rfl⟩ (fun k => ⟨told_ok (conv_Size_1.does k), ⟨told_ok (slices_IndexFunc_int_int.does k), trivial⟩⟩) (fun _ _ h => by rw [h rfl]; rfl) k
def conv_Size.A : AK := .p (.row .i64) .nil
def conv_Size.Q : RK := .p (.int .i64) (.p (.int .i64) .nil)
def conv_Size.h : (Int × Int) → conv_Size.Q.T × List Int := fun b => ((b.1, b.2, ()), [])
noncomputable def conv_Size.D : Decl (Int × Int) := ⟨(Go.Proofs.Tryd.f7.body).getD .skip, 29, [.tmp 2, .tmp 3], conv_Size.A, conv_Size.Q, fun y m => (y.1, y.2.1), T0, [], [(5, [(4, .p (some (.int .i64))), (14, .p (some (.row .i64))), (15, .p (some (.int .i64))), (16, .p (some (.int .i64)))])], []⟩
noncomputable def conv_Size.S (k : Nat) : List (Nat × E.Spec (Int × Int)) := [(17, told _ slices_ContainsFunc_int_int.A slices_ContainsFunc_int_int.Q (slices_ContainsFunc_int_int.g k) slices_ContainsFunc_int_int.h)]
noncomputable def conv_Size.l5 (k : Nat) (x4 : Int) (x14 : List Int) (x15 : Int) (x16 : Int) : Option (Int × Int) := conv_Size.D.F conv_Size.S k 11 [.p (.lit (.int .i64 x4)), .p (.row .i64 x14), .p (.lit (.int .i64 x15)), .p (.lit (.int .i64 x16))]
noncomputable def conv_Size.f0 (k : Nat) (a0 : List Int) : Option (Int × Int) := conv_Size.D.val conv_Size.S k (a0, ())
noncomputable def conv_Size.f := (still conv_Size.f0).1
theorem conv_Size.f_def : conv_Size.f = conv_Size.f0 := (still conv_Size.f0).2
noncomputable def conv_Size.g (k : Nat) (x : conv_Size.A.T) : Option (Int × Int) := conv_Size.f k (x.1)
theorem conv_Size.does (k : Nat) : Does PG 7 conv_Size.A conv_Size.Q (conv_Size.g k) conv_Size.h := (show conv_Size.g k = conv_Size.D.val conv_Size.S k from funext fun _ => by unfold conv_Size.g; rw [conv_Size.f_def]; rfl) ▸ Decl.does (D := conv_Size.D) (S := conv_Size.S) (fn := Go.Proofs.Tryd.f7) ⟨by kernel_rfl, by kernel_rfl, by kernel_rfl, by kernel_rfl, by kernel_rfl, by kernel_rfl, TT.of_ok _ T0ex, by kernel_rfl⟩ (fun k => ⟨told_ok (slices_ContainsFunc_int_int.does k), trivial⟩) (fun _ _ h => by rw [h rfl]; rfl) k
def conv_Place.A : AK := .p (.row .i64) (.p (.row .i64) .nil)
def conv_Place.Q : RK := .p (.int .i64) (.p (.int .i64) .nil)
def conv_Place.h : (Int × Int) → conv_Place.Q.T × List Int := fun b => ((b.1, b.2, ()), [])
noncomputable def conv_Place.D : Decl (Int × Int) := ⟨(Go.Proofs.Tryd.f9.body).getD .skip, 54, [.tmp 4, .tmp 5], conv_Place.A, conv_Place.Q, fun y m => (y.1, y.2.1), T0, [], [(8, [(1, .p (some (.row .i64))), (8, .p (some (.int .i64))), (24, .p (some (.row .i64))), (25, .p (some (.int .i64))), (26, .p (some (.int .i64)))])], []⟩
noncomputable def conv_Place.S (k : Nat) : List (Nat × E.Spec (Int × Int)) := [(7, told _ conv_Size.A conv_Size.Q (conv_Size.g k) conv_Size.h)]
noncomputable def conv_Place.l8 (k : Nat) (x1 : List Int) (x8 : Int) (x24 : List Int) (x25 : Int) (x26 : Int) : Option (Int × Int) := conv_Place.D.F conv_Place.S k 17 [.p (.row .i64 x1), .p (.lit (.int .i64 x8)), .p (.row .i64 x24), .p (.lit (.int .i64 x25)), .p (.lit (.int .i64 x26))]
noncomputable def conv_Place.f0 (k : Nat) (a0 : List Int) (a1 : List Int) : Option (Int × Int) := conv_Place.D.val conv_Place.S k (a0, a1, ())
noncomputable def conv_Place.f := (still conv_Place.f0).1
theorem conv_Place.f_def : conv_Place.f = conv_Place.f0 := (still conv_Place.f0).2
noncomputable def conv_Place.g (k : Nat) (x : conv_Place.A.T) : Option (Int × Int) := conv_Place.f k (x.1) (x.2.1)
theorem conv_Place.does (k : Nat) : Does PG 9 conv_Place.A conv_Place.Q (conv_Place.g k) conv_Place.h := (show conv_Place.g k = conv_Place.D.val conv_Place.S k from funext fun _ => by unfold conv_Place.g; rw [conv_Place.f_def]; rfl) ▸ Decl.does (D := conv_Place.D) (S := conv_Place.S) (fn := Go.Proofs.Tryd.f9) ⟨by kernel_rfl, by kernel_rfl, by kernel_rfl, by kernel_rfl, by kernel_rfl, by kernel_rfl, TT.of_ok _ T0ex, by kernel_rfl⟩ (fun k => ⟨told_ok (conv_Size.does k), trivial⟩) (fun _ _ h => by rw [h rfl]; rfl) k
def bits_Div64.A : AK := .p (.int .u64) (.p (.int .u64) (.p (.int .u64) .nil))
def bits_Div64.Q : RK := .p (.int .u64) (.p (.int .u64) .nil)
def bits_Div64.h : (Int × Int) → bits_Div64.Q.T × List Int := fun b => ((b.1, b.2, ()), [])
noncomputable def bits_Div64.D : Decl (Int × Int) := ⟨(Go.Proofs.Tryd.f50.body).getD .skip, 135, [.tmp 6, .tmp 7], bits_Div64.A, bits_Div64.Q, fun y m => (y.1, y.2.1), T0, [], [(24, [(2, .p (some (.int .u64))), (8, .p (some (.int .u64))), (9, .p (some (.int .u64))), (10, .p (some (.int .u64))), (14, .p (some (.int .u64))), (15, .p (some (.int .u64))), (16, .p (some (.int .u64))), (17, .p (some (.int .u64))), (18, .p (some (.int .u64)))]), (17, [(2, .p (some (.int .u64))), (8, .p (some (.int .u64))), (9, .p (some (.int .u64))), (10, .p (some (.int .u64))), (11, .p (some (.int .u64))), (13, .p (some (.int .u64))), (14, .p (some (.int .u64))), (15, .p (some (.int .u64))), (16, .p (some (.int .u64)))])], []⟩
noncomputable def bits_Div64.S (k : Nat) : List (Nat × E.Spec (Int × Int)) := [(70, told _ bits_LeadingZeros64.A bits_LeadingZeros64.Q (bits_LeadingZeros64.g k) bits_LeadingZeros64.h)]
noncomputable def bits_Div64.l24 (k : Nat) (x2 : Int) (x8 : Int) (x9 : Int) (x10 : Int) (x14 : Int) (x15 : Int) (x16 : Int) (x17 : Int) (x18 : Int) : Option (Int × Int) := bits_Div64.D.F bits_Div64.S k 49 [.p (.lit (.int .u64 x2)), .p (.lit (.int .u64 x8)), .p (.lit (.int .u64 x9)), .p (.lit (.int .u64 x10)), .p (.lit (.int .u64 x14)), .p (.lit (.int .u64 x15)), .p (.lit (.int .u64 x16)), .p (.lit (.int .u64 x17)), .p (.lit (.int .u64 x18))]
noncomputable def bits_Div64.l17 (k : Nat) (x2 : Int) (x8 : Int) (x9 : Int) (x10 : Int) (x11 : Int) (x13 : Int) (x14 : Int) (x15 : Int) (x16 : Int) : Option (Int × Int) := bits_Div64.D.F bits_Div64.S k 35 [.p (.lit (.int .u64 x2)), .p (.lit (.int .u64 x8)), .p (.lit (.int .u64 x9)), .p (.lit (.int .u64 x10)), .p (.lit (.int .u64 x11)), .p (.lit (.int .u64 x13)), .p (.lit (.int .u64 x14)), .p (.lit (.int .u64 x15)), .p (.lit (.int .u64 x16))]
noncomputable def bits_Div64.f0 (k : Nat) (a0 : Int) (a1 : Int) (a2 : Int) : Option (Int × Int) := bits_Div64.D.val bits_Div64.S k (a0, a1, a2, ())
noncomputable def bits_Div64.f := (still bits_Div64.f0).1
theorem bits_Div64.f_def : bits_Div64.f = bits_Div64.f0 := (still bits_Div64.f0).2
noncomputable def bits_Div64.g (k : Nat) (x : bits_Div64.A.T) : Option (Int × Int) := bits_Div64.f k (x.1) (x.2.1) (x.2.2.1)
theorem bits_Div64.does (k : Nat) : Does PG 50 bits_Div64.A bits_Div64.Q (bits_Div64.g k) bits_Div64.h := (show bits_Div64.g k = bits_Div64.D.val bits_Div64.S k from funext fun _ => by unfold bits_Div64.g; rw [bits_Div64.f_def]; rfl) ▸ Decl.does (D := bits_Div64.D) (S := bits_Div64.S) (fn := Go.Proofs.Tryd.f50) ⟨by kernel_rfl, by kernel_rfl, by kernel_rfl, by kernel_rfl, by kernel_rfl, by kernel_rfl, TT.of_ok _ T0ex, by kernel_rfl⟩ (fun k => ⟨told_ok (bits_LeadingZeros64.does k), trivial⟩) (fun _ _ h => by rw [h rfl]; rfl) k
def bits_Rem64.A : AK := .p (.int .u64) (.p (.int .u64) (.p (.int .u64) .nil))
def bits_Rem64.Q : RK := .p (.int .u64) .nil
def bits_Rem64.h : Int → bits_Rem64.Q.T × List Int := fun b => ((b, ()), [])
noncomputable def bits_Rem64.D : Decl Int := ⟨(Go.Proofs.Tryd.f44.body).getD .skip, 19, [.tmp 6], bits_Rem64.A, bits_Rem64.Q, fun y m => y.1, T0, [], [], []⟩
noncomputable def bits_Rem64.S (k : Nat) : List (Nat × E.Spec Int) := [(50, told _ bits_Div64.A bits_Div64.Q (bits_Div64.g k) bits_Div64.h)]
noncomputable def bits_Rem64.f0 (k : Nat) (a0 : Int) (a1 : Int) (a2 : Int) : Option Int := bits_Rem64.D.val bits_Rem64.S k (a0, a1, a2, ())
noncomputable def bits_Rem64.f := (still bits_Rem64.f0).1
theorem bits_Rem64.f_def : bits_Rem64.f = bits_Rem64.f0 := (still bits_Rem64.f0).2
noncomputable def bits_Rem64.g (k : Nat) (x : bits_Rem64.A.T) : Option Int := bits_Rem64.f k (x.1) (x.2.1) (x.2.2.1)
theorem bits_Rem64.does (k : Nat) : Does PG 44 bits_Rem64.A bits_Rem64.Q (bits_Rem64.g k) bits_Rem64.h := (show bits_Rem64.g k = bits_Rem64.D.val bits_Rem64.S k from funext fun _ => by unfold bits_Rem64.g; rw [bits_Rem64.f_def]; rfl) ▸ Decl.does (D := bits_Rem64.D) (S := bits_Rem64.S) (fn := Go.Proofs.Tryd.f44) ⟨by kernel_rfl, by kernel_rfl, by kernel_rfl, by kernel_rfl, by kernel_rfl, by kernel_rfl, TT.of_ok _ T0ex, by kernel_rfl⟩ (fun k => ⟨told_ok (bits_Div64.does k), trivial⟩) (fun _ _ h => by rw [h rfl]; rfl) k
def word_Field_Mul.A : AK := .p (.fp 62 (.cons (.int .u64) (.cons (.int .u64) (.cons (.int .u64) .nil)))) (.p (.int .u64) (.p (.int .u64) .nil))
def word_Field_Mul.Q : RK := .p (.int .u64) .nil
def word_Field_Mul.h : Int → word_Field_Mul.Q.T × List Int := fun b => ((b, ()), [])
noncomputable def word_Field_Mul.D : Decl Int := ⟨(Go.Proofs.Tryd.f30.body).getD .skip, 34, [.tmp 6], word_Field_Mul.A, word_Field_Mul.Q, fun y m => y.1, T0, [], [], []⟩
noncomputable def word_Field_Mul.S (k : Nat) : List (Nat × E.Spec Int) := [(43, told _ bits_Mul64.A bits_Mul64.Q (bits_Mul64.g k) bits_Mul64.h), (44, told _ bits_Rem64.A bits_Rem64.Q (bits_Rem64.g k) bits_Rem64.h)]
noncomputable def word_Field_Mul.f0 (k : Nat) (a0_0 : Int) (a0_1 : Int) (a0_2 : Int) (a1 : Int) (a2 : Int) : Option Int := word_Field_Mul.D.val word_Field_Mul.S k ((a0_0, a0_1, a0_2, ()), a1, a2, ())
noncomputable def word_Field_Mul.f := (still word_Field_Mul.f0).1
theorem word_Field_Mul.f_def : word_Field_Mul.f = word_Field_Mul.f0 := (still word_Field_Mul.f0).2
noncomputable def word_Field_Mul.g (k : Nat) (x : word_Field_Mul.A.T) : Option Int := word_Field_Mul.f k (x.1.1) (x.1.2.1) (x.1.2.2.1) (x.2.1) (x.2.2.1)
theorem word_Field_Mul.does (k : Nat) : Does PG 30 word_Field_Mul.A word_Field_Mul.Q (word_Field_Mul.g k) word_Field_Mul.h := (show word_Field_Mul.g k = word_Field_Mul.D.val word_Field_Mul.S k from funext fun _ => by unfold word_Field_Mul.g; rw [word_Field_Mul.f_def]; rfl) ▸ Decl.does (D := word_Field_Mul.D) (S := word_Field_Mul.S) (fn := Go.Proofs.Tryd.f30) ⟨by kernel_rfl, by kernel_rfl, by kernel_rfl, by kernel_rfl, by kernel_rfl, by kernel_rfl, TT.of_ok _ T0ex, by kernel_rfl⟩ (fun k => ⟨told_ok (bits_Mul64.does k), ⟨told_ok (bits_Rem64.does k), trivial⟩⟩) (fun _ _ h => by rw [h rfl]; rfl) k
def word_New.A : AK := .p (.int .u64) .nil
def word_New.Q : RK := .p (.np 62 (.cons (.int .u64) (.cons (.int .u64) (.cons (.int .u64) .nil)))) (.p (.int .i64) .nil)
def word_New.h : ((Option (Int × Int × Int × Unit)) × Int) → word_New.Q.T × List Int := fun b => ((b.1, b.2, ()), [])
noncomputable def word_New.D : Decl ((Option (Int × Int × Int × Unit)) × Int) := ⟨(Go.Proofs.Tryd.f19.body).getD .skip, 46, [.tmp 2, .tmp 3], word_New.A, word_New.Q, fun y m => (y.1, y.2.1), T0, [], [(7, [(0, .p (some (.int .u64))), (4, .p (some (.pt 3 0))), (5, .p (some (.int .u64))), (15, .b (some (.cons (.int .u64) (.cons (.int .u64) (.cons (.int .u64) .nil))))), (20, .p (some (.int .i64)))])], []⟩
noncomputable def word_New.S (k : Nat) : List (Nat × E.Spec ((Option (Int × Int × Int × Unit)) × Int)) := [(30, told _ word_Field_Mul.A word_Field_Mul.Q (word_Field_Mul.g k) word_Field_Mul.h)]
noncomputable def word_New.l7 (k : Nat) (x0 : Int) (x5 : Int) (x15_0 : Int) (x15_1 : Int) (x15_2 : Int) (x20 : Int) : Option ((Option (Int × Int × Int × Unit)) × Int) := word_New.D.F word_New.S k 15 [.p (.lit (.int .u64 x0)), .p (.ptr 3 0), .p (.lit (.int .u64 x5)), .b 62 [.lit (.int .u64 x15_0), .lit (.int .u64 x15_1), .lit (.int .u64 x15_2)], .p (.lit (.int .i64 x20))]
noncomputable def word_New.f0 (k : Nat) (a0 : Int) : Option ((Option (Int × Int × Int × Unit)) × Int) := word_New.D.val word_New.S k (a0, ())
noncomputable def word_New.f := (still word_New.f0).1
theorem word_New.f_def : word_New.f = word_New.f0 := (still word_New.f0).2
noncomputable def word_New.g (k : Nat) (x : word_New.A.T) : Option ((Option (Int × Int × Int × Unit)) × Int) := word_New.f k (x.1)
theorem word_New.does (k : Nat) : Does PG 19 word_New.A word_New.Q (word_New.g k) word_New.h := (show word_New.g k = word_New.D.val word_New.S k from funext fun _ => by unfold word_New.g; rw [word_New.f_def]; rfl) ▸ Decl.does (D := word_New.D) (S := word_New.S) (fn := Go.Proofs.Tryd.f19) ⟨by kernel_rfl, by kernel_rfl, by kernel_rfl, by kernel_rfl, by kernel_rfl, by kernel_rfl, TT.of_ok _ T0ex, by kernel_rfl⟩ (fun k => ⟨told_ok (word_Field_Mul.does k), trivial⟩) (fun _ _ h => by rw [h rfl]; rfl) k
def conv_fits.A : AK := .p (.row .u64) (.p (.row .u64) .nil)
def conv_fits.Q : RK := .p (.int .i64) .nil
def conv_fits.h : Int → conv_fits.Q.T × List Int := fun b => ((b, ()), [])
noncomputable def conv_fits.D : Decl Int := ⟨(Go.Proofs.Tryd.f20.body).getD .skip, 21, [.tmp 4], conv_fits.A, conv_fits.Q, fun y m => y.1, T0, [], [], []⟩
noncomputable def conv_fits.S (k : Nat) : List (Nat × E.Spec Int) := []
noncomputable def conv_fits.f0 (k : Nat) (a0 : List Int) (a1 : List Int) : Option Int := conv_fits.D.val conv_fits.S k (a0, a1, ())
noncomputable def conv_fits.f := (still conv_fits.f0).1
theorem conv_fits.f_def : conv_fits.f = conv_fits.f0 := (still conv_fits.f0).2
noncomputable def conv_fits.g (k : Nat) (x : conv_fits.A.T) : Option Int := conv_fits.f k (x.1) (x.2.1)
theorem conv_fits.does (k : Nat) : Does PG 20 conv_fits.A conv_fits.Q (conv_fits.g k) conv_fits.h := (show conv_fits.g k = conv_fits.D.val conv_fits.S k from funext fun _ => by unfold conv_fits.g; rw [conv_fits.f_def]; rfl) ▸ Decl.does (D := conv_fits.D) (S := conv_fits.S) (fn := Go.Proofs.Tryd.f20) ⟨by kernel_rfl, by kernel_rfl, by kernel_rfl, by kernel_rfl, by kernel_rfl, by kernel_rfl, TT.of_ok _ T0ex, by kernel_rfl⟩ (fun k => trivial) (fun _ _ h => by rw [h rfl]; rfl) k
def bits_Len32.A : AK := .p (.int .u32) .nil
def bits_Len32.Q : RK := .p (.int .i64) .nil
def bits_Len32.h : Int → bits_Len32.Q.T × List Int := fun b => ((b, ()), [])
noncomputable def bits_Len32.D : Decl Int := ⟨(Go.Proofs.Tryd.f72.body).getD .skip, 19, [.tmp 2], bits_Len32.A, bits_Len32.Q, fun y m => y.1, T0, [], [], []⟩
noncomputable def bits_Len32.S (k : Nat) : List (Nat × E.Spec Int) := []
noncomputable def bits_Len32.f0 (k : Nat) (a0 : Int) : Option Int := bits_Len32.D.val bits_Len32.S k (a0, ())
noncomputable def bits_Len32.f := (still bits_Len32.f0).1
theorem bits_Len32.f_def : bits_Len32.f = bits_Len32.f0 := (still bits_Len32.f0).2
noncomputable def bits_Len32.g (k : Nat) (x : bits_Len32.A.T) : Option Int := bits_Len32.f k (x.1)
theorem bits_Len32.does (k : Nat) : Does PG 72 bits_Len32.A bits_Len32.Q (bits_Len32.g k) bits_Len32.h := (show bits_Len32.g k = bits_Len32.D.val bits_Len32.S k from funext fun _ => by unfold bits_Len32.g; rw [bits_Len32.f_def]; rfl) ▸ Decl.does (D := bits_Len32.D) (S := bits_Len32.S) (fn := Go.Proofs.Tryd.f72) ⟨by kernel_rfl, by kernel_rfl, by kernel_rfl, by kernel_rfl, by kernel_rfl, by kernel_rfl, TT.of_ok _ T0ex, by kernel_rfl⟩ (fun k => trivial) (fun _ _ h => by rw [h rfl]; rfl) k
def bits_Len.A : AK := .p (.int .u64) .nil
def bits_Len.Q : RK := .p (.int .i64) .nil
def bits_Len.h : Int → bits_Len.Q.T × List Int := fun b => ((b, ()), [])
noncomputable def bits_Len.D : Decl Int := ⟨(Go.Proofs.Tryd.f57.body).getD .skip, 8, [.tmp 2], bits_Len.A, bits_Len.Q, fun y m => y.1, T0, [], [], []⟩
noncomputable def bits_Len.S (k : Nat) : List (Nat × E.Spec Int) := [(72, told _ bits_Len32.A bits_Len32.Q (bits_Len32.g k) bits_Len32.h), (73, told _ bits_Len64.A bits_Len64.Q (bits_Len64.g k) bits_Len64.h)]
noncomputable def bits_Len.f0 (k : Nat) (a0 : Int) : Option Int := bits_Len.D.val bits_Len.S k (a0, ())
noncomputable def bits_Len.f := (still bits_Len.f0).1
theorem bits_Len.f_def : bits_Len.f = bits_Len.f0 := (still bits_Len.f0).2
noncomputable def bits_Len.g (k : Nat) (x : bits_Len.A.T) : Option Int := bits_Len.f k (x.1)
theorem bits_Len.does (k : Nat) : Does PG 57 bits_Len.A bits_Len.Q (bits_Len.g k) bits_Len.h := (show bits_Len.g k = bits_Len.D.val bits_Len.S k from funext fun _ => by unfold bits_Len.g; rw [bits_Len.f_def]; rfl) ▸ Decl.does (D := bits_Len.D) (S := bits_Len.S) (fn := Go.Proofs.Tryd.f57) ⟨by kernel_rfl, by kernel_rfl, by kernel_rfl, by kernel_rfl, by kernel_rfl, by kernel_rfl, TT.of_ok _ T0ex, by kernel_rfl⟩ (fun k => ⟨told_ok (bits_Len32.does k), ⟨told_ok (bits_Len64.does k), trivial⟩⟩) (fun _ _ h => by rw [h rfl]; rfl) k
def prime_bases.A : AK := .nil
def prime_bases.Q : RK := .p (.agg (.cons (.int .u64) (.cons (.int .u64) (.cons (.int .u64) (.cons (.int .u64) (.cons (.int .u64) (.cons (.int .u64) (.cons (.int .u64) (.cons (.int .u64) (.cons (.int .u64) (.cons (.int .u64) (.cons (.int .u64) (.cons (.int .u64) .nil))))))))))))) .nil
def prime_bases.h : (Int × Int × Int × Int × Int × Int × Int × Int × Int × Int × Int × Int) → prime_bases.Q.T × List Int := fun b => (((b.1, b.2.1, b.2.2.1, b.2.2.2.1, b.2.2.2.2.1, b.2.2.2.2.2.1, b.2.2.2.2.2.2.1, b.2.2.2.2.2.2.2.1, b.2.2.2.2.2.2.2.2.1, b.2.2.2.2.2.2.2.2.2.1, b.2.2.2.2.2.2.2.2.2.2.1, b.2.2.2.2.2.2.2.2.2.2.2, ()), ()), [])
noncomputable def prime_bases.D : Decl (Int × Int × Int × Int × Int × Int × Int × Int × Int × Int × Int × Int) := ⟨(Go.Proofs.Tryd.f83.body).getD .skip, 2, [.cell 0 119], prime_bases.A, prime_bases.Q, fun y m => (y.1.1, y.1.2.1, y.1.2.2.1, y.1.2.2.2.1, y.1.2.2.2.2.1, y.1.2.2.2.2.2.1, y.1.2.2.2.2.2.2.1, y.1.2.2.2.2.2.2.2.1, y.1.2.2.2.2.2.2.2.2.1, y.1.2.2.2.2.2.2.2.2.2.1, y.1.2.2.2.2.2.2.2.2.2.2.1, y.1.2.2.2.2.2.2.2.2.2.2.2.1), T0, [], [], []⟩
noncomputable def prime_bases.S (k : Nat) : List (Nat × E.Spec (Int × Int × Int × Int × Int × Int × Int × Int × Int × Int × Int × Int)) := []
noncomputable def prime_bases.f0 (k : Nat) : Option (Int × Int × Int × Int × Int × Int × Int × Int × Int × Int × Int × Int) := prime_bases.D.val prime_bases.S k (())
noncomputable def prime_bases.f := (still prime_bases.f0).1
theorem prime_bases.f_def : prime_bases.f = prime_bases.f0 := (still prime_bases.f0).2
noncomputable def prime_bases.g (k : Nat) (x : prime_bases.A.T) : Option (Int × Int × Int × Int × Int × Int × Int × Int × Int × Int × Int × Int) := prime_bases.f k
theorem prime_bases.does (k : Nat) : Does PG 83 prime_bases.A prime_bases.Q (prime_bases.g k) prime_bases.h := (show prime_bases.g k = prime_bases.D.val prime_bases.S k from funext fun _ => by unfold prime_bases.g; rw [prime_bases.f_def]; rfl) ▸ Decl.does (D := prime_bases.D) (S := prime_bases.S) (fn := Go.Proofs.Tryd.f83) ⟨by kernel_rfl, by kernel_rfl, by kernel_rfl, by kernel_rfl, by kernel_rfl, by kernel_rfl, TT.of_ok _ T0ex, by kernel_rfl⟩ (fun k => trivial) (fun _ _ h => by rw [h rfl]; rfl) k
def prime_mul.A : AK := .p (.int .u64) (.p (.int .u64) (.p (.int .u64) .nil))
def prime_mul.Q : RK := .p (.int .u64) .nil
def prime_mul.h : Int → prime_mul.Q.T × List Int := fun b => ((b, ()), [])
noncomputable def prime_mul.D : Decl Int := ⟨(Go.Proofs.Tryd.f96.body).getD .skip, 19, [.tmp 6], prime_mul.A, prime_mul.Q, fun y m => y.1, T0, [], [], []⟩
noncomputable def prime_mul.S (k : Nat) : List (Nat × E.Spec Int) := [(43, told _ bits_Mul64.A bits_Mul64.Q (bits_Mul64.g k) bits_Mul64.h), (44, told _ bits_Rem64.A bits_Rem64.Q (bits_Rem64.g k) bits_Rem64.h)]
noncomputable def prime_mul.f0 (k : Nat) (a0 : Int) (a1 : Int) (a2 : Int) : Option Int := prime_mul.D.val prime_mul.S k (a0, a1, a2, ())
noncomputable def prime_mul.f := (still prime_mul.f0).1
theorem prime_mul.f_def : prime_mul.f = prime_mul.f0 := (still prime_mul.f0).2
noncomputable def prime_mul.g (k : Nat) (x : prime_mul.A.T) : Option Int := prime_mul.f k (x.1) (x.2.1) (x.2.2.1)
theorem prime_mul.does (k : Nat) : Does PG 96 prime_mul.A prime_mul.Q (prime_mul.g k) prime_mul.h := (show prime_mul.g k = prime_mul.D.val prime_mul.S k from funext fun _ => by unfold prime_mul.g; rw [prime_mul.f_def]; rfl) ▸ Decl.does (D := prime_mul.D) (S := prime_mul.S) (fn := Go.Proofs.Tryd.f96) ⟨by kernel_rfl, by kernel_rfl, by kernel_rfl, by kernel_rfl, by kernel_rfl, by kernel_rfl, TT.of_ok _ T0ex, by kernel_rfl⟩ (fun k => ⟨told_ok (bits_Mul64.does k), ⟨told_ok (bits_Rem64.does k), trivial⟩⟩) (fun _ _ h => by rw [h rfl]; rfl) k
def prime_strong.A : AK := .p (.int .u64) (.p (.int .u64) .nil)
def prime_strong.Q : RK := .p (.bool) .nil
def prime_strong.h : Bool → prime_strong.Q.T × List Int := fun b => ((b, ()), [])
noncomputable def prime_strong.D : Decl Bool := ⟨(Go.Proofs.Tryd.f84.body).getD .skip, 49, [.tmp 4], prime_strong.A, prime_strong.Q, fun y m => y.1, T0, [], [(12, [(0, .p (some (.int .u64))), (6, .p (some (.int .u64))), (37, .p (some (.int .i64))), (38, .p (some (.int .i64)))]), (4, [(0, .p (some (.int .u64))), (5, .p (some (.int .i64))), (6, .p (some (.int .u64))), (7, .p (some (.int .u64))), (8, .p (some (.int .u64)))])], []⟩
noncomputable def prime_strong.S (k : Nat) : List (Nat × E.Spec Bool) := [(95, told _ bits_TrailingZeros64.A bits_TrailingZeros64.Q (bits_TrailingZeros64.g k) bits_TrailingZeros64.h), (96, told _ prime_mul.A prime_mul.Q (prime_mul.g k) prime_mul.h)]
noncomputable def prime_strong.l12 (k : Nat) (x0 : Int) (x6 : Int) (x37 : Int) (x38 : Int) : Option Bool := prime_strong.D.F prime_strong.S k 25 [.p (.lit (.int .u64 x0)), .p (.lit (.int .u64 x6)), .p (.lit (.int .i64 x37)), .p (.lit (.int .i64 x38))]
noncomputable def prime_strong.l4 (k : Nat) (x0 : Int) (x5 : Int) (x6 : Int) (x7 : Int) (x8 : Int) : Option Bool := prime_strong.D.F prime_strong.S k 9 [.p (.lit (.int .u64 x0)), .p (.lit (.int .i64 x5)), .p (.lit (.int .u64 x6)), .p (.lit (.int .u64 x7)), .p (.lit (.int .u64 x8))]
noncomputable def prime_strong.f0 (k : Nat) (a0 : Int) (a1 : Int) : Option Bool := prime_strong.D.val prime_strong.S k (a0, a1, ())
noncomputable def prime_strong.f := (still prime_strong.f0).1
theorem prime_strong.f_def : prime_strong.f = prime_strong.f0 := (still prime_strong.f0).2
noncomputable def prime_strong.g (k : Nat) (x : prime_strong.A.T) : Option Bool := prime_strong.f k (x.1) (x.2.1)
theorem prime_strong.does (k : Nat) : Does PG 84 prime_strong.A prime_strong.Q (prime_strong.g k) prime_strong.h := (show prime_strong.g k = prime_strong.D.val prime_strong.S k from funext fun _ => by unfold prime_strong.g; rw [prime_strong.f_def]; rfl) ▸ Decl.does (D := prime_strong.D) (S := prime_strong.S) (fn := Go.Proofs.Tryd.f84) ⟨by kernel_rfl, by kernel_rfl, by kernel_rfl, by kernel_rfl, by kernel_rfl, by kernel_rfl, TT.of_ok _ T0ex, by kernel_rfl⟩ (fun k => ⟨told_ok (bits_TrailingZeros64.does k), ⟨told_ok (prime_mul.does k), trivial⟩⟩) (fun _ _ h => by rw [h rfl]; rfl) k
def prime_Is.A : AK := .p (.int .u64) .nil
def prime_Is.Q : RK := .p (.bool) .nil
def prime_Is.h : Bool → prime_Is.Q.T × List Int := fun b => ((b, ()), [])
noncomputable def prime_Is.D : Decl Bool := ⟨(Go.Proofs.Tryd.f74.body).getD .skip, 30, [.tmp 2], prime_Is.A, prime_Is.Q, fun y m => y.1, T0, [], [(10, [(0, .p (some (.int .u64))), (21, .p (some (.agg (.cons (.int .u64) (.cons (.int .u64) (.cons (.int .u64) (.cons (.int .u64) (.cons (.int .u64) (.cons (.int .u64) (.cons (.int .u64) (.cons (.int .u64) (.cons (.int .u64) (.cons (.int .u64) (.cons (.int .u64) (.cons (.int .u64) .nil))))))))))))))), (22, .p (some (.int .i64)))]), (4, [(0, .p (some (.int .u64))), (9, .p (some (.agg (.cons (.int .u64) (.cons (.int .u64) (.cons (.int .u64) (.cons (.int .u64) (.cons (.int .u64) (.cons (.int .u64) (.cons (.int .u64) (.cons (.int .u64) (.cons (.int .u64) (.cons (.int .u64) (.cons (.int .u64) (.cons (.int .u64) .nil))))))))))))))), (10, .p (some (.int .i64)))])], []⟩
noncomputable def prime_Is.S (k : Nat) : List (Nat × E.Spec Bool) := [(83, told _ prime_bases.A prime_bases.Q (prime_bases.g k) prime_bases.h), (84, told _ prime_strong.A prime_strong.Q (prime_strong.g k) prime_strong.h)]
noncomputable def prime_Is.l10 (k : Nat) (x0 : Int) (x21_0 : Int) (x21_1 : Int) (x21_2 : Int) (x21_3 : Int) (x21_4 : Int) (x21_5 : Int) (x21_6 : Int) (x21_7 : Int) (x21_8 : Int) (x21_9 : Int) (x21_10 : Int) (x21_11 : Int) (x22 : Int) : Option Bool := prime_Is.D.F prime_Is.S k 21 [.p (.lit (.int .u64 x0)), .p (.agg [.lit (.int .u64 x21_0), .lit (.int .u64 x21_1), .lit (.int .u64 x21_2), .lit (.int .u64 x21_3), .lit (.int .u64 x21_4), .lit (.int .u64 x21_5), .lit (.int .u64 x21_6), .lit (.int .u64 x21_7), .lit (.int .u64 x21_8), .lit (.int .u64 x21_9), .lit (.int .u64 x21_10), .lit (.int .u64 x21_11)]), .p (.lit (.int .i64 x22))]
noncomputable def prime_Is.l4 (k : Nat) (x0 : Int) (x9_0 : Int) (x9_1 : Int) (x9_2 : Int) (x9_3 : Int) (x9_4 : Int) (x9_5 : Int) (x9_6 : Int) (x9_7 : Int) (x9_8 : Int) (x9_9 : Int) (x9_10 : Int) (x9_11 : Int) (x10 : Int) : Option Bool := prime_Is.D.F prime_Is.S k 9 [.p (.lit (.int .u64 x0)), .p (.agg [.lit (.int .u64 x9_0), .lit (.int .u64 x9_1), .lit (.int .u64 x9_2), .lit (.int .u64 x9_3), .lit (.int .u64 x9_4), .lit (.int .u64 x9_5), .lit (.int .u64 x9_6), .lit (.int .u64 x9_7), .lit (.int .u64 x9_8), .lit (.int .u64 x9_9), .lit (.int .u64 x9_10), .lit (.int .u64 x9_11)]), .p (.lit (.int .i64 x10))]
noncomputable def prime_Is.f0 (k : Nat) (a0 : Int) : Option Bool := prime_Is.D.val prime_Is.S k (a0, ())
noncomputable def prime_Is.f := (still prime_Is.f0).1
theorem prime_Is.f_def : prime_Is.f = prime_Is.f0 := (still prime_Is.f0).2
noncomputable def prime_Is.g (k : Nat) (x : prime_Is.A.T) : Option Bool := prime_Is.f k (x.1)
theorem prime_Is.does (k : Nat) : Does PG 74 prime_Is.A prime_Is.Q (prime_Is.g k) prime_Is.h := (show prime_Is.g k = prime_Is.D.val prime_Is.S k from funext fun _ => by unfold prime_Is.g; rw [prime_Is.f_def]; rfl) ▸ Decl.does (D := prime_Is.D) (S := prime_Is.S) (fn := Go.Proofs.Tryd.f74) ⟨by kernel_rfl, by kernel_rfl, by kernel_rfl, by kernel_rfl, by kernel_rfl, by kernel_rfl, TT.of_ok _ T0ex, by kernel_rfl⟩ (fun k => ⟨told_ok (prime_bases.does k), ⟨told_ok (prime_strong.does k), trivial⟩⟩) (fun _ _ h => by rw [h rfl]; rfl) k
def prime_Scan.A : AK := .p (.int .i64) (.p (.int .i64) (.p (.int .u64) .nil))
def prime_Scan.Q : RK := .o (.num .u64) 29 (.p (.int .i64) .nil)
def prime_Scan.h : (List Int × Int) → prime_Scan.Q.T × List Int := fun b => (((b.1), b.2, ()), [])
noncomputable def prime_Scan.D : Decl (List Int × Int) := ⟨(Go.Proofs.Tryd.f58.body).getD .skip, 58, [.tmp 6, .tmp 7], prime_Scan.A, prime_Scan.Q, fun y m => (y.1, y.2.1), T0, [], [(8, [(1, .p (some (.int .i64))), (8, .p (some (.int .u64))), (9, .m (.num .u64) 29), (10, .p (some (.int .u64)))])], []⟩
noncomputable def prime_Scan.S (k : Nat) : List (Nat × E.Spec (List Int × Int)) := [(74, told _ prime_Is.A prime_Is.Q (prime_Is.g k) prime_Is.h)]
noncomputable def prime_Scan.l8 (k : Nat) (x1 : Int) (x8 : Int) (x9 : List Int) (x10 : Int) : Option (List Int × Int) := prime_Scan.D.F prime_Scan.S k 17 [.p (.lit (.int .i64 x1)), .p (.lit (.int .u64 x8)), .m x9, .p (.lit (.int .u64 x10))]
noncomputable def prime_Scan.f0 (k : Nat) (a0 : Int) (a1 : Int) (a2 : Int) : Option (List Int × Int) := prime_Scan.D.val prime_Scan.S k (a0, a1, a2, ())
noncomputable def prime_Scan.f := (still prime_Scan.f0).1
theorem prime_Scan.f_def : prime_Scan.f = prime_Scan.f0 := (still prime_Scan.f0).2
noncomputable def prime_Scan.g (k : Nat) (x : prime_Scan.A.T) : Option (List Int × Int) := prime_Scan.f k (x.1) (x.2.1) (x.2.2.1)
theorem prime_Scan.does (k : Nat) : Does PG 58 prime_Scan.A prime_Scan.Q (prime_Scan.g k) prime_Scan.h := (show prime_Scan.g k = prime_Scan.D.val prime_Scan.S k from funext fun _ => by unfold prime_Scan.g; rw [prime_Scan.f_def]; rfl) ▸ Decl.does (D := prime_Scan.D) (S := prime_Scan.S) (fn := Go.Proofs.Tryd.f58) ⟨by kernel_rfl, by kernel_rfl, by kernel_rfl, by kernel_rfl, by kernel_rfl, by kernel_rfl, TT.of_ok _ T0ex, by kernel_rfl⟩ (fun k => ⟨told_ok (prime_Is.does k), trivial⟩) (fun _ _ h => by rw [h rfl]; rfl) k
def word_Field_Sub.A : AK := .p (.fp 62 (.cons (.int .u64) (.cons (.int .u64) (.cons (.int .u64) .nil)))) (.p (.int .u64) (.p (.int .u64) .nil))
def word_Field_Sub.Q : RK := .p (.int .u64) .nil
def word_Field_Sub.h : Int → word_Field_Sub.Q.T × List Int := fun b => ((b, ()), [])
noncomputable def word_Field_Sub.D : Decl Int := ⟨(Go.Proofs.Tryd.f67.body).getD .skip, 33, [.tmp 6], word_Field_Sub.A, word_Field_Sub.Q, fun y m => y.1, T0, [], [], []⟩
noncomputable def word_Field_Sub.S (k : Nat) : List (Nat × E.Spec Int) := []
noncomputable def word_Field_Sub.f0 (k : Nat) (a0_0 : Int) (a0_1 : Int) (a0_2 : Int) (a1 : Int) (a2 : Int) : Option Int := word_Field_Sub.D.val word_Field_Sub.S k ((a0_0, a0_1, a0_2, ()), a1, a2, ())
noncomputable def word_Field_Sub.f := (still word_Field_Sub.f0).1
theorem word_Field_Sub.f_def : word_Field_Sub.f = word_Field_Sub.f0 := (still word_Field_Sub.f0).2
noncomputable def word_Field_Sub.g (k : Nat) (x : word_Field_Sub.A.T) : Option Int := word_Field_Sub.f k (x.1.1) (x.1.2.1) (x.1.2.2.1) (x.2.1) (x.2.2.1)
theorem word_Field_Sub.does (k : Nat) : Does PG 67 word_Field_Sub.A word_Field_Sub.Q (word_Field_Sub.g k) word_Field_Sub.h := (show word_Field_Sub.g k = word_Field_Sub.D.val word_Field_Sub.S k from funext fun _ => by unfold word_Field_Sub.g; rw [word_Field_Sub.f_def]; rfl) ▸ Decl.does (D := word_Field_Sub.D) (S := word_Field_Sub.S) (fn := Go.Proofs.Tryd.f67) ⟨by kernel_rfl, by kernel_rfl, by kernel_rfl, by kernel_rfl, by kernel_rfl, by kernel_rfl, TT.of_ok _ T0ex, by kernel_rfl⟩ (fun k => trivial) (fun _ _ h => by rw [h rfl]; rfl) k
def word_Field_Inv.A : AK := .p (.fp 62 (.cons (.int .u64) (.cons (.int .u64) (.cons (.int .u64) .nil)))) (.p (.int .u64) .nil)
def word_Field_Inv.Q : RK := .p (.int .u64) (.p (.int .i64) .nil)
def word_Field_Inv.h : (Int × Int) → word_Field_Inv.Q.T × List Int := fun b => ((b.1, b.2, ()), [])
noncomputable def word_Field_Inv.D : Decl (Int × Int) := ⟨(Go.Proofs.Tryd.f66.body).getD .skip, 48, [.tmp 4, .tmp 5], word_Field_Inv.A, word_Field_Inv.Q, fun y m => (y.1, y.2.1), T0, [], [(8, [(0, .p (some (.fp 62 (.cons (.int .u64) (.cons (.int .u64) (.cons (.int .u64) .nil)))))), (6, .p (some (.int .u64))), (7, .p (some (.int .u64))), (8, .p (some (.int .u64))), (9, .p (some (.int .u64)))])], []⟩
noncomputable def word_Field_Inv.S (k : Nat) : List (Nat × E.Spec (Int × Int)) := [(30, told _ word_Field_Mul.A word_Field_Mul.Q (word_Field_Mul.g k) word_Field_Mul.h), (67, told _ word_Field_Sub.A word_Field_Sub.Q (word_Field_Sub.g k) word_Field_Sub.h)]
noncomputable def word_Field_Inv.l8 (k : Nat) (x0_0 : Int) (x0_1 : Int) (x0_2 : Int) (x6 : Int) (x7 : Int) (x8 : Int) (x9 : Int) : Option (Int × Int) := word_Field_Inv.D.F word_Field_Inv.S k 17 [.p (.fp 62 [.lit (.int .u64 x0_0), .lit (.int .u64 x0_1), .lit (.int .u64 x0_2)]), .p (.lit (.int .u64 x6)), .p (.lit (.int .u64 x7)), .p (.lit (.int .u64 x8)), .p (.lit (.int .u64 x9))]
noncomputable def word_Field_Inv.f0 (k : Nat) (a0_0 : Int) (a0_1 : Int) (a0_2 : Int) (a1 : Int) : Option (Int × Int) := word_Field_Inv.D.val word_Field_Inv.S k ((a0_0, a0_1, a0_2, ()), a1, ())
noncomputable def word_Field_Inv.f := (still word_Field_Inv.f0).1
theorem word_Field_Inv.f_def : word_Field_Inv.f = word_Field_Inv.f0 := (still word_Field_Inv.f0).2
noncomputable def word_Field_Inv.g (k : Nat) (x : word_Field_Inv.A.T) : Option (Int × Int) := word_Field_Inv.f k (x.1.1) (x.1.2.1) (x.1.2.2.1) (x.2.1)
theorem word_Field_Inv.does (k : Nat) : Does PG 66 word_Field_Inv.A word_Field_Inv.Q (word_Field_Inv.g k) word_Field_Inv.h := (show word_Field_Inv.g k = word_Field_Inv.D.val word_Field_Inv.S k from funext fun _ => by unfold word_Field_Inv.g; rw [word_Field_Inv.f_def]; rfl) ▸ Decl.does (D := word_Field_Inv.D) (S := word_Field_Inv.S) (fn := Go.Proofs.Tryd.f66) ⟨by kernel_rfl, by kernel_rfl, by kernel_rfl, by kernel_rfl, by kernel_rfl, by kernel_rfl, TT.of_ok _ T0ex, by kernel_rfl⟩ (fun k => ⟨told_ok (word_Field_Mul.does k), ⟨told_ok (word_Field_Sub.does k), trivial⟩⟩) (fun _ _ h => by rw [h rfl]; rfl) k
def prime_field.A : AK := .p (.int .u64) .nil
def prime_field.Q : RK := .p (.np 62 (.cons (.int .u64) (.cons (.int .u64) (.cons (.int .u64) .nil)))) (.p (.int .i64) .nil)
def prime_field.h : ((Option (Int × Int × Int × Unit)) × Int) → prime_field.Q.T × List Int := fun b => ((b.1, b.2, ()), [])
noncomputable def prime_field.D : Decl ((Option (Int × Int × Int × Unit)) × Int) := ⟨(Go.Proofs.Tryd.f85.body).getD .skip, 15, [.tmp 2, .tmp 3], prime_field.A, prime_field.Q, fun y m => (y.1, y.2.1), T0, [], [], []⟩
noncomputable def prime_field.S (k : Nat) : List (Nat × E.Spec ((Option (Int × Int × Int × Unit)) × Int)) := [(19, told _ word_New.A word_New.Q (word_New.g k) word_New.h), (74, told _ prime_Is.A prime_Is.Q (prime_Is.g k) prime_Is.h)]
noncomputable def prime_field.f0 (k : Nat) (a0 : Int) : Option ((Option (Int × Int × Int × Unit)) × Int) := prime_field.D.val prime_field.S k (a0, ())
noncomputable def prime_field.f := (still prime_field.f0).1
theorem prime_field.f_def : prime_field.f = prime_field.f0 := (still prime_field.f0).2
noncomputable def prime_field.g (k : Nat) (x : prime_field.A.T) : Option ((Option (Int × Int × Int × Unit)) × Int) := prime_field.f k (x.1)
theorem prime_field.does (k : Nat) : Does PG 85 prime_field.A prime_field.Q (prime_field.g k) prime_field.h := (show prime_field.g k = prime_field.D.val prime_field.S k from funext fun _ => by unfold prime_field.g; rw [prime_field.f_def]; rfl) ▸ Decl.does (D := prime_field.D) (S := prime_field.S) (fn := Go.Proofs.Tryd.f85) ⟨by kernel_rfl, by kernel_rfl, by kernel_rfl, by kernel_rfl, by kernel_rfl, by kernel_rfl, TT.of_ok _ T0ex, by kernel_rfl⟩ (fun k => ⟨told_ok (word_New.does k), ⟨told_ok (prime_Is.does k), trivial⟩⟩) (fun _ _ h => by rw [h rfl]; rfl) k
def word_Field_Of.A : AK := .p (.fp 62 (.cons (.int .u64) (.cons (.int .u64) (.cons (.int .u64) .nil)))) (.p (.int .u64) .nil)
def word_Field_Of.Q : RK := .p (.int .u64) .nil
def word_Field_Of.h : Int → word_Field_Of.Q.T × List Int := fun b => ((b, ()), [])
noncomputable def word_Field_Of.D : Decl Int := ⟨(Go.Proofs.Tryd.f33.body).getD .skip, 13, [.tmp 4], word_Field_Of.A, word_Field_Of.Q, fun y m => y.1, T0, [], [], []⟩
noncomputable def word_Field_Of.S (k : Nat) : List (Nat × E.Spec Int) := []
noncomputable def word_Field_Of.f0 (k : Nat) (a0_0 : Int) (a0_1 : Int) (a0_2 : Int) (a1 : Int) : Option Int := word_Field_Of.D.val word_Field_Of.S k ((a0_0, a0_1, a0_2, ()), a1, ())
noncomputable def word_Field_Of.f := (still word_Field_Of.f0).1
theorem word_Field_Of.f_def : word_Field_Of.f = word_Field_Of.f0 := (still word_Field_Of.f0).2
noncomputable def word_Field_Of.g (k : Nat) (x : word_Field_Of.A.T) : Option Int := word_Field_Of.f k (x.1.1) (x.1.2.1) (x.1.2.2.1) (x.2.1)
theorem word_Field_Of.does (k : Nat) : Does PG 33 word_Field_Of.A word_Field_Of.Q (word_Field_Of.g k) word_Field_Of.h := (show word_Field_Of.g k = word_Field_Of.D.val word_Field_Of.S k from funext fun _ => by unfold word_Field_Of.g; rw [word_Field_Of.f_def]; rfl) ▸ Decl.does (D := word_Field_Of.D) (S := word_Field_Of.S) (fn := Go.Proofs.Tryd.f33) ⟨by kernel_rfl, by kernel_rfl, by kernel_rfl, by kernel_rfl, by kernel_rfl, by kernel_rfl, TT.of_ok _ T0ex, by kernel_rfl⟩ (fun k => trivial) (fun _ _ h => by rw [h rfl]; rfl) k
def word_Field_Pow.A : AK := .p (.fp 62 (.cons (.int .u64) (.cons (.int .u64) (.cons (.int .u64) .nil)))) (.p (.int .u64) (.p (.int .u64) .nil))
def word_Field_Pow.Q : RK := .p (.int .u64) .nil
def word_Field_Pow.h : Int → word_Field_Pow.Q.T × List Int := fun b => ((b, ()), [])
noncomputable def word_Field_Pow.D : Decl Int := ⟨(Go.Proofs.Tryd.f86.body).getD .skip, 28, [.tmp 6], word_Field_Pow.A, word_Field_Pow.Q, fun y m => y.1, T0, [], [(2, [(0, .p (some (.fp 62 (.cons (.int .u64) (.cons (.int .u64) (.cons (.int .u64) .nil)))))), (1, .p (some (.int .u64))), (2, .p (some (.int .u64))), (7, .p (some (.int .u64)))])], []⟩
noncomputable def word_Field_Pow.S (k : Nat) : List (Nat × E.Spec Int) := [(30, told _ word_Field_Mul.A word_Field_Mul.Q (word_Field_Mul.g k) word_Field_Mul.h), (33, told _ word_Field_Of.A word_Field_Of.Q (word_Field_Of.g k) word_Field_Of.h)]
noncomputable def word_Field_Pow.l2 (k : Nat) (x0_0 : Int) (x0_1 : Int) (x0_2 : Int) (x1 : Int) (x2 : Int) (x7 : Int) : Option Int := word_Field_Pow.D.F word_Field_Pow.S k 5 [.p (.fp 62 [.lit (.int .u64 x0_0), .lit (.int .u64 x0_1), .lit (.int .u64 x0_2)]), .p (.lit (.int .u64 x1)), .p (.lit (.int .u64 x2)), .p (.lit (.int .u64 x7))]
noncomputable def word_Field_Pow.f0 (k : Nat) (a0_0 : Int) (a0_1 : Int) (a0_2 : Int) (a1 : Int) (a2 : Int) : Option Int := word_Field_Pow.D.val word_Field_Pow.S k ((a0_0, a0_1, a0_2, ()), a1, a2, ())
noncomputable def word_Field_Pow.f := (still word_Field_Pow.f0).1
theorem word_Field_Pow.f_def : word_Field_Pow.f = word_Field_Pow.f0 := (still word_Field_Pow.f0).2
noncomputable def word_Field_Pow.g (k : Nat) (x : word_Field_Pow.A.T) : Option Int := word_Field_Pow.f k (x.1.1) (x.1.2.1) (x.1.2.2.1) (x.2.1) (x.2.2.1)
theorem word_Field_Pow.does (k : Nat) : Does PG 86 word_Field_Pow.A word_Field_Pow.Q (word_Field_Pow.g k) word_Field_Pow.h := (show word_Field_Pow.g k = word_Field_Pow.D.val word_Field_Pow.S k from funext fun _ => by unfold word_Field_Pow.g; rw [word_Field_Pow.f_def]; rfl) ▸ Decl.does (D := word_Field_Pow.D) (S := word_Field_Pow.S) (fn := Go.Proofs.Tryd.f86) ⟨by kernel_rfl, by kernel_rfl, by kernel_rfl, by kernel_rfl, by kernel_rfl, by kernel_rfl, TT.of_ok _ T0ex, by kernel_rfl⟩ (fun k => ⟨told_ok (word_Field_Mul.does k), ⟨told_ok (word_Field_Of.does k), trivial⟩⟩) (fun _ _ h => by rw [h rfl]; rfl) k
def prime_order.A : AK := .p (.fp 62 (.cons (.int .u64) (.cons (.int .u64) (.cons (.int .u64) .nil)))) (.p (.int .u64) .nil)
def prime_order.Q : RK := .p (.int .i64) (.p (.bool) .nil)
def prime_order.h : (Int × Bool) → prime_order.Q.T × List Int := fun b => ((b.1, b.2, ()), [])
noncomputable def prime_order.D : Decl (Int × Bool) := ⟨(Go.Proofs.Tryd.f87.body).getD .skip, 18, [.tmp 4, .tmp 5], prime_order.A, prime_order.Q, fun y m => (y.1, y.2.1), T0, [], [(2, [(0, .p (some (.fp 62 (.cons (.int .u64) (.cons (.int .u64) (.cons (.int .u64) .nil)))))), (1, .p (some (.int .u64))), (7, .p (some (.int .i64)))])], []⟩
noncomputable def prime_order.S (k : Nat) : List (Nat × E.Spec (Int × Bool)) := [(30, told _ word_Field_Mul.A word_Field_Mul.Q (word_Field_Mul.g k) word_Field_Mul.h)]
noncomputable def prime_order.l2 (k : Nat) (x0_0 : Int) (x0_1 : Int) (x0_2 : Int) (x1 : Int) (x7 : Int) : Option (Int × Bool) := prime_order.D.F prime_order.S k 5 [.p (.fp 62 [.lit (.int .u64 x0_0), .lit (.int .u64 x0_1), .lit (.int .u64 x0_2)]), .p (.lit (.int .u64 x1)), .p (.lit (.int .i64 x7))]
noncomputable def prime_order.f0 (k : Nat) (a0_0 : Int) (a0_1 : Int) (a0_2 : Int) (a1 : Int) : Option (Int × Bool) := prime_order.D.val prime_order.S k ((a0_0, a0_1, a0_2, ()), a1, ())
noncomputable def prime_order.f := (still prime_order.f0).1
theorem prime_order.f_def : prime_order.f = prime_order.f0 := (still prime_order.f0).2
noncomputable def prime_order.g (k : Nat) (x : prime_order.A.T) : Option (Int × Bool) := prime_order.f k (x.1.1) (x.1.2.1) (x.1.2.2.1) (x.2.1)
theorem prime_order.does (k : Nat) : Does PG 87 prime_order.A prime_order.Q (prime_order.g k) prime_order.h := (show prime_order.g k = prime_order.D.val prime_order.S k from funext fun _ => by unfold prime_order.g; rw [prime_order.f_def]; rfl) ▸ Decl.does (D := prime_order.D) (S := prime_order.S) (fn := Go.Proofs.Tryd.f87) ⟨by kernel_rfl, by kernel_rfl, by kernel_rfl, by kernel_rfl, by kernel_rfl, by kernel_rfl, TT.of_ok _ T0ex, by kernel_rfl⟩ (fun k => ⟨told_ok (word_Field_Mul.does k), trivial⟩) (fun _ _ h => by rw [h rfl]; rfl) k
def prime_Root.A : AK := .p (.int .u64) (.p (.int .i64) .nil)
def prime_Root.Q : RK := .p (.int .u64) (.p (.int .i64) .nil)
def prime_Root.h : (Int × Int) → prime_Root.Q.T × List Int := fun b => ((b.1, b.2, ()), [])
noncomputable def prime_Root.D : Decl (Int × Int) := ⟨(Go.Proofs.Tryd.f75.body).getD .skip, 62, [.tmp 4, .tmp 5], prime_Root.A, prime_Root.Q, fun y m => (y.1, y.2.1), T0, [], [(8, [(0, .p (some (.int .u64))), (1, .p (some (.int .i64))), (6, .p (some (.fp 62 (.cons (.int .u64) (.cons (.int .u64) (.cons (.int .u64) .nil)))))), (8, .p (some (.int .u64)))])], []⟩
noncomputable def prime_Root.S (k : Nat) : List (Nat × E.Spec (Int × Int)) := [(85, told _ prime_field.A prime_field.Q (prime_field.g k) prime_field.h), (86, told _ word_Field_Pow.A word_Field_Pow.Q (word_Field_Pow.g k) word_Field_Pow.h), (87, told _ prime_order.A prime_order.Q (prime_order.g k) prime_order.h)]
noncomputable def prime_Root.l8 (k : Nat) (x0 : Int) (x1 : Int) (x6_0 : Int) (x6_1 : Int) (x6_2 : Int) (x8 : Int) : Option (Int × Int) := prime_Root.D.F prime_Root.S k 17 [.p (.lit (.int .u64 x0)), .p (.lit (.int .i64 x1)), .p (.fp 62 [.lit (.int .u64 x6_0), .lit (.int .u64 x6_1), .lit (.int .u64 x6_2)]), .p (.lit (.int .u64 x8))]
noncomputable def prime_Root.f0 (k : Nat) (a0 : Int) (a1 : Int) : Option (Int × Int) := prime_Root.D.val prime_Root.S k (a0, a1, ())
noncomputable def prime_Root.f := (still prime_Root.f0).1
theorem prime_Root.f_def : prime_Root.f = prime_Root.f0 := (still prime_Root.f0).2
noncomputable def prime_Root.g (k : Nat) (x : prime_Root.A.T) : Option (Int × Int) := prime_Root.f k (x.1) (x.2.1)
theorem prime_Root.does (k : Nat) : Does PG 75 prime_Root.A prime_Root.Q (prime_Root.g k) prime_Root.h := (show prime_Root.g k = prime_Root.D.val prime_Root.S k from funext fun _ => by unfold prime_Root.g; rw [prime_Root.f_def]; rfl) ▸ Decl.does (D := prime_Root.D) (S := prime_Root.S) (fn := Go.Proofs.Tryd.f75) ⟨by kernel_rfl, by kernel_rfl, by kernel_rfl, by kernel_rfl, by kernel_rfl, by kernel_rfl, TT.of_ok _ T0ex, by kernel_rfl⟩ (fun k => ⟨told_ok (prime_field.does k), ⟨told_ok (word_Field_Pow.does k), ⟨told_ok (prime_order.does k), trivial⟩⟩⟩) (fun _ _ h => by rw [h rfl]; rfl) k
def tft_New.A : AK := .p (.int .u64) (.p (.int .i64) .nil)
def tft_New.Q : RK := .p (.np 102 (.cons (.fp 62 (.cons (.int .u64) (.cons (.int .u64) (.cons (.int .u64) .nil)))) (.cons (.int .i64) (.cons (.row .u64) (.cons (.int .u64) .nil))))) (.p (.int .i64) .nil)
def tft_New.h : ((Option ((Int × Int × Int × Unit) × Int × List Int × Int × Unit)) × Int) → tft_New.Q.T × List Int := fun b => ((b.1, b.2, ()), [])
noncomputable def tft_New.D : Decl ((Option ((Int × Int × Int × Unit) × Int × List Int × Int × Unit)) × Int) := ⟨(Go.Proofs.Tryd.f59.body).getD .skip, 65, [.tmp 4, .tmp 5], tft_New.A, tft_New.Q, fun y m => (y.1, y.2.1), T0, [], [(11, [(1, .p (some (.int .i64))), (6, .p (some (.int .u64))), (7, .p (some (.int .i64))), (8, .p (some (.fp 62 (.cons (.int .u64) (.cons (.int .u64) (.cons (.int .u64) .nil)))))), (9, .p (some (.pt 7 0))), (10, .p (some (.int .i64))), (34, .m (.num .u64) 29), (36, .b (some (.cons (.fp 62 (.cons (.int .u64) (.cons (.int .u64) (.cons (.int .u64) .nil)))) (.cons (.int .i64) (.cons (.sl 6) (.cons (.int .u64) .nil))))))])], []⟩
noncomputable def tft_New.S (k : Nat) : List (Nat × E.Spec ((Option ((Int × Int × Int × Unit) × Int × List Int × Int × Unit)) × Int)) := [(19, told _ word_New.A word_New.Q (word_New.g k) word_New.h), (30, told _ word_Field_Mul.A word_Field_Mul.Q (word_Field_Mul.g k) word_Field_Mul.h), (66, told _ word_Field_Inv.A word_Field_Inv.Q (word_Field_Inv.g k) word_Field_Inv.h), (75, told _ prime_Root.A prime_Root.Q (prime_Root.g k) prime_Root.h)]
noncomputable def tft_New.l11 (k : Nat) (x1 : Int) (x6 : Int) (x7 : Int) (x8_0 : Int) (x8_1 : Int) (x8_2 : Int) (x10 : Int) (x34 : List Int) (x36_0 : Int) (x36_1 : Int) (x36_2 : Int) (x36_3 : Int) (x36_4 : Int) : Option ((Option ((Int × Int × Int × Unit) × Int × List Int × Int × Unit)) × Int) := tft_New.D.F tft_New.S k 23 [.p (.lit (.int .i64 x1)), .p (.lit (.int .u64 x6)), .p (.lit (.int .i64 x7)), .p (.fp 62 [.lit (.int .u64 x8_0), .lit (.int .u64 x8_1), .lit (.int .u64 x8_2)]), .p (.ptr 7 0), .p (.lit (.int .i64 x10)), .m x34, .b 102 [.fp 62 [.lit (.int .u64 x36_0), .lit (.int .u64 x36_1), .lit (.int .u64 x36_2)], .lit (.int .i64 x36_3), .sli 6, .lit (.int .u64 x36_4)]]
noncomputable def tft_New.f0 (k : Nat) (a0 : Int) (a1 : Int) : Option ((Option ((Int × Int × Int × Unit) × Int × List Int × Int × Unit)) × Int) := tft_New.D.val tft_New.S k (a0, a1, ())
noncomputable def tft_New.f := (still tft_New.f0).1
theorem tft_New.f_def : tft_New.f = tft_New.f0 := (still tft_New.f0).2
noncomputable def tft_New.g (k : Nat) (x : tft_New.A.T) : Option ((Option ((Int × Int × Int × Unit) × Int × List Int × Int × Unit)) × Int) := tft_New.f k (x.1) (x.2.1)
theorem tft_New.does (k : Nat) : Does PG 59 tft_New.A tft_New.Q (tft_New.g k) tft_New.h := (show tft_New.g k = tft_New.D.val tft_New.S k from funext fun _ => by unfold tft_New.g; rw [tft_New.f_def]; rfl) ▸ Decl.does (D := tft_New.D) (S := tft_New.S) (fn := Go.Proofs.Tryd.f59) ⟨by kernel_rfl, by kernel_rfl, by kernel_rfl, by kernel_rfl, by kernel_rfl, by kernel_rfl, TT.of_ok _ T0ex, by kernel_rfl⟩ (fun k => ⟨told_ok (word_New.does k), ⟨told_ok (word_Field_Mul.does k), ⟨told_ok (word_Field_Inv.does k), ⟨told_ok (prime_Root.does k), trivial⟩⟩⟩⟩) (fun _ _ h => by rw [h rfl]; rfl) k
def conv_plans.A : AK := .p (.int .i64) .nil
def conv_plans.Q : RK := .p (.agg (.cons (.np 102 (.cons (.fp 62 (.cons (.int .u64) (.cons (.int .u64) (.cons (.int .u64) .nil)))) (.cons (.int .i64) (.cons (.row .u64) (.cons (.int .u64) .nil))))) (.cons (.np 102 (.cons (.fp 62 (.cons (.int .u64) (.cons (.int .u64) (.cons (.int .u64) .nil)))) (.cons (.int .i64) (.cons (.row .u64) (.cons (.int .u64) .nil))))) (.cons (.np 102 (.cons (.fp 62 (.cons (.int .u64) (.cons (.int .u64) (.cons (.int .u64) .nil)))) (.cons (.int .i64) (.cons (.row .u64) (.cons (.int .u64) .nil))))) .nil)))) (.o (.num .u64) 29 (.p (.int .i64) .nil))
def conv_plans.h : ((Option ((Int × Int × Int × Unit) × Int × List Int × Int × Unit)) × (Option ((Int × Int × Int × Unit) × Int × List Int × Int × Unit)) × (Option ((Int × Int × Int × Unit) × Int × List Int × Int × Unit)) × List Int × Int) → conv_plans.Q.T × List Int := fun b => (((b.1, b.2.1, b.2.2.1, ()), (b.2.2.2.1), b.2.2.2.2, ()), [])
noncomputable def conv_plans.D : Decl ((Option ((Int × Int × Int × Unit) × Int × List Int × Int × Unit)) × (Option ((Int × Int × Int × Unit) × Int × List Int × Int × Unit)) × (Option ((Int × Int × Int × Unit) × Int × List Int × Int × Unit)) × List Int × Int) := ⟨(Go.Proofs.Tryd.f45.body).getD .skip, 47, [.cell 2 85, .tmp 3, .tmp 4], conv_plans.A, conv_plans.Q, fun y m => (y.1.1, y.1.2.1, y.1.2.2.1, y.2.1, y.2.2.1), T0, [], [(7, [(2, .b (some (.cons (.any) (.cons (.any) (.cons (.any) .nil))))), (5, .b (some (.cons (.np 102 (.cons (.fp 62 (.cons (.int .u64) (.cons (.int .u64) (.cons (.int .u64) .nil)))) (.cons (.int .i64) (.cons (.row .u64) (.cons (.int .u64) .nil))))) (.cons (.np 102 (.cons (.fp 62 (.cons (.int .u64) (.cons (.int .u64) (.cons (.int .u64) .nil)))) (.cons (.int .i64) (.cons (.row .u64) (.cons (.int .u64) .nil))))) (.cons (.np 102 (.cons (.fp 62 (.cons (.int .u64) (.cons (.int .u64) (.cons (.int .u64) .nil)))) (.cons (.int .i64) (.cons (.row .u64) (.cons (.int .u64) .nil))))) .nil))))), (6, .p (some (.int .i64))), (7, .m (.num .u64) 29), (25, .p (some (.sl 3))), (26, .p (some (.int .i64))), (27, .p (some (.int .i64)))])], []⟩
noncomputable def conv_plans.S (k : Nat) : List (Nat × E.Spec ((Option ((Int × Int × Int × Unit) × Int × List Int × Int × Unit)) × (Option ((Int × Int × Int × Unit) × Int × List Int × Int × Unit)) × (Option ((Int × Int × Int × Unit) × Int × List Int × Int × Unit)) × List Int × Int)) := [(57, told _ bits_Len.A bits_Len.Q (bits_Len.g k) bits_Len.h), (58, told _ prime_Scan.A prime_Scan.Q (prime_Scan.g k) prime_Scan.h), (59, told _ tft_New.A tft_New.Q (tft_New.g k) tft_New.h)]
noncomputable def conv_plans.l7 (k : Nat) (x5_0 : Option ((Int × Int × Int × Unit) × Int × List Int × Int × Unit)) (x5_1 : Option ((Int × Int × Int × Unit) × Int × List Int × Int × Unit)) (x5_2 : Option ((Int × Int × Int × Unit) × Int × List Int × Int × Unit)) (x6 : Int) (x7 : List Int) (x26 : Int) (x27 : Int) : Option ((Option ((Int × Int × Int × Unit) × Int × List Int × Int × Unit)) × (Option ((Int × Int × Int × Unit) × Int × List Int × Int × Unit)) × (Option ((Int × Int × Int × Unit) × Int × List Int × Int × Unit)) × List Int × Int) := conv_plans.D.F conv_plans.S k 15 [.b 85 [.any, .any, .any], .b 85 [SK.put (.np 102 (.cons (.fp 62 (.cons (.int .u64) (.cons (.int .u64) (.cons (.int .u64) .nil)))) (.cons (.int .i64) (.cons (.row .u64) (.cons (.int .u64) .nil))))) x5_0, SK.put (.np 102 (.cons (.fp 62 (.cons (.int .u64) (.cons (.int .u64) (.cons (.int .u64) .nil)))) (.cons (.int .i64) (.cons (.row .u64) (.cons (.int .u64) .nil))))) x5_1, SK.put (.np 102 (.cons (.fp 62 (.cons (.int .u64) (.cons (.int .u64) (.cons (.int .u64) .nil)))) (.cons (.int .i64) (.cons (.row .u64) (.cons (.int .u64) .nil))))) x5_2], .p (.lit (.int .i64 x6)), .m x7, .p (.sli 3), .p (.lit (.int .i64 x26)), .p (.lit (.int .i64 x27))]
noncomputable def conv_plans.f0 (k : Nat) (a0 : Int) : Option ((Option ((Int × Int × Int × Unit) × Int × List Int × Int × Unit)) × (Option ((Int × Int × Int × Unit) × Int × List Int × Int × Unit)) × (Option ((Int × Int × Int × Unit) × Int × List Int × Int × Unit)) × List Int × Int) := conv_plans.D.val conv_plans.S k (a0, ())
noncomputable def conv_plans.f := (still conv_plans.f0).1
theorem conv_plans.f_def : conv_plans.f = conv_plans.f0 := (still conv_plans.f0).2
noncomputable def conv_plans.g (k : Nat) (x : conv_plans.A.T) : Option ((Option ((Int × Int × Int × Unit) × Int × List Int × Int × Unit)) × (Option ((Int × Int × Int × Unit) × Int × List Int × Int × Unit)) × (Option ((Int × Int × Int × Unit) × Int × List Int × Int × Unit)) × List Int × Int) := conv_plans.f k (x.1)
theorem conv_plans.does (k : Nat) : Does PG 45 conv_plans.A conv_plans.Q (conv_plans.g k) conv_plans.h := (show conv_plans.g k = conv_plans.D.val conv_plans.S k from funext fun _ => by unfold conv_plans.g; rw [conv_plans.f_def]; rfl) ▸ Decl.does (D := conv_plans.D) (S := conv_plans.S) (fn := Go.Proofs.Tryd.f45) ⟨by kernel_rfl, by kernel_rfl, by kernel_rfl, by kernel_rfl, by kernel_rfl, by kernel_rfl, TT.of_ok _ T0ex, by kernel_rfl⟩ (fun k => ⟨told_ok (bits_Len.does k), ⟨told_ok (prime_Scan.does k), ⟨told_ok (tft_New.does k), trivial⟩⟩⟩) (fun _ _ h => by rw [h rfl]; rfl) k
def tft_Plan_Most.A : AK := .p (.np 102 (.cons (.fp 62 (.cons (.int .u64) (.cons (.int .u64) (.cons (.int .u64) .nil)))) (.cons (.int .i64) (.cons (.row .u64) (.cons (.int .u64) .nil))))) .nil
def tft_Plan_Most.Q : RK := .p (.int .i64) .nil
def tft_Plan_Most.h : Int → tft_Plan_Most.Q.T × List Int := fun b => ((b, ()), [])
noncomputable def tft_Plan_Most.D : Decl Int := ⟨(Go.Proofs.Tryd.f60.body).getD .skip, 11, [.tmp 2], tft_Plan_Most.A, tft_Plan_Most.Q, fun y m => y.1, T0, [], [], []⟩
noncomputable def tft_Plan_Most.S (k : Nat) : List (Nat × E.Spec Int) := []
noncomputable def tft_Plan_Most.f0 (k : Nat) (a0 : Option ((Int × Int × Int × Unit) × Int × List Int × Int × Unit)) : Option Int := tft_Plan_Most.D.val tft_Plan_Most.S k (a0, ())
noncomputable def tft_Plan_Most.f := (still tft_Plan_Most.f0).1
theorem tft_Plan_Most.f_def : tft_Plan_Most.f = tft_Plan_Most.f0 := (still tft_Plan_Most.f0).2
noncomputable def tft_Plan_Most.g (k : Nat) (x : tft_Plan_Most.A.T) : Option Int := tft_Plan_Most.f k (x.1)
theorem tft_Plan_Most.does (k : Nat) : Does PG 60 tft_Plan_Most.A tft_Plan_Most.Q (tft_Plan_Most.g k) tft_Plan_Most.h := (show tft_Plan_Most.g k = tft_Plan_Most.D.val tft_Plan_Most.S k from funext fun _ => by unfold tft_Plan_Most.g; rw [tft_Plan_Most.f_def]; rfl) ▸ Decl.does (D := tft_Plan_Most.D) (S := tft_Plan_Most.S) (fn := Go.Proofs.Tryd.f60) ⟨by kernel_rfl, by kernel_rfl, by kernel_rfl, by kernel_rfl, by kernel_rfl, by kernel_rfl, TT.of_ok _ T0ex, by kernel_rfl⟩ (fun k => trivial) (fun _ _ h => by rw [h rfl]; rfl) k
def word_Field_Add.A : AK := .p (.fp 62 (.cons (.int .u64) (.cons (.int .u64) (.cons (.int .u64) .nil)))) (.p (.int .u64) (.p (.int .u64) .nil))
def word_Field_Add.Q : RK := .p (.int .u64) .nil
def word_Field_Add.h : Int → word_Field_Add.Q.T × List Int := fun b => ((b, ()), [])
noncomputable def word_Field_Add.D : Decl Int := ⟨(Go.Proofs.Tryd.f88.body).getD .skip, 36, [.tmp 6], word_Field_Add.A, word_Field_Add.Q, fun y m => y.1, T0, [], [], []⟩
noncomputable def word_Field_Add.S (k : Nat) : List (Nat × E.Spec Int) := []
noncomputable def word_Field_Add.f0 (k : Nat) (a0_0 : Int) (a0_1 : Int) (a0_2 : Int) (a1 : Int) (a2 : Int) : Option Int := word_Field_Add.D.val word_Field_Add.S k ((a0_0, a0_1, a0_2, ()), a1, a2, ())
noncomputable def word_Field_Add.f := (still word_Field_Add.f0).1
theorem word_Field_Add.f_def : word_Field_Add.f = word_Field_Add.f0 := (still word_Field_Add.f0).2
noncomputable def word_Field_Add.g (k : Nat) (x : word_Field_Add.A.T) : Option Int := word_Field_Add.f k (x.1.1) (x.1.2.1) (x.1.2.2.1) (x.2.1) (x.2.2.1)
theorem word_Field_Add.does (k : Nat) : Does PG 88 word_Field_Add.A word_Field_Add.Q (word_Field_Add.g k) word_Field_Add.h := (show word_Field_Add.g k = word_Field_Add.D.val word_Field_Add.S k from funext fun _ => by unfold word_Field_Add.g; rw [word_Field_Add.f_def]; rfl) ▸ Decl.does (D := word_Field_Add.D) (S := word_Field_Add.S) (fn := Go.Proofs.Tryd.f88) ⟨by kernel_rfl, by kernel_rfl, by kernel_rfl, by kernel_rfl, by kernel_rfl, by kernel_rfl, TT.of_ok _ T0ex, by kernel_rfl⟩ (fun k => trivial) (fun _ _ h => by rw [h rfl]; rfl) k
def tft_Plan_of.A : AK := .p (.np 102 (.cons (.fp 62 (.cons (.int .u64) (.cons (.int .u64) (.cons (.int .u64) .nil)))) (.cons (.int .i64) (.cons (.row .u64) (.cons (.int .u64) .nil))))) (.p (.int .i64) (.p (.int .u64) .nil))
def tft_Plan_of.Q : RK := .p (.agg (.cons (.int .i64) (.cons (.int .u64) (.cons (.int .u64) .nil)))) .nil
def tft_Plan_of.h : (Int × Int × Int) → tft_Plan_of.Q.T × List Int := fun b => (((b.1, b.2.1, b.2.2, ()), ()), [])
noncomputable def tft_Plan_of.D : Decl (Int × Int × Int) := ⟨(Go.Proofs.Tryd.f78.body).getD .skip, 25, [.cell 6 116], tft_Plan_of.A, tft_Plan_of.Q, fun y m => (y.1.1, y.1.2.1, y.1.2.2.1), T0, [], [(3, [(0, .p (some (.fp 102 (.cons (.fp 62 (.cons (.int .u64) (.cons (.int .u64) (.cons (.int .u64) .nil)))) (.cons (.int .i64) (.cons (.row .u64) (.cons (.int .u64) .nil))))))), (1, .p (some (.int .i64))), (2, .p (some (.int .u64))), (6, .b (some (.cons (.int .i64) (.cons (.int .u64) (.cons (.int .u64) .nil))))), (7, .p (some (.int .u64))), (10, .p (some (.int .i64))), (11, .p (some (.int .i64)))])], []⟩
noncomputable def tft_Plan_of.S (k : Nat) : List (Nat × E.Spec (Int × Int × Int)) := [(30, told _ word_Field_Mul.A word_Field_Mul.Q (word_Field_Mul.g k) word_Field_Mul.h)]
noncomputable def tft_Plan_of.l3 (k : Nat) (x0_0 : Int) (x0_1 : Int) (x0_2 : Int) (x0_3 : Int) (x0_4 : List Int) (x0_5 : Int) (x1 : Int) (x2 : Int) (x6_0 : Int) (x6_1 : Int) (x6_2 : Int) (x7 : Int) (x10 : Int) (x11 : Int) : Option (Int × Int × Int) := tft_Plan_of.D.F tft_Plan_of.S k 7 [.p (.fp 102 [.fp 62 [.lit (.int .u64 x0_0), .lit (.int .u64 x0_1), .lit (.int .u64 x0_2)], .lit (.int .i64 x0_3), .row .u64 x0_4, .lit (.int .u64 x0_5)]), .p (.lit (.int .i64 x1)), .p (.lit (.int .u64 x2)), .b 116 [.lit (.int .i64 x6_0), .lit (.int .u64 x6_1), .lit (.int .u64 x6_2)], .p (.lit (.int .u64 x7)), .p (.lit (.int .i64 x10)), .p (.lit (.int .i64 x11))]
noncomputable def tft_Plan_of.f0 (k : Nat) (a0 : Option ((Int × Int × Int × Unit) × Int × List Int × Int × Unit)) (a1 : Int) (a2 : Int) : Option (Int × Int × Int) := tft_Plan_of.D.val tft_Plan_of.S k (a0, a1, a2, ())
noncomputable def tft_Plan_of.f := (still tft_Plan_of.f0).1
theorem tft_Plan_of.f_def : tft_Plan_of.f = tft_Plan_of.f0 := (still tft_Plan_of.f0).2
noncomputable def tft_Plan_of.g (k : Nat) (x : tft_Plan_of.A.T) : Option (Int × Int × Int) := tft_Plan_of.f k (x.1) (x.2.1) (x.2.2.1)
theorem tft_Plan_of.does (k : Nat) : Does PG 78 tft_Plan_of.A tft_Plan_of.Q (tft_Plan_of.g k) tft_Plan_of.h := (show tft_Plan_of.g k = tft_Plan_of.D.val tft_Plan_of.S k from funext fun _ => by unfold tft_Plan_of.g; rw [tft_Plan_of.f_def]; rfl) ▸ Decl.does (D := tft_Plan_of.D) (S := tft_Plan_of.S) (fn := Go.Proofs.Tryd.f78) ⟨by kernel_rfl, by kernel_rfl, by kernel_rfl, by kernel_rfl, by kernel_rfl, by kernel_rfl, TT.of_ok _ T0ex, by kernel_rfl⟩ (fun k => ⟨told_ok (word_Field_Mul.does k), trivial⟩) (fun _ _ h => by rw [h rfl]; rfl) k
def tft_Plan_first.A : AK := .p (.np 102 (.cons (.fp 62 (.cons (.int .u64) (.cons (.int .u64) (.cons (.int .u64) .nil)))) (.cons (.int .i64) (.cons (.row .u64) (.cons (.int .u64) .nil))))) (.p (.agg (.cons (.int .i64) (.cons (.int .u64) (.cons (.int .u64) .nil)))) .nil)
def tft_Plan_first.Q : RK := .p (.agg (.cons (.int .i64) (.cons (.int .u64) (.cons (.int .u64) .nil)))) .nil
def tft_Plan_first.h : (Int × Int × Int) → tft_Plan_first.Q.T × List Int := fun b => (((b.1, b.2.1, b.2.2, ()), ()), [])
noncomputable def tft_Plan_first.D : Decl (Int × Int × Int) := ⟨(Go.Proofs.Tryd.f89.body).getD .skip, 12, [.cell 4 116], tft_Plan_first.A, tft_Plan_first.Q, fun y m => (y.1.1, y.1.2.1, y.1.2.2.1), T0, [], [], []⟩
noncomputable def tft_Plan_first.S (k : Nat) : List (Nat × E.Spec (Int × Int × Int)) := [(78, told _ tft_Plan_of.A tft_Plan_of.Q (tft_Plan_of.g k) tft_Plan_of.h)]
noncomputable def tft_Plan_first.f0 (k : Nat) (a0 : Option ((Int × Int × Int × Unit) × Int × List Int × Int × Unit)) (a1_0 : Int) (a1_1 : Int) (a1_2 : Int) : Option (Int × Int × Int) := tft_Plan_first.D.val tft_Plan_first.S k (a0, (a1_0, a1_1, a1_2, ()), ())
noncomputable def tft_Plan_first.f := (still tft_Plan_first.f0).1
theorem tft_Plan_first.f_def : tft_Plan_first.f = tft_Plan_first.f0 := (still tft_Plan_first.f0).2
noncomputable def tft_Plan_first.g (k : Nat) (x : tft_Plan_first.A.T) : Option (Int × Int × Int) := tft_Plan_first.f k (x.1) (x.2.1.1) (x.2.1.2.1) (x.2.1.2.2.1)
theorem tft_Plan_first.does (k : Nat) : Does PG 89 tft_Plan_first.A tft_Plan_first.Q (tft_Plan_first.g k) tft_Plan_first.h := (show tft_Plan_first.g k = tft_Plan_first.D.val tft_Plan_first.S k from funext fun _ => by unfold tft_Plan_first.g; rw [tft_Plan_first.f_def]; rfl) ▸ Decl.does (D := tft_Plan_first.D) (S := tft_Plan_first.S) (fn := Go.Proofs.Tryd.f89) ⟨by kernel_rfl, by kernel_rfl, by kernel_rfl, by kernel_rfl, by kernel_rfl, by kernel_rfl, TT.of_ok _ T0ex, by kernel_rfl⟩ (fun k => ⟨told_ok (tft_Plan_of.does k), trivial⟩) (fun _ _ h => by rw [h rfl]; rfl) k
def tft_Plan_second.A : AK := .p (.np 102 (.cons (.fp 62 (.cons (.int .u64) (.cons (.int .u64) (.cons (.int .u64) .nil)))) (.cons (.int .i64) (.cons (.row .u64) (.cons (.int .u64) .nil))))) (.p (.agg (.cons (.int .i64) (.cons (.int .u64) (.cons (.int .u64) .nil)))) .nil)
def tft_Plan_second.Q : RK := .p (.agg (.cons (.int .i64) (.cons (.int .u64) (.cons (.int .u64) .nil)))) .nil
def tft_Plan_second.h : (Int × Int × Int) → tft_Plan_second.Q.T × List Int := fun b => (((b.1, b.2.1, b.2.2, ()), ()), [])
noncomputable def tft_Plan_second.D : Decl (Int × Int × Int) := ⟨(Go.Proofs.Tryd.f90.body).getD .skip, 25, [.cell 4 116], tft_Plan_second.A, tft_Plan_second.Q, fun y m => (y.1.1, y.1.2.1, y.1.2.2.1), T0, [], [], []⟩
noncomputable def tft_Plan_second.S (k : Nat) : List (Nat × E.Spec (Int × Int × Int)) := [(30, told _ word_Field_Mul.A word_Field_Mul.Q (word_Field_Mul.g k) word_Field_Mul.h), (78, told _ tft_Plan_of.A tft_Plan_of.Q (tft_Plan_of.g k) tft_Plan_of.h)]
noncomputable def tft_Plan_second.f0 (k : Nat) (a0 : Option ((Int × Int × Int × Unit) × Int × List Int × Int × Unit)) (a1_0 : Int) (a1_1 : Int) (a1_2 : Int) : Option (Int × Int × Int) := tft_Plan_second.D.val tft_Plan_second.S k (a0, (a1_0, a1_1, a1_2, ()), ())
noncomputable def tft_Plan_second.f := (still tft_Plan_second.f0).1
theorem tft_Plan_second.f_def : tft_Plan_second.f = tft_Plan_second.f0 := (still tft_Plan_second.f0).2
noncomputable def tft_Plan_second.g (k : Nat) (x : tft_Plan_second.A.T) : Option (Int × Int × Int) := tft_Plan_second.f k (x.1) (x.2.1.1) (x.2.1.2.1) (x.2.1.2.2.1)
theorem tft_Plan_second.does (k : Nat) : Does PG 90 tft_Plan_second.A tft_Plan_second.Q (tft_Plan_second.g k) tft_Plan_second.h := (show tft_Plan_second.g k = tft_Plan_second.D.val tft_Plan_second.S k from funext fun _ => by unfold tft_Plan_second.g; rw [tft_Plan_second.f_def]; rfl) ▸ Decl.does (D := tft_Plan_second.D) (S := tft_Plan_second.S) (fn := Go.Proofs.Tryd.f90) ⟨by kernel_rfl, by kernel_rfl, by kernel_rfl, by kernel_rfl, by kernel_rfl, by kernel_rfl, TT.of_ok _ T0ex, by kernel_rfl⟩ (fun k => ⟨told_ok (word_Field_Mul.does k), ⟨told_ok (tft_Plan_of.does k), trivial⟩⟩) (fun _ _ h => by rw [h rfl]; rfl) k
def tft_Plan_values.A : AK := .p (.np 102 (.cons (.fp 62 (.cons (.int .u64) (.cons (.int .u64) (.cons (.int .u64) .nil)))) (.cons (.int .i64) (.cons (.row .u64) (.cons (.int .u64) .nil))))) (.p (.row .u64) (.p (.agg (.cons (.int .i64) (.cons (.int .u64) (.cons (.int .u64) .nil)))) (.p (.int .i64) .nil)))
def tft_Plan_values.Q : RK := .o (.num .u64) 29 .nil
def tft_Plan_values.h : List Int → tft_Plan_values.Q.T × List Int := fun b => (((b), ()), [])
noncomputable def tft_Plan_values.D : Decl (List Int) := ⟨(Go.Proofs.Tryd.f76.body).getD .skip, 101, [.tmp 8], tft_Plan_values.A, tft_Plan_values.Q, fun y m => y.1, T0, [], [(8, [(0, .p (some (.fp 102 (.cons (.fp 62 (.cons (.int .u64) (.cons (.int .u64) (.cons (.int .u64) .nil)))) (.cons (.int .i64) (.cons (.row .u64) (.cons (.int .u64) .nil))))))), (1, .p (some (.row .u64))), (3, .p (some (.int .i64))), (6, .b (some (.cons (.int .i64) (.cons (.int .u64) (.cons (.int .u64) .nil))))), (9, .p (some (.int .i64))), (10, .m (.num .u64) 29), (11, .m (.num .u64) 29), (33, .p (some (.int .i64))), (34, .p (some (.int .i64)))])], [(13, [10]), (15, [11])]⟩
def tft_Plan_values.rg (R : (Option ((Int × Int × Int × Unit) × Int × List Int × Int × Unit)) → (List Int) → Int → Int → Int → Int → Option (List Int)) (x : tft_Plan_values.A.T) : Option (List Int) := R (x.1) (x.2.1) (x.2.2.1.1) (x.2.2.1.2.1) (x.2.2.1.2.2.1) (x.2.2.2.1)
noncomputable def tft_Plan_values.S (R : (Option ((Int × Int × Int × Unit) × Int × List Int × Int × Unit)) → (List Int) → Int → Int → Int → Int → Option (List Int)) (k : Nat) : List (Nat × E.Spec (List Int)) := [(30, told _ word_Field_Mul.A word_Field_Mul.Q (word_Field_Mul.g k) word_Field_Mul.h), (67, told _ word_Field_Sub.A word_Field_Sub.Q (word_Field_Sub.g k) word_Field_Sub.h), (76, told _ tft_Plan_values.A tft_Plan_values.Q (tft_Plan_values.rg R) tft_Plan_values.h), (88, told _ word_Field_Add.A word_Field_Add.Q (word_Field_Add.g k) word_Field_Add.h), (89, told _ tft_Plan_first.A tft_Plan_first.Q (tft_Plan_first.g k) tft_Plan_first.h), (90, told _ tft_Plan_second.A tft_Plan_second.Q (tft_Plan_second.g k) tft_Plan_second.h)]
noncomputable def tft_Plan_values.l8 (R : (Option ((Int × Int × Int × Unit) × Int × List Int × Int × Unit)) → (List Int) → Int → Int → Int → Int → Option (List Int)) (k : Nat) (x0_0 : Int) (x0_1 : Int) (x0_2 : Int) (x0_3 : Int) (x0_4 : List Int) (x0_5 : Int) (x1 : List Int) (x3 : Int) (x6_0 : Int) (x6_1 : Int) (x6_2 : Int) (x9 : Int) (x10 : List Int) (x11 : List Int) (x33 : Int) (x34 : Int) : Option (List Int) := tft_Plan_values.D.F (tft_Plan_values.S R) k 17 [.p (.fp 102 [.fp 62 [.lit (.int .u64 x0_0), .lit (.int .u64 x0_1), .lit (.int .u64 x0_2)], .lit (.int .i64 x0_3), .row .u64 x0_4, .lit (.int .u64 x0_5)]), .p (.row .u64 x1), .p (.lit (.int .i64 x3)), .b 116 [.lit (.int .i64 x6_0), .lit (.int .u64 x6_1), .lit (.int .u64 x6_2)], .p (.lit (.int .i64 x9)), .m x10, .m x11, .p (.lit (.int .i64 x33)), .p (.lit (.int .i64 x34))]
noncomputable def tft_Plan_values.v (R : (Option ((Int × Int × Int × Unit) × Int × List Int × Int × Unit)) → (List Int) → Int → Int → Int → Int → Option (List Int)) (k : Nat) (a0 : Option ((Int × Int × Int × Unit) × Int × List Int × Int × Unit)) (a1 : List Int) (a2_0 : Int) (a2_1 : Int) (a2_2 : Int) (a3 : Int) : Option (List Int) := tft_Plan_values.D.val (tft_Plan_values.S R) k (a0, a1, (a2_0, a2_1, a2_2, ()), a3, ())
noncomputable def tft_Plan_values.rc : Nat → (Option ((Int × Int × Int × Unit) × Int × List Int × Int × Unit)) → (List Int) → Int → Int → Int → Int → Option (List Int)
  | 0 => fun _ _ _ _ _ _ => none
  | q + 1 => fun a0 a1 a2_0 a2_1 a2_2 a3 => tft_Plan_values.v (tft_Plan_values.rc q) q a0 a1 a2_0 a2_1 a2_2 a3
theorem tft_Plan_values.rdoes : ∀ q : Nat, Does PG 76 tft_Plan_values.A tft_Plan_values.Q (tft_Plan_values.rg (tft_Plan_values.rc q)) tft_Plan_values.h
  | 0 => fun _ _ h => by cases h
  | q + 1 => by
    have hR := tft_Plan_values.rdoes q
    generalize hr : tft_Plan_values.rc q = R at hR
    have e : tft_Plan_values.rg (tft_Plan_values.rc (q + 1)) = tft_Plan_values.D.val (tft_Plan_values.S R) q := by rw [← hr]; rfl
    rw [e]
    exact Decl.does (D := tft_Plan_values.D) (S := tft_Plan_values.S R) (fn := Go.Proofs.Tryd.f76) ⟨by kernel_rfl, by kernel_rfl, by kernel_rfl, by kernel_rfl, by kernel_rfl, by kernel_rfl, TT.of_ok _ T0ex, by kernel_rfl⟩ (fun k => ⟨told_ok (word_Field_Mul.does k), ⟨told_ok (word_Field_Sub.does k), ⟨told_ok hR, ⟨told_ok (word_Field_Add.does k), ⟨told_ok (tft_Plan_first.does k), ⟨told_ok (tft_Plan_second.does k), trivial⟩⟩⟩⟩⟩⟩) (fun _ _ h => by rw [h rfl]; rfl) q
noncomputable def tft_Plan_values.f0 (k : Nat) (a0 : Option ((Int × Int × Int × Unit) × Int × List Int × Int × Unit)) (a1 : List Int) (a2_0 : Int) (a2_1 : Int) (a2_2 : Int) (a3 : Int) : Option (List Int) := tft_Plan_values.rc k a0 a1 a2_0 a2_1 a2_2 a3
noncomputable def tft_Plan_values.f := (still tft_Plan_values.f0).1
theorem tft_Plan_values.f_def : tft_Plan_values.f = tft_Plan_values.f0 := (still tft_Plan_values.f0).2
noncomputable def tft_Plan_values.g (k : Nat) (x : tft_Plan_values.A.T) : Option (List Int) := tft_Plan_values.f k (x.1) (x.2.1) (x.2.2.1.1) (x.2.2.1.2.1) (x.2.2.1.2.2.1) (x.2.2.2.1)
theorem tft_Plan_values.f_rc (k : Nat) : tft_Plan_values.f k = tft_Plan_values.rc k := by rw [tft_Plan_values.f_def]; rfl
theorem tft_Plan_values.f_succ (k : Nat) (a0 : Option ((Int × Int × Int × Unit) × Int × List Int × Int × Unit)) (a1 : List Int) (a2_0 : Int) (a2_1 : Int) (a2_2 : Int) (a3 : Int) : tft_Plan_values.f (k + 1) a0 a1 a2_0 a2_1 a2_2 a3 = tft_Plan_values.v (tft_Plan_values.f k) k a0 a1 a2_0 a2_1 a2_2 a3 := by rw [tft_Plan_values.f_rc, tft_Plan_values.f_rc]; rfl
theorem tft_Plan_values.does (k : Nat) : Does PG 76 tft_Plan_values.A tft_Plan_values.Q (tft_Plan_values.g k) tft_Plan_values.h := (show tft_Plan_values.g k = tft_Plan_values.rg (tft_Plan_values.rc k) from funext fun _ => by unfold tft_Plan_values.g; rw [tft_Plan_values.f_rc]; rfl) ▸ tft_Plan_values.rdoes k
def tft_Plan_padded.A : AK := .p (.np 102 (.cons (.fp 62 (.cons (.int .u64) (.cons (.int .u64) (.cons (.int .u64) .nil)))) (.cons (.int .i64) (.cons (.row .u64) (.cons (.int .u64) .nil))))) (.p (.row .u64) .nil)
def tft_Plan_padded.Q : RK := .p (.row .u64) .nil
def tft_Plan_padded.h : List Int → tft_Plan_padded.Q.T × List Int := fun b => ((b, ()), [])
noncomputable def tft_Plan_padded.D : Decl (List Int) := ⟨(Go.Proofs.Tryd.f77.body).getD .skip, 29, [.tmp 4], tft_Plan_padded.A, tft_Plan_padded.Q, fun y m => y.1, T0, [], [(3, [(0, .p (some (.fp 102 (.cons (.fp 62 (.cons (.int .u64) (.cons (.int .u64) (.cons (.int .u64) .nil)))) (.cons (.int .i64) (.cons (.row .u64) (.cons (.int .u64) .nil))))))), (5, .m (.num .u64) 29), (11, .p (some (.row .u64))), (12, .p (some (.int .i64))), (13, .p (some (.int .i64)))])], []⟩
noncomputable def tft_Plan_padded.S (k : Nat) : List (Nat × E.Spec (List Int)) := [(33, told _ word_Field_Of.A word_Field_Of.Q (word_Field_Of.g k) word_Field_Of.h), (60, told _ tft_Plan_Most.A tft_Plan_Most.Q (tft_Plan_Most.g k) tft_Plan_Most.h)]
noncomputable def tft_Plan_padded.l3 (k : Nat) (x0_0 : Int) (x0_1 : Int) (x0_2 : Int) (x0_3 : Int) (x0_4 : List Int) (x0_5 : Int) (x5 : List Int) (x11 : List Int) (x12 : Int) (x13 : Int) : Option (List Int) := tft_Plan_padded.D.F tft_Plan_padded.S k 7 [.p (.fp 102 [.fp 62 [.lit (.int .u64 x0_0), .lit (.int .u64 x0_1), .lit (.int .u64 x0_2)], .lit (.int .i64 x0_3), .row .u64 x0_4, .lit (.int .u64 x0_5)]), .m x5, .p (.row .u64 x11), .p (.lit (.int .i64 x12)), .p (.lit (.int .i64 x13))]
noncomputable def tft_Plan_padded.f0 (k : Nat) (a0 : Option ((Int × Int × Int × Unit) × Int × List Int × Int × Unit)) (a1 : List Int) : Option (List Int) := tft_Plan_padded.D.val tft_Plan_padded.S k (a0, a1, ())
noncomputable def tft_Plan_padded.f := (still tft_Plan_padded.f0).1
theorem tft_Plan_padded.f_def : tft_Plan_padded.f = tft_Plan_padded.f0 := (still tft_Plan_padded.f0).2
noncomputable def tft_Plan_padded.g (k : Nat) (x : tft_Plan_padded.A.T) : Option (List Int) := tft_Plan_padded.f k (x.1) (x.2.1)
theorem tft_Plan_padded.does (k : Nat) : Does PG 77 tft_Plan_padded.A tft_Plan_padded.Q (tft_Plan_padded.g k) tft_Plan_padded.h := (show tft_Plan_padded.g k = tft_Plan_padded.D.val tft_Plan_padded.S k from funext fun _ => by unfold tft_Plan_padded.g; rw [tft_Plan_padded.f_def]; rfl) ▸ Decl.does (D := tft_Plan_padded.D) (S := tft_Plan_padded.S) (fn := Go.Proofs.Tryd.f77) ⟨by kernel_rfl, by kernel_rfl, by kernel_rfl, by kernel_rfl, by kernel_rfl, by kernel_rfl, TT.of_ok _ T0ex, by kernel_rfl⟩ (fun k => ⟨told_ok (word_Field_Of.does k), ⟨told_ok (tft_Plan_Most.does k), trivial⟩⟩) (fun _ _ h => by rw [h rfl]; rfl) k
def tft_Plan_Go.A : AK := .p (.np 102 (.cons (.fp 62 (.cons (.int .u64) (.cons (.int .u64) (.cons (.int .u64) .nil)))) (.cons (.int .i64) (.cons (.row .u64) (.cons (.int .u64) .nil))))) (.p (.row .u64) (.p (.int .i64) .nil))
def tft_Plan_Go.Q : RK := .o (.num .u64) 29 (.p (.int .i64) .nil)
def tft_Plan_Go.h : (List Int × Int) → tft_Plan_Go.Q.T × List Int := fun b => (((b.1), b.2, ()), [])
noncomputable def tft_Plan_Go.D : Decl (List Int × Int) := ⟨(Go.Proofs.Tryd.f61.body).getD .skip, 38, [.tmp 6, .tmp 7], tft_Plan_Go.A, tft_Plan_Go.Q, fun y m => (y.1, y.2.1), T0, [], [], []⟩
noncomputable def tft_Plan_Go.S (k : Nat) : List (Nat × E.Spec (List Int × Int)) := [(60, told _ tft_Plan_Most.A tft_Plan_Most.Q (tft_Plan_Most.g k) tft_Plan_Most.h), (76, told _ tft_Plan_values.A tft_Plan_values.Q (tft_Plan_values.g k) tft_Plan_values.h), (77, told _ tft_Plan_padded.A tft_Plan_padded.Q (tft_Plan_padded.g k) tft_Plan_padded.h), (78, told _ tft_Plan_of.A tft_Plan_of.Q (tft_Plan_of.g k) tft_Plan_of.h)]
noncomputable def tft_Plan_Go.f0 (k : Nat) (a0 : Option ((Int × Int × Int × Unit) × Int × List Int × Int × Unit)) (a1 : List Int) (a2 : Int) : Option (List Int × Int) := tft_Plan_Go.D.val tft_Plan_Go.S k (a0, a1, a2, ())
noncomputable def tft_Plan_Go.f := (still tft_Plan_Go.f0).1
theorem tft_Plan_Go.f_def : tft_Plan_Go.f = tft_Plan_Go.f0 := (still tft_Plan_Go.f0).2
noncomputable def tft_Plan_Go.g (k : Nat) (x : tft_Plan_Go.A.T) : Option (List Int × Int) := tft_Plan_Go.f k (x.1) (x.2.1) (x.2.2.1)
theorem tft_Plan_Go.does (k : Nat) : Does PG 61 tft_Plan_Go.A tft_Plan_Go.Q (tft_Plan_Go.g k) tft_Plan_Go.h := (show tft_Plan_Go.g k = tft_Plan_Go.D.val tft_Plan_Go.S k from funext fun _ => by unfold tft_Plan_Go.g; rw [tft_Plan_Go.f_def]; rfl) ▸ Decl.does (D := tft_Plan_Go.D) (S := tft_Plan_Go.S) (fn := Go.Proofs.Tryd.f61) ⟨by kernel_rfl, by kernel_rfl, by kernel_rfl, by kernel_rfl, by kernel_rfl, by kernel_rfl, TT.of_ok _ T0ex, by kernel_rfl⟩ (fun k => ⟨told_ok (tft_Plan_Most.does k), ⟨told_ok (tft_Plan_values.does k), ⟨told_ok (tft_Plan_padded.does k), ⟨told_ok (tft_Plan_of.does k), trivial⟩⟩⟩⟩) (fun _ _ h => by rw [h rfl]; rfl) k
def tft_Plan_whole.A : AK := .p (.np 102 (.cons (.fp 62 (.cons (.int .u64) (.cons (.int .u64) (.cons (.int .u64) .nil)))) (.cons (.int .i64) (.cons (.row .u64) (.cons (.int .u64) .nil))))) (.p (.row .u64) (.p (.row .u64) (.p (.agg (.cons (.int .i64) (.cons (.int .u64) (.cons (.int .u64) .nil)))) .nil)))
def tft_Plan_whole.Q : RK := .p (.row .u64) .nil
def tft_Plan_whole.h : List Int → tft_Plan_whole.Q.T × List Int := fun b => ((b, ()), [])
noncomputable def tft_Plan_whole.D : Decl (List Int) := ⟨(Go.Proofs.Tryd.f79.body).getD .skip, 181, [.tmp 8], tft_Plan_whole.A, tft_Plan_whole.Q, fun y m => y.1, T0, [], [(21, [(0, .p (some (.fp 102 (.cons (.fp 62 (.cons (.int .u64) (.cons (.int .u64) (.cons (.int .u64) .nil)))) (.cons (.int .i64) (.cons (.row .u64) (.cons (.int .u64) .nil))))))), (10, .p (some (.int .i64))), (11, .p (some (.row .u64))), (16, .p (some (.row .u64))), (17, .p (some (.int .u64))), (19, .m (.num .u64) 29), (117, .p (some (.int .i64))), (118, .p (some (.int .i64)))]), (13, [(0, .p (some (.fp 102 (.cons (.fp 62 (.cons (.int .u64) (.cons (.int .u64) (.cons (.int .u64) .nil)))) (.cons (.int .i64) (.cons (.row .u64) (.cons (.int .u64) .nil))))))), (1, .p (some (.row .u64))), (7, .b (some (.cons (.int .i64) (.cons (.int .u64) (.cons (.int .u64) .nil))))), (9, .p (some (.int .i64))), (10, .p (some (.int .i64))), (11, .p (some (.row .u64))), (12, .m (.num .u64) 29), (13, .p (some (.int .u64))), (64, .p (some (.row .u64))), (65, .p (some (.int .i64))), (66, .p (some (.int .i64)))])], [(17, [12])]⟩
def tft_Plan_whole.rg (R : (Option ((Int × Int × Int × Unit) × Int × List Int × Int × Unit)) → (List Int) → (List Int) → Int → Int → Int → Option (List Int)) (x : tft_Plan_whole.A.T) : Option (List Int) := R (x.1) (x.2.1) (x.2.2.1) (x.2.2.2.1.1) (x.2.2.2.1.2.1) (x.2.2.2.1.2.2.1)
def tft_Plan_low.A : AK := .p (.np 102 (.cons (.fp 62 (.cons (.int .u64) (.cons (.int .u64) (.cons (.int .u64) .nil)))) (.cons (.int .i64) (.cons (.row .u64) (.cons (.int .u64) .nil))))) (.p (.row .u64) (.p (.row .u64) (.p (.agg (.cons (.int .i64) (.cons (.int .u64) (.cons (.int .u64) .nil)))) (.p (.int .i64) .nil))))
def tft_Plan_low.Q : RK := .o (.num .u64) 29 .nil
def tft_Plan_low.h : List Int → tft_Plan_low.Q.T × List Int := fun b => (((b), ()), [])
noncomputable def tft_Plan_low.D : Decl (List Int) := ⟨(Go.Proofs.Tryd.f91.body).getD .skip, 104, [.tmp 10], tft_Plan_low.A, tft_Plan_low.Q, fun y m => y.1, T0, [], [(11, [(0, .p (some (.fp 102 (.cons (.fp 62 (.cons (.int .u64) (.cons (.int .u64) (.cons (.int .u64) .nil)))) (.cons (.int .i64) (.cons (.row .u64) (.cons (.int .u64) .nil))))))), (4, .p (some (.int .i64))), (8, .b (some (.cons (.int .i64) (.cons (.int .u64) (.cons (.int .u64) .nil))))), (12, .p (some (.row .u64))), (15, .p (some (.row .u64))), (16, .m (.num .u64) 29), (66, .p (some (.int .i64))), (67, .p (some (.int .i64)))]), (5, [(0, .p (some (.fp 102 (.cons (.fp 62 (.cons (.int .u64) (.cons (.int .u64) (.cons (.int .u64) .nil)))) (.cons (.int .i64) (.cons (.row .u64) (.cons (.int .u64) .nil))))))), (1, .p (some (.row .u64))), (2, .p (some (.row .u64))), (4, .p (some (.int .i64))), (8, .b (some (.cons (.int .i64) (.cons (.int .u64) (.cons (.int .u64) .nil))))), (11, .p (some (.int .i64))), (12, .p (some (.row .u64))), (13, .m (.num .u64) 29), (14, .p (some (.int .i64)))])], [(8, [13])]⟩
noncomputable def tft_Plan_low.S (R : (Option ((Int × Int × Int × Unit) × Int × List Int × Int × Unit)) → (List Int) → (List Int) → Int → Int → Int → Option (List Int)) (k : Nat) : List (Nat × E.Spec (List Int)) := [(30, told _ word_Field_Mul.A word_Field_Mul.Q (word_Field_Mul.g k) word_Field_Mul.h), (67, told _ word_Field_Sub.A word_Field_Sub.Q (word_Field_Sub.g k) word_Field_Sub.h), (79, told _ tft_Plan_whole.A tft_Plan_whole.Q (tft_Plan_whole.rg R) tft_Plan_whole.h), (88, told _ word_Field_Add.A word_Field_Add.Q (word_Field_Add.g k) word_Field_Add.h), (89, told _ tft_Plan_first.A tft_Plan_first.Q (tft_Plan_first.g k) tft_Plan_first.h)]
noncomputable def tft_Plan_low.l11 (R : (Option ((Int × Int × Int × Unit) × Int × List Int × Int × Unit)) → (List Int) → (List Int) → Int → Int → Int → Option (List Int)) (k : Nat) (x0_0 : Int) (x0_1 : Int) (x0_2 : Int) (x0_3 : Int) (x0_4 : List Int) (x0_5 : Int) (x4 : Int) (x8_0 : Int) (x8_1 : Int) (x8_2 : Int) (x12 : List Int) (x15 : List Int) (x16 : List Int) (x66 : Int) (x67 : Int) : Option (List Int) := tft_Plan_low.D.F (tft_Plan_low.S R) k 23 [.p (.fp 102 [.fp 62 [.lit (.int .u64 x0_0), .lit (.int .u64 x0_1), .lit (.int .u64 x0_2)], .lit (.int .i64 x0_3), .row .u64 x0_4, .lit (.int .u64 x0_5)]), .p (.lit (.int .i64 x4)), .b 116 [.lit (.int .i64 x8_0), .lit (.int .u64 x8_1), .lit (.int .u64 x8_2)], .p (.row .u64 x12), .p (.row .u64 x15), .m x16, .p (.lit (.int .i64 x66)), .p (.lit (.int .i64 x67))]
noncomputable def tft_Plan_low.l5 (R : (Option ((Int × Int × Int × Unit) × Int × List Int × Int × Unit)) → (List Int) → (List Int) → Int → Int → Int → Option (List Int)) (k : Nat) (x0_0 : Int) (x0_1 : Int) (x0_2 : Int) (x0_3 : Int) (x0_4 : List Int) (x0_5 : Int) (x1 : List Int) (x2 : List Int) (x4 : Int) (x8_0 : Int) (x8_1 : Int) (x8_2 : Int) (x11 : Int) (x12 : List Int) (x13 : List Int) (x14 : Int) : Option (List Int) := tft_Plan_low.D.F (tft_Plan_low.S R) k 11 [.p (.fp 102 [.fp 62 [.lit (.int .u64 x0_0), .lit (.int .u64 x0_1), .lit (.int .u64 x0_2)], .lit (.int .i64 x0_3), .row .u64 x0_4, .lit (.int .u64 x0_5)]), .p (.row .u64 x1), .p (.row .u64 x2), .p (.lit (.int .i64 x4)), .b 116 [.lit (.int .i64 x8_0), .lit (.int .u64 x8_1), .lit (.int .u64 x8_2)], .p (.lit (.int .i64 x11)), .p (.row .u64 x12), .m x13, .p (.lit (.int .i64 x14))]
noncomputable def tft_Plan_low.f0 (R : (Option ((Int × Int × Int × Unit) × Int × List Int × Int × Unit)) → (List Int) → (List Int) → Int → Int → Int → Option (List Int)) (k : Nat) (a0 : Option ((Int × Int × Int × Unit) × Int × List Int × Int × Unit)) (a1 : List Int) (a2 : List Int) (a3_0 : Int) (a3_1 : Int) (a3_2 : Int) (a4 : Int) : Option (List Int) := tft_Plan_low.D.val (tft_Plan_low.S R) k (a0, a1, a2, (a3_0, a3_1, a3_2, ()), a4, ())
noncomputable def tft_Plan_low.f := (still tft_Plan_low.f0).1
theorem tft_Plan_low.f_def : tft_Plan_low.f = tft_Plan_low.f0 := (still tft_Plan_low.f0).2
noncomputable def tft_Plan_low.g (R : (Option ((Int × Int × Int × Unit) × Int × List Int × Int × Unit)) → (List Int) → (List Int) → Int → Int → Int → Option (List Int)) (k : Nat) (x : tft_Plan_low.A.T) : Option (List Int) := tft_Plan_low.f R k (x.1) (x.2.1) (x.2.2.1) (x.2.2.2.1.1) (x.2.2.2.1.2.1) (x.2.2.2.1.2.2.1) (x.2.2.2.2.1)
theorem tft_Plan_low.does (R : (Option ((Int × Int × Int × Unit) × Int × List Int × Int × Unit)) → (List Int) → (List Int) → Int → Int → Int → Option (List Int)) (hR : Does PG 79 tft_Plan_whole.A tft_Plan_whole.Q (tft_Plan_whole.rg R) tft_Plan_whole.h) (k : Nat) : Does PG 91 tft_Plan_low.A tft_Plan_low.Q (tft_Plan_low.g R k) tft_Plan_low.h := (show tft_Plan_low.g R k = tft_Plan_low.D.val (tft_Plan_low.S R) k from funext fun _ => by unfold tft_Plan_low.g; rw [tft_Plan_low.f_def]; rfl) ▸ Decl.does (D := tft_Plan_low.D) (S := (tft_Plan_low.S R)) (fn := Go.Proofs.Tryd.f91) ⟨by kernel_rfl, by kernel_rfl, by kernel_rfl, by kernel_rfl, by kernel_rfl, by kernel_rfl, TT.of_ok _ T0ex, by kernel_rfl⟩ (fun k => ⟨told_ok (word_Field_Mul.does k), ⟨told_ok (word_Field_Sub.does k), ⟨told_ok hR, ⟨told_ok (word_Field_Add.does k), ⟨told_ok (tft_Plan_first.does k), trivial⟩⟩⟩⟩⟩) (fun _ _ h => by rw [h rfl]; rfl) k
noncomputable def tft_Plan_whole.S (R : (Option ((Int × Int × Int × Unit) × Int × List Int × Int × Unit)) → (List Int) → (List Int) → Int → Int → Int → Option (List Int)) (k : Nat) : List (Nat × E.Spec (List Int)) := [(30, told _ word_Field_Mul.A word_Field_Mul.Q (word_Field_Mul.g k) word_Field_Mul.h), (66, told _ word_Field_Inv.A word_Field_Inv.Q (word_Field_Inv.g k) word_Field_Inv.h), (67, told _ word_Field_Sub.A word_Field_Sub.Q (word_Field_Sub.g k) word_Field_Sub.h), (79, told _ tft_Plan_whole.A tft_Plan_whole.Q (tft_Plan_whole.rg R) tft_Plan_whole.h), (88, told _ word_Field_Add.A word_Field_Add.Q (word_Field_Add.g k) word_Field_Add.h), (89, told _ tft_Plan_first.A tft_Plan_first.Q (tft_Plan_first.g k) tft_Plan_first.h), (90, told _ tft_Plan_second.A tft_Plan_second.Q (tft_Plan_second.g k) tft_Plan_second.h), (91, told _ tft_Plan_low.A tft_Plan_low.Q (tft_Plan_low.g R k) tft_Plan_low.h)]
noncomputable def tft_Plan_whole.l21 (R : (Option ((Int × Int × Int × Unit) × Int × List Int × Int × Unit)) → (List Int) → (List Int) → Int → Int → Int → Option (List Int)) (k : Nat) (x0_0 : Int) (x0_1 : Int) (x0_2 : Int) (x0_3 : Int) (x0_4 : List Int) (x0_5 : Int) (x10 : Int) (x11 : List Int) (x16 : List Int) (x17 : Int) (x19 : List Int) (x117 : Int) (x118 : Int) : Option (List Int) := tft_Plan_whole.D.F (tft_Plan_whole.S R) k 43 [.p (.fp 102 [.fp 62 [.lit (.int .u64 x0_0), .lit (.int .u64 x0_1), .lit (.int .u64 x0_2)], .lit (.int .i64 x0_3), .row .u64 x0_4, .lit (.int .u64 x0_5)]), .p (.lit (.int .i64 x10)), .p (.row .u64 x11), .p (.row .u64 x16), .p (.lit (.int .u64 x17)), .m x19, .p (.lit (.int .i64 x117)), .p (.lit (.int .i64 x118))]
noncomputable def tft_Plan_whole.l13 (R : (Option ((Int × Int × Int × Unit) × Int × List Int × Int × Unit)) → (List Int) → (List Int) → Int → Int → Int → Option (List Int)) (k : Nat) (x0_0 : Int) (x0_1 : Int) (x0_2 : Int) (x0_3 : Int) (x0_4 : List Int) (x0_5 : Int) (x1 : List Int) (x7_0 : Int) (x7_1 : Int) (x7_2 : Int) (x9 : Int) (x10 : Int) (x11 : List Int) (x12 : List Int) (x13 : Int) (x64 : List Int) (x65 : Int) (x66 : Int) : Option (List Int) := tft_Plan_whole.D.F (tft_Plan_whole.S R) k 27 [.p (.fp 102 [.fp 62 [.lit (.int .u64 x0_0), .lit (.int .u64 x0_1), .lit (.int .u64 x0_2)], .lit (.int .i64 x0_3), .row .u64 x0_4, .lit (.int .u64 x0_5)]), .p (.row .u64 x1), .b 116 [.lit (.int .i64 x7_0), .lit (.int .u64 x7_1), .lit (.int .u64 x7_2)], .p (.lit (.int .i64 x9)), .p (.lit (.int .i64 x10)), .p (.row .u64 x11), .m x12, .p (.lit (.int .u64 x13)), .p (.row .u64 x64), .p (.lit (.int .i64 x65)), .p (.lit (.int .i64 x66))]
noncomputable def tft_Plan_whole.v (R : (Option ((Int × Int × Int × Unit) × Int × List Int × Int × Unit)) → (List Int) → (List Int) → Int → Int → Int → Option (List Int)) (k : Nat) (a0 : Option ((Int × Int × Int × Unit) × Int × List Int × Int × Unit)) (a1 : List Int) (a2 : List Int) (a3_0 : Int) (a3_1 : Int) (a3_2 : Int) : Option (List Int) := tft_Plan_whole.D.val (tft_Plan_whole.S R) k (a0, a1, a2, (a3_0, a3_1, a3_2, ()), ())
noncomputable def tft_Plan_whole.rc : Nat → (Option ((Int × Int × Int × Unit) × Int × List Int × Int × Unit)) → (List Int) → (List Int) → Int → Int → Int → Option (List Int)
  | 0 => fun _ _ _ _ _ _ => none
  | q + 1 => fun a0 a1 a2 a3_0 a3_1 a3_2 => tft_Plan_whole.v (tft_Plan_whole.rc q) q a0 a1 a2 a3_0 a3_1 a3_2
theorem tft_Plan_whole.rdoes : ∀ q : Nat, Does PG 79 tft_Plan_whole.A tft_Plan_whole.Q (tft_Plan_whole.rg (tft_Plan_whole.rc q)) tft_Plan_whole.h
  | 0 => fun _ _ h => by cases h
  | q + 1 => by
    have hR := tft_Plan_whole.rdoes q
    generalize hr : tft_Plan_whole.rc q = R at hR
    have e : tft_Plan_whole.rg (tft_Plan_whole.rc (q + 1)) = tft_Plan_whole.D.val (tft_Plan_whole.S R) q := by rw [← hr]; rfl
    rw [e]
    exact Decl.does (D := tft_Plan_whole.D) (S := tft_Plan_whole.S R) (fn := Go.Proofs.Tryd.f79) ⟨by kernel_rfl, by kernel_rfl, by kernel_rfl, by kernel_rfl, by kernel_rfl, by kernel_rfl, TT.of_ok _ T0ex, by kernel_rfl⟩ (fun k => ⟨told_ok (word_Field_Mul.does k), ⟨told_ok (word_Field_Inv.does k), ⟨told_ok (word_Field_Sub.does k), ⟨told_ok hR, ⟨told_ok (word_Field_Add.does k), ⟨told_ok (tft_Plan_first.does k), ⟨told_ok (tft_Plan_second.does k), ⟨told_ok (tft_Plan_low.does R hR k), trivial⟩⟩⟩⟩⟩⟩⟩⟩) (fun _ _ h => by rw [h rfl]; rfl) q
noncomputable def tft_Plan_whole.f0 (k : Nat) (a0 : Option ((Int × Int × Int × Unit) × Int × List Int × Int × Unit)) (a1 : List Int) (a2 : List Int) (a3_0 : Int) (a3_1 : Int) (a3_2 : Int) : Option (List Int) := tft_Plan_whole.rc k a0 a1 a2 a3_0 a3_1 a3_2
noncomputable def tft_Plan_whole.f := (still tft_Plan_whole.f0).1
theorem tft_Plan_whole.f_def : tft_Plan_whole.f = tft_Plan_whole.f0 := (still tft_Plan_whole.f0).2
noncomputable def tft_Plan_whole.g (k : Nat) (x : tft_Plan_whole.A.T) : Option (List Int) := tft_Plan_whole.f k (x.1) (x.2.1) (x.2.2.1) (x.2.2.2.1.1) (x.2.2.2.1.2.1) (x.2.2.2.1.2.2.1)
theorem tft_Plan_whole.f_rc (k : Nat) : tft_Plan_whole.f k = tft_Plan_whole.rc k := by rw [tft_Plan_whole.f_def]; rfl
theorem tft_Plan_whole.f_succ (k : Nat) (a0 : Option ((Int × Int × Int × Unit) × Int × List Int × Int × Unit)) (a1 : List Int) (a2 : List Int) (a3_0 : Int) (a3_1 : Int) (a3_2 : Int) : tft_Plan_whole.f (k + 1) a0 a1 a2 a3_0 a3_1 a3_2 = tft_Plan_whole.v (tft_Plan_whole.f k) k a0 a1 a2 a3_0 a3_1 a3_2 := by rw [tft_Plan_whole.f_rc, tft_Plan_whole.f_rc]; rfl
theorem tft_Plan_whole.does (k : Nat) : Does PG 79 tft_Plan_whole.A tft_Plan_whole.Q (tft_Plan_whole.g k) tft_Plan_whole.h := (show tft_Plan_whole.g k = tft_Plan_whole.rg (tft_Plan_whole.rc k) from funext fun _ => by unfold tft_Plan_whole.g; rw [tft_Plan_whole.f_rc]; rfl) ▸ tft_Plan_whole.rdoes k
def tft_Plan_Back.A : AK := .p (.np 102 (.cons (.fp 62 (.cons (.int .u64) (.cons (.int .u64) (.cons (.int .u64) .nil)))) (.cons (.int .i64) (.cons (.row .u64) (.cons (.int .u64) .nil))))) (.p (.row .u64) .nil)
def tft_Plan_Back.Q : RK := .p (.row .u64) (.p (.int .i64) .nil)
def tft_Plan_Back.h : (List Int × Int) → tft_Plan_Back.Q.T × List Int := fun b => ((b.1, b.2, ()), [])
noncomputable def tft_Plan_Back.D : Decl (List Int × Int) := ⟨(Go.Proofs.Tryd.f62.body).getD .skip, 42, [.tmp 4, .tmp 5], tft_Plan_Back.A, tft_Plan_Back.Q, fun y m => (y.1, y.2.1), T0, [], [], []⟩
noncomputable def tft_Plan_Back.S (k : Nat) : List (Nat × E.Spec (List Int × Int)) := [(60, told _ tft_Plan_Most.A tft_Plan_Most.Q (tft_Plan_Most.g k) tft_Plan_Most.h), (77, told _ tft_Plan_padded.A tft_Plan_padded.Q (tft_Plan_padded.g k) tft_Plan_padded.h), (78, told _ tft_Plan_of.A tft_Plan_of.Q (tft_Plan_of.g k) tft_Plan_of.h), (79, told _ tft_Plan_whole.A tft_Plan_whole.Q (tft_Plan_whole.g k) tft_Plan_whole.h)]
noncomputable def tft_Plan_Back.f0 (k : Nat) (a0 : Option ((Int × Int × Int × Unit) × Int × List Int × Int × Unit)) (a1 : List Int) : Option (List Int × Int) := tft_Plan_Back.D.val tft_Plan_Back.S k (a0, a1, ())
noncomputable def tft_Plan_Back.f := (still tft_Plan_Back.f0).1
theorem tft_Plan_Back.f_def : tft_Plan_Back.f = tft_Plan_Back.f0 := (still tft_Plan_Back.f0).2
noncomputable def tft_Plan_Back.g (k : Nat) (x : tft_Plan_Back.A.T) : Option (List Int × Int) := tft_Plan_Back.f k (x.1) (x.2.1)
theorem tft_Plan_Back.does (k : Nat) : Does PG 62 tft_Plan_Back.A tft_Plan_Back.Q (tft_Plan_Back.g k) tft_Plan_Back.h := (show tft_Plan_Back.g k = tft_Plan_Back.D.val tft_Plan_Back.S k from funext fun _ => by unfold tft_Plan_Back.g; rw [tft_Plan_Back.f_def]; rfl) ▸ Decl.does (D := tft_Plan_Back.D) (S := tft_Plan_Back.S) (fn := Go.Proofs.Tryd.f62) ⟨by kernel_rfl, by kernel_rfl, by kernel_rfl, by kernel_rfl, by kernel_rfl, by kernel_rfl, TT.of_ok _ T0ex, by kernel_rfl⟩ (fun k => ⟨told_ok (tft_Plan_Most.does k), ⟨told_ok (tft_Plan_padded.does k), ⟨told_ok (tft_Plan_of.does k), ⟨told_ok (tft_Plan_whole.does k), trivial⟩⟩⟩⟩) (fun _ _ h => by rw [h rfl]; rfl) k
def tft_Plan_Mul.A : AK := .p (.np 102 (.cons (.fp 62 (.cons (.int .u64) (.cons (.int .u64) (.cons (.int .u64) .nil)))) (.cons (.int .i64) (.cons (.row .u64) (.cons (.int .u64) .nil))))) (.p (.row .u64) (.p (.row .u64) .nil))
def tft_Plan_Mul.Q : RK := .p (.row .u64) (.p (.int .i64) .nil)
def tft_Plan_Mul.h : (List Int × Int) → tft_Plan_Mul.Q.T × List Int := fun b => ((b.1, b.2, ()), [])
noncomputable def tft_Plan_Mul.D : Decl (List Int × Int) := ⟨(Go.Proofs.Tryd.f46.body).getD .skip, 82, [.tmp 6, .tmp 7], tft_Plan_Mul.A, tft_Plan_Mul.Q, fun y m => (y.1, y.2.1), T0, [], [(15, [(0, .p (some (.fp 102 (.cons (.fp 62 (.cons (.int .u64) (.cons (.int .u64) (.cons (.int .u64) .nil)))) (.cons (.int .i64) (.cons (.row .u64) (.cons (.int .u64) .nil))))))), (9, .m (.num .u64) 29), (11, .p (some (.row .u64))), (56, .p (some (.int .i64))), (57, .p (some (.int .i64)))])], [(19, [9])]⟩
noncomputable def tft_Plan_Mul.S (k : Nat) : List (Nat × E.Spec (List Int × Int)) := [(30, told _ word_Field_Mul.A word_Field_Mul.Q (word_Field_Mul.g k) word_Field_Mul.h), (60, told _ tft_Plan_Most.A tft_Plan_Most.Q (tft_Plan_Most.g k) tft_Plan_Most.h), (61, told _ tft_Plan_Go.A tft_Plan_Go.Q (tft_Plan_Go.g k) tft_Plan_Go.h), (62, told _ tft_Plan_Back.A tft_Plan_Back.Q (tft_Plan_Back.g k) tft_Plan_Back.h)]
noncomputable def tft_Plan_Mul.l15 (k : Nat) (x0_0 : Int) (x0_1 : Int) (x0_2 : Int) (x0_3 : Int) (x0_4 : List Int) (x0_5 : Int) (x9 : List Int) (x11 : List Int) (x56 : Int) (x57 : Int) : Option (List Int × Int) := tft_Plan_Mul.D.F tft_Plan_Mul.S k 31 [.p (.fp 102 [.fp 62 [.lit (.int .u64 x0_0), .lit (.int .u64 x0_1), .lit (.int .u64 x0_2)], .lit (.int .i64 x0_3), .row .u64 x0_4, .lit (.int .u64 x0_5)]), .m x9, .p (.row .u64 x11), .p (.lit (.int .i64 x56)), .p (.lit (.int .i64 x57))]
noncomputable def tft_Plan_Mul.f0 (k : Nat) (a0 : Option ((Int × Int × Int × Unit) × Int × List Int × Int × Unit)) (a1 : List Int) (a2 : List Int) : Option (List Int × Int) := tft_Plan_Mul.D.val tft_Plan_Mul.S k (a0, a1, a2, ())
noncomputable def tft_Plan_Mul.f := (still tft_Plan_Mul.f0).1
theorem tft_Plan_Mul.f_def : tft_Plan_Mul.f = tft_Plan_Mul.f0 := (still tft_Plan_Mul.f0).2
noncomputable def tft_Plan_Mul.g (k : Nat) (x : tft_Plan_Mul.A.T) : Option (List Int × Int) := tft_Plan_Mul.f k (x.1) (x.2.1) (x.2.2.1)
theorem tft_Plan_Mul.does (k : Nat) : Does PG 46 tft_Plan_Mul.A tft_Plan_Mul.Q (tft_Plan_Mul.g k) tft_Plan_Mul.h := (show tft_Plan_Mul.g k = tft_Plan_Mul.D.val tft_Plan_Mul.S k from funext fun _ => by unfold tft_Plan_Mul.g; rw [tft_Plan_Mul.f_def]; rfl) ▸ Decl.does (D := tft_Plan_Mul.D) (S := tft_Plan_Mul.S) (fn := Go.Proofs.Tryd.f46) ⟨by kernel_rfl, by kernel_rfl, by kernel_rfl, by kernel_rfl, by kernel_rfl, by kernel_rfl, TT.of_ok _ T0ex, by kernel_rfl⟩ (fun k => ⟨told_ok (word_Field_Mul.does k), ⟨told_ok (tft_Plan_Most.does k), ⟨told_ok (tft_Plan_Go.does k), ⟨told_ok (tft_Plan_Back.does k), trivial⟩⟩⟩⟩) (fun _ _ h => by rw [h rfl]; rfl) k
def conv_parts.A : AK := .p (.row .u64) (.p (.row .u64) .nil)
def conv_parts.Q : RK := .p (.agg (.cons (.row .u64) (.cons (.row .u64) (.cons (.row .u64) .nil)))) (.o (.num .u64) 29 (.p (.int .i64) .nil))
def conv_parts.h : (List Int × List Int × List Int × List Int × Int) → conv_parts.Q.T × List Int := fun b => (((b.1, b.2.1, b.2.2.1, ()), (b.2.2.2.1), b.2.2.2.2, ()), [])
noncomputable def conv_parts.D : Decl (List Int × List Int × List Int × List Int × Int) := ⟨(Go.Proofs.Tryd.f31.body).getD .skip, 45, [.cell 4 64, .tmp 5, .tmp 6], conv_parts.A, conv_parts.Q, fun y m => (y.1.1, y.1.2.1, y.1.2.2.1, y.2.1, y.2.2.1), T0, [], [(4, [(0, .p (some (.row .u64))), (1, .p (some (.row .u64))), (4, .b (some (.cons (.any) (.cons (.any) (.cons (.any) .nil))))), (7, .b (some (.cons (.row .u64) (.cons (.row .u64) (.cons (.row .u64) .nil))))), (8, .b (some (.cons (.np 102 (.cons (.fp 62 (.cons (.int .u64) (.cons (.int .u64) (.cons (.int .u64) .nil)))) (.cons (.int .i64) (.cons (.row .u64) (.cons (.int .u64) .nil))))) (.cons (.np 102 (.cons (.fp 62 (.cons (.int .u64) (.cons (.int .u64) (.cons (.int .u64) .nil)))) (.cons (.int .i64) (.cons (.row .u64) (.cons (.int .u64) .nil))))) (.cons (.np 102 (.cons (.fp 62 (.cons (.int .u64) (.cons (.int .u64) (.cons (.int .u64) .nil)))) (.cons (.int .i64) (.cons (.row .u64) (.cons (.int .u64) .nil))))) .nil))))), (9, .m (.num .u64) 29), (10, .p (some (.int .i64))), (11, .p (some (.int .i64)))])], []⟩
noncomputable def conv_parts.S (k : Nat) : List (Nat × E.Spec (List Int × List Int × List Int × List Int × Int)) := [(45, told _ conv_plans.A conv_plans.Q (conv_plans.g k) conv_plans.h), (46, told _ tft_Plan_Mul.A tft_Plan_Mul.Q (tft_Plan_Mul.g k) tft_Plan_Mul.h)]
noncomputable def conv_parts.l4 (k : Nat) (x0 : List Int) (x1 : List Int) (x7_0 : List Int) (x7_1 : List Int) (x7_2 : List Int) (x8_0 : Option ((Int × Int × Int × Unit) × Int × List Int × Int × Unit)) (x8_1 : Option ((Int × Int × Int × Unit) × Int × List Int × Int × Unit)) (x8_2 : Option ((Int × Int × Int × Unit) × Int × List Int × Int × Unit)) (x9 : List Int) (x10 : Int) (x11 : Int) : Option (List Int × List Int × List Int × List Int × Int) := conv_parts.D.F conv_parts.S k 9 [.p (.row .u64 x0), .p (.row .u64 x1), .b 64 [.any, .any, .any], .b 64 [.row .u64 x7_0, .row .u64 x7_1, .row .u64 x7_2], .b 85 [SK.put (.np 102 (.cons (.fp 62 (.cons (.int .u64) (.cons (.int .u64) (.cons (.int .u64) .nil)))) (.cons (.int .i64) (.cons (.row .u64) (.cons (.int .u64) .nil))))) x8_0, SK.put (.np 102 (.cons (.fp 62 (.cons (.int .u64) (.cons (.int .u64) (.cons (.int .u64) .nil)))) (.cons (.int .i64) (.cons (.row .u64) (.cons (.int .u64) .nil))))) x8_1, SK.put (.np 102 (.cons (.fp 62 (.cons (.int .u64) (.cons (.int .u64) (.cons (.int .u64) .nil)))) (.cons (.int .i64) (.cons (.row .u64) (.cons (.int .u64) .nil))))) x8_2], .m x9, .p (.lit (.int .i64 x10)), .p (.lit (.int .i64 x11))]
noncomputable def conv_parts.f0 (k : Nat) (a0 : List Int) (a1 : List Int) : Option (List Int × List Int × List Int × List Int × Int) := conv_parts.D.val conv_parts.S k (a0, a1, ())
noncomputable def conv_parts.f := (still conv_parts.f0).1
theorem conv_parts.f_def : conv_parts.f = conv_parts.f0 := (still conv_parts.f0).2
noncomputable def conv_parts.g (k : Nat) (x : conv_parts.A.T) : Option (List Int × List Int × List Int × List Int × Int) := conv_parts.f k (x.1) (x.2.1)
theorem conv_parts.does (k : Nat) : Does PG 31 conv_parts.A conv_parts.Q (conv_parts.g k) conv_parts.h := (show conv_parts.g k = conv_parts.D.val conv_parts.S k from funext fun _ => by unfold conv_parts.g; rw [conv_parts.f_def]; rfl) ▸ Decl.does (D := conv_parts.D) (S := conv_parts.S) (fn := Go.Proofs.Tryd.f31) ⟨by kernel_rfl, by kernel_rfl, by kernel_rfl, by kernel_rfl, by kernel_rfl, by kernel_rfl, TT.of_ok _ T0ex, by kernel_rfl⟩ (fun k => ⟨told_ok (conv_plans.does k), ⟨told_ok (tft_Plan_Mul.does k), trivial⟩⟩) (fun _ _ h => by rw [h rfl]; rfl) k
def crt_may.A : AK := .p (.int .u64) .nil
def crt_may.Q : RK := .p (.bool) .nil
def crt_may.h : Bool → crt_may.Q.T × List Int := fun b => ((b, ()), [])
noncomputable def crt_may.D : Decl Bool := ⟨(Go.Proofs.Tryd.f63.body).getD .skip, 9, [.tmp 2], crt_may.A, crt_may.Q, fun y m => y.1, T0, [], [], []⟩
noncomputable def crt_may.S (k : Nat) : List (Nat × E.Spec Bool) := []
noncomputable def crt_may.f0 (k : Nat) (a0 : Int) : Option Bool := crt_may.D.val crt_may.S k (a0, ())
noncomputable def crt_may.f := (still crt_may.f0).1
theorem crt_may.f_def : crt_may.f = crt_may.f0 := (still crt_may.f0).2
noncomputable def crt_may.g (k : Nat) (x : crt_may.A.T) : Option Bool := crt_may.f k (x.1)
theorem crt_may.does (k : Nat) : Does PG 63 crt_may.A crt_may.Q (crt_may.g k) crt_may.h := (show crt_may.g k = crt_may.D.val crt_may.S k from funext fun _ => by unfold crt_may.g; rw [crt_may.f_def]; rfl) ▸ Decl.does (D := crt_may.D) (S := crt_may.S) (fn := Go.Proofs.Tryd.f63) ⟨by kernel_rfl, by kernel_rfl, by kernel_rfl, by kernel_rfl, by kernel_rfl, by kernel_rfl, TT.of_ok _ T0ex, by kernel_rfl⟩ (fun k => trivial) (fun _ _ h => by rw [h rfl]; rfl) k
def crt_wrong.A : AK := .p (.row .u64) (.p (.row .u64) .nil)
def crt_wrong.Q : RK := .p (.int .i64) .nil
def crt_wrong.h : Int → crt_wrong.Q.T × List Int := fun b => ((b, ()), [])
noncomputable def crt_wrong.D : Decl Int := ⟨(Go.Proofs.Tryd.f47.body).getD .skip, 25, [.tmp 4], crt_wrong.A, crt_wrong.Q, fun y m => y.1, T0, [], [(4, [(1, .p (some (.row .u64))), (12, .p (some (.row .u64))), (13, .p (some (.int .i64))), (14, .p (some (.int .i64)))])], []⟩
noncomputable def crt_wrong.S (k : Nat) : List (Nat × E.Spec Int) := [(63, told _ crt_may.A crt_may.Q (crt_may.g k) crt_may.h)]
noncomputable def crt_wrong.l4 (k : Nat) (x1 : List Int) (x12 : List Int) (x13 : Int) (x14 : Int) : Option Int := crt_wrong.D.F crt_wrong.S k 9 [.p (.row .u64 x1), .p (.row .u64 x12), .p (.lit (.int .i64 x13)), .p (.lit (.int .i64 x14))]
noncomputable def crt_wrong.f0 (k : Nat) (a0 : List Int) (a1 : List Int) : Option Int := crt_wrong.D.val crt_wrong.S k (a0, a1, ())
noncomputable def crt_wrong.f := (still crt_wrong.f0).1
theorem crt_wrong.f_def : crt_wrong.f = crt_wrong.f0 := (still crt_wrong.f0).2
noncomputable def crt_wrong.g (k : Nat) (x : crt_wrong.A.T) : Option Int := crt_wrong.f k (x.1) (x.2.1)
theorem crt_wrong.does (k : Nat) : Does PG 47 crt_wrong.A crt_wrong.Q (crt_wrong.g k) crt_wrong.h := (show crt_wrong.g k = crt_wrong.D.val crt_wrong.S k from funext fun _ => by unfold crt_wrong.g; rw [crt_wrong.f_def]; rfl) ▸ Decl.does (D := crt_wrong.D) (S := crt_wrong.S) (fn := Go.Proofs.Tryd.f47) ⟨by kernel_rfl, by kernel_rfl, by kernel_rfl, by kernel_rfl, by kernel_rfl, by kernel_rfl, TT.of_ok _ T0ex, by kernel_rfl⟩ (fun k => ⟨told_ok (crt_may.does k), trivial⟩) (fun _ _ h => by rw [h rfl]; rfl) k
def bigint_Of.A : AK := .p (.int .i64) .nil
def bigint_Of.Q : RK := .p (.agg (.cons (.bool) (.cons (.row .u64) .nil))) .nil
def bigint_Of.h : (Bool × List Int) → bigint_Of.Q.T × List Int := fun b => (((b.1, b.2, ()), ()), [])
noncomputable def bigint_Of.D : Decl (Bool × List Int) := ⟨(Go.Proofs.Tryd.f48.body).getD .skip, 19, [.cell 2 44], bigint_Of.A, bigint_Of.Q, fun y m => (y.1.1, y.1.2.1), T0, [], [], []⟩
noncomputable def bigint_Of.S (k : Nat) : List (Nat × E.Spec (Bool × List Int)) := []
noncomputable def bigint_Of.f0 (k : Nat) (a0 : Int) : Option (Bool × List Int) := bigint_Of.D.val bigint_Of.S k (a0, ())
noncomputable def bigint_Of.f := (still bigint_Of.f0).1
theorem bigint_Of.f_def : bigint_Of.f = bigint_Of.f0 := (still bigint_Of.f0).2
noncomputable def bigint_Of.g (k : Nat) (x : bigint_Of.A.T) : Option (Bool × List Int) := bigint_Of.f k (x.1)
theorem bigint_Of.does (k : Nat) : Does PG 48 bigint_Of.A bigint_Of.Q (bigint_Of.g k) bigint_Of.h := (show bigint_Of.g k = bigint_Of.D.val bigint_Of.S k from funext fun _ => by unfold bigint_Of.g; rw [bigint_Of.f_def]; rfl) ▸ Decl.does (D := bigint_Of.D) (S := bigint_Of.S) (fn := Go.Proofs.Tryd.f48) ⟨by kernel_rfl, by kernel_rfl, by kernel_rfl, by kernel_rfl, by kernel_rfl, by kernel_rfl, TT.of_ok _ T0ex, by kernel_rfl⟩ (fun k => trivial) (fun _ _ h => by rw [h rfl]; rfl) k
def nat_trim.A : AK := .p (.row .u64) .nil
def nat_trim.Q : RK := .p (.row .u64) .nil
def nat_trim.h : List Int → nat_trim.Q.T × List Int := fun b => ((b, ()), [])
noncomputable def nat_trim.D : Decl (List Int) := ⟨(Go.Proofs.Tryd.f51.body).getD .skip, 21, [.tmp 2], nat_trim.A, nat_trim.Q, fun y m => y.1, T0, [], [(2, [(0, .p (some (.row .u64))), (3, .p (some (.int .i64)))])], []⟩
noncomputable def nat_trim.S (k : Nat) : List (Nat × E.Spec (List Int)) := []
noncomputable def nat_trim.l2 (k : Nat) (x0 : List Int) (x3 : Int) : Option (List Int) := nat_trim.D.F nat_trim.S k 5 [.p (.row .u64 x0), .p (.lit (.int .i64 x3))]
noncomputable def nat_trim.f0 (k : Nat) (a0 : List Int) : Option (List Int) := nat_trim.D.val nat_trim.S k (a0, ())
noncomputable def nat_trim.f := (still nat_trim.f0).1
theorem nat_trim.f_def : nat_trim.f = nat_trim.f0 := (still nat_trim.f0).2
noncomputable def nat_trim.g (k : Nat) (x : nat_trim.A.T) : Option (List Int) := nat_trim.f k (x.1)
theorem nat_trim.does (k : Nat) : Does PG 51 nat_trim.A nat_trim.Q (nat_trim.g k) nat_trim.h := (show nat_trim.g k = nat_trim.D.val nat_trim.S k from funext fun _ => by unfold nat_trim.g; rw [nat_trim.f_def]; rfl) ▸ Decl.does (D := nat_trim.D) (S := nat_trim.S) (fn := Go.Proofs.Tryd.f51) ⟨by kernel_rfl, by kernel_rfl, by kernel_rfl, by kernel_rfl, by kernel_rfl, by kernel_rfl, TT.of_ok _ T0ex, by kernel_rfl⟩ (fun k => trivial) (fun _ _ h => by rw [h rfl]; rfl) k
def nat_DivWord.A : AK := .p (.row .u64) (.p (.int .u64) .nil)
def nat_DivWord.Q : RK := .p (.row .u64) (.p (.int .u64) (.p (.int .i64) .nil))
def nat_DivWord.h : (List Int × Int × Int) → nat_DivWord.Q.T × List Int := fun b => ((b.1, b.2.1, b.2.2, ()), [])
noncomputable def nat_DivWord.D : Decl (List Int × Int × Int) := ⟨(Go.Proofs.Tryd.f34.body).getD .skip, 38, [.tmp 4, .tmp 5, .tmp 6], nat_DivWord.A, nat_DivWord.Q, fun y m => (y.1, y.2.1, y.2.2.1), T0, [], [(6, [(0, .p (some (.row .u64))), (1, .p (some (.int .u64))), (7, .m (.num .u64) 29), (8, .p (some (.int .u64))), (9, .p (some (.int .i64)))])], [(9, [7])]⟩
noncomputable def nat_DivWord.S (k : Nat) : List (Nat × E.Spec (List Int × Int × Int)) := [(50, told _ bits_Div64.A bits_Div64.Q (bits_Div64.g k) bits_Div64.h), (51, told _ nat_trim.A nat_trim.Q (nat_trim.g k) nat_trim.h)]
noncomputable def nat_DivWord.l6 (k : Nat) (x0 : List Int) (x1 : Int) (x7 : List Int) (x8 : Int) (x9 : Int) : Option (List Int × Int × Int) := nat_DivWord.D.F nat_DivWord.S k 13 [.p (.row .u64 x0), .p (.lit (.int .u64 x1)), .m x7, .p (.lit (.int .u64 x8)), .p (.lit (.int .i64 x9))]
noncomputable def nat_DivWord.f0 (k : Nat) (a0 : List Int) (a1 : Int) : Option (List Int × Int × Int) := nat_DivWord.D.val nat_DivWord.S k (a0, a1, ())
noncomputable def nat_DivWord.f := (still nat_DivWord.f0).1
theorem nat_DivWord.f_def : nat_DivWord.f = nat_DivWord.f0 := (still nat_DivWord.f0).2
noncomputable def nat_DivWord.g (k : Nat) (x : nat_DivWord.A.T) : Option (List Int × Int × Int) := nat_DivWord.f k (x.1) (x.2.1)
theorem nat_DivWord.does (k : Nat) : Does PG 34 nat_DivWord.A nat_DivWord.Q (nat_DivWord.g k) nat_DivWord.h := (show nat_DivWord.g k = nat_DivWord.D.val nat_DivWord.S k from funext fun _ => by unfold nat_DivWord.g; rw [nat_DivWord.f_def]; rfl) ▸ Decl.does (D := nat_DivWord.D) (S := nat_DivWord.S) (fn := Go.Proofs.Tryd.f34) ⟨by kernel_rfl, by kernel_rfl, by kernel_rfl, by kernel_rfl, by kernel_rfl, by kernel_rfl, TT.of_ok _ T0ex, by kernel_rfl⟩ (fun k => ⟨told_ok (bits_Div64.does k), ⟨told_ok (nat_trim.does k), trivial⟩⟩) (fun _ _ h => by rw [h rfl]; rfl) k
def bigint_Int_Mod.A : AK := .p (.agg (.cons (.bool) (.cons (.row .u64) .nil))) (.p (.int .u64) .nil)
def bigint_Int_Mod.Q : RK := .p (.int .u64) (.p (.int .i64) .nil)
def bigint_Int_Mod.h : (Int × Int) → bigint_Int_Mod.Q.T × List Int := fun b => ((b.1, b.2, ()), [])
noncomputable def bigint_Int_Mod.D : Decl (Int × Int) := ⟨(Go.Proofs.Tryd.f23.body).getD .skip, 28, [.tmp 4, .tmp 5], bigint_Int_Mod.A, bigint_Int_Mod.Q, fun y m => (y.1, y.2.1), T0, [], [], []⟩
noncomputable def bigint_Int_Mod.S (k : Nat) : List (Nat × E.Spec (Int × Int)) := [(34, told _ nat_DivWord.A nat_DivWord.Q (nat_DivWord.g k) nat_DivWord.h)]
noncomputable def bigint_Int_Mod.f0 (k : Nat) (a0_0 : Bool) (a0_1 : List Int) (a1 : Int) : Option (Int × Int) := bigint_Int_Mod.D.val bigint_Int_Mod.S k ((a0_0, a0_1, ()), a1, ())
noncomputable def bigint_Int_Mod.f := (still bigint_Int_Mod.f0).1
theorem bigint_Int_Mod.f_def : bigint_Int_Mod.f = bigint_Int_Mod.f0 := (still bigint_Int_Mod.f0).2
noncomputable def bigint_Int_Mod.g (k : Nat) (x : bigint_Int_Mod.A.T) : Option (Int × Int) := bigint_Int_Mod.f k (x.1.1) (x.1.2.1) (x.2.1)
theorem bigint_Int_Mod.does (k : Nat) : Does PG 23 bigint_Int_Mod.A bigint_Int_Mod.Q (bigint_Int_Mod.g k) bigint_Int_Mod.h := (show bigint_Int_Mod.g k = bigint_Int_Mod.D.val bigint_Int_Mod.S k from funext fun _ => by unfold bigint_Int_Mod.g; rw [bigint_Int_Mod.f_def]; rfl) ▸ Decl.does (D := bigint_Int_Mod.D) (S := bigint_Int_Mod.S) (fn := Go.Proofs.Tryd.f23) ⟨by kernel_rfl, by kernel_rfl, by kernel_rfl, by kernel_rfl, by kernel_rfl, by kernel_rfl, TT.of_ok _ T0ex, by kernel_rfl⟩ (fun k => ⟨told_ok (nat_DivWord.does k), trivial⟩) (fun _ _ h => by rw [h rfl]; rfl) k
def bigint_made.A : AK := .p (.bool) (.p (.row .u64) .nil)
def bigint_made.Q : RK := .p (.agg (.cons (.bool) (.cons (.row .u64) .nil))) .nil
def bigint_made.h : (Bool × List Int) → bigint_made.Q.T × List Int := fun b => (((b.1, b.2, ()), ()), [])
noncomputable def bigint_made.D : Decl (Bool × List Int) := ⟨(Go.Proofs.Tryd.f35.body).getD .skip, 13, [.cell 4 44], bigint_made.A, bigint_made.Q, fun y m => (y.1.1, y.1.2.1), T0, [], [], []⟩
noncomputable def bigint_made.S (k : Nat) : List (Nat × E.Spec (Bool × List Int)) := []
noncomputable def bigint_made.f0 (k : Nat) (a0 : Bool) (a1 : List Int) : Option (Bool × List Int) := bigint_made.D.val bigint_made.S k (a0, a1, ())
noncomputable def bigint_made.f := (still bigint_made.f0).1
theorem bigint_made.f_def : bigint_made.f = bigint_made.f0 := (still bigint_made.f0).2
noncomputable def bigint_made.g (k : Nat) (x : bigint_made.A.T) : Option (Bool × List Int) := bigint_made.f k (x.1) (x.2.1)
theorem bigint_made.does (k : Nat) : Does PG 35 bigint_made.A bigint_made.Q (bigint_made.g k) bigint_made.h := (show bigint_made.g k = bigint_made.D.val bigint_made.S k from funext fun _ => by unfold bigint_made.g; rw [bigint_made.f_def]; rfl) ▸ Decl.does (D := bigint_made.D) (S := bigint_made.S) (fn := Go.Proofs.Tryd.f35) ⟨by kernel_rfl, by kernel_rfl, by kernel_rfl, by kernel_rfl, by kernel_rfl, by kernel_rfl, TT.of_ok _ T0ex, by kernel_rfl⟩ (fun k => trivial) (fun _ _ h => by rw [h rfl]; rfl) k
def nat_at.A : AK := .p (.row .u64) (.p (.int .i64) .nil)
def nat_at.Q : RK := .p (.int .u64) .nil
def nat_at.h : Int → nat_at.Q.T × List Int := fun b => ((b, ()), [])
noncomputable def nat_at.D : Decl Int := ⟨(Go.Proofs.Tryd.f53.body).getD .skip, 13, [.tmp 4], nat_at.A, nat_at.Q, fun y m => y.1, T0, [], [], []⟩
noncomputable def nat_at.S (k : Nat) : List (Nat × E.Spec Int) := []
noncomputable def nat_at.f0 (k : Nat) (a0 : List Int) (a1 : Int) : Option Int := nat_at.D.val nat_at.S k (a0, a1, ())
noncomputable def nat_at.f := (still nat_at.f0).1
theorem nat_at.f_def : nat_at.f = nat_at.f0 := (still nat_at.f0).2
noncomputable def nat_at.g (k : Nat) (x : nat_at.A.T) : Option Int := nat_at.f k (x.1) (x.2.1)
theorem nat_at.does (k : Nat) : Does PG 53 nat_at.A nat_at.Q (nat_at.g k) nat_at.h := (show nat_at.g k = nat_at.D.val nat_at.S k from funext fun _ => by unfold nat_at.g; rw [nat_at.f_def]; rfl) ▸ Decl.does (D := nat_at.D) (S := nat_at.S) (fn := Go.Proofs.Tryd.f53) ⟨by kernel_rfl, by kernel_rfl, by kernel_rfl, by kernel_rfl, by kernel_rfl, by kernel_rfl, TT.of_ok _ T0ex, by kernel_rfl⟩ (fun k => trivial) (fun _ _ h => by rw [h rfl]; rfl) k
def nat_Add.A : AK := .p (.row .u64) (.p (.row .u64) .nil)
def nat_Add.Q : RK := .p (.row .u64) .nil
def nat_Add.h : List Int → nat_Add.Q.T × List Int := fun b => ((b, ()), [])
noncomputable def nat_Add.D : Decl (List Int) := ⟨(Go.Proofs.Tryd.f36.body).getD .skip, 37, [.tmp 4], nat_Add.A, nat_Add.Q, fun y m => y.1, T0, [], [(4, [(0, .p (some (.row .u64))), (1, .p (some (.row .u64))), (5, .m (.num .u64) 29), (6, .p (some (.int .u64))), (16, .p (some (.int .i64))), (17, .p (some (.int .i64)))])], [(8, [5])]⟩
noncomputable def nat_Add.S (k : Nat) : List (Nat × E.Spec (List Int)) := [(51, told _ nat_trim.A nat_trim.Q (nat_trim.g k) nat_trim.h), (53, told _ nat_at.A nat_at.Q (nat_at.g k) nat_at.h)]
noncomputable def nat_Add.l4 (k : Nat) (x0 : List Int) (x1 : List Int) (x5 : List Int) (x6 : Int) (x16 : Int) (x17 : Int) : Option (List Int) := nat_Add.D.F nat_Add.S k 9 [.p (.row .u64 x0), .p (.row .u64 x1), .m x5, .p (.lit (.int .u64 x6)), .p (.lit (.int .i64 x16)), .p (.lit (.int .i64 x17))]
noncomputable def nat_Add.f0 (k : Nat) (a0 : List Int) (a1 : List Int) : Option (List Int) := nat_Add.D.val nat_Add.S k (a0, a1, ())
noncomputable def nat_Add.f := (still nat_Add.f0).1
theorem nat_Add.f_def : nat_Add.f = nat_Add.f0 := (still nat_Add.f0).2
noncomputable def nat_Add.g (k : Nat) (x : nat_Add.A.T) : Option (List Int) := nat_Add.f k (x.1) (x.2.1)
theorem nat_Add.does (k : Nat) : Does PG 36 nat_Add.A nat_Add.Q (nat_Add.g k) nat_Add.h := (show nat_Add.g k = nat_Add.D.val nat_Add.S k from funext fun _ => by unfold nat_Add.g; rw [nat_Add.f_def]; rfl) ▸ Decl.does (D := nat_Add.D) (S := nat_Add.S) (fn := Go.Proofs.Tryd.f36) ⟨by kernel_rfl, by kernel_rfl, by kernel_rfl, by kernel_rfl, by kernel_rfl, by kernel_rfl, TT.of_ok _ T0ex, by kernel_rfl⟩ (fun k => ⟨told_ok (nat_trim.does k), ⟨told_ok (nat_at.does k), trivial⟩⟩) (fun _ _ h => by rw [h rfl]; rfl) k
def nat_Cmp.A : AK := .p (.row .u64) (.p (.row .u64) .nil)
def nat_Cmp.Q : RK := .p (.int .i64) .nil
def nat_Cmp.h : Int → nat_Cmp.Q.T × List Int := fun b => ((b, ()), [])
noncomputable def nat_Cmp.D : Decl Int := ⟨(Go.Proofs.Tryd.f37.body).getD .skip, 49, [.tmp 4], nat_Cmp.A, nat_Cmp.Q, fun y m => y.1, T0, [], [(7, [(0, .p (some (.row .u64))), (1, .p (some (.row .u64))), (5, .p (some (.int .i64)))])], []⟩
noncomputable def nat_Cmp.S (k : Nat) : List (Nat × E.Spec Int) := [(51, told _ nat_trim.A nat_trim.Q (nat_trim.g k) nat_trim.h)]
noncomputable def nat_Cmp.l7 (k : Nat) (x0 : List Int) (x1 : List Int) (x5 : Int) : Option Int := nat_Cmp.D.F nat_Cmp.S k 15 [.p (.row .u64 x0), .p (.row .u64 x1), .p (.lit (.int .i64 x5))]
noncomputable def nat_Cmp.f0 (k : Nat) (a0 : List Int) (a1 : List Int) : Option Int := nat_Cmp.D.val nat_Cmp.S k (a0, a1, ())
noncomputable def nat_Cmp.f := (still nat_Cmp.f0).1
theorem nat_Cmp.f_def : nat_Cmp.f = nat_Cmp.f0 := (still nat_Cmp.f0).2
noncomputable def nat_Cmp.g (k : Nat) (x : nat_Cmp.A.T) : Option Int := nat_Cmp.f k (x.1) (x.2.1)
theorem nat_Cmp.does (k : Nat) : Does PG 37 nat_Cmp.A nat_Cmp.Q (nat_Cmp.g k) nat_Cmp.h := (show nat_Cmp.g k = nat_Cmp.D.val nat_Cmp.S k from funext fun _ => by unfold nat_Cmp.g; rw [nat_Cmp.f_def]; rfl) ▸ Decl.does (D := nat_Cmp.D) (S := nat_Cmp.S) (fn := Go.Proofs.Tryd.f37) ⟨by kernel_rfl, by kernel_rfl, by kernel_rfl, by kernel_rfl, by kernel_rfl, by kernel_rfl, TT.of_ok _ T0ex, by kernel_rfl⟩ (fun k => ⟨told_ok (nat_trim.does k), trivial⟩) (fun _ _ h => by rw [h rfl]; rfl) k
def nat_less.A : AK := .p (.row .u64) (.p (.row .u64) .nil)
def nat_less.Q : RK := .p (.row .u64) .nil
def nat_less.h : List Int → nat_less.Q.T × List Int := fun b => ((b, ()), [])
noncomputable def nat_less.D : Decl (List Int) := ⟨(Go.Proofs.Tryd.f54.body).getD .skip, 34, [.tmp 4], nat_less.A, nat_less.Q, fun y m => y.1, T0, [], [(4, [(0, .p (some (.row .u64))), (1, .p (some (.row .u64))), (5, .m (.num .u64) 29), (6, .p (some (.int .u64))), (12, .p (some (.int .i64))), (13, .p (some (.int .i64)))])], [(8, [5])]⟩
noncomputable def nat_less.S (k : Nat) : List (Nat × E.Spec (List Int)) := [(51, told _ nat_trim.A nat_trim.Q (nat_trim.g k) nat_trim.h), (53, told _ nat_at.A nat_at.Q (nat_at.g k) nat_at.h)]
noncomputable def nat_less.l4 (k : Nat) (x0 : List Int) (x1 : List Int) (x5 : List Int) (x6 : Int) (x12 : Int) (x13 : Int) : Option (List Int) := nat_less.D.F nat_less.S k 9 [.p (.row .u64 x0), .p (.row .u64 x1), .m x5, .p (.lit (.int .u64 x6)), .p (.lit (.int .i64 x12)), .p (.lit (.int .i64 x13))]
noncomputable def nat_less.f0 (k : Nat) (a0 : List Int) (a1 : List Int) : Option (List Int) := nat_less.D.val nat_less.S k (a0, a1, ())
noncomputable def nat_less.f := (still nat_less.f0).1
theorem nat_less.f_def : nat_less.f = nat_less.f0 := (still nat_less.f0).2
noncomputable def nat_less.g (k : Nat) (x : nat_less.A.T) : Option (List Int) := nat_less.f k (x.1) (x.2.1)
theorem nat_less.does (k : Nat) : Does PG 54 nat_less.A nat_less.Q (nat_less.g k) nat_less.h := (show nat_less.g k = nat_less.D.val nat_less.S k from funext fun _ => by unfold nat_less.g; rw [nat_less.f_def]; rfl) ▸ Decl.does (D := nat_less.D) (S := nat_less.S) (fn := Go.Proofs.Tryd.f54) ⟨by kernel_rfl, by kernel_rfl, by kernel_rfl, by kernel_rfl, by kernel_rfl, by kernel_rfl, TT.of_ok _ T0ex, by kernel_rfl⟩ (fun k => ⟨told_ok (nat_trim.does k), ⟨told_ok (nat_at.does k), trivial⟩⟩) (fun _ _ h => by rw [h rfl]; rfl) k
def nat_Sub.A : AK := .p (.row .u64) (.p (.row .u64) .nil)
def nat_Sub.Q : RK := .p (.row .u64) (.p (.int .i64) .nil)
def nat_Sub.h : (List Int × Int) → nat_Sub.Q.T × List Int := fun b => ((b.1, b.2, ()), [])
noncomputable def nat_Sub.D : Decl (List Int × Int) := ⟨(Go.Proofs.Tryd.f38.body).getD .skip, 17, [.tmp 4, .tmp 5], nat_Sub.A, nat_Sub.Q, fun y m => (y.1, y.2.1), T0, [], [], []⟩
noncomputable def nat_Sub.S (k : Nat) : List (Nat × E.Spec (List Int × Int)) := [(37, told _ nat_Cmp.A nat_Cmp.Q (nat_Cmp.g k) nat_Cmp.h), (51, told _ nat_trim.A nat_trim.Q (nat_trim.g k) nat_trim.h), (54, told _ nat_less.A nat_less.Q (nat_less.g k) nat_less.h)]
noncomputable def nat_Sub.f0 (k : Nat) (a0 : List Int) (a1 : List Int) : Option (List Int × Int) := nat_Sub.D.val nat_Sub.S k (a0, a1, ())
noncomputable def nat_Sub.f := (still nat_Sub.f0).1
theorem nat_Sub.f_def : nat_Sub.f = nat_Sub.f0 := (still nat_Sub.f0).2
noncomputable def nat_Sub.g (k : Nat) (x : nat_Sub.A.T) : Option (List Int × Int) := nat_Sub.f k (x.1) (x.2.1)
theorem nat_Sub.does (k : Nat) : Does PG 38 nat_Sub.A nat_Sub.Q (nat_Sub.g k) nat_Sub.h := (show nat_Sub.g k = nat_Sub.D.val nat_Sub.S k from funext fun _ => by unfold nat_Sub.g; rw [nat_Sub.f_def]; rfl) ▸ Decl.does (D := nat_Sub.D) (S := nat_Sub.S) (fn := Go.Proofs.Tryd.f38) ⟨by kernel_rfl, by kernel_rfl, by kernel_rfl, by kernel_rfl, by kernel_rfl, by kernel_rfl, TT.of_ok _ T0ex, by kernel_rfl⟩ (fun k => ⟨told_ok (nat_Cmp.does k), ⟨told_ok (nat_trim.does k), ⟨told_ok (nat_less.does k), trivial⟩⟩⟩) (fun _ _ h => by rw [h rfl]; rfl) k
def bigint_Int_Add.A : AK := .p (.agg (.cons (.bool) (.cons (.row .u64) .nil))) (.p (.agg (.cons (.bool) (.cons (.row .u64) .nil))) .nil)
def bigint_Int_Add.Q : RK := .p (.agg (.cons (.bool) (.cons (.row .u64) .nil))) .nil
def bigint_Int_Add.h : (Bool × List Int) → bigint_Int_Add.Q.T × List Int := fun b => (((b.1, b.2, ()), ()), [])
noncomputable def bigint_Int_Add.D : Decl (Bool × List Int) := ⟨(Go.Proofs.Tryd.f26.body).getD .skip, 40, [.cell 4 44], bigint_Int_Add.A, bigint_Int_Add.Q, fun y m => (y.1.1, y.1.2.1), T0, [], [], []⟩
noncomputable def bigint_Int_Add.S (k : Nat) : List (Nat × E.Spec (Bool × List Int)) := [(35, told _ bigint_made.A bigint_made.Q (bigint_made.g k) bigint_made.h), (36, told _ nat_Add.A nat_Add.Q (nat_Add.g k) nat_Add.h), (37, told _ nat_Cmp.A nat_Cmp.Q (nat_Cmp.g k) nat_Cmp.h), (38, told _ nat_Sub.A nat_Sub.Q (nat_Sub.g k) nat_Sub.h)]
noncomputable def bigint_Int_Add.f0 (k : Nat) (a0_0 : Bool) (a0_1 : List Int) (a1_0 : Bool) (a1_1 : List Int) : Option (Bool × List Int) := bigint_Int_Add.D.val bigint_Int_Add.S k ((a0_0, a0_1, ()), (a1_0, a1_1, ()), ())
noncomputable def bigint_Int_Add.f := (still bigint_Int_Add.f0).1
theorem bigint_Int_Add.f_def : bigint_Int_Add.f = bigint_Int_Add.f0 := (still bigint_Int_Add.f0).2
noncomputable def bigint_Int_Add.g (k : Nat) (x : bigint_Int_Add.A.T) : Option (Bool × List Int) := bigint_Int_Add.f k (x.1.1) (x.1.2.1) (x.2.1.1) (x.2.1.2.1)
theorem bigint_Int_Add.does (k : Nat) : Does PG 26 bigint_Int_Add.A bigint_Int_Add.Q (bigint_Int_Add.g k) bigint_Int_Add.h := (show bigint_Int_Add.g k = bigint_Int_Add.D.val bigint_Int_Add.S k from funext fun _ => by unfold bigint_Int_Add.g; rw [bigint_Int_Add.f_def]; rfl) ▸ Decl.does (D := bigint_Int_Add.D) (S := bigint_Int_Add.S) (fn := Go.Proofs.Tryd.f26) ⟨by kernel_rfl, by kernel_rfl, by kernel_rfl, by kernel_rfl, by kernel_rfl, by kernel_rfl, TT.of_ok _ T0ex, by kernel_rfl⟩ (fun k => ⟨told_ok (bigint_made.does k), ⟨told_ok (nat_Add.does k), ⟨told_ok (nat_Cmp.does k), ⟨told_ok (nat_Sub.does k), trivial⟩⟩⟩⟩) (fun _ _ h => by rw [h rfl]; rfl) k
def bigint_Int_Sign.A : AK := .p (.agg (.cons (.bool) (.cons (.row .u64) .nil))) .nil
def bigint_Int_Sign.Q : RK := .p (.int .i64) .nil
def bigint_Int_Sign.h : Int → bigint_Int_Sign.Q.T × List Int := fun b => ((b, ()), [])
noncomputable def bigint_Int_Sign.D : Decl Int := ⟨(Go.Proofs.Tryd.f64.body).getD .skip, 13, [.tmp 2], bigint_Int_Sign.A, bigint_Int_Sign.Q, fun y m => y.1, T0, [], [], []⟩
noncomputable def bigint_Int_Sign.S (k : Nat) : List (Nat × E.Spec Int) := []
noncomputable def bigint_Int_Sign.f0 (k : Nat) (a0_0 : Bool) (a0_1 : List Int) : Option Int := bigint_Int_Sign.D.val bigint_Int_Sign.S k ((a0_0, a0_1, ()), ())
noncomputable def bigint_Int_Sign.f := (still bigint_Int_Sign.f0).1
theorem bigint_Int_Sign.f_def : bigint_Int_Sign.f = bigint_Int_Sign.f0 := (still bigint_Int_Sign.f0).2
noncomputable def bigint_Int_Sign.g (k : Nat) (x : bigint_Int_Sign.A.T) : Option Int := bigint_Int_Sign.f k (x.1.1) (x.1.2.1)
theorem bigint_Int_Sign.does (k : Nat) : Does PG 64 bigint_Int_Sign.A bigint_Int_Sign.Q (bigint_Int_Sign.g k) bigint_Int_Sign.h := (show bigint_Int_Sign.g k = bigint_Int_Sign.D.val bigint_Int_Sign.S k from funext fun _ => by unfold bigint_Int_Sign.g; rw [bigint_Int_Sign.f_def]; rfl) ▸ Decl.does (D := bigint_Int_Sign.D) (S := bigint_Int_Sign.S) (fn := Go.Proofs.Tryd.f64) ⟨by kernel_rfl, by kernel_rfl, by kernel_rfl, by kernel_rfl, by kernel_rfl, by kernel_rfl, TT.of_ok _ T0ex, by kernel_rfl⟩ (fun k => trivial) (fun _ _ h => by rw [h rfl]; rfl) k
def nat_Norm.A : AK := .p (.row .u64) .nil
def nat_Norm.Q : RK := .o (.num .u64) 29 .nil
def nat_Norm.h : List Int → nat_Norm.Q.T × List Int := fun b => (((b), ()), [])
noncomputable def nat_Norm.D : Decl (List Int) := ⟨(Go.Proofs.Tryd.f42.body).getD .skip, 6, [.tmp 2], nat_Norm.A, nat_Norm.Q, fun y m => y.1, T0, [], [], []⟩
noncomputable def nat_Norm.S (k : Nat) : List (Nat × E.Spec (List Int)) := [(51, told _ nat_trim.A nat_trim.Q (nat_trim.g k) nat_trim.h)]
noncomputable def nat_Norm.f0 (k : Nat) (a0 : List Int) : Option (List Int) := nat_Norm.D.val nat_Norm.S k (a0, ())
noncomputable def nat_Norm.f := (still nat_Norm.f0).1
theorem nat_Norm.f_def : nat_Norm.f = nat_Norm.f0 := (still nat_Norm.f0).2
noncomputable def nat_Norm.g (k : Nat) (x : nat_Norm.A.T) : Option (List Int) := nat_Norm.f k (x.1)
theorem nat_Norm.does (k : Nat) : Does PG 42 nat_Norm.A nat_Norm.Q (nat_Norm.g k) nat_Norm.h := (show nat_Norm.g k = nat_Norm.D.val nat_Norm.S k from funext fun _ => by unfold nat_Norm.g; rw [nat_Norm.f_def]; rfl) ▸ Decl.does (D := nat_Norm.D) (S := nat_Norm.S) (fn := Go.Proofs.Tryd.f42) ⟨by kernel_rfl, by kernel_rfl, by kernel_rfl, by kernel_rfl, by kernel_rfl, by kernel_rfl, TT.of_ok _ T0ex, by kernel_rfl⟩ (fun k => ⟨told_ok (nat_trim.does k), trivial⟩) (fun _ _ h => by rw [h rfl]; rfl) k
def nat_shifted.A : AK := .p (.row .u64) (.p (.int .u64) .nil)
def nat_shifted.Q : RK := .o (.num .u64) 29 .nil
def nat_shifted.h : List Int → nat_shifted.Q.T × List Int := fun b => (((b), ()), [])
noncomputable def nat_shifted.D : Decl (List Int) := ⟨(Go.Proofs.Tryd.f56.body).getD .skip, 38, [.tmp 4], nat_shifted.A, nat_shifted.Q, fun y m => y.1, T0, [], [(3, [(1, .p (some (.int .u64))), (5, .m (.num .u64) 29), (12, .p (some (.row .u64))), (13, .p (some (.int .i64))), (14, .p (some (.int .i64)))])], []⟩
noncomputable def nat_shifted.S (k : Nat) : List (Nat × E.Spec (List Int)) := []
noncomputable def nat_shifted.l3 (k : Nat) (x1 : Int) (x5 : List Int) (x12 : List Int) (x13 : Int) (x14 : Int) : Option (List Int) := nat_shifted.D.F nat_shifted.S k 7 [.p (.lit (.int .u64 x1)), .m x5, .p (.row .u64 x12), .p (.lit (.int .i64 x13)), .p (.lit (.int .i64 x14))]
noncomputable def nat_shifted.f0 (k : Nat) (a0 : List Int) (a1 : Int) : Option (List Int) := nat_shifted.D.val nat_shifted.S k (a0, a1, ())
noncomputable def nat_shifted.f := (still nat_shifted.f0).1
theorem nat_shifted.f_def : nat_shifted.f = nat_shifted.f0 := (still nat_shifted.f0).2
noncomputable def nat_shifted.g (k : Nat) (x : nat_shifted.A.T) : Option (List Int) := nat_shifted.f k (x.1) (x.2.1)
theorem nat_shifted.does (k : Nat) : Does PG 56 nat_shifted.A nat_shifted.Q (nat_shifted.g k) nat_shifted.h := (show nat_shifted.g k = nat_shifted.D.val nat_shifted.S k from funext fun _ => by unfold nat_shifted.g; rw [nat_shifted.f_def]; rfl) ▸ Decl.does (D := nat_shifted.D) (S := nat_shifted.S) (fn := Go.Proofs.Tryd.f56) ⟨by kernel_rfl, by kernel_rfl, by kernel_rfl, by kernel_rfl, by kernel_rfl, by kernel_rfl, TT.of_ok _ T0ex, by kernel_rfl⟩ (fun k => trivial) (fun _ _ h => by rw [h rfl]; rfl) k
def nat_beyond.A : AK := .p (.int .u64) (.p (.int .u64) (.p (.int .u64) (.p (.int .u64) .nil)))
def nat_beyond.Q : RK := .p (.bool) .nil
def nat_beyond.h : Bool → nat_beyond.Q.T × List Int := fun b => ((b, ()), [])
noncomputable def nat_beyond.D : Decl Bool := ⟨(Go.Proofs.Tryd.f101.body).getD .skip, 30, [.tmp 8], nat_beyond.A, nat_beyond.Q, fun y m => y.1, T0, [], [], []⟩
noncomputable def nat_beyond.S (k : Nat) : List (Nat × E.Spec Bool) := [(43, told _ bits_Mul64.A bits_Mul64.Q (bits_Mul64.g k) bits_Mul64.h)]
noncomputable def nat_beyond.f0 (k : Nat) (a0 : Int) (a1 : Int) (a2 : Int) (a3 : Int) : Option Bool := nat_beyond.D.val nat_beyond.S k (a0, a1, a2, a3, ())
noncomputable def nat_beyond.f := (still nat_beyond.f0).1
theorem nat_beyond.f_def : nat_beyond.f = nat_beyond.f0 := (still nat_beyond.f0).2
noncomputable def nat_beyond.g (k : Nat) (x : nat_beyond.A.T) : Option Bool := nat_beyond.f k (x.1) (x.2.1) (x.2.2.1) (x.2.2.2.1)
theorem nat_beyond.does (k : Nat) : Does PG 101 nat_beyond.A nat_beyond.Q (nat_beyond.g k) nat_beyond.h := (show nat_beyond.g k = nat_beyond.D.val nat_beyond.S k from funext fun _ => by unfold nat_beyond.g; rw [nat_beyond.f_def]; rfl) ▸ Decl.does (D := nat_beyond.D) (S := nat_beyond.S) (fn := Go.Proofs.Tryd.f101) ⟨by kernel_rfl, by kernel_rfl, by kernel_rfl, by kernel_rfl, by kernel_rfl, by kernel_rfl, TT.of_ok _ T0ex, by kernel_rfl⟩ (fun k => ⟨told_ok (bits_Mul64.does k), trivial⟩) (fun _ _ h => by rw [h rfl]; rfl) k
def nat_guess.A : AK := .p (.int .u64) (.p (.int .u64) (.p (.int .u64) (.p (.int .u64) (.p (.int .u64) .nil))))
def nat_guess.Q : RK := .p (.int .u64) .nil
def nat_guess.h : Int → nat_guess.Q.T × List Int := fun b => ((b, ()), [])
noncomputable def nat_guess.D : Decl Int := ⟨(Go.Proofs.Tryd.f97.body).getD .skip, 69, [.tmp 10], nat_guess.A, nat_guess.Q, fun y m => y.1, T0, [], [(10, [(2, .p (some (.int .u64))), (3, .p (some (.int .u64))), (4, .p (some (.int .u64))), (14, .p (some (.int .u64))), (15, .p (some (.int .u64))), (16, .p (some (.int .u64)))]), (4, [(2, .p (some (.int .u64))), (3, .p (some (.int .u64))), (4, .p (some (.int .u64))), (11, .p (some (.int .u64))), (12, .p (some (.int .u64))), (13, .p (some (.int .u64)))])], []⟩
noncomputable def nat_guess.S (k : Nat) : List (Nat × E.Spec Int) := [(50, told _ bits_Div64.A bits_Div64.Q (bits_Div64.g k) bits_Div64.h), (101, told _ nat_beyond.A nat_beyond.Q (nat_beyond.g k) nat_beyond.h)]
noncomputable def nat_guess.l10 (k : Nat) (x2 : Int) (x3 : Int) (x4 : Int) (x14 : Int) (x15 : Int) (x16 : Int) : Option Int := nat_guess.D.F nat_guess.S k 21 [.p (.lit (.int .u64 x2)), .p (.lit (.int .u64 x3)), .p (.lit (.int .u64 x4)), .p (.lit (.int .u64 x14)), .p (.lit (.int .u64 x15)), .p (.lit (.int .u64 x16))]
noncomputable def nat_guess.l4 (k : Nat) (x2 : Int) (x3 : Int) (x4 : Int) (x11 : Int) (x12 : Int) (x13 : Int) : Option Int := nat_guess.D.F nat_guess.S k 9 [.p (.lit (.int .u64 x2)), .p (.lit (.int .u64 x3)), .p (.lit (.int .u64 x4)), .p (.lit (.int .u64 x11)), .p (.lit (.int .u64 x12)), .p (.lit (.int .u64 x13))]
noncomputable def nat_guess.f0 (k : Nat) (a0 : Int) (a1 : Int) (a2 : Int) (a3 : Int) (a4 : Int) : Option Int := nat_guess.D.val nat_guess.S k (a0, a1, a2, a3, a4, ())
noncomputable def nat_guess.f := (still nat_guess.f0).1
theorem nat_guess.f_def : nat_guess.f = nat_guess.f0 := (still nat_guess.f0).2
noncomputable def nat_guess.g (k : Nat) (x : nat_guess.A.T) : Option Int := nat_guess.f k (x.1) (x.2.1) (x.2.2.1) (x.2.2.2.1) (x.2.2.2.2.1)
theorem nat_guess.does (k : Nat) : Does PG 97 nat_guess.A nat_guess.Q (nat_guess.g k) nat_guess.h := (show nat_guess.g k = nat_guess.D.val nat_guess.S k from funext fun _ => by unfold nat_guess.g; rw [nat_guess.f_def]; rfl) ▸ Decl.does (D := nat_guess.D) (S := nat_guess.S) (fn := Go.Proofs.Tryd.f97) ⟨by kernel_rfl, by kernel_rfl, by kernel_rfl, by kernel_rfl, by kernel_rfl, by kernel_rfl, TT.of_ok _ T0ex, by kernel_rfl⟩ (fun k => ⟨told_ok (bits_Div64.does k), ⟨told_ok (nat_beyond.does k), trivial⟩⟩) (fun _ _ h => by rw [h rfl]; rfl) k
def nat_takes.A : AK := .m none .u64 29 (.p (.row .u64) (.p (.int .u64) (.p (.int .i64) .nil)))
def nat_takes.Q : RK := .p (.bool) .nil
def nat_takes.h : (Bool × List Int) → nat_takes.Q.T × List Int := fun b => ((b.1, ()), b.2)
noncomputable def nat_takes.D : Decl (Bool × List Int) := ⟨(Go.Proofs.Tryd.f98.body).getD .skip, 57, [.tmp 8], nat_takes.A, nat_takes.Q, fun y m => (y.1, m), T0, [], [(3, [(0, .m (.num .u64) 29), (1, .p (some (.row .u64))), (2, .p (some (.int .u64))), (3, .p (some (.int .i64))), (9, .p (some (.int .u64))), (10, .p (some (.int .u64))), (11, .p (some (.int .i64)))])], []⟩
noncomputable def nat_takes.S (k : Nat) : List (Nat × E.Spec (Bool × List Int)) := [(43, told _ bits_Mul64.A bits_Mul64.Q (bits_Mul64.g k) bits_Mul64.h), (53, told _ nat_at.A nat_at.Q (nat_at.g k) nat_at.h)]
noncomputable def nat_takes.l3 (k : Nat) (x0 : List Int) (x1 : List Int) (x2 : Int) (x3 : Int) (x9 : Int) (x10 : Int) (x11 : Int) : Option (Bool × List Int) := nat_takes.D.F nat_takes.S k 7 [.m x0, .p (.row .u64 x1), .p (.lit (.int .u64 x2)), .p (.lit (.int .i64 x3)), .p (.lit (.int .u64 x9)), .p (.lit (.int .u64 x10)), .p (.lit (.int .i64 x11))]
noncomputable def nat_takes.f0 (k : Nat) (a0 : List Int) (a1 : List Int) (a2 : Int) (a3 : Int) : Option (Bool × List Int) := nat_takes.D.val nat_takes.S k (a0, a1, a2, a3, ())
noncomputable def nat_takes.f := (still nat_takes.f0).1
theorem nat_takes.f_def : nat_takes.f = nat_takes.f0 := (still nat_takes.f0).2
noncomputable def nat_takes.g (k : Nat) (x : nat_takes.A.T) : Option (Bool × List Int) := nat_takes.f k (x.1) (x.2.1) (x.2.2.1) (x.2.2.2.1)
theorem nat_takes.does (k : Nat) : Does PG 98 nat_takes.A nat_takes.Q (nat_takes.g k) nat_takes.h := (show nat_takes.g k = nat_takes.D.val nat_takes.S k from funext fun _ => by unfold nat_takes.g; rw [nat_takes.f_def]; rfl) ▸ Decl.does (D := nat_takes.D) (S := nat_takes.S) (fn := Go.Proofs.Tryd.f98) ⟨by kernel_rfl, by kernel_rfl, by kernel_rfl, by kernel_rfl, by kernel_rfl, by kernel_rfl, TT.of_ok _ T0ex, by kernel_rfl⟩ (fun k => ⟨told_ok (bits_Mul64.does k), ⟨told_ok (nat_at.does k), trivial⟩⟩) (fun _ _ _ => rfl) k
def nat_gives.A : AK := .m none .u64 29 (.p (.row .u64) (.p (.int .i64) .nil))
def nat_gives.Q : RK := .nil
def nat_gives.h : List Int → nat_gives.Q.T × List Int := fun b => ((()), b)
noncomputable def nat_gives.D : Decl (List Int) := ⟨(Go.Proofs.Tryd.f99.body).getD .skip, 33, [], nat_gives.A, nat_gives.Q, fun y m => m, T0, [], [(2, [(0, .m (.num .u64) 29), (1, .p (some (.row .u64))), (2, .p (some (.int .i64))), (6, .p (some (.int .u64))), (7, .p (some (.int .i64)))])], []⟩
noncomputable def nat_gives.S (k : Nat) : List (Nat × E.Spec (List Int)) := [(53, told _ nat_at.A nat_at.Q (nat_at.g k) nat_at.h)]
noncomputable def nat_gives.l2 (k : Nat) (x0 : List Int) (x1 : List Int) (x2 : Int) (x6 : Int) (x7 : Int) : Option (List Int) := nat_gives.D.F nat_gives.S k 5 [.m x0, .p (.row .u64 x1), .p (.lit (.int .i64 x2)), .p (.lit (.int .u64 x6)), .p (.lit (.int .i64 x7))]
noncomputable def nat_gives.f0 (k : Nat) (a0 : List Int) (a1 : List Int) (a2 : Int) : Option (List Int) := nat_gives.D.val nat_gives.S k (a0, a1, a2, ())
noncomputable def nat_gives.f := (still nat_gives.f0).1
theorem nat_gives.f_def : nat_gives.f = nat_gives.f0 := (still nat_gives.f0).2
noncomputable def nat_gives.g (k : Nat) (x : nat_gives.A.T) : Option (List Int) := nat_gives.f k (x.1) (x.2.1) (x.2.2.1)
theorem nat_gives.does (k : Nat) : Does PG 99 nat_gives.A nat_gives.Q (nat_gives.g k) nat_gives.h := (show nat_gives.g k = nat_gives.D.val nat_gives.S k from funext fun _ => by unfold nat_gives.g; rw [nat_gives.f_def]; rfl) ▸ Decl.does (D := nat_gives.D) (S := nat_gives.S) (fn := Go.Proofs.Tryd.f99) ⟨by kernel_rfl, by kernel_rfl, by kernel_rfl, by kernel_rfl, by kernel_rfl, by kernel_rfl, TT.of_ok _ T0ex, by kernel_rfl⟩ (fun k => ⟨told_ok (nat_at.does k), trivial⟩) (fun _ _ _ => rfl) k
def nat_Shr.A : AK := .p (.row .u64) (.p (.int .i64) .nil)
def nat_Shr.Q : RK := .p (.row .u64) (.p (.int .i64) .nil)
def nat_Shr.h : (List Int × Int) → nat_Shr.Q.T × List Int := fun b => ((b.1, b.2, ()), [])
noncomputable def nat_Shr.D : Decl (List Int × Int) := ⟨(Go.Proofs.Tryd.f100.body).getD .skip, 53, [.tmp 4, .tmp 5], nat_Shr.A, nat_Shr.Q, fun y m => (y.1, y.2.1), T0, [], [(9, [(0, .p (some (.row .u64))), (1, .p (some (.int .i64))), (6, .m (.num .u64) 29), (25, .p (some (.int .i64))), (26, .p (some (.int .i64)))])], [(13, [6])]⟩
noncomputable def nat_Shr.S (k : Nat) : List (Nat × E.Spec (List Int × Int)) := [(51, told _ nat_trim.A nat_trim.Q (nat_trim.g k) nat_trim.h), (53, told _ nat_at.A nat_at.Q (nat_at.g k) nat_at.h)]
noncomputable def nat_Shr.l9 (k : Nat) (x0 : List Int) (x1 : Int) (x6 : List Int) (x25 : Int) (x26 : Int) : Option (List Int × Int) := nat_Shr.D.F nat_Shr.S k 19 [.p (.row .u64 x0), .p (.lit (.int .i64 x1)), .m x6, .p (.lit (.int .i64 x25)), .p (.lit (.int .i64 x26))]
noncomputable def nat_Shr.f0 (k : Nat) (a0 : List Int) (a1 : Int) : Option (List Int × Int) := nat_Shr.D.val nat_Shr.S k (a0, a1, ())
noncomputable def nat_Shr.f := (still nat_Shr.f0).1
theorem nat_Shr.f_def : nat_Shr.f = nat_Shr.f0 := (still nat_Shr.f0).2
noncomputable def nat_Shr.g (k : Nat) (x : nat_Shr.A.T) : Option (List Int × Int) := nat_Shr.f k (x.1) (x.2.1)
theorem nat_Shr.does (k : Nat) : Does PG 100 nat_Shr.A nat_Shr.Q (nat_Shr.g k) nat_Shr.h := (show nat_Shr.g k = nat_Shr.D.val nat_Shr.S k from funext fun _ => by unfold nat_Shr.g; rw [nat_Shr.f_def]; rfl) ▸ Decl.does (D := nat_Shr.D) (S := nat_Shr.S) (fn := Go.Proofs.Tryd.f100) ⟨by kernel_rfl, by kernel_rfl, by kernel_rfl, by kernel_rfl, by kernel_rfl, by kernel_rfl, TT.of_ok _ T0ex, by kernel_rfl⟩ (fun k => ⟨told_ok (nat_trim.does k), ⟨told_ok (nat_at.does k), trivial⟩⟩) (fun _ _ h => by rw [h rfl]; rfl) k
def nat_DivMod.A : AK := .p (.row .u64) (.p (.row .u64) .nil)
def nat_DivMod.Q : RK := .p (.row .u64) (.p (.row .u64) (.p (.int .i64) .nil))
def nat_DivMod.h : (List Int × List Int × Int) → nat_DivMod.Q.T × List Int := fun b => ((b.1, b.2.1, b.2.2, ()), [])
noncomputable def nat_DivMod.D : Decl (List Int × List Int × Int) := ⟨(Go.Proofs.Tryd.f92.body).getD .skip, 138, [.tmp 4, .tmp 5, .tmp 6], nat_DivMod.A, nat_DivMod.Q, fun y m => (y.1, y.2.1, y.2.2.1), T0, [], [(14, [(10, .p (some (.int .u64))), (11, .m (.num .u64) 29), (12, .p (some (.row .u64))), (13, .p (some (.int .i64))), (14, .m (.num .u64) 29), (15, .p (some (.int .i64)))])], [(21, [11]), (22, [14])]⟩
noncomputable def nat_DivMod.S (k : Nat) : List (Nat × E.Spec (List Int × List Int × Int)) := [(34, told _ nat_DivWord.A nat_DivWord.Q (nat_DivWord.g k) nat_DivWord.h), (37, told _ nat_Cmp.A nat_Cmp.Q (nat_Cmp.g k) nat_Cmp.h), (42, told _ nat_Norm.A nat_Norm.Q (nat_Norm.g k) nat_Norm.h), (51, told _ nat_trim.A nat_trim.Q (nat_trim.g k) nat_trim.h), (56, told _ nat_shifted.A nat_shifted.Q (nat_shifted.g k) nat_shifted.h), (70, told _ bits_LeadingZeros64.A bits_LeadingZeros64.Q (bits_LeadingZeros64.g k) bits_LeadingZeros64.h), (97, told _ nat_guess.A nat_guess.Q (nat_guess.g k) nat_guess.h), (98, told _ nat_takes.A nat_takes.Q (nat_takes.g k) nat_takes.h), (99, told _ nat_gives.A nat_gives.Q (nat_gives.g k) nat_gives.h), (100, told _ nat_Shr.A nat_Shr.Q (nat_Shr.g k) nat_Shr.h)]
noncomputable def nat_DivMod.l14 (k : Nat) (x10 : Int) (x11 : List Int) (x12 : List Int) (x13 : Int) (x14 : List Int) (x15 : Int) : Option (List Int × List Int × Int) := nat_DivMod.D.F nat_DivMod.S k 29 [.p (.lit (.int .u64 x10)), .m x11, .p (.row .u64 x12), .p (.lit (.int .i64 x13)), .m x14, .p (.lit (.int .i64 x15))]
noncomputable def nat_DivMod.f0 (k : Nat) (a0 : List Int) (a1 : List Int) : Option (List Int × List Int × Int) := nat_DivMod.D.val nat_DivMod.S k (a0, a1, ())
noncomputable def nat_DivMod.f := (still nat_DivMod.f0).1
theorem nat_DivMod.f_def : nat_DivMod.f = nat_DivMod.f0 := (still nat_DivMod.f0).2
noncomputable def nat_DivMod.g (k : Nat) (x : nat_DivMod.A.T) : Option (List Int × List Int × Int) := nat_DivMod.f k (x.1) (x.2.1)
theorem nat_DivMod.does (k : Nat) : Does PG 92 nat_DivMod.A nat_DivMod.Q (nat_DivMod.g k) nat_DivMod.h := (show nat_DivMod.g k = nat_DivMod.D.val nat_DivMod.S k from funext fun _ => by unfold nat_DivMod.g; rw [nat_DivMod.f_def]; rfl) ▸ Decl.does (D := nat_DivMod.D) (S := nat_DivMod.S) (fn := Go.Proofs.Tryd.f92) ⟨by kernel_rfl, by kernel_rfl, by kernel_rfl, by kernel_rfl, by kernel_rfl, by kernel_rfl, TT.of_ok _ T0ex, by kernel_rfl⟩ (fun k => ⟨told_ok (nat_DivWord.does k), ⟨told_ok (nat_Cmp.does k), ⟨told_ok (nat_Norm.does k), ⟨told_ok (nat_trim.does k), ⟨told_ok (nat_shifted.does k), ⟨told_ok (bits_LeadingZeros64.does k), ⟨told_ok (nat_guess.does k), ⟨told_ok (nat_takes.does k), ⟨told_ok (nat_gives.does k), ⟨told_ok (nat_Shr.does k), trivial⟩⟩⟩⟩⟩⟩⟩⟩⟩⟩) (fun _ _ h => by rw [h rfl]; rfl) k
def bigint_Int_QuoRem.A : AK := .p (.agg (.cons (.bool) (.cons (.row .u64) .nil))) (.p (.agg (.cons (.bool) (.cons (.row .u64) .nil))) .nil)
def bigint_Int_QuoRem.Q : RK := .p (.agg (.cons (.bool) (.cons (.row .u64) .nil))) (.p (.agg (.cons (.bool) (.cons (.row .u64) .nil))) (.p (.int .i64) .nil))
def bigint_Int_QuoRem.h : (Bool × List Int × Bool × List Int × Int) → bigint_Int_QuoRem.Q.T × List Int := fun b => (((b.1, b.2.1, ()), (b.2.2.1, b.2.2.2.1, ()), b.2.2.2.2, ()), [])
noncomputable def bigint_Int_QuoRem.D : Decl (Bool × List Int × Bool × List Int × Int) := ⟨(Go.Proofs.Tryd.f80.body).getD .skip, 35, [.cell 4 44, .cell 5 44, .tmp 6], bigint_Int_QuoRem.A, bigint_Int_QuoRem.Q, fun y m => (y.1.1, y.1.2.1, y.2.1.1, y.2.1.2.1, y.2.2.1), T0, [], [], []⟩
noncomputable def bigint_Int_QuoRem.S (k : Nat) : List (Nat × E.Spec (Bool × List Int × Bool × List Int × Int)) := [(35, told _ bigint_made.A bigint_made.Q (bigint_made.g k) bigint_made.h), (92, told _ nat_DivMod.A nat_DivMod.Q (nat_DivMod.g k) nat_DivMod.h)]
noncomputable def bigint_Int_QuoRem.f0 (k : Nat) (a0_0 : Bool) (a0_1 : List Int) (a1_0 : Bool) (a1_1 : List Int) : Option (Bool × List Int × Bool × List Int × Int) := bigint_Int_QuoRem.D.val bigint_Int_QuoRem.S k ((a0_0, a0_1, ()), (a1_0, a1_1, ()), ())
noncomputable def bigint_Int_QuoRem.f := (still bigint_Int_QuoRem.f0).1
theorem bigint_Int_QuoRem.f_def : bigint_Int_QuoRem.f = bigint_Int_QuoRem.f0 := (still bigint_Int_QuoRem.f0).2
noncomputable def bigint_Int_QuoRem.g (k : Nat) (x : bigint_Int_QuoRem.A.T) : Option (Bool × List Int × Bool × List Int × Int) := bigint_Int_QuoRem.f k (x.1.1) (x.1.2.1) (x.2.1.1) (x.2.1.2.1)
theorem bigint_Int_QuoRem.does (k : Nat) : Does PG 80 bigint_Int_QuoRem.A bigint_Int_QuoRem.Q (bigint_Int_QuoRem.g k) bigint_Int_QuoRem.h := (show bigint_Int_QuoRem.g k = bigint_Int_QuoRem.D.val bigint_Int_QuoRem.S k from funext fun _ => by unfold bigint_Int_QuoRem.g; rw [bigint_Int_QuoRem.f_def]; rfl) ▸ Decl.does (D := bigint_Int_QuoRem.D) (S := bigint_Int_QuoRem.S) (fn := Go.Proofs.Tryd.f80) ⟨by kernel_rfl, by kernel_rfl, by kernel_rfl, by kernel_rfl, by kernel_rfl, by kernel_rfl, TT.of_ok _ T0ex, by kernel_rfl⟩ (fun k => ⟨told_ok (bigint_made.does k), ⟨told_ok (nat_DivMod.does k), trivial⟩⟩) (fun _ _ h => by rw [h rfl]; rfl) k
def bigint_Int_Neg.A : AK := .p (.agg (.cons (.bool) (.cons (.row .u64) .nil))) .nil
def bigint_Int_Neg.Q : RK := .p (.agg (.cons (.bool) (.cons (.row .u64) .nil))) .nil
def bigint_Int_Neg.h : (Bool × List Int) → bigint_Int_Neg.Q.T × List Int := fun b => (((b.1, b.2, ()), ()), [])
noncomputable def bigint_Int_Neg.D : Decl (Bool × List Int) := ⟨(Go.Proofs.Tryd.f93.body).getD .skip, 9, [.cell 2 44], bigint_Int_Neg.A, bigint_Int_Neg.Q, fun y m => (y.1.1, y.1.2.1), T0, [], [], []⟩
noncomputable def bigint_Int_Neg.S (k : Nat) : List (Nat × E.Spec (Bool × List Int)) := [(35, told _ bigint_made.A bigint_made.Q (bigint_made.g k) bigint_made.h)]
noncomputable def bigint_Int_Neg.f0 (k : Nat) (a0_0 : Bool) (a0_1 : List Int) : Option (Bool × List Int) := bigint_Int_Neg.D.val bigint_Int_Neg.S k ((a0_0, a0_1, ()), ())
noncomputable def bigint_Int_Neg.f := (still bigint_Int_Neg.f0).1
theorem bigint_Int_Neg.f_def : bigint_Int_Neg.f = bigint_Int_Neg.f0 := (still bigint_Int_Neg.f0).2
noncomputable def bigint_Int_Neg.g (k : Nat) (x : bigint_Int_Neg.A.T) : Option (Bool × List Int) := bigint_Int_Neg.f k (x.1.1) (x.1.2.1)
theorem bigint_Int_Neg.does (k : Nat) : Does PG 93 bigint_Int_Neg.A bigint_Int_Neg.Q (bigint_Int_Neg.g k) bigint_Int_Neg.h := (show bigint_Int_Neg.g k = bigint_Int_Neg.D.val bigint_Int_Neg.S k from funext fun _ => by unfold bigint_Int_Neg.g; rw [bigint_Int_Neg.f_def]; rfl) ▸ Decl.does (D := bigint_Int_Neg.D) (S := bigint_Int_Neg.S) (fn := Go.Proofs.Tryd.f93) ⟨by kernel_rfl, by kernel_rfl, by kernel_rfl, by kernel_rfl, by kernel_rfl, by kernel_rfl, TT.of_ok _ T0ex, by kernel_rfl⟩ (fun k => ⟨told_ok (bigint_made.does k), trivial⟩) (fun _ _ h => by rw [h rfl]; rfl) k
def bigint_Int_Sub.A : AK := .p (.agg (.cons (.bool) (.cons (.row .u64) .nil))) (.p (.agg (.cons (.bool) (.cons (.row .u64) .nil))) .nil)
def bigint_Int_Sub.Q : RK := .p (.agg (.cons (.bool) (.cons (.row .u64) .nil))) .nil
def bigint_Int_Sub.h : (Bool × List Int) → bigint_Int_Sub.Q.T × List Int := fun b => (((b.1, b.2, ()), ()), [])
noncomputable def bigint_Int_Sub.D : Decl (Bool × List Int) := ⟨(Go.Proofs.Tryd.f81.body).getD .skip, 9, [.cell 4 44], bigint_Int_Sub.A, bigint_Int_Sub.Q, fun y m => (y.1.1, y.1.2.1), T0, [], [], []⟩
noncomputable def bigint_Int_Sub.S (k : Nat) : List (Nat × E.Spec (Bool × List Int)) := [(26, told _ bigint_Int_Add.A bigint_Int_Add.Q (bigint_Int_Add.g k) bigint_Int_Add.h), (93, told _ bigint_Int_Neg.A bigint_Int_Neg.Q (bigint_Int_Neg.g k) bigint_Int_Neg.h)]
noncomputable def bigint_Int_Sub.f0 (k : Nat) (a0_0 : Bool) (a0_1 : List Int) (a1_0 : Bool) (a1_1 : List Int) : Option (Bool × List Int) := bigint_Int_Sub.D.val bigint_Int_Sub.S k ((a0_0, a0_1, ()), (a1_0, a1_1, ()), ())
noncomputable def bigint_Int_Sub.f := (still bigint_Int_Sub.f0).1
theorem bigint_Int_Sub.f_def : bigint_Int_Sub.f = bigint_Int_Sub.f0 := (still bigint_Int_Sub.f0).2
noncomputable def bigint_Int_Sub.g (k : Nat) (x : bigint_Int_Sub.A.T) : Option (Bool × List Int) := bigint_Int_Sub.f k (x.1.1) (x.1.2.1) (x.2.1.1) (x.2.1.2.1)
theorem bigint_Int_Sub.does (k : Nat) : Does PG 81 bigint_Int_Sub.A bigint_Int_Sub.Q (bigint_Int_Sub.g k) bigint_Int_Sub.h := (show bigint_Int_Sub.g k = bigint_Int_Sub.D.val bigint_Int_Sub.S k from funext fun _ => by unfold bigint_Int_Sub.g; rw [bigint_Int_Sub.f_def]; rfl) ▸ Decl.does (D := bigint_Int_Sub.D) (S := bigint_Int_Sub.S) (fn := Go.Proofs.Tryd.f81) ⟨by kernel_rfl, by kernel_rfl, by kernel_rfl, by kernel_rfl, by kernel_rfl, by kernel_rfl, TT.of_ok _ T0ex, by kernel_rfl⟩ (fun k => ⟨told_ok (bigint_Int_Add.does k), ⟨told_ok (bigint_Int_Neg.does k), trivial⟩⟩) (fun _ _ h => by rw [h rfl]; rfl) k
def bigint_Int_DivMod.A : AK := .p (.agg (.cons (.bool) (.cons (.row .u64) .nil))) (.p (.agg (.cons (.bool) (.cons (.row .u64) .nil))) .nil)
def bigint_Int_DivMod.Q : RK := .p (.agg (.cons (.bool) (.cons (.row .u64) .nil))) (.p (.agg (.cons (.bool) (.cons (.row .u64) .nil))) (.p (.int .i64) .nil))
def bigint_Int_DivMod.h : (Bool × List Int × Bool × List Int × Int) → bigint_Int_DivMod.Q.T × List Int := fun b => (((b.1, b.2.1, ()), (b.2.2.1, b.2.2.2.1, ()), b.2.2.2.2, ()), [])
noncomputable def bigint_Int_DivMod.D : Decl (Bool × List Int × Bool × List Int × Int) := ⟨(Go.Proofs.Tryd.f65.body).getD .skip, 32, [.cell 4 44, .cell 5 44, .tmp 6], bigint_Int_DivMod.A, bigint_Int_DivMod.Q, fun y m => (y.1.1, y.1.2.1, y.2.1.1, y.2.1.2.1, y.2.2.1), T0, [], [], []⟩
noncomputable def bigint_Int_DivMod.S (k : Nat) : List (Nat × E.Spec (Bool × List Int × Bool × List Int × Int)) := [(26, told _ bigint_Int_Add.A bigint_Int_Add.Q (bigint_Int_Add.g k) bigint_Int_Add.h), (48, told _ bigint_Of.A bigint_Of.Q (bigint_Of.g k) bigint_Of.h), (64, told _ bigint_Int_Sign.A bigint_Int_Sign.Q (bigint_Int_Sign.g k) bigint_Int_Sign.h), (80, told _ bigint_Int_QuoRem.A bigint_Int_QuoRem.Q (bigint_Int_QuoRem.g k) bigint_Int_QuoRem.h), (81, told _ bigint_Int_Sub.A bigint_Int_Sub.Q (bigint_Int_Sub.g k) bigint_Int_Sub.h)]
noncomputable def bigint_Int_DivMod.f0 (k : Nat) (a0_0 : Bool) (a0_1 : List Int) (a1_0 : Bool) (a1_1 : List Int) : Option (Bool × List Int × Bool × List Int × Int) := bigint_Int_DivMod.D.val bigint_Int_DivMod.S k ((a0_0, a0_1, ()), (a1_0, a1_1, ()), ())
noncomputable def bigint_Int_DivMod.f := (still bigint_Int_DivMod.f0).1
theorem bigint_Int_DivMod.f_def : bigint_Int_DivMod.f = bigint_Int_DivMod.f0 := (still bigint_Int_DivMod.f0).2
noncomputable def bigint_Int_DivMod.g (k : Nat) (x : bigint_Int_DivMod.A.T) : Option (Bool × List Int × Bool × List Int × Int) := bigint_Int_DivMod.f k (x.1.1) (x.1.2.1) (x.2.1.1) (x.2.1.2.1)
theorem bigint_Int_DivMod.does (k : Nat) : Does PG 65 bigint_Int_DivMod.A bigint_Int_DivMod.Q (bigint_Int_DivMod.g k) bigint_Int_DivMod.h := (show bigint_Int_DivMod.g k = bigint_Int_DivMod.D.val bigint_Int_DivMod.S k from funext fun _ => by unfold bigint_Int_DivMod.g; rw [bigint_Int_DivMod.f_def]; rfl) ▸ Decl.does (D := bigint_Int_DivMod.D) (S := bigint_Int_DivMod.S) (fn := Go.Proofs.Tryd.f65) ⟨by kernel_rfl, by kernel_rfl, by kernel_rfl, by kernel_rfl, by kernel_rfl, by kernel_rfl, TT.of_ok _ T0ex, by kernel_rfl⟩ (fun k => ⟨told_ok (bigint_Int_Add.does k), ⟨told_ok (bigint_Of.does k), ⟨told_ok (bigint_Int_Sign.does k), ⟨told_ok (bigint_Int_QuoRem.does k), ⟨told_ok (bigint_Int_Sub.does k), trivial⟩⟩⟩⟩⟩) (fun _ _ h => by rw [h rfl]; rfl) k
def nat_into.A : AK := .m none .u64 29 (.p (.row .u64) (.p (.int .u64) (.p (.int .i64) .nil)))
def nat_into.Q : RK := .nil
def nat_into.h : List Int → nat_into.Q.T × List Int := fun b => ((()), b)
noncomputable def nat_into.D : Decl (List Int) := ⟨(Go.Proofs.Tryd.f94.body).getD .skip, 77, [], nat_into.A, nat_into.Q, fun y m => m, T0, [], [(12, [(0, .m (.num .u64) 29), (8, .p (some (.int .u64))), (14, .p (some (.int .i64)))]), (2, [(0, .m (.num .u64) 29), (1, .p (some (.row .u64))), (2, .p (some (.int .u64))), (3, .p (some (.int .i64))), (8, .p (some (.int .u64))), (15, .p (some (.row .u64))), (16, .p (some (.int .i64))), (17, .p (some (.int .i64)))])], []⟩
noncomputable def nat_into.S (k : Nat) : List (Nat × E.Spec (List Int)) := [(43, told _ bits_Mul64.A bits_Mul64.Q (bits_Mul64.g k) bits_Mul64.h)]
noncomputable def nat_into.l12 (k : Nat) (x0 : List Int) (x8 : Int) (x14 : Int) : Option (List Int) := nat_into.D.F nat_into.S k 25 [.m x0, .p (.lit (.int .u64 x8)), .p (.lit (.int .i64 x14))]
noncomputable def nat_into.l2 (k : Nat) (x0 : List Int) (x1 : List Int) (x2 : Int) (x3 : Int) (x8 : Int) (x15 : List Int) (x16 : Int) (x17 : Int) : Option (List Int) := nat_into.D.F nat_into.S k 5 [.m x0, .p (.row .u64 x1), .p (.lit (.int .u64 x2)), .p (.lit (.int .i64 x3)), .p (.lit (.int .u64 x8)), .p (.row .u64 x15), .p (.lit (.int .i64 x16)), .p (.lit (.int .i64 x17))]
noncomputable def nat_into.f0 (k : Nat) (a0 : List Int) (a1 : List Int) (a2 : Int) (a3 : Int) : Option (List Int) := nat_into.D.val nat_into.S k (a0, a1, a2, a3, ())
noncomputable def nat_into.f := (still nat_into.f0).1
theorem nat_into.f_def : nat_into.f = nat_into.f0 := (still nat_into.f0).2
noncomputable def nat_into.g (k : Nat) (x : nat_into.A.T) : Option (List Int) := nat_into.f k (x.1) (x.2.1) (x.2.2.1) (x.2.2.2.1)
theorem nat_into.does (k : Nat) : Does PG 94 nat_into.A nat_into.Q (nat_into.g k) nat_into.h := (show nat_into.g k = nat_into.D.val nat_into.S k from funext fun _ => by unfold nat_into.g; rw [nat_into.f_def]; rfl) ▸ Decl.does (D := nat_into.D) (S := nat_into.S) (fn := Go.Proofs.Tryd.f94) ⟨by kernel_rfl, by kernel_rfl, by kernel_rfl, by kernel_rfl, by kernel_rfl, by kernel_rfl, TT.of_ok _ T0ex, by kernel_rfl⟩ (fun k => ⟨told_ok (bits_Mul64.does k), trivial⟩) (fun _ _ _ => rfl) k
def nat_Mul.A : AK := .p (.row .u64) (.p (.row .u64) .nil)
def nat_Mul.Q : RK := .p (.row .u64) .nil
def nat_Mul.h : List Int → nat_Mul.Q.T × List Int := fun b => ((b, ()), [])
noncomputable def nat_Mul.D : Decl (List Int) := ⟨(Go.Proofs.Tryd.f82.body).getD .skip, 34, [.tmp 4], nat_Mul.A, nat_Mul.Q, fun y m => y.1, T0, [], [(4, [(0, .p (some (.row .u64))), (5, .m (.num .u64) 29), (19, .p (some (.row .u64))), (20, .p (some (.int .i64))), (21, .p (some (.int .i64)))])], [(8, [5])]⟩
noncomputable def nat_Mul.S (k : Nat) : List (Nat × E.Spec (List Int)) := [(51, told _ nat_trim.A nat_trim.Q (nat_trim.g k) nat_trim.h), (94, told _ nat_into.A nat_into.Q (nat_into.g k) nat_into.h)]
noncomputable def nat_Mul.l4 (k : Nat) (x0 : List Int) (x5 : List Int) (x19 : List Int) (x20 : Int) (x21 : Int) : Option (List Int) := nat_Mul.D.F nat_Mul.S k 9 [.p (.row .u64 x0), .m x5, .p (.row .u64 x19), .p (.lit (.int .i64 x20)), .p (.lit (.int .i64 x21))]
noncomputable def nat_Mul.f0 (k : Nat) (a0 : List Int) (a1 : List Int) : Option (List Int) := nat_Mul.D.val nat_Mul.S k (a0, a1, ())
noncomputable def nat_Mul.f := (still nat_Mul.f0).1
theorem nat_Mul.f_def : nat_Mul.f = nat_Mul.f0 := (still nat_Mul.f0).2
noncomputable def nat_Mul.g (k : Nat) (x : nat_Mul.A.T) : Option (List Int) := nat_Mul.f k (x.1) (x.2.1)
theorem nat_Mul.does (k : Nat) : Does PG 82 nat_Mul.A nat_Mul.Q (nat_Mul.g k) nat_Mul.h := (show nat_Mul.g k = nat_Mul.D.val nat_Mul.S k from funext fun _ => by unfold nat_Mul.g; rw [nat_Mul.f_def]; rfl) ▸ Decl.does (D := nat_Mul.D) (S := nat_Mul.S) (fn := Go.Proofs.Tryd.f82) ⟨by kernel_rfl, by kernel_rfl, by kernel_rfl, by kernel_rfl, by kernel_rfl, by kernel_rfl, TT.of_ok _ T0ex, by kernel_rfl⟩ (fun k => ⟨told_ok (nat_trim.does k), ⟨told_ok (nat_into.does k), trivial⟩⟩) (fun _ _ h => by rw [h rfl]; rfl) k
def bigint_Int_Mul.A : AK := .p (.agg (.cons (.bool) (.cons (.row .u64) .nil))) (.p (.agg (.cons (.bool) (.cons (.row .u64) .nil))) .nil)
def bigint_Int_Mul.Q : RK := .p (.agg (.cons (.bool) (.cons (.row .u64) .nil))) .nil
def bigint_Int_Mul.h : (Bool × List Int) → bigint_Int_Mul.Q.T × List Int := fun b => (((b.1, b.2, ()), ()), [])
noncomputable def bigint_Int_Mul.D : Decl (Bool × List Int) := ⟨(Go.Proofs.Tryd.f68.body).getD .skip, 16, [.cell 4 44], bigint_Int_Mul.A, bigint_Int_Mul.Q, fun y m => (y.1.1, y.1.2.1), T0, [], [], []⟩
noncomputable def bigint_Int_Mul.S (k : Nat) : List (Nat × E.Spec (Bool × List Int)) := [(35, told _ bigint_made.A bigint_made.Q (bigint_made.g k) bigint_made.h), (82, told _ nat_Mul.A nat_Mul.Q (nat_Mul.g k) nat_Mul.h)]
noncomputable def bigint_Int_Mul.f0 (k : Nat) (a0_0 : Bool) (a0_1 : List Int) (a1_0 : Bool) (a1_1 : List Int) : Option (Bool × List Int) := bigint_Int_Mul.D.val bigint_Int_Mul.S k ((a0_0, a0_1, ()), (a1_0, a1_1, ()), ())
noncomputable def bigint_Int_Mul.f := (still bigint_Int_Mul.f0).1
theorem bigint_Int_Mul.f_def : bigint_Int_Mul.f = bigint_Int_Mul.f0 := (still bigint_Int_Mul.f0).2
noncomputable def bigint_Int_Mul.g (k : Nat) (x : bigint_Int_Mul.A.T) : Option (Bool × List Int) := bigint_Int_Mul.f k (x.1.1) (x.1.2.1) (x.2.1.1) (x.2.1.2.1)
theorem bigint_Int_Mul.does (k : Nat) : Does PG 68 bigint_Int_Mul.A bigint_Int_Mul.Q (bigint_Int_Mul.g k) bigint_Int_Mul.h := (show bigint_Int_Mul.g k = bigint_Int_Mul.D.val bigint_Int_Mul.S k from funext fun _ => by unfold bigint_Int_Mul.g; rw [bigint_Int_Mul.f_def]; rfl) ▸ Decl.does (D := bigint_Int_Mul.D) (S := bigint_Int_Mul.S) (fn := Go.Proofs.Tryd.f68) ⟨by kernel_rfl, by kernel_rfl, by kernel_rfl, by kernel_rfl, by kernel_rfl, by kernel_rfl, TT.of_ok _ T0ex, by kernel_rfl⟩ (fun k => ⟨told_ok (bigint_made.does k), ⟨told_ok (nat_Mul.does k), trivial⟩⟩) (fun _ _ h => by rw [h rfl]; rfl) k
def bigint_From.A : AK := .p (.bool) (.p (.row .u64) .nil)
def bigint_From.Q : RK := .p (.agg (.cons (.bool) (.cons (.row .u64) .nil))) .nil
def bigint_From.h : (Bool × List Int) → bigint_From.Q.T × List Int := fun b => (((b.1, b.2, ()), ()), [])
noncomputable def bigint_From.D : Decl (Bool × List Int) := ⟨(Go.Proofs.Tryd.f41.body).getD .skip, 9, [.cell 4 44], bigint_From.A, bigint_From.Q, fun y m => (y.1.1, y.1.2.1), T0, [], [], []⟩
noncomputable def bigint_From.S (k : Nat) : List (Nat × E.Spec (Bool × List Int)) := [(35, told _ bigint_made.A bigint_made.Q (bigint_made.g k) bigint_made.h), (42, told _ nat_Norm.A nat_Norm.Q (nat_Norm.g k) nat_Norm.h)]
noncomputable def bigint_From.f0 (k : Nat) (a0 : Bool) (a1 : List Int) : Option (Bool × List Int) := bigint_From.D.val bigint_From.S k (a0, a1, ())
noncomputable def bigint_From.f := (still bigint_From.f0).1
theorem bigint_From.f_def : bigint_From.f = bigint_From.f0 := (still bigint_From.f0).2
noncomputable def bigint_From.g (k : Nat) (x : bigint_From.A.T) : Option (Bool × List Int) := bigint_From.f k (x.1) (x.2.1)
theorem bigint_From.does (k : Nat) : Does PG 41 bigint_From.A bigint_From.Q (bigint_From.g k) bigint_From.h := (show bigint_From.g k = bigint_From.D.val bigint_From.S k from funext fun _ => by unfold bigint_From.g; rw [bigint_From.f_def]; rfl) ▸ Decl.does (D := bigint_From.D) (S := bigint_From.S) (fn := Go.Proofs.Tryd.f41) ⟨by kernel_rfl, by kernel_rfl, by kernel_rfl, by kernel_rfl, by kernel_rfl, by kernel_rfl, TT.of_ok _ T0ex, by kernel_rfl⟩ (fun k => ⟨told_ok (bigint_made.does k), ⟨told_ok (nat_Norm.does k), trivial⟩⟩) (fun _ _ h => by rw [h rfl]; rfl) k
def crt_of.A : AK := .p (.int .u64) .nil
def crt_of.Q : RK := .p (.agg (.cons (.bool) (.cons (.row .u64) .nil))) .nil
def crt_of.h : (Bool × List Int) → crt_of.Q.T × List Int := fun b => (((b.1, b.2, ()), ()), [])
noncomputable def crt_of.D : Decl (Bool × List Int) := ⟨(Go.Proofs.Tryd.f69.body).getD .skip, 6, [.cell 2 44], crt_of.A, crt_of.Q, fun y m => (y.1.1, y.1.2.1), T0, [], [], []⟩
noncomputable def crt_of.S (k : Nat) : List (Nat × E.Spec (Bool × List Int)) := [(41, told _ bigint_From.A bigint_From.Q (bigint_From.g k) bigint_From.h)]
noncomputable def crt_of.f0 (k : Nat) (a0 : Int) : Option (Bool × List Int) := crt_of.D.val crt_of.S k (a0, ())
noncomputable def crt_of.f := (still crt_of.f0).1
theorem crt_of.f_def : crt_of.f = crt_of.f0 := (still crt_of.f0).2
noncomputable def crt_of.g (k : Nat) (x : crt_of.A.T) : Option (Bool × List Int) := crt_of.f k (x.1)
theorem crt_of.does (k : Nat) : Does PG 69 crt_of.A crt_of.Q (crt_of.g k) crt_of.h := (show crt_of.g k = crt_of.D.val crt_of.S k from funext fun _ => by unfold crt_of.g; rw [crt_of.f_def]; rfl) ▸ Decl.does (D := crt_of.D) (S := crt_of.S) (fn := Go.Proofs.Tryd.f69) ⟨by kernel_rfl, by kernel_rfl, by kernel_rfl, by kernel_rfl, by kernel_rfl, by kernel_rfl, TT.of_ok _ T0ex, by kernel_rfl⟩ (fun k => ⟨told_ok (bigint_From.does k), trivial⟩) (fun _ _ h => by rw [h rfl]; rfl) k
def crt_Step.A : AK := .p (.agg (.cons (.bool) (.cons (.row .u64) .nil))) (.p (.agg (.cons (.bool) (.cons (.row .u64) .nil))) (.p (.int .u64) (.p (.int .u64) .nil)))
def crt_Step.Q : RK := .p (.agg (.cons (.bool) (.cons (.row .u64) .nil))) (.p (.agg (.cons (.bool) (.cons (.row .u64) .nil))) (.p (.int .i64) .nil))
def crt_Step.h : (Bool × List Int × Bool × List Int × Int) → crt_Step.Q.T × List Int := fun b => (((b.1, b.2.1, ()), (b.2.2.1, b.2.2.2.1, ()), b.2.2.2.2, ()), [])
noncomputable def crt_Step.D : Decl (Bool × List Int × Bool × List Int × Int) := ⟨(Go.Proofs.Tryd.f49.body).getD .skip, 85, [.cell 8 44, .cell 9 44, .tmp 10], crt_Step.A, crt_Step.Q, fun y m => (y.1.1, y.1.2.1, y.2.1.1, y.2.1.2.1, y.2.2.1), T0, [], [], []⟩
noncomputable def crt_Step.S (k : Nat) : List (Nat × E.Spec (Bool × List Int × Bool × List Int × Int)) := [(19, told _ word_New.A word_New.Q (word_New.g k) word_New.h), (23, told _ bigint_Int_Mod.A bigint_Int_Mod.Q (bigint_Int_Mod.g k) bigint_Int_Mod.h), (26, told _ bigint_Int_Add.A bigint_Int_Add.Q (bigint_Int_Add.g k) bigint_Int_Add.h), (30, told _ word_Field_Mul.A word_Field_Mul.Q (word_Field_Mul.g k) word_Field_Mul.h), (63, told _ crt_may.A crt_may.Q (crt_may.g k) crt_may.h), (64, told _ bigint_Int_Sign.A bigint_Int_Sign.Q (bigint_Int_Sign.g k) bigint_Int_Sign.h), (65, told _ bigint_Int_DivMod.A bigint_Int_DivMod.Q (bigint_Int_DivMod.g k) bigint_Int_DivMod.h), (66, told _ word_Field_Inv.A word_Field_Inv.Q (word_Field_Inv.g k) word_Field_Inv.h), (67, told _ word_Field_Sub.A word_Field_Sub.Q (word_Field_Sub.g k) word_Field_Sub.h), (68, told _ bigint_Int_Mul.A bigint_Int_Mul.Q (bigint_Int_Mul.g k) bigint_Int_Mul.h), (69, told _ crt_of.A crt_of.Q (crt_of.g k) crt_of.h)]
noncomputable def crt_Step.f0 (k : Nat) (a0_0 : Bool) (a0_1 : List Int) (a1_0 : Bool) (a1_1 : List Int) (a2 : Int) (a3 : Int) : Option (Bool × List Int × Bool × List Int × Int) := crt_Step.D.val crt_Step.S k ((a0_0, a0_1, ()), (a1_0, a1_1, ()), a2, a3, ())
noncomputable def crt_Step.f := (still crt_Step.f0).1
theorem crt_Step.f_def : crt_Step.f = crt_Step.f0 := (still crt_Step.f0).2
noncomputable def crt_Step.g (k : Nat) (x : crt_Step.A.T) : Option (Bool × List Int × Bool × List Int × Int) := crt_Step.f k (x.1.1) (x.1.2.1) (x.2.1.1) (x.2.1.2.1) (x.2.2.1) (x.2.2.2.1)
theorem crt_Step.does (k : Nat) : Does PG 49 crt_Step.A crt_Step.Q (crt_Step.g k) crt_Step.h := (show crt_Step.g k = crt_Step.D.val crt_Step.S k from funext fun _ => by unfold crt_Step.g; rw [crt_Step.f_def]; rfl) ▸ Decl.does (D := crt_Step.D) (S := crt_Step.S) (fn := Go.Proofs.Tryd.f49) ⟨by kernel_rfl, by kernel_rfl, by kernel_rfl, by kernel_rfl, by kernel_rfl, by kernel_rfl, TT.of_ok _ T0ex, by kernel_rfl⟩ (fun k => ⟨told_ok (word_New.does k), ⟨told_ok (bigint_Int_Mod.does k), ⟨told_ok (bigint_Int_Add.does k), ⟨told_ok (word_Field_Mul.does k), ⟨told_ok (crt_may.does k), ⟨told_ok (bigint_Int_Sign.does k), ⟨told_ok (bigint_Int_DivMod.does k), ⟨told_ok (word_Field_Inv.does k), ⟨told_ok (word_Field_Sub.does k), ⟨told_ok (bigint_Int_Mul.does k), ⟨told_ok (crt_of.does k), trivial⟩⟩⟩⟩⟩⟩⟩⟩⟩⟩⟩) (fun _ _ h => by rw [h rfl]; rfl) k
def crt_Lift.A : AK := .p (.row .u64) (.p (.row .u64) .nil)
def crt_Lift.Q : RK := .p (.agg (.cons (.bool) (.cons (.row .u64) .nil))) (.p (.agg (.cons (.bool) (.cons (.row .u64) .nil))) (.p (.int .i64) .nil))
def crt_Lift.h : (Bool × List Int × Bool × List Int × Int) → crt_Lift.Q.T × List Int := fun b => (((b.1, b.2.1, ()), (b.2.2.1, b.2.2.2.1, ()), b.2.2.2.2, ()), [])
noncomputable def crt_Lift.D : Decl (Bool × List Int × Bool × List Int × Int) := ⟨(Go.Proofs.Tryd.f32.body).getD .skip, 50, [.cell 4 44, .cell 5 44, .tmp 6], crt_Lift.A, crt_Lift.Q, fun y m => (y.1.1, y.1.2.1, y.2.1.1, y.2.1.2.1, y.2.2.1), T0, [], [(1000, [(0, .p (some (.row .u64))), (1, .p (some (.row .u64))), (4, .b (some (.cons (.bool) (.cons (.row .u64) .nil)))), (5, .b (some (.cons (.bool) (.cons (.row .u64) .nil)))), (8, .b (some (.cons (.bool) (.cons (.row .u64) .nil)))), (9, .b (some (.cons (.bool) (.cons (.row .u64) .nil)))), (11, .p (some (.int .i64)))])], []⟩
noncomputable def crt_Lift.S (k : Nat) : List (Nat × E.Spec (Bool × List Int × Bool × List Int × Int)) := [(47, told _ crt_wrong.A crt_wrong.Q (crt_wrong.g k) crt_wrong.h), (48, told _ bigint_Of.A bigint_Of.Q (bigint_Of.g k) bigint_Of.h), (49, told _ crt_Step.A crt_Step.Q (crt_Step.g k) crt_Step.h)]
noncomputable def crt_Lift.l1000 (k : Nat) (x0 : List Int) (x1 : List Int) (x4_0 : Bool) (x4_1 : List Int) (x5_0 : Bool) (x5_1 : List Int) (x8_0 : Bool) (x8_1 : List Int) (x9_0 : Bool) (x9_1 : List Int) (x11 : Int) : Option (Bool × List Int × Bool × List Int × Int) := crt_Lift.D.F crt_Lift.S k 2001 [.p (.row .u64 x0), .p (.row .u64 x1), .b 44 [.lit (.bool x4_0), .row .u64 x4_1], .b 44 [.lit (.bool x5_0), .row .u64 x5_1], .b 44 [.lit (.bool x8_0), .row .u64 x8_1], .b 44 [.lit (.bool x9_0), .row .u64 x9_1], .p (.lit (.int .i64 x11))]
noncomputable def crt_Lift.f0 (k : Nat) (a0 : List Int) (a1 : List Int) : Option (Bool × List Int × Bool × List Int × Int) := crt_Lift.D.val crt_Lift.S k (a0, a1, ())
noncomputable def crt_Lift.f := (still crt_Lift.f0).1
theorem crt_Lift.f_def : crt_Lift.f = crt_Lift.f0 := (still crt_Lift.f0).2
noncomputable def crt_Lift.g (k : Nat) (x : crt_Lift.A.T) : Option (Bool × List Int × Bool × List Int × Int) := crt_Lift.f k (x.1) (x.2.1)
theorem crt_Lift.does (k : Nat) : Does PG 32 crt_Lift.A crt_Lift.Q (crt_Lift.g k) crt_Lift.h := (show crt_Lift.g k = crt_Lift.D.val crt_Lift.S k from funext fun _ => by unfold crt_Lift.g; rw [crt_Lift.f_def]; rfl) ▸ Decl.does (D := crt_Lift.D) (S := crt_Lift.S) (fn := Go.Proofs.Tryd.f32) ⟨by kernel_rfl, by kernel_rfl, by kernel_rfl, by kernel_rfl, by kernel_rfl, by kernel_rfl, TT.of_ok _ T0ex, by kernel_rfl⟩ (fun k => ⟨told_ok (crt_wrong.does k), ⟨told_ok (bigint_Of.does k), ⟨told_ok (crt_Step.does k), trivial⟩⟩⟩) (fun _ _ h => by rw [h rfl]; rfl) k
def conv_small.A : AK := .p (.row .u64) (.p (.row .u64) .nil)
def conv_small.Q : RK := .o .big 44 (.p (.int .i64) .nil)
def conv_small.h : (List Int × Int) → conv_small.Q.T × List Int := fun b => (((b.1), b.2, ()), [])
noncomputable def conv_small.D : Decl (List Int × Int) := ⟨(Go.Proofs.Tryd.f21.body).getD .skip, 69, [.tmp 4, .tmp 5], conv_small.A, conv_small.Q, fun y m => (y.1, y.2.1), T0, [], [(8, [(6, .b (some (.cons (.row .u64) (.cons (.row .u64) (.cons (.row .u64) .nil))))), (7, .p (some (.row .u64))), (9, .m .big 44), (34, .p (some (.int .i64))), (35, .p (some (.int .i64)))])], [(10, [7])]⟩
noncomputable def conv_small.S (k : Nat) : List (Nat × E.Spec (List Int × Int)) := [(31, told _ conv_parts.A conv_parts.Q (conv_parts.g k) conv_parts.h), (32, told _ crt_Lift.A crt_Lift.Q (crt_Lift.g k) crt_Lift.h)]
noncomputable def conv_small.l8 (k : Nat) (x6_0 : List Int) (x6_1 : List Int) (x6_2 : List Int) (x7 : List Int) (x9 : List Int) (x34 : Int) (x35 : Int) : Option (List Int × Int) := conv_small.D.F conv_small.S k 17 [.b 64 [.row .u64 x6_0, .row .u64 x6_1, .row .u64 x6_2], .p (.row .u64 x7), .m x9, .p (.lit (.int .i64 x34)), .p (.lit (.int .i64 x35))]
noncomputable def conv_small.f0 (k : Nat) (a0 : List Int) (a1 : List Int) : Option (List Int × Int) := conv_small.D.val conv_small.S k (a0, a1, ())
noncomputable def conv_small.f := (still conv_small.f0).1
theorem conv_small.f_def : conv_small.f = conv_small.f0 := (still conv_small.f0).2
noncomputable def conv_small.g (k : Nat) (x : conv_small.A.T) : Option (List Int × Int) := conv_small.f k (x.1) (x.2.1)
theorem conv_small.does (k : Nat) : Does PG 21 conv_small.A conv_small.Q (conv_small.g k) conv_small.h := (show conv_small.g k = conv_small.D.val conv_small.S k from funext fun _ => by unfold conv_small.g; rw [conv_small.f_def]; rfl) ▸ Decl.does (D := conv_small.D) (S := conv_small.S) (fn := Go.Proofs.Tryd.f21) ⟨by kernel_rfl, by kernel_rfl, by kernel_rfl, by kernel_rfl, by kernel_rfl, by kernel_rfl, TT.of_ok _ T0ex, by kernel_rfl⟩ (fun k => ⟨told_ok (conv_parts.does k), ⟨told_ok (crt_Lift.does k), trivial⟩⟩) (fun _ _ h => by rw [h rfl]; rfl) k
def conv_left.A : AK := .p (.fp 62 (.cons (.int .u64) (.cons (.int .u64) (.cons (.int .u64) .nil)))) (.p (.row .u64) .nil)
def conv_left.Q : RK := .o (.num .u64) 29 .nil
def conv_left.h : List Int → conv_left.Q.T × List Int := fun b => (((b), ()), [])
noncomputable def conv_left.D : Decl (List Int) := ⟨(Go.Proofs.Tryd.f22.body).getD .skip, 26, [.tmp 4], conv_left.A, conv_left.Q, fun y m => y.1, T0, [], [(3, [(0, .p (some (.fp 62 (.cons (.int .u64) (.cons (.int .u64) (.cons (.int .u64) .nil)))))), (5, .m (.num .u64) 29), (11, .p (some (.row .u64))), (12, .p (some (.int .i64))), (13, .p (some (.int .i64)))])], []⟩
noncomputable def conv_left.S (k : Nat) : List (Nat × E.Spec (List Int)) := [(33, told _ word_Field_Of.A word_Field_Of.Q (word_Field_Of.g k) word_Field_Of.h)]
noncomputable def conv_left.l3 (k : Nat) (x0_0 : Int) (x0_1 : Int) (x0_2 : Int) (x5 : List Int) (x11 : List Int) (x12 : Int) (x13 : Int) : Option (List Int) := conv_left.D.F conv_left.S k 7 [.p (.fp 62 [.lit (.int .u64 x0_0), .lit (.int .u64 x0_1), .lit (.int .u64 x0_2)]), .m x5, .p (.row .u64 x11), .p (.lit (.int .i64 x12)), .p (.lit (.int .i64 x13))]
noncomputable def conv_left.f0 (k : Nat) (a0_0 : Int) (a0_1 : Int) (a0_2 : Int) (a1 : List Int) : Option (List Int) := conv_left.D.val conv_left.S k ((a0_0, a0_1, a0_2, ()), a1, ())
noncomputable def conv_left.f := (still conv_left.f0).1
theorem conv_left.f_def : conv_left.f = conv_left.f0 := (still conv_left.f0).2
noncomputable def conv_left.g (k : Nat) (x : conv_left.A.T) : Option (List Int) := conv_left.f k (x.1.1) (x.1.2.1) (x.1.2.2.1) (x.2.1)
theorem conv_left.does (k : Nat) : Does PG 22 conv_left.A conv_left.Q (conv_left.g k) conv_left.h := (show conv_left.g k = conv_left.D.val conv_left.S k from funext fun _ => by unfold conv_left.g; rw [conv_left.f_def]; rfl) ▸ Decl.does (D := conv_left.D) (S := conv_left.S) (fn := Go.Proofs.Tryd.f22) ⟨by kernel_rfl, by kernel_rfl, by kernel_rfl, by kernel_rfl, by kernel_rfl, by kernel_rfl, TT.of_ok _ T0ex, by kernel_rfl⟩ (fun k => ⟨told_ok (word_Field_Of.does k), trivial⟩) (fun _ _ h => by rw [h rfl]; rfl) k
def conv_Conv.A : AK := .p (.row .u64) (.p (.row .u64) (.p (.int .u64) .nil))
def conv_Conv.Q : RK := .o (.num .u64) 29 (.p (.int .i64) .nil)
def conv_Conv.h : (List Int × Int) → conv_Conv.Q.T × List Int := fun b => (((b.1), b.2, ()), [])
noncomputable def conv_Conv.D : Decl (List Int × Int) := ⟨(Go.Proofs.Tryd.f11.body).getD .skip, 65, [.tmp 6, .tmp 7], conv_Conv.A, conv_Conv.Q, fun y m => (y.1, y.2.1), T0, [], [(12, [(2, .p (some (.int .u64))), (12, .m (.num .u64) 29), (44, .p (some (.rows .big))), (45, .p (some (.int .i64))), (46, .p (some (.int .i64)))])], []⟩
noncomputable def conv_Conv.S (k : Nat) : List (Nat × E.Spec (List Int × Int)) := [(19, told _ word_New.A word_New.Q (word_New.g k) word_New.h), (20, told _ conv_fits.A conv_fits.Q (conv_fits.g k) conv_fits.h), (21, told _ conv_small.A conv_small.Q (conv_small.g k) conv_small.h), (22, told _ conv_left.A conv_left.Q (conv_left.g k) conv_left.h), (23, told _ bigint_Int_Mod.A bigint_Int_Mod.Q (bigint_Int_Mod.g k) bigint_Int_Mod.h)]
noncomputable def conv_Conv.l12 (k : Nat) (x2 : Int) (x12 : List Int) (x44 : List Int) (x45 : Int) (x46 : Int) : Option (List Int × Int) := conv_Conv.D.F conv_Conv.S k 25 [.p (.lit (.int .u64 x2)), .m x12, .p (.rows .big x44), .p (.lit (.int .i64 x45)), .p (.lit (.int .i64 x46))]
noncomputable def conv_Conv.f0 (k : Nat) (a0 : List Int) (a1 : List Int) (a2 : Int) : Option (List Int × Int) := conv_Conv.D.val conv_Conv.S k (a0, a1, a2, ())
noncomputable def conv_Conv.f := (still conv_Conv.f0).1
theorem conv_Conv.f_def : conv_Conv.f = conv_Conv.f0 := (still conv_Conv.f0).2
noncomputable def conv_Conv.g (k : Nat) (x : conv_Conv.A.T) : Option (List Int × Int) := conv_Conv.f k (x.1) (x.2.1) (x.2.2.1)
theorem conv_Conv.does (k : Nat) : Does PG 11 conv_Conv.A conv_Conv.Q (conv_Conv.g k) conv_Conv.h := (show conv_Conv.g k = conv_Conv.D.val conv_Conv.S k from funext fun _ => by unfold conv_Conv.g; rw [conv_Conv.f_def]; rfl) ▸ Decl.does (D := conv_Conv.D) (S := conv_Conv.S) (fn := Go.Proofs.Tryd.f11) ⟨by kernel_rfl, by kernel_rfl, by kernel_rfl, by kernel_rfl, by kernel_rfl, by kernel_rfl, TT.of_ok _ T0ex, by kernel_rfl⟩ (fun k => ⟨told_ok (word_New.does k), ⟨told_ok (conv_fits.does k), ⟨told_ok (conv_small.does k), ⟨told_ok (conv_left.does k), ⟨told_ok (bigint_Int_Mod.does k), trivial⟩⟩⟩⟩⟩) (fun _ _ h => by rw [h rfl]; rfl) k
def conv_halves.A : AK := .p (.row .u64) .nil
def conv_halves.Q : RK := .p (.row .u64) (.p (.row .u64) .nil)
def conv_halves.h : (List Int × List Int) → conv_halves.Q.T × List Int := fun b => ((b.1, b.2, ()), [])
noncomputable def conv_halves.D : Decl (List Int × List Int) := ⟨(Go.Proofs.Tryd.f24.body).getD .skip, 27, [.tmp 2, .tmp 3], conv_halves.A, conv_halves.Q, fun y m => (y.1, y.2.1), T0, [], [(3, [(4, .m (.num .u64) 29), (5, .m (.num .u64) 29), (8, .p (some (.row .u64))), (9, .p (some (.int .i64))), (10, .p (some (.int .i64)))])], []⟩
noncomputable def conv_halves.S (k : Nat) : List (Nat × E.Spec (List Int × List Int)) := []
noncomputable def conv_halves.l3 (k : Nat) (x4 : List Int) (x5 : List Int) (x8 : List Int) (x9 : Int) (x10 : Int) : Option (List Int × List Int) := conv_halves.D.F conv_halves.S k 7 [.m x4, .m x5, .p (.row .u64 x8), .p (.lit (.int .i64 x9)), .p (.lit (.int .i64 x10))]
noncomputable def conv_halves.f0 (k : Nat) (a0 : List Int) : Option (List Int × List Int) := conv_halves.D.val conv_halves.S k (a0, ())
noncomputable def conv_halves.f := (still conv_halves.f0).1
theorem conv_halves.f_def : conv_halves.f = conv_halves.f0 := (still conv_halves.f0).2
noncomputable def conv_halves.g (k : Nat) (x : conv_halves.A.T) : Option (List Int × List Int) := conv_halves.f k (x.1)
theorem conv_halves.does (k : Nat) : Does PG 24 conv_halves.A conv_halves.Q (conv_halves.g k) conv_halves.h := (show conv_halves.g k = conv_halves.D.val conv_halves.S k from funext fun _ => by unfold conv_halves.g; rw [conv_halves.f_def]; rfl) ▸ Decl.does (D := conv_halves.D) (S := conv_halves.S) (fn := Go.Proofs.Tryd.f24) ⟨by kernel_rfl, by kernel_rfl, by kernel_rfl, by kernel_rfl, by kernel_rfl, by kernel_rfl, TT.of_ok _ T0ex, by kernel_rfl⟩ (fun k => trivial) (fun _ _ h => by rw [h rfl]; rfl) k
def nat_up.A : AK := .p (.row .u64) (.p (.int .i64) .nil)
def nat_up.Q : RK := .o (.num .u64) 29 .nil
def nat_up.h : List Int → nat_up.Q.T × List Int := fun b => (((b), ()), [])
noncomputable def nat_up.D : Decl (List Int) := ⟨(Go.Proofs.Tryd.f55.body).getD .skip, 16, [.tmp 4], nat_up.A, nat_up.Q, fun y m => y.1, T0, [], [], []⟩
noncomputable def nat_up.S (k : Nat) : List (Nat × E.Spec (List Int)) := []
noncomputable def nat_up.f0 (k : Nat) (a0 : List Int) (a1 : Int) : Option (List Int) := nat_up.D.val nat_up.S k (a0, a1, ())
noncomputable def nat_up.f := (still nat_up.f0).1
theorem nat_up.f_def : nat_up.f = nat_up.f0 := (still nat_up.f0).2
noncomputable def nat_up.g (k : Nat) (x : nat_up.A.T) : Option (List Int) := nat_up.f k (x.1) (x.2.1)
theorem nat_up.does (k : Nat) : Does PG 55 nat_up.A nat_up.Q (nat_up.g k) nat_up.h := (show nat_up.g k = nat_up.D.val nat_up.S k from funext fun _ => by unfold nat_up.g; rw [nat_up.f_def]; rfl) ▸ Decl.does (D := nat_up.D) (S := nat_up.S) (fn := Go.Proofs.Tryd.f55) ⟨by kernel_rfl, by kernel_rfl, by kernel_rfl, by kernel_rfl, by kernel_rfl, by kernel_rfl, TT.of_ok _ T0ex, by kernel_rfl⟩ (fun k => trivial) (fun _ _ h => by rw [h rfl]; rfl) k
def nat_Shl.A : AK := .p (.row .u64) (.p (.int .i64) .nil)
def nat_Shl.Q : RK := .p (.row .u64) (.p (.int .i64) .nil)
def nat_Shl.h : (List Int × Int) → nat_Shl.Q.T × List Int := fun b => ((b.1, b.2, ()), [])
noncomputable def nat_Shl.D : Decl (List Int × Int) := ⟨(Go.Proofs.Tryd.f39.body).getD .skip, 22, [.tmp 4, .tmp 5], nat_Shl.A, nat_Shl.Q, fun y m => (y.1, y.2.1), T0, [], [], []⟩
noncomputable def nat_Shl.S (k : Nat) : List (Nat × E.Spec (List Int × Int)) := [(51, told _ nat_trim.A nat_trim.Q (nat_trim.g k) nat_trim.h), (55, told _ nat_up.A nat_up.Q (nat_up.g k) nat_up.h), (56, told _ nat_shifted.A nat_shifted.Q (nat_shifted.g k) nat_shifted.h)]
noncomputable def nat_Shl.f0 (k : Nat) (a0 : List Int) (a1 : Int) : Option (List Int × Int) := nat_Shl.D.val nat_Shl.S k (a0, a1, ())
noncomputable def nat_Shl.f := (still nat_Shl.f0).1
theorem nat_Shl.f_def : nat_Shl.f = nat_Shl.f0 := (still nat_Shl.f0).2
noncomputable def nat_Shl.g (k : Nat) (x : nat_Shl.A.T) : Option (List Int × Int) := nat_Shl.f k (x.1) (x.2.1)
theorem nat_Shl.does (k : Nat) : Does PG 39 nat_Shl.A nat_Shl.Q (nat_Shl.g k) nat_Shl.h := (show nat_Shl.g k = nat_Shl.D.val nat_Shl.S k from funext fun _ => by unfold nat_Shl.g; rw [nat_Shl.f_def]; rfl) ▸ Decl.does (D := nat_Shl.D) (S := nat_Shl.S) (fn := Go.Proofs.Tryd.f39) ⟨by kernel_rfl, by kernel_rfl, by kernel_rfl, by kernel_rfl, by kernel_rfl, by kernel_rfl, TT.of_ok _ T0ex, by kernel_rfl⟩ (fun k => ⟨told_ok (nat_trim.does k), ⟨told_ok (nat_up.does k), ⟨told_ok (nat_shifted.does k), trivial⟩⟩⟩) (fun _ _ h => by rw [h rfl]; rfl) k
def bigint_Int_Nat.A : AK := .p (.agg (.cons (.bool) (.cons (.row .u64) .nil))) .nil
def bigint_Int_Nat.Q : RK := .o (.num .u64) 29 .nil
def bigint_Int_Nat.h : List Int → bigint_Int_Nat.Q.T × List Int := fun b => (((b), ()), [])
noncomputable def bigint_Int_Nat.D : Decl (List Int) := ⟨(Go.Proofs.Tryd.f40.body).getD .skip, 6, [.tmp 2], bigint_Int_Nat.A, bigint_Int_Nat.Q, fun y m => y.1, T0, [], [], []⟩
noncomputable def bigint_Int_Nat.S (k : Nat) : List (Nat × E.Spec (List Int)) := [(42, told _ nat_Norm.A nat_Norm.Q (nat_Norm.g k) nat_Norm.h)]
noncomputable def bigint_Int_Nat.f0 (k : Nat) (a0_0 : Bool) (a0_1 : List Int) : Option (List Int) := bigint_Int_Nat.D.val bigint_Int_Nat.S k ((a0_0, a0_1, ()), ())
noncomputable def bigint_Int_Nat.f := (still bigint_Int_Nat.f0).1
theorem bigint_Int_Nat.f_def : bigint_Int_Nat.f = bigint_Int_Nat.f0 := (still bigint_Int_Nat.f0).2
noncomputable def bigint_Int_Nat.g (k : Nat) (x : bigint_Int_Nat.A.T) : Option (List Int) := bigint_Int_Nat.f k (x.1.1) (x.1.2.1)
theorem bigint_Int_Nat.does (k : Nat) : Does PG 40 bigint_Int_Nat.A bigint_Int_Nat.Q (bigint_Int_Nat.g k) bigint_Int_Nat.h := (show bigint_Int_Nat.g k = bigint_Int_Nat.D.val bigint_Int_Nat.S k from funext fun _ => by unfold bigint_Int_Nat.g; rw [bigint_Int_Nat.f_def]; rfl) ▸ Decl.does (D := bigint_Int_Nat.D) (S := bigint_Int_Nat.S) (fn := Go.Proofs.Tryd.f40) ⟨by kernel_rfl, by kernel_rfl, by kernel_rfl, by kernel_rfl, by kernel_rfl, by kernel_rfl, TT.of_ok _ T0ex, by kernel_rfl⟩ (fun k => ⟨told_ok (nat_Norm.does k), trivial⟩) (fun _ _ h => by rw [h rfl]; rfl) k
def conv_moved.A : AK := .p (.agg (.cons (.bool) (.cons (.row .u64) .nil))) (.p (.int .i64) .nil)
def conv_moved.Q : RK := .p (.agg (.cons (.bool) (.cons (.row .u64) .nil))) .nil
def conv_moved.h : (Bool × List Int) → conv_moved.Q.T × List Int := fun b => (((b.1, b.2, ()), ()), [])
noncomputable def conv_moved.D : Decl (Bool × List Int) := ⟨(Go.Proofs.Tryd.f27.body).getD .skip, 16, [.cell 4 44], conv_moved.A, conv_moved.Q, fun y m => (y.1.1, y.1.2.1), T0, [], [], []⟩
noncomputable def conv_moved.S (k : Nat) : List (Nat × E.Spec (Bool × List Int)) := [(39, told _ nat_Shl.A nat_Shl.Q (nat_Shl.g k) nat_Shl.h), (40, told _ bigint_Int_Nat.A bigint_Int_Nat.Q (bigint_Int_Nat.g k) bigint_Int_Nat.h), (41, told _ bigint_From.A bigint_From.Q (bigint_From.g k) bigint_From.h)]
noncomputable def conv_moved.f0 (k : Nat) (a0_0 : Bool) (a0_1 : List Int) (a1 : Int) : Option (Bool × List Int) := conv_moved.D.val conv_moved.S k ((a0_0, a0_1, ()), a1, ())
noncomputable def conv_moved.f := (still conv_moved.f0).1
theorem conv_moved.f_def : conv_moved.f = conv_moved.f0 := (still conv_moved.f0).2
noncomputable def conv_moved.g (k : Nat) (x : conv_moved.A.T) : Option (Bool × List Int) := conv_moved.f k (x.1.1) (x.1.2.1) (x.2.1)
theorem conv_moved.does (k : Nat) : Does PG 27 conv_moved.A conv_moved.Q (conv_moved.g k) conv_moved.h := (show conv_moved.g k = conv_moved.D.val conv_moved.S k from funext fun _ => by unfold conv_moved.g; rw [conv_moved.f_def]; rfl) ▸ Decl.does (D := conv_moved.D) (S := conv_moved.S) (fn := Go.Proofs.Tryd.f27) ⟨by kernel_rfl, by kernel_rfl, by kernel_rfl, by kernel_rfl, by kernel_rfl, by kernel_rfl, TT.of_ok _ T0ex, by kernel_rfl⟩ (fun k => ⟨told_ok (nat_Shl.does k), ⟨told_ok (bigint_Int_Nat.does k), ⟨told_ok (bigint_From.does k), trivial⟩⟩⟩) (fun _ _ h => by rw [h rfl]; rfl) k
def conv_small32.A : AK := .p (.row .u64) (.p (.row .u64) .nil)
def conv_small32.Q : RK := .o .big 44 (.p (.int .i64) .nil)
def conv_small32.h : (List Int × Int) → conv_small32.Q.T × List Int := fun b => (((b.1), b.2, ()), [])
noncomputable def conv_small32.D : Decl (List Int × Int) := ⟨(Go.Proofs.Tryd.f25.body).getD .skip, 53, [.tmp 4, .tmp 5], conv_small32.A, conv_small32.Q, fun y m => (y.1, y.2.1), T0, [], [(7, [(8, .m .big 44), (9, .p (some (.int .i64))), (10, .p (some (.rows .big))), (33, .p (some (.int .i64))), (34, .p (some (.int .i64)))])], []⟩
noncomputable def conv_small32.S (k : Nat) : List (Nat × E.Spec (List Int × Int)) := [(21, told _ conv_small.A conv_small.Q (conv_small.g k) conv_small.h), (24, told _ conv_halves.A conv_halves.Q (conv_halves.g k) conv_halves.h), (26, told _ bigint_Int_Add.A bigint_Int_Add.Q (bigint_Int_Add.g k) bigint_Int_Add.h), (27, told _ conv_moved.A conv_moved.Q (conv_moved.g k) conv_moved.h)]
noncomputable def conv_small32.l7 (k : Nat) (x8 : List Int) (x9 : Int) (x10 : List Int) (x33 : Int) (x34 : Int) : Option (List Int × Int) := conv_small32.D.F conv_small32.S k 15 [.m x8, .p (.lit (.int .i64 x9)), .p (.rows .big x10), .p (.lit (.int .i64 x33)), .p (.lit (.int .i64 x34))]
noncomputable def conv_small32.f0 (k : Nat) (a0 : List Int) (a1 : List Int) : Option (List Int × Int) := conv_small32.D.val conv_small32.S k (a0, a1, ())
noncomputable def conv_small32.f := (still conv_small32.f0).1
theorem conv_small32.f_def : conv_small32.f = conv_small32.f0 := (still conv_small32.f0).2
noncomputable def conv_small32.g (k : Nat) (x : conv_small32.A.T) : Option (List Int × Int) := conv_small32.f k (x.1) (x.2.1)
theorem conv_small32.does (k : Nat) : Does PG 25 conv_small32.A conv_small32.Q (conv_small32.g k) conv_small32.h := (show conv_small32.g k = conv_small32.D.val conv_small32.S k from funext fun _ => by unfold conv_small32.g; rw [conv_small32.f_def]; rfl) ▸ Decl.does (D := conv_small32.D) (S := conv_small32.S) (fn := Go.Proofs.Tryd.f25) ⟨by kernel_rfl, by kernel_rfl, by kernel_rfl, by kernel_rfl, by kernel_rfl, by kernel_rfl, TT.of_ok _ T0ex, by kernel_rfl⟩ (fun k => ⟨told_ok (conv_small.does k), ⟨told_ok (conv_halves.does k), ⟨told_ok (bigint_Int_Add.does k), ⟨told_ok (conv_moved.does k), trivial⟩⟩⟩⟩) (fun _ _ h => by rw [h rfl]; rfl) k
def conv_Exact.A : AK := .p (.row .u64) (.p (.row .u64) .nil)
def conv_Exact.Q : RK := .o .big 44 (.p (.int .i64) .nil)
def conv_Exact.h : (List Int × Int) → conv_Exact.Q.T × List Int := fun b => (((b.1), b.2, ()), [])
noncomputable def conv_Exact.D : Decl (List Int × Int) := ⟨(Go.Proofs.Tryd.f14.body).getD .skip, 72, [.tmp 4, .tmp 5], conv_Exact.A, conv_Exact.Q, fun y m => (y.1, y.2.1), T0, [], [(15, [(1, .p (some (.row .u64))), (9, .m .bigN 44), (10, .p (some (.int .i64))), (29, .p (some (.rows (.row .u64)))), (30, .p (some (.int .i64))), (31, .p (some (.int .i64))), (50, .p (some (.rows .big))), (51, .p (some (.int .i64))), (52, .p (some (.int .i64)))])], []⟩
noncomputable def conv_Exact.S (k : Nat) : List (Nat × E.Spec (List Int × Int)) := [(20, told _ conv_fits.A conv_fits.Q (conv_fits.g k) conv_fits.h), (24, told _ conv_halves.A conv_halves.Q (conv_halves.g k) conv_halves.h), (25, told _ conv_small32.A conv_small32.Q (conv_small32.g k) conv_small32.h), (26, told _ bigint_Int_Add.A bigint_Int_Add.Q (bigint_Int_Add.g k) bigint_Int_Add.h), (27, told _ conv_moved.A conv_moved.Q (conv_moved.g k) conv_moved.h)]
noncomputable def conv_Exact.l15 (k : Nat) (x1 : List Int) (x9 : List Int) (x10 : Int) (x29 : List Int) (x30 : Int) (x31 : Int) (x50 : List Int) (x51 : Int) (x52 : Int) : Option (List Int × Int) := conv_Exact.D.F conv_Exact.S k 31 [.p (.row .u64 x1), .m x9, .p (.lit (.int .i64 x10)), .p (.rows (.row .u64) x29), .p (.lit (.int .i64 x30)), .p (.lit (.int .i64 x31)), .p (.rows .big x50), .p (.lit (.int .i64 x51)), .p (.lit (.int .i64 x52))]
noncomputable def conv_Exact.f0 (k : Nat) (a0 : List Int) (a1 : List Int) : Option (List Int × Int) := conv_Exact.D.val conv_Exact.S k (a0, a1, ())
noncomputable def conv_Exact.f := (still conv_Exact.f0).1
theorem conv_Exact.f_def : conv_Exact.f = conv_Exact.f0 := (still conv_Exact.f0).2
noncomputable def conv_Exact.g (k : Nat) (x : conv_Exact.A.T) : Option (List Int × Int) := conv_Exact.f k (x.1) (x.2.1)
theorem conv_Exact.does (k : Nat) : Does PG 14 conv_Exact.A conv_Exact.Q (conv_Exact.g k) conv_Exact.h := (show conv_Exact.g k = conv_Exact.D.val conv_Exact.S k from funext fun _ => by unfold conv_Exact.g; rw [conv_Exact.f_def]; rfl) ▸ Decl.does (D := conv_Exact.D) (S := conv_Exact.S) (fn := Go.Proofs.Tryd.f14) ⟨by kernel_rfl, by kernel_rfl, by kernel_rfl, by kernel_rfl, by kernel_rfl, by kernel_rfl, TT.of_ok _ T0ex, by kernel_rfl⟩ (fun k => ⟨told_ok (conv_fits.does k), ⟨told_ok (conv_halves.does k), ⟨told_ok (conv_small32.does k), ⟨told_ok (bigint_Int_Add.does k), ⟨told_ok (conv_moved.does k), trivial⟩⟩⟩⟩⟩) (fun _ _ h => by rw [h rfl]; rfl) k
def vinculumref06_Same.A : AK := .p (.row .u64) (.p (.row .u64) .nil)
def vinculumref06_Same.Q : RK := .p (.bool) .nil
def vinculumref06_Same.h : Bool → vinculumref06_Same.Q.T × List Int := fun b => ((b, ()), [])
noncomputable def vinculumref06_Same.D : Decl Bool := ⟨(Go.Proofs.Tryd.f15.body).getD .skip, 26, [.tmp 4], vinculumref06_Same.A, vinculumref06_Same.Q, fun y m => y.1, T0, [], [(4, [(0, .p (some (.row .u64))), (1, .p (some (.row .u64))), (5, .p (some (.int .i64)))])], []⟩
noncomputable def vinculumref06_Same.S (k : Nat) : List (Nat × E.Spec Bool) := []
noncomputable def vinculumref06_Same.l4 (k : Nat) (x0 : List Int) (x1 : List Int) (x5 : Int) : Option Bool := vinculumref06_Same.D.F vinculumref06_Same.S k 9 [.p (.row .u64 x0), .p (.row .u64 x1), .p (.lit (.int .i64 x5))]
noncomputable def vinculumref06_Same.f0 (k : Nat) (a0 : List Int) (a1 : List Int) : Option Bool := vinculumref06_Same.D.val vinculumref06_Same.S k (a0, a1, ())
noncomputable def vinculumref06_Same.f := (still vinculumref06_Same.f0).1
theorem vinculumref06_Same.f_def : vinculumref06_Same.f = vinculumref06_Same.f0 := (still vinculumref06_Same.f0).2
noncomputable def vinculumref06_Same.g (k : Nat) (x : vinculumref06_Same.A.T) : Option Bool := vinculumref06_Same.f k (x.1) (x.2.1)
theorem vinculumref06_Same.does (k : Nat) : Does PG 15 vinculumref06_Same.A vinculumref06_Same.Q (vinculumref06_Same.g k) vinculumref06_Same.h := (show vinculumref06_Same.g k = vinculumref06_Same.D.val vinculumref06_Same.S k from funext fun _ => by unfold vinculumref06_Same.g; rw [vinculumref06_Same.f_def]; rfl) ▸ Decl.does (D := vinculumref06_Same.D) (S := vinculumref06_Same.S) (fn := Go.Proofs.Tryd.f15) ⟨by kernel_rfl, by kernel_rfl, by kernel_rfl, by kernel_rfl, by kernel_rfl, by kernel_rfl, TT.of_ok _ T0ex, by kernel_rfl⟩ (fun k => trivial) (fun _ _ h => by rw [h rfl]; rfl) k
def nat_Print.A : AK := .p (.row .u64) .nil
def nat_Print.Q : RK := .p (.str) .nil
def nat_Print.h : ByteArray → nat_Print.Q.T × List Int := fun b => ((b, ()), [])
noncomputable def nat_Print.D : Decl ByteArray := ⟨(Go.Proofs.Tryd.f28.body).getD .skip, 70, [.tmp 2], nat_Print.A, nat_Print.Q, fun y m => y.1, T0, [], [(14, [(3, .m (.num .u8) 5), (6, .p (some (.int .i64))), (7, .p (some (.int .i64)))]), (9, [(0, .p (some (.row .u64))), (3, .m (.num .u8) 5), (4, .p (some (.int .u64))), (5, .p (some (.int .i64)))]), (5, [(0, .p (some (.row .u64))), (3, .m (.num .u8) 5)])], []⟩
noncomputable def nat_Print.S (k : Nat) : List (Nat × E.Spec ByteArray) := [(34, told _ nat_DivWord.A nat_DivWord.Q (nat_DivWord.g k) nat_DivWord.h), (42, told _ nat_Norm.A nat_Norm.Q (nat_Norm.g k) nat_Norm.h)]
noncomputable def nat_Print.l14 (k : Nat) (x3 : List Int) (x6 : Int) (x7 : Int) : Option ByteArray := nat_Print.D.F nat_Print.S k 29 [.m x3, .p (.lit (.int .i64 x6)), .p (.lit (.int .i64 x7))]
noncomputable def nat_Print.l9 (k : Nat) (x0 : List Int) (x3 : List Int) (x4 : Int) (x5 : Int) : Option ByteArray := nat_Print.D.F nat_Print.S k 19 [.p (.row .u64 x0), .m x3, .p (.lit (.int .u64 x4)), .p (.lit (.int .i64 x5))]
noncomputable def nat_Print.l5 (k : Nat) (x0 : List Int) (x3 : List Int) : Option ByteArray := nat_Print.D.F nat_Print.S k 11 [.p (.row .u64 x0), .m x3]
noncomputable def nat_Print.f0 (k : Nat) (a0 : List Int) : Option ByteArray := nat_Print.D.val nat_Print.S k (a0, ())
noncomputable def nat_Print.f := (still nat_Print.f0).1
theorem nat_Print.f_def : nat_Print.f = nat_Print.f0 := (still nat_Print.f0).2
noncomputable def nat_Print.g (k : Nat) (x : nat_Print.A.T) : Option ByteArray := nat_Print.f k (x.1)
theorem nat_Print.does (k : Nat) : Does PG 28 nat_Print.A nat_Print.Q (nat_Print.g k) nat_Print.h := (show nat_Print.g k = nat_Print.D.val nat_Print.S k from funext fun _ => by unfold nat_Print.g; rw [nat_Print.f_def]; rfl) ▸ Decl.does (D := nat_Print.D) (S := nat_Print.S) (fn := Go.Proofs.Tryd.f28) ⟨by kernel_rfl, by kernel_rfl, by kernel_rfl, by kernel_rfl, by kernel_rfl, by kernel_rfl, TT.of_ok _ T0ex, by kernel_rfl⟩ (fun k => ⟨told_ok (nat_DivWord.does k), ⟨told_ok (nat_Norm.does k), trivial⟩⟩) (fun _ _ h => by rw [h rfl]; rfl) k
def bigint_Int_Print.A : AK := .p (.agg (.cons (.bool) (.cons (.row .u64) .nil))) .nil
def bigint_Int_Print.Q : RK := .p (.str) .nil
def bigint_Int_Print.h : ByteArray → bigint_Int_Print.Q.T × List Int := fun b => ((b, ()), [])
noncomputable def bigint_Int_Print.D : Decl ByteArray := ⟨(Go.Proofs.Tryd.f16.body).getD .skip, 12, [.tmp 2], bigint_Int_Print.A, bigint_Int_Print.Q, fun y m => y.1, T0, [], [], []⟩
noncomputable def bigint_Int_Print.S (k : Nat) : List (Nat × E.Spec ByteArray) := [(28, told _ nat_Print.A nat_Print.Q (nat_Print.g k) nat_Print.h)]
noncomputable def bigint_Int_Print.f0 (k : Nat) (a0_0 : Bool) (a0_1 : List Int) : Option ByteArray := bigint_Int_Print.D.val bigint_Int_Print.S k ((a0_0, a0_1, ()), ())
noncomputable def bigint_Int_Print.f := (still bigint_Int_Print.f0).1
theorem bigint_Int_Print.f_def : bigint_Int_Print.f = bigint_Int_Print.f0 := (still bigint_Int_Print.f0).2
noncomputable def bigint_Int_Print.g (k : Nat) (x : bigint_Int_Print.A.T) : Option ByteArray := bigint_Int_Print.f k (x.1.1) (x.1.2.1)
theorem bigint_Int_Print.does (k : Nat) : Does PG 16 bigint_Int_Print.A bigint_Int_Print.Q (bigint_Int_Print.g k) bigint_Int_Print.h := (show bigint_Int_Print.g k = bigint_Int_Print.D.val bigint_Int_Print.S k from funext fun _ => by unfold bigint_Int_Print.g; rw [bigint_Int_Print.f_def]; rfl) ▸ Decl.does (D := bigint_Int_Print.D) (S := bigint_Int_Print.S) (fn := Go.Proofs.Tryd.f16) ⟨by kernel_rfl, by kernel_rfl, by kernel_rfl, by kernel_rfl, by kernel_rfl, by kernel_rfl, TT.of_ok _ T0ex, by kernel_rfl⟩ (fun k => ⟨told_ok (nat_Print.does k), trivial⟩) (fun _ _ h => by rw [h rfl]; rfl) k
def vinculumlaw08_awake.A : AK := .nil
def vinculumlaw08_awake.Q : RK := .p (.bool) .nil
def vinculumlaw08_awake.h : Bool → vinculumlaw08_awake.Q.T × List Int := fun b => ((b, ()), [])
noncomputable def vinculumlaw08_awake.D : Decl Bool := ⟨(Go.Proofs.Tryd.f6.body).getD .skip, 56, [.tmp 0], vinculumlaw08_awake.A, vinculumlaw08_awake.Q, fun y m => y.1, T0, [], [], []⟩
noncomputable def vinculumlaw08_awake.S (k : Nat) : List (Nat × E.Spec Bool) := [(9, told _ conv_Place.A conv_Place.Q (conv_Place.g k) conv_Place.h), (11, told _ conv_Conv.A conv_Conv.Q (conv_Conv.g k) conv_Conv.h), (14, told _ conv_Exact.A conv_Exact.Q (conv_Exact.g k) conv_Exact.h), (15, told _ vinculumref06_Same.A vinculumref06_Same.Q (vinculumref06_Same.g k) vinculumref06_Same.h), (16, told _ bigint_Int_Print.A bigint_Int_Print.Q (bigint_Int_Print.g k) bigint_Int_Print.h)]
noncomputable def vinculumlaw08_awake.f0 (k : Nat) : Option Bool := vinculumlaw08_awake.D.val vinculumlaw08_awake.S k (())
noncomputable def vinculumlaw08_awake.f := (still vinculumlaw08_awake.f0).1
theorem vinculumlaw08_awake.f_def : vinculumlaw08_awake.f = vinculumlaw08_awake.f0 := (still vinculumlaw08_awake.f0).2
noncomputable def vinculumlaw08_awake.g (k : Nat) (x : vinculumlaw08_awake.A.T) : Option Bool := vinculumlaw08_awake.f k
theorem vinculumlaw08_awake.does (k : Nat) : Does PG 6 vinculumlaw08_awake.A vinculumlaw08_awake.Q (vinculumlaw08_awake.g k) vinculumlaw08_awake.h := (show vinculumlaw08_awake.g k = vinculumlaw08_awake.D.val vinculumlaw08_awake.S k from funext fun _ => by unfold vinculumlaw08_awake.g; rw [vinculumlaw08_awake.f_def]; rfl) ▸ Decl.does (D := vinculumlaw08_awake.D) (S := vinculumlaw08_awake.S) (fn := Go.Proofs.Tryd.f6) ⟨by kernel_rfl, by kernel_rfl, by kernel_rfl, by kernel_rfl, by kernel_rfl, by kernel_rfl, TT.of_ok _ T0ex, by kernel_rfl⟩ (fun k => ⟨told_ok (conv_Place.does k), ⟨told_ok (conv_Conv.does k), ⟨told_ok (conv_Exact.does k), ⟨told_ok (vinculumref06_Same.does k), ⟨told_ok (bigint_Int_Print.does k), trivial⟩⟩⟩⟩⟩) (fun _ _ h => by rw [h rfl]; rfl) k
def vinculumref08_Size.A : AK := .p (.row .i64) .nil
def vinculumref08_Size.Q : RK := .p (.int .i64) (.p (.int .i64) .nil)
def vinculumref08_Size.h : (Int × Int) → vinculumref08_Size.Q.T × List Int := fun b => ((b.1, b.2, ()), [])
noncomputable def vinculumref08_Size.D : Decl (Int × Int) := ⟨(Go.Proofs.Tryd.f8.body).getD .skip, 48, [.tmp 2, .tmp 3], vinculumref08_Size.A, vinculumref08_Size.Q, fun y m => (y.1, y.2.1), T0, [], [(10, [(0, .p (some (.row .i64))), (5, .p (some (.int .i64))), (6, .p (some (.int .i64)))]), (4, [(0, .p (some (.row .i64))), (4, .p (some (.int .i64)))])], []⟩
noncomputable def vinculumref08_Size.S (k : Nat) : List (Nat × E.Spec (Int × Int)) := []
noncomputable def vinculumref08_Size.l10 (k : Nat) (x0 : List Int) (x5 : Int) (x6 : Int) : Option (Int × Int) := vinculumref08_Size.D.F vinculumref08_Size.S k 21 [.p (.row .i64 x0), .p (.lit (.int .i64 x5)), .p (.lit (.int .i64 x6))]
noncomputable def vinculumref08_Size.l4 (k : Nat) (x0 : List Int) (x4 : Int) : Option (Int × Int) := vinculumref08_Size.D.F vinculumref08_Size.S k 9 [.p (.row .i64 x0), .p (.lit (.int .i64 x4))]
noncomputable def vinculumref08_Size.f0 (k : Nat) (a0 : List Int) : Option (Int × Int) := vinculumref08_Size.D.val vinculumref08_Size.S k (a0, ())
noncomputable def vinculumref08_Size.f := (still vinculumref08_Size.f0).1
theorem vinculumref08_Size.f_def : vinculumref08_Size.f = vinculumref08_Size.f0 := (still vinculumref08_Size.f0).2
noncomputable def vinculumref08_Size.g (k : Nat) (x : vinculumref08_Size.A.T) : Option (Int × Int) := vinculumref08_Size.f k (x.1)
theorem vinculumref08_Size.does (k : Nat) : Does PG 8 vinculumref08_Size.A vinculumref08_Size.Q (vinculumref08_Size.g k) vinculumref08_Size.h := (show vinculumref08_Size.g k = vinculumref08_Size.D.val vinculumref08_Size.S k from funext fun _ => by unfold vinculumref08_Size.g; rw [vinculumref08_Size.f_def]; rfl) ▸ Decl.does (D := vinculumref08_Size.D) (S := vinculumref08_Size.S) (fn := Go.Proofs.Tryd.f8) ⟨by kernel_rfl, by kernel_rfl, by kernel_rfl, by kernel_rfl, by kernel_rfl, by kernel_rfl, TT.of_ok _ T0ex, by kernel_rfl⟩ (fun k => trivial) (fun _ _ h => by rw [h rfl]; rfl) k
def vinculumref08_Place.A : AK := .p (.row .i64) (.p (.row .i64) .nil)
def vinculumref08_Place.Q : RK := .p (.int .i64) (.p (.int .i64) .nil)
def vinculumref08_Place.h : (Int × Int) → vinculumref08_Place.Q.T × List Int := fun b => ((b.1, b.2, ()), [])
noncomputable def vinculumref08_Place.D : Decl (Int × Int) := ⟨(Go.Proofs.Tryd.f10.body).getD .skip, 57, [.tmp 4, .tmp 5], vinculumref08_Place.A, vinculumref08_Place.Q, fun y m => (y.1, y.2.1), T0, [], [(8, [(0, .p (some (.row .i64))), (1, .p (some (.row .i64))), (8, .p (some (.int .i64))), (9, .p (some (.int .i64)))])], []⟩
noncomputable def vinculumref08_Place.S (k : Nat) : List (Nat × E.Spec (Int × Int)) := [(8, told _ vinculumref08_Size.A vinculumref08_Size.Q (vinculumref08_Size.g k) vinculumref08_Size.h)]
noncomputable def vinculumref08_Place.l8 (k : Nat) (x0 : List Int) (x1 : List Int) (x8 : Int) (x9 : Int) : Option (Int × Int) := vinculumref08_Place.D.F vinculumref08_Place.S k 17 [.p (.row .i64 x0), .p (.row .i64 x1), .p (.lit (.int .i64 x8)), .p (.lit (.int .i64 x9))]
noncomputable def vinculumref08_Place.f0 (k : Nat) (a0 : List Int) (a1 : List Int) : Option (Int × Int) := vinculumref08_Place.D.val vinculumref08_Place.S k (a0, a1, ())
noncomputable def vinculumref08_Place.f := (still vinculumref08_Place.f0).1
theorem vinculumref08_Place.f_def : vinculumref08_Place.f = vinculumref08_Place.f0 := (still vinculumref08_Place.f0).2
noncomputable def vinculumref08_Place.g (k : Nat) (x : vinculumref08_Place.A.T) : Option (Int × Int) := vinculumref08_Place.f k (x.1) (x.2.1)
theorem vinculumref08_Place.does (k : Nat) : Does PG 10 vinculumref08_Place.A vinculumref08_Place.Q (vinculumref08_Place.g k) vinculumref08_Place.h := (show vinculumref08_Place.g k = vinculumref08_Place.D.val vinculumref08_Place.S k from funext fun _ => by unfold vinculumref08_Place.g; rw [vinculumref08_Place.f_def]; rfl) ▸ Decl.does (D := vinculumref08_Place.D) (S := vinculumref08_Place.S) (fn := Go.Proofs.Tryd.f10) ⟨by kernel_rfl, by kernel_rfl, by kernel_rfl, by kernel_rfl, by kernel_rfl, by kernel_rfl, TT.of_ok _ T0ex, by kernel_rfl⟩ (fun k => ⟨told_ok (vinculumref08_Size.does k), trivial⟩) (fun _ _ h => by rw [h rfl]; rfl) k
def vinculumlaw08_ConvPlaces.A : AK := .p (.row .i64) (.p (.row .i64) .nil)
def vinculumlaw08_ConvPlaces.Q : RK := .p (.bool) .nil
def vinculumlaw08_ConvPlaces.h : Bool → vinculumlaw08_ConvPlaces.Q.T × List Int := fun b => ((b, ()), [])
noncomputable def vinculumlaw08_ConvPlaces.D : Decl Bool := ⟨(Go.Proofs.Tryd.f3.body).getD .skip, 65, [.tmp 4], vinculumlaw08_ConvPlaces.A, vinculumlaw08_ConvPlaces.Q, fun y m => y.1, T0, [], [], []⟩
noncomputable def vinculumlaw08_ConvPlaces.S (k : Nat) : List (Nat × E.Spec Bool) := [(6, told _ vinculumlaw08_awake.A vinculumlaw08_awake.Q (vinculumlaw08_awake.g k) vinculumlaw08_awake.h), (7, told _ conv_Size.A conv_Size.Q (conv_Size.g k) conv_Size.h), (8, told _ vinculumref08_Size.A vinculumref08_Size.Q (vinculumref08_Size.g k) vinculumref08_Size.h), (9, told _ conv_Place.A conv_Place.Q (conv_Place.g k) conv_Place.h), (10, told _ vinculumref08_Place.A vinculumref08_Place.Q (vinculumref08_Place.g k) vinculumref08_Place.h)]
noncomputable def vinculumlaw08_ConvPlaces.f0 (k : Nat) (a0 : List Int) (a1 : List Int) : Option Bool := vinculumlaw08_ConvPlaces.D.val vinculumlaw08_ConvPlaces.S k (a0, a1, ())
noncomputable def vinculumlaw08_ConvPlaces.f := (still vinculumlaw08_ConvPlaces.f0).1
theorem vinculumlaw08_ConvPlaces.f_def : vinculumlaw08_ConvPlaces.f = vinculumlaw08_ConvPlaces.f0 := (still vinculumlaw08_ConvPlaces.f0).2
noncomputable def vinculumlaw08_ConvPlaces.g (k : Nat) (x : vinculumlaw08_ConvPlaces.A.T) : Option Bool := vinculumlaw08_ConvPlaces.f k (x.1) (x.2.1)
theorem vinculumlaw08_ConvPlaces.does (k : Nat) : Does PG 3 vinculumlaw08_ConvPlaces.A vinculumlaw08_ConvPlaces.Q (vinculumlaw08_ConvPlaces.g k) vinculumlaw08_ConvPlaces.h := (show vinculumlaw08_ConvPlaces.g k = vinculumlaw08_ConvPlaces.D.val vinculumlaw08_ConvPlaces.S k from funext fun _ => by unfold vinculumlaw08_ConvPlaces.g; rw [vinculumlaw08_ConvPlaces.f_def]; rfl) ▸ Decl.does (D := vinculumlaw08_ConvPlaces.D) (S := vinculumlaw08_ConvPlaces.S) (fn := Go.Proofs.Tryd.f3) ⟨by kernel_rfl, by kernel_rfl, by kernel_rfl, by kernel_rfl, by kernel_rfl, by kernel_rfl, TT.of_ok _ T0ex, by kernel_rfl⟩ (fun k => ⟨told_ok (vinculumlaw08_awake.does k), ⟨told_ok (conv_Size.does k), ⟨told_ok (vinculumref08_Size.does k), ⟨told_ok (conv_Place.does k), ⟨told_ok (vinculumref08_Place.does k), trivial⟩⟩⟩⟩⟩) (fun _ _ h => by rw [h rfl]; rfl) k
def vinculumref03_Add.A : AK := .p (.int .u64) (.p (.int .u64) (.p (.int .u64) .nil))
def vinculumref03_Add.Q : RK := .p (.int .u64) .nil
def vinculumref03_Add.h : Int → vinculumref03_Add.Q.T × List Int := fun b => ((b, ()), [])
noncomputable def vinculumref03_Add.D : Decl Int := ⟨(Go.Proofs.Tryd.f13.body).getD .skip, 16, [.tmp 6], vinculumref03_Add.A, vinculumref03_Add.Q, fun y m => y.1, T0, [], [], []⟩
noncomputable def vinculumref03_Add.S (k : Nat) : List (Nat × E.Spec Int) := []
noncomputable def vinculumref03_Add.f0 (k : Nat) (a0 : Int) (a1 : Int) (a2 : Int) : Option Int := vinculumref03_Add.D.val vinculumref03_Add.S k (a0, a1, a2, ())
noncomputable def vinculumref03_Add.f := (still vinculumref03_Add.f0).1
theorem vinculumref03_Add.f_def : vinculumref03_Add.f = vinculumref03_Add.f0 := (still vinculumref03_Add.f0).2
noncomputable def vinculumref03_Add.g (k : Nat) (x : vinculumref03_Add.A.T) : Option Int := vinculumref03_Add.f k (x.1) (x.2.1) (x.2.2.1)
theorem vinculumref03_Add.does (k : Nat) : Does PG 13 vinculumref03_Add.A vinculumref03_Add.Q (vinculumref03_Add.g k) vinculumref03_Add.h := (show vinculumref03_Add.g k = vinculumref03_Add.D.val vinculumref03_Add.S k from funext fun _ => by unfold vinculumref03_Add.g; rw [vinculumref03_Add.f_def]; rfl) ▸ Decl.does (D := vinculumref03_Add.D) (S := vinculumref03_Add.S) (fn := Go.Proofs.Tryd.f13) ⟨by kernel_rfl, by kernel_rfl, by kernel_rfl, by kernel_rfl, by kernel_rfl, by kernel_rfl, TT.of_ok _ T0ex, by kernel_rfl⟩ (fun k => trivial) (fun _ _ h => by rw [h rfl]; rfl) k
def vinculumref03_Mul.A : AK := .p (.int .u64) (.p (.int .u64) (.p (.int .u64) .nil))
def vinculumref03_Mul.Q : RK := .p (.int .u64) .nil
def vinculumref03_Mul.h : Int → vinculumref03_Mul.Q.T × List Int := fun b => ((b, ()), [])
noncomputable def vinculumref03_Mul.D : Decl Int := ⟨(Go.Proofs.Tryd.f12.body).getD .skip, 30, [.tmp 6], vinculumref03_Mul.A, vinculumref03_Mul.Q, fun y m => y.1, T0, [], [(4, [(0, .p (some (.int .u64))), (1, .p (some (.int .u64))), (2, .p (some (.int .u64))), (7, .p (some (.int .u64)))])], []⟩
noncomputable def vinculumref03_Mul.S (k : Nat) : List (Nat × E.Spec Int) := [(13, told _ vinculumref03_Add.A vinculumref03_Add.Q (vinculumref03_Add.g k) vinculumref03_Add.h)]
noncomputable def vinculumref03_Mul.l4 (k : Nat) (x0 : Int) (x1 : Int) (x2 : Int) (x7 : Int) : Option Int := vinculumref03_Mul.D.F vinculumref03_Mul.S k 9 [.p (.lit (.int .u64 x0)), .p (.lit (.int .u64 x1)), .p (.lit (.int .u64 x2)), .p (.lit (.int .u64 x7))]
noncomputable def vinculumref03_Mul.f0 (k : Nat) (a0 : Int) (a1 : Int) (a2 : Int) : Option Int := vinculumref03_Mul.D.val vinculumref03_Mul.S k (a0, a1, a2, ())
noncomputable def vinculumref03_Mul.f := (still vinculumref03_Mul.f0).1
theorem vinculumref03_Mul.f_def : vinculumref03_Mul.f = vinculumref03_Mul.f0 := (still vinculumref03_Mul.f0).2
noncomputable def vinculumref03_Mul.g (k : Nat) (x : vinculumref03_Mul.A.T) : Option Int := vinculumref03_Mul.f k (x.1) (x.2.1) (x.2.2.1)
theorem vinculumref03_Mul.does (k : Nat) : Does PG 12 vinculumref03_Mul.A vinculumref03_Mul.Q (vinculumref03_Mul.g k) vinculumref03_Mul.h := (show vinculumref03_Mul.g k = vinculumref03_Mul.D.val vinculumref03_Mul.S k from funext fun _ => by unfold vinculumref03_Mul.g; rw [vinculumref03_Mul.f_def]; rfl) ▸ Decl.does (D := vinculumref03_Mul.D) (S := vinculumref03_Mul.S) (fn := Go.Proofs.Tryd.f12) ⟨by kernel_rfl, by kernel_rfl, by kernel_rfl, by kernel_rfl, by kernel_rfl, by kernel_rfl, TT.of_ok _ T0ex, by kernel_rfl⟩ (fun k => ⟨told_ok (vinculumref03_Add.does k), trivial⟩) (fun _ _ h => by rw [h rfl]; rfl) k
def vinculumlaw08_ConvLong.A : AK := .p (.agg (.cons (.int .u64) (.cons (.int .u64) .nil))) (.p (.agg (.cons (.int .i64) (.cons (.int .i64) .nil))) (.p (.int .u64) .nil))
def vinculumlaw08_ConvLong.Q : RK := .p (.bool) .nil
def vinculumlaw08_ConvLong.h : Bool → vinculumlaw08_ConvLong.Q.T × List Int := fun b => ((b, ()), [])
noncomputable def vinculumlaw08_ConvLong.D : Decl Bool := ⟨(Go.Proofs.Tryd.f4.body).getD .skip, 144, [.tmp 6], vinculumlaw08_ConvLong.A, vinculumlaw08_ConvLong.Q, fun y m => y.1, T0, [], [(19, [(2, .p (some (.int .u64))), (3, .b (some (.cons (.int .u64) (.cons (.int .u64) .nil)))), (4, .b (some (.cons (.int .i64) (.cons (.int .i64) .nil)))), (11, .p (some (.row .u64))), (13, .p (some (.int .u64))), (14, .p (some (.int .u64))), (15, .p (some (.int .i64)))]), (10, [(2, .p (some (.int .u64))), (3, .b (some (.cons (.int .u64) (.cons (.int .u64) .nil)))), (4, .b (some (.cons (.int .i64) (.cons (.int .i64) .nil)))), (7, .m (.num .u64) 29), (8, .m (.num .u64) 29), (10, .p (some (.int .i64)))]), (6, [(2, .p (some (.int .u64))), (3, .b (some (.cons (.int .u64) (.cons (.int .u64) .nil)))), (4, .b (some (.cons (.int .i64) (.cons (.int .i64) .nil)))), (7, .m (.num .u64) 29), (8, .m (.num .u64) 29), (9, .p (some (.int .i64)))])], [(13, [7, 8])]⟩
noncomputable def vinculumlaw08_ConvLong.S (k : Nat) : List (Nat × E.Spec Bool) := [(6, told _ vinculumlaw08_awake.A vinculumlaw08_awake.Q (vinculumlaw08_awake.g k) vinculumlaw08_awake.h), (11, told _ conv_Conv.A conv_Conv.Q (conv_Conv.g k) conv_Conv.h), (12, told _ vinculumref03_Mul.A vinculumref03_Mul.Q (vinculumref03_Mul.g k) vinculumref03_Mul.h), (13, told _ vinculumref03_Add.A vinculumref03_Add.Q (vinculumref03_Add.g k) vinculumref03_Add.h)]
noncomputable def vinculumlaw08_ConvLong.l19 (k : Nat) (x2 : Int) (x3_0 : Int) (x3_1 : Int) (x4_0 : Int) (x4_1 : Int) (x11 : List Int) (x13 : Int) (x14 : Int) (x15 : Int) : Option Bool := vinculumlaw08_ConvLong.D.F vinculumlaw08_ConvLong.S k 39 [.p (.lit (.int .u64 x2)), .b 30 [.lit (.int .u64 x3_0), .lit (.int .u64 x3_1)], .b 31 [.lit (.int .i64 x4_0), .lit (.int .i64 x4_1)], .p (.row .u64 x11), .p (.lit (.int .u64 x13)), .p (.lit (.int .u64 x14)), .p (.lit (.int .i64 x15))]
noncomputable def vinculumlaw08_ConvLong.l10 (k : Nat) (x2 : Int) (x3_0 : Int) (x3_1 : Int) (x4_0 : Int) (x4_1 : Int) (x7 : List Int) (x8 : List Int) (x10 : Int) : Option Bool := vinculumlaw08_ConvLong.D.F vinculumlaw08_ConvLong.S k 21 [.p (.lit (.int .u64 x2)), .b 30 [.lit (.int .u64 x3_0), .lit (.int .u64 x3_1)], .b 31 [.lit (.int .i64 x4_0), .lit (.int .i64 x4_1)], .m x7, .m x8, .p (.lit (.int .i64 x10))]
noncomputable def vinculumlaw08_ConvLong.l6 (k : Nat) (x2 : Int) (x3_0 : Int) (x3_1 : Int) (x4_0 : Int) (x4_1 : Int) (x7 : List Int) (x8 : List Int) (x9 : Int) : Option Bool := vinculumlaw08_ConvLong.D.F vinculumlaw08_ConvLong.S k 13 [.p (.lit (.int .u64 x2)), .b 30 [.lit (.int .u64 x3_0), .lit (.int .u64 x3_1)], .b 31 [.lit (.int .i64 x4_0), .lit (.int .i64 x4_1)], .m x7, .m x8, .p (.lit (.int .i64 x9))]
noncomputable def vinculumlaw08_ConvLong.f0 (k : Nat) (a0_0 : Int) (a0_1 : Int) (a1_0 : Int) (a1_1 : Int) (a2 : Int) : Option Bool := vinculumlaw08_ConvLong.D.val vinculumlaw08_ConvLong.S k ((a0_0, a0_1, ()), (a1_0, a1_1, ()), a2, ())
noncomputable def vinculumlaw08_ConvLong.f := (still vinculumlaw08_ConvLong.f0).1
theorem vinculumlaw08_ConvLong.f_def : vinculumlaw08_ConvLong.f = vinculumlaw08_ConvLong.f0 := (still vinculumlaw08_ConvLong.f0).2
noncomputable def vinculumlaw08_ConvLong.g (k : Nat) (x : vinculumlaw08_ConvLong.A.T) : Option Bool := vinculumlaw08_ConvLong.f k (x.1.1) (x.1.2.1) (x.2.1.1) (x.2.1.2.1) (x.2.2.1)
theorem vinculumlaw08_ConvLong.does (k : Nat) : Does PG 4 vinculumlaw08_ConvLong.A vinculumlaw08_ConvLong.Q (vinculumlaw08_ConvLong.g k) vinculumlaw08_ConvLong.h := (show vinculumlaw08_ConvLong.g k = vinculumlaw08_ConvLong.D.val vinculumlaw08_ConvLong.S k from funext fun _ => by unfold vinculumlaw08_ConvLong.g; rw [vinculumlaw08_ConvLong.f_def]; rfl) ▸ Decl.does (D := vinculumlaw08_ConvLong.D) (S := vinculumlaw08_ConvLong.S) (fn := Go.Proofs.Tryd.f4) ⟨by kernel_rfl, by kernel_rfl, by kernel_rfl, by kernel_rfl, by kernel_rfl, by kernel_rfl, TT.of_ok _ T0ex, by kernel_rfl⟩ (fun k => ⟨told_ok (vinculumlaw08_awake.does k), ⟨told_ok (conv_Conv.does k), ⟨told_ok (vinculumref03_Mul.does k), ⟨told_ok (vinculumref03_Add.does k), trivial⟩⟩⟩⟩) (fun _ _ h => by rw [h rfl]; rfl) k
def vinculumlaw08_ConvGreat.A : AK := .p (.int .i64) .nil
def vinculumlaw08_ConvGreat.Q : RK := .p (.bool) .nil
def vinculumlaw08_ConvGreat.h : Bool → vinculumlaw08_ConvGreat.Q.T × List Int := fun b => ((b, ()), [])
noncomputable def vinculumlaw08_ConvGreat.D : Decl Bool := ⟨(Go.Proofs.Tryd.f5.body).getD .skip, 71, [.tmp 2], vinculumlaw08_ConvGreat.A, vinculumlaw08_ConvGreat.Q, fun y m => y.1, T0, [], [], [(4, [3]), (5, [3]), (6, [3]), (8, [3])]⟩
noncomputable def vinculumlaw08_ConvGreat.S (k : Nat) : List (Nat × E.Spec Bool) := [(6, told _ vinculumlaw08_awake.A vinculumlaw08_awake.Q (vinculumlaw08_awake.g k) vinculumlaw08_awake.h), (11, told _ conv_Conv.A conv_Conv.Q (conv_Conv.g k) conv_Conv.h), (14, told _ conv_Exact.A conv_Exact.Q (conv_Exact.g k) conv_Exact.h)]
noncomputable def vinculumlaw08_ConvGreat.f0 (k : Nat) (a0 : Int) : Option Bool := vinculumlaw08_ConvGreat.D.val vinculumlaw08_ConvGreat.S k (a0, ())
noncomputable def vinculumlaw08_ConvGreat.f := (still vinculumlaw08_ConvGreat.f0).1
theorem vinculumlaw08_ConvGreat.f_def : vinculumlaw08_ConvGreat.f = vinculumlaw08_ConvGreat.f0 := (still vinculumlaw08_ConvGreat.f0).2
noncomputable def vinculumlaw08_ConvGreat.g (k : Nat) (x : vinculumlaw08_ConvGreat.A.T) : Option Bool := vinculumlaw08_ConvGreat.f k (x.1)
theorem vinculumlaw08_ConvGreat.does (k : Nat) : Does PG 5 vinculumlaw08_ConvGreat.A vinculumlaw08_ConvGreat.Q (vinculumlaw08_ConvGreat.g k) vinculumlaw08_ConvGreat.h := (show vinculumlaw08_ConvGreat.g k = vinculumlaw08_ConvGreat.D.val vinculumlaw08_ConvGreat.S k from funext fun _ => by unfold vinculumlaw08_ConvGreat.g; rw [vinculumlaw08_ConvGreat.f_def]; rfl) ▸ Decl.does (D := vinculumlaw08_ConvGreat.D) (S := vinculumlaw08_ConvGreat.S) (fn := Go.Proofs.Tryd.f5) ⟨by kernel_rfl, by kernel_rfl, by kernel_rfl, by kernel_rfl, by kernel_rfl, by kernel_rfl, TT.of_ok _ T0ex, by kernel_rfl⟩ (fun k => ⟨told_ok (vinculumlaw08_awake.does k), ⟨told_ok (conv_Conv.does k), ⟨told_ok (conv_Exact.does k), trivial⟩⟩⟩) (fun _ _ h => by rw [h rfl]; rfl) k
end Go.Proofs.YtkoeddgbhohggaaDoor.F
end
