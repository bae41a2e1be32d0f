/-
  Helpers: sums and comparisons of short numbers. Conditions: no list is longer than 1000 words.
-/
import Derived.Test.YtdomplmilbkaeaaDoorPNatA
import Derived.Test.YtdomplmilbkaeaaDoorGNx0
namespace Go.Proofs.YtdomplmilbkaeaaDoor.Pure
open Go.RowKit Go.Proofs.YtdomplmilbkaeaaDoor.GN Go.Proofs.YtdomplmilbkaeaaDoorW.PrintWords Go.Proofs.YtdomplmilbkaeaaDoorW.PrintLast Go.Proofs.YtdomplmilbkaeaaDoorW.PrintMore

/-- A list that is short enough. -/
theorem sml {l : List Int} {n m : Nat} (h : l.length ≤ n) (hn : n ≤ m) : l.length ≤ m := Nat.le_trans h hn
theorem limbs_sml {n : Nat} {m : Nat} (h : n < 18446744073709551616 ^ m) (hm : m ≤ 1000) : (limbs n).length ≤ 1000 := Nat.le_trans (limbs_length_le h) hm
theorem addL {a b : Nat} (ha : (limbs a).length ≤ 1000) (hb : (limbs b).length ≤ 1000) : Ev (fun k => nat_Add.f k (limbs a) (limbs b)) (limbs (a + b)) := by
  have := add_ev (limbs_WF a) (limbs_WF b) (Nat.le_trans ha (by decide)) (Nat.le_trans hb (by decide))
  rwa [nv_limbs, nv_limbs] at this
theorem addX {l : List Int} (hw : WF l) {b : Nat} (ha : l.length ≤ 1000) (hb : (limbs b).length ≤ 1000) : Ev (fun k => nat_Add.f k l (limbs b)) (limbs (nv l + b)) := by
  have := add_ev hw (limbs_WF b) (Nat.le_trans ha (by decide)) (Nat.le_trans hb (by decide))
  rwa [nv_limbs] at this
theorem addY {l : List Int} (hw : WF l) {b : Nat} (ha : l.length ≤ 1000) (hb : (limbs b).length ≤ 1000) : Ev (fun k => nat_Add.f k (limbs b) l) (limbs (b + nv l)) := by
  have := add_ev (limbs_WF b) hw (Nat.le_trans hb (by decide)) (Nat.le_trans ha (by decide))
  rwa [nv_limbs] at this
theorem addXX {x y : List Int} (hx : WF x) (hy : WF y) (lx : x.length ≤ 1000) (ly : y.length ≤ 1000) : Ev (fun k => nat_Add.f k x y) (limbs (nv x + nv y)) := add_ev hx hy (Nat.le_trans lx (by decide)) (Nat.le_trans ly (by decide))
/-- Two numbers that are one. -/
theorem cmpL {a b : Nat} (h : a = b) (ha : (limbs a).length ≤ 1000) : Ev (fun k => nat_Cmp.f k (limbs a) (limbs b)) 0 := by
  subst h
  have := cmp_ev (limbs_WF a) (limbs_WF a) (Nat.le_trans ha (by decide)) (Nat.le_trans ha (by decide))
  rw [nv_limbs] at this
  simpa [cmpI] using this
theorem len_add {a b p q : Nat} (ha : a < 18446744073709551616 ^ p) (hb : b < 18446744073709551616 ^ q) (h : p + q + 1 ≤ 1000) : (limbs (a + b)).length ≤ 1000 := by
  refine Nat.le_trans (limbs_length_le (m := p + q + 1) ?_) h
  have h1 : 18446744073709551616 ^ p ≤ 18446744073709551616 ^ (p + q) := Nat.pow_le_pow_right (by decide) (Nat.le_add_right p q)
  have h2 : 18446744073709551616 ^ q ≤ 18446744073709551616 ^ (p + q) := Nat.pow_le_pow_right (by decide) (Nat.le_add_left q p)
  have h3 : 18446744073709551616 ^ (p + q + 1) = 18446744073709551616 ^ (p + q) * 18446744073709551616 := Nat.pow_succ _ _
  generalize 18446744073709551616 ^ (p + q + 1) = A at *
  generalize 18446744073709551616 ^ (p + q) = B at *
  generalize 18446744073709551616 ^ p = C at *
  generalize 18446744073709551616 ^ q = D at *
  omega
theorem len_mul {a b p q : Nat} (ha : a < 18446744073709551616 ^ p) (hb : b < 18446744073709551616 ^ q) (h : p + q ≤ 1000) : (limbs (a * b)).length ≤ 1000 := by
  refine Nat.le_trans (limbs_length_le (m := p + q) ?_) h
  rw [Nat.pow_add]
  exact Nat.mul_lt_mul'' ha hb
theorem pow_up {a p q : Nat} (ha : a < 18446744073709551616 ^ p) (h : p ≤ q) : a < 18446744073709551616 ^ q := Nat.lt_of_lt_of_le ha (Nat.pow_le_pow_right (by decide) h)
theorem lt_add {a b p : Nat} (ha : a < 18446744073709551616 ^ p) (hb : b < 18446744073709551616 ^ p) : a + b < 18446744073709551616 ^ (p + 1) := by
  rw [Nat.pow_succ]
  generalize 18446744073709551616 ^ p = C at *
  omega
theorem lt_mul {a b p q : Nat} (ha : a < 18446744073709551616 ^ p) (hb : b < 18446744073709551616 ^ q) : a * b < 18446744073709551616 ^ (p + q) := by
  rw [Nat.pow_add]; exact Nat.mul_lt_mul'' ha hb

end Go.Proofs.YtdomplmilbkaeaaDoor.Pure
