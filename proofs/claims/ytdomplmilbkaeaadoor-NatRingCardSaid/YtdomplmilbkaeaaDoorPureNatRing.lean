/-
  Sums and products of numbers of words do not hang on order, and products go over sums. No condition but the statement's own.
-/
import Derived.Test.YtdomplmilbkaeaaDoorPNatB
import Derived.Test.YtdomplmilbkaeaaDoorPAwake01
import Derived.Test.YtdomplmilbkaeaaDoorGNx0
import Derived.Test.YtdomplmilbkaeaaDoorGNx16
namespace Go.Proofs.YtdomplmilbkaeaaDoor.Pure
open Go.RowKit Go.Proofs.YtdomplmilbkaeaaDoor.GN Go.Proofs.YtdomplmilbkaeaaDoorW.PrintWords Go.Proofs.YtdomplmilbkaeaaDoorW.PrintLast Go.Proofs.YtdomplmilbkaeaaDoorW.PrintMore

/-- A list that is short enough. -/
theorem sml {l : List Int} {n m : Nat} (h : l.length ≤ n) (hn : n ≤ m) : l.length ≤ m := Nat.le_trans h hn
theorem limbs_sml {n : Nat} {m : Nat} (h : n < 18446744073709551616 ^ m) (hm : m ≤ 1000) : (limbs n).length ≤ 1000 := Nat.le_trans (limbs_length_le h) hm
theorem addL {a b : Nat} (ha : (limbs a).length ≤ 1000) (hb : (limbs b).length ≤ 1000) : Ev (fun k => nat_Add.f k (limbs a) (limbs b)) (limbs (a + b)) := by
  have := add_ev (limbs_WF a) (limbs_WF b) (Nat.le_trans ha (by decide)) (Nat.le_trans hb (by decide))
  rwa [nv_limbs, nv_limbs] at this
theorem addX {l : List Int} (hw : WF l) {b : Nat} (ha : l.length ≤ 1000) (hb : (limbs b).length ≤ 1000) : Ev (fun k => nat_Add.f k l (limbs b)) (limbs (nv l + b)) := by
  have := add_ev hw (limbs_WF b) (Nat.le_trans ha (by decide)) (Nat.le_trans hb (by decide))
  rwa [nv_limbs] at this
theorem addY {l : List Int} (hw : WF l) {b : Nat} (ha : l.length ≤ 1000) (hb : (limbs b).length ≤ 1000) : Ev (fun k => nat_Add.f k (limbs b) l) (limbs (b + nv l)) := by
  have := add_ev (limbs_WF b) hw (Nat.le_trans hb (by decide)) (Nat.le_trans ha (by decide))
  rwa [nv_limbs] at this
theorem mulX {l : List Int} (hw : WF l) {b : Nat} (ha : l.length ≤ 1000) (hb : (limbs b).length ≤ 1000) : Ev (fun k => nat_Mul.f k l (limbs b)) (limbs (nv l * b)) := by
  have := mul_ev hw (limbs_WF b) (Nat.le_trans ha (by decide)) (Nat.le_trans hb (by decide))
  rwa [nv_limbs] at this
theorem mulY {l : List Int} (hw : WF l) {b : Nat} (ha : l.length ≤ 1000) (hb : (limbs b).length ≤ 1000) : Ev (fun k => nat_Mul.f k (limbs b) l) (limbs (b * nv l)) := by
  have := mul_ev (limbs_WF b) hw (Nat.le_trans hb (by decide)) (Nat.le_trans ha (by decide))
  rwa [nv_limbs] at this
theorem addXX {x y : List Int} (hx : WF x) (hy : WF y) (lx : x.length ≤ 1000) (ly : y.length ≤ 1000) : Ev (fun k => nat_Add.f k x y) (limbs (nv x + nv y)) := add_ev hx hy (Nat.le_trans lx (by decide)) (Nat.le_trans ly (by decide))
theorem mulXX {x y : List Int} (hx : WF x) (hy : WF y) (lx : x.length ≤ 1000) (ly : y.length ≤ 1000) : Ev (fun k => nat_Mul.f k x y) (limbs (nv x * nv y)) := mul_ev hx hy (Nat.le_trans lx (by decide)) (Nat.le_trans ly (by decide))
/-- Two numbers that are one. -/
theorem cmpL {a b : Nat} (h : a = b) (ha : (limbs a).length ≤ 1000) : Ev (fun k => nat_Cmp.f k (limbs a) (limbs b)) 0 := by
  subst h
  have := cmp_ev (limbs_WF a) (limbs_WF a) (Nat.le_trans ha (by decide)) (Nat.le_trans ha (by decide))
  rw [nv_limbs] at this
  simpa [cmpI] using this
theorem len_add {a b p q : Nat} (ha : a < 18446744073709551616 ^ p) (hb : b < 18446744073709551616 ^ q) (h : p + q + 1 ≤ 1000) : (limbs (a + b)).length ≤ 1000 := by
  refine Nat.le_trans (limbs_length_le (m := p + q + 1) ?_) h
  have h1 : 18446744073709551616 ^ p ≤ 18446744073709551616 ^ (p + q) := Nat.pow_le_pow_right (by decide) (Nat.le_add_right p q)
  have h2 : 18446744073709551616 ^ q ≤ 18446744073709551616 ^ (p + q) := Nat.pow_le_pow_right (by decide) (Nat.le_add_left q p)
  have h3 : 18446744073709551616 ^ (p + q + 1) = 18446744073709551616 ^ (p + q) * 18446744073709551616 := Nat.pow_succ _ _
  generalize 18446744073709551616 ^ (p + q + 1) = A at *
  generalize 18446744073709551616 ^ (p + q) = B at *
  generalize 18446744073709551616 ^ p = C at *
  generalize 18446744073709551616 ^ q = D at *
  omega
theorem len_mul {a b p q : Nat} (ha : a < 18446744073709551616 ^ p) (hb : b < 18446744073709551616 ^ q) (h : p + q ≤ 1000) : (limbs (a * b)).length ≤ 1000 := by
  refine Nat.le_trans (limbs_length_le (m := p + q) ?_) h
  rw [Nat.pow_add]
  exact Nat.mul_lt_mul'' ha hb
theorem pow_up {a p q : Nat} (ha : a < 18446744073709551616 ^ p) (h : p ≤ q) : a < 18446744073709551616 ^ q := Nat.lt_of_lt_of_le ha (Nat.pow_le_pow_right (by decide) h)
theorem lt_add {a b p : Nat} (ha : a < 18446744073709551616 ^ p) (hb : b < 18446744073709551616 ^ p) : a + b < 18446744073709551616 ^ (p + 1) := by
  rw [Nat.pow_succ]
  generalize 18446744073709551616 ^ p = C at *
  omega
theorem lt_mul {a b p q : Nat} (ha : a < 18446744073709551616 ^ p) (hb : b < 18446744073709551616 ^ q) : a * b < 18446744073709551616 ^ (p + q) := by
  rw [Nat.pow_add]; exact Nat.mul_lt_mul'' ha hb

theorem ring_j1 {x y z : List Int} (hx : WF x) (hy : WF y) (hz : WF z) (lx : x.length ≤ 30) (ly : y.length ≤ 30) (lz : z.length ≤ 30) : Ev (fun k => vinculumlaw01_NatRing.j1 k x y z false) true := by
  have bx := pow_up (nv_lt hx) lx; have by' := pow_up (nv_lt hy) ly; have bz := pow_up (nv_lt hz) lz
  refine Ev.step (fun k => by simp only [vinculumlaw01_NatRing.j1]; rw [if_neg (by decide)]) ?_
  refine Ev.bind (addXX hy hz (sml ly (by decide)) (sml lz (by decide))) ?_
  refine Ev.bind (mulX hx (sml lx (by decide)) (limbs_sml (lt_add by' bz) (by decide))) ?_
  refine Ev.bind (mulXX hx hy (sml lx (by decide)) (sml ly (by decide))) ?_
  refine Ev.bind (mulXX hx hz (sml lx (by decide)) (sml lz (by decide))) ?_
  refine Ev.bind (addL (limbs_sml (lt_mul bx by') (by decide)) (limbs_sml (lt_mul bx bz) (by decide))) ?_
  refine Ev.bind (cmpL (Nat.mul_add _ _ _) (limbs_sml (lt_mul bx (lt_add by' bz)) (by decide))) ?_
  refine Ev.congr (fun k => if_pos rfl) ?_
  refine Ev.bind (mulXX hx hy (sml lx (by decide)) (sml ly (by decide))) ?_
  refine Ev.bind (mulY hz (sml lz (by decide)) (limbs_sml (lt_mul bx by') (by decide))) ?_
  refine Ev.bind (mulXX hy hz (sml ly (by decide)) (sml lz (by decide))) ?_
  refine Ev.bind (mulX hx (sml lx (by decide)) (limbs_sml (lt_mul by' bz) (by decide))) ?_
  refine Ev.bind (cmpL (Nat.mul_assoc _ _ _) (limbs_sml (lt_mul (lt_mul bx by') bz) (by decide))) ?_
  refine Ev.congr (fun k => if_pos rfl) ?_
  exact Ev.bind awake_ev (Ev.now _)
theorem ring_j0 {x y z : List Int} (hx : WF x) (hy : WF y) (hz : WF z) (lx : x.length ≤ 30) (ly : y.length ≤ 30) (lz : z.length ≤ 30) : Ev (fun k => vinculumlaw01_NatRing.j0 k x y z false) true := by
  have bx := pow_up (nv_lt hx) lx; have by' := pow_up (nv_lt hy) ly; have bz := pow_up (nv_lt hz) lz
  refine Ev.step (fun k => by simp only [vinculumlaw01_NatRing.j0]; rw [if_neg (by decide)]) ?_
  refine Ev.bind (addXX hx hy (sml lx (by decide)) (sml ly (by decide))) ?_
  refine Ev.bind (addXX hy hx (sml ly (by decide)) (sml lx (by decide))) ?_
  refine Ev.bind (cmpL (Nat.add_comm _ _) (limbs_sml (lt_add bx by') (by decide))) ?_
  refine Ev.congr (fun k => if_pos rfl) ?_
  refine Ev.bind (mulXX hx hy (sml lx (by decide)) (sml ly (by decide))) ?_
  refine Ev.bind (mulXX hy hx (sml ly (by decide)) (sml lx (by decide))) ?_
  refine Ev.bind (cmpL (Nat.mul_comm _ _) (limbs_sml (lt_mul bx by') (by decide))) ?_
  refine Ev.congr (fun k => if_pos rfl) ?_
  refine Ev.bind (addXX hx hy (sml lx (by decide)) (sml ly (by decide))) ?_
  refine Ev.bind (addY hz (sml lz (by decide)) (limbs_sml (lt_add bx by') (by decide))) ?_
  refine Ev.bind (addXX hy hz (sml ly (by decide)) (sml lz (by decide))) ?_
  refine Ev.bind (addX hx (sml lx (by decide)) (limbs_sml (lt_add by' bz) (by decide))) ?_
  refine Ev.bind (cmpL (Nat.add_assoc _ _ _) (limbs_sml (lt_add (lt_add bx by') (pow_up bz (by decide))) (by decide))) ?_
  exact ring_j1 hx hy hz lx ly lz
theorem ring_awake (x y z : List Int) : Ev (fun k => vinculumlaw01_NatRing.j0 k x y z true) true := by
  refine Ev.step (fun k => by simp only [vinculumlaw01_NatRing.j0]; exact if_pos trivial) ?_
  exact Ev.bind awake_ev (Ev.now _)

theorem NatRing : vinculumlaw01_NatRing.Pure := by
  intro x y z _ _ wx _ _ wy _ _ wz
  apply Ev.rounds
  unfold vinculumlaw01_NatRing.f
  by_cases h1 : (x.length : Int) > 30
  · exact Ev.congr (fun k => if_pos h1) (ring_awake x y z)
  · refine Ev.congr (fun k => if_neg h1) ?_
    by_cases h2 : (y.length : Int) > 30
    · exact Ev.congr (fun k => if_pos h2) (ring_awake x y z)
    · refine Ev.congr (fun k => if_neg h2) ?_
      by_cases h3 : (z.length : Int) > 30
      · rw [decide_eq_true h3]; exact ring_awake x y z
      · rw [decide_eq_false h3]
        exact ring_j0 (WF_of_wf wx) (WF_of_wf wy) (WF_of_wf wz) (by omega) (by omega) (by omega)
end Go.Proofs.YtdomplmilbkaeaaDoor.Pure
