/-
  The greatest common divisor of two numbers: what nat.Gcd computes. Conditions: all are words, no list is longer than 900000 words.
-/
import Derived.Test.YtdomplmilbkaeaaDoorPDivM
import Derived.Test.YtdomplmilbkaeaaDoorGNx0
import Derived.Test.YtdomplmilbkaeaaDoorGNx19
namespace Go.Proofs.YtdomplmilbkaeaaDoor.Pure
open Go.RowKit Go.Proofs.YtdomplmilbkaeaaDoor.GN Go.Proofs.YtdomplmilbkaeaaDoorW.PrintWords Go.Proofs.YtdomplmilbkaeaaDoorW.PrintLast Go.Proofs.YtdomplmilbkaeaaDoorW.PrintMore
set_option linter.unusedVariables false
set_option linter.unusedSimpArgs false

theorem gcd_l0 : ∀ (b a : Nat), (limbs a).length ≤ 900000 → (limbs b).length ≤ 900000 → Ev (fun k => nat_Gcd.l0 k (limbs a) (limbs b)) (limbs (Nat.gcd b a)) := by
  intro b
  induction b using Nat.strongRecOn with
  | _ b ih =>
    intro a la lb
    by_cases h : b = 0
    · subst h
      refine Ev.step (f := fun k => some (limbs a)) (fun k => ?_) (by rw [Nat.gcd_zero_left]; exact Ev.now _)
      simp only [nat_Gcd.l0]
      rw [limbs_zero, if_neg (by decide)]
    · have hb := Nat.pos_of_ne_zero h
      have hm := Nat.mod_lt a hb
      have g := ih (a % b) hm b lb (Nat.le_trans (limbs_length_mono (Nat.le_of_lt hm)) lb)
      rw [← Nat.gcd_rec] at g
      have gd := dm_ev (limbs_WF a) (limbs_WF b) la lb (by rw [nv_limbs]; exact h)
      rw [nv_limbs, nv_limbs] at gd
      have hp := limbs_length_pos h
      refine Ev.step (f := fun k => (nat_DivMod.f k (limbs a) (limbs b)).bind fun bt487 => nat_Gcd.l0 k (limbs b) bt487.2.1) (fun k => ?_) (Ev.bind gd g)
      simp only [nat_Gcd.l0]
      rw [if_pos (by omega)]
theorem gcd_ev {x y : List Int} (hx : WF x) (hy : WF y) (lx : x.length ≤ 900000) (ly : y.length ≤ 900000) : Ev (fun k => nat_Gcd.f k x y) (limbs (Nat.gcd (nv y) (nv x))) := by
  unfold nat_Gcd.f
  exact Ev.bind (norm_ev hx (Nat.le_trans lx (by decide))) (Ev.bind (norm_ev hy (Nat.le_trans ly (by decide))) (gcd_l0 _ _ (Nat.le_trans (limbs_length_le (nv_lt hx)) lx) (Nat.le_trans (limbs_length_le (nv_lt hy)) ly)))
end Go.Proofs.YtdomplmilbkaeaaDoor.Pure
