/-
  What the printed function Gcd of the reference computes on decimal digits. Conditions: no text is longer than stated.
-/
import Derived.Test.YtdomplmilbkaeaaDoorPRefD
import Derived.Test.YtdomplmilbkaeaaDoorGNx0
import Derived.Test.YtdomplmilbkaeaaDoorGNx17
import Derived.Test.YtdomplmilbkaeaaDoorGNx21
namespace Go.Proofs.YtdomplmilbkaeaaDoor.Pure
open Go.RowKit Go.Proofs.YtdomplmilbkaeaaDoor.GN Go.Proofs.YtdomplmilbkaeaaDoorW.PrintWords Go.Proofs.YtdomplmilbkaeaaDoorW.PrintLast Go.Proofs.YtdomplmilbkaeaaDoorW.PrintMore
set_option linter.unusedVariables false
set_option linter.unusedSimpArgs false

/-! ### Gcd -/
theorem ref_gcd : ∀ (b a : Nat), (ds a).length ≤ 100000000 → (ds b).length ≤ 100000000 → Ev (fun k => vinculumref01_Gcd.f k (dec a) (dec b)) (dec (Nat.gcd b a)) := by
  intro b
  induction b using Nat.strongRecOn with
  | _ b ih =>
    intro a la lb
    by_cases h : b = 0
    · subst h
      refine Ev.step (f := fun k => some (dec a)) (fun k => ?_) (by rw [Nat.gcd_zero_left]; exact Ev.now _)
      show vinculumref01_Gcd.l0 (k + 1) _ _ = _
      simp only [vinculumref01_Gcd.l0]
      rw [if_pos (by rw [dec_zero]; exact tx_toList _)]
    · have hb : 0 < b := Nat.pos_of_ne_zero h
      have hm := Nat.mod_lt a hb
      have g := ih (a % b) hm b lb (Nat.le_trans (ds_length_mono (Nat.le_of_lt hm)) lb)
      rw [← Nat.gcd_rec] at g
      refine Ev.step (f := fun k => (vinculumref01_DivMod.f k (dec a) (dec b)).bind fun t => vinculumref01_Gcd.l0 k (dec b) t.2) (fun k => ?_) (Ev.bind (ref_divmod hb la lb) g)
      show vinculumref01_Gcd.l0 (k + 1) _ _ = _
      simp only [vinculumref01_Gcd.l0]
      rw [if_neg (fun h2 => h (by
        rw [show (dec b).toList = ds b from tx_toList _, ← ds_zero] at h2
        exact ds_inj h2))]

end Go.Proofs.YtdomplmilbkaeaaDoor.Pure
