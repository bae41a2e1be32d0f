/-
  What a number is that is moved by bits, and how many bits it has, against the reference. No condition but the statement's own.
-/
import Derived.Test.YtdomplmilbkaeaaDoorPLaw01
import Derived.Test.YtdomplmilbkaeaaDoorPRefF
import Derived.Test.YtdomplmilbkaeaaDoorPShift
import Derived.Test.YtdomplmilbkaeaaDoorGNx0
import Derived.Test.YtdomplmilbkaeaaDoorGNx30
namespace Go.Proofs.YtdomplmilbkaeaaDoor.Pure
open Go.RowKit Go.Proofs.YtdomplmilbkaeaaDoor.GN Go.Proofs.YtdomplmilbkaeaaDoorW.PrintWords Go.Proofs.YtdomplmilbkaeaaDoorW.PrintLast Go.Proofs.YtdomplmilbkaeaaDoorW.PrintMore
set_option linter.unusedVariables false
set_option linter.unusedSimpArgs false

theorem NatMoves : vinculumlaw01_NatMoves.Pure := by
  intro x n _ _ wx hn
  apply Ev.rounds
  unfold vinculumlaw01_NatMoves.f
  have off : Ev (fun k => vinculumlaw01_NatMoves.j0 k x n true) true :=
    Ev.step (f := fun k => (vinculumlaw01_awake.f k).bind fun t => some t) (fun k => by simp only [vinculumlaw01_NatMoves.j0]; exact if_pos trivial) (Ev.bind awake_ev (Ev.now _))
  by_cases h : (x.length : Int) > 12
  · exact Ev.congr (fun k => if_pos h) off
  refine Ev.congr (fun k => if_neg h) ?_
  have hx := WF_of_wf wx
  have hl12 : x.length ≤ 12 := by omega
  have lx : x.length ≤ 1000 := by omega
  have lx6 : x.length ≤ 1000000 := by omega
  have bx := pow_up (nv_lt hx) hl12
  have dx := ds_few hx hl12
  have hb : bits (nv x) ≤ 100000 := Nat.le_trans (bits_le_words bx) (by decide)
  have hn64 : n < 9223372036854775808 := by
    simp [Lit.wf, IntKind.min, IntKind.max, IntKind.signed, IntKind.bits] at hn
    omega
  by_cases h1 : n < 0
  · refine Ev.congr (fun k => if_neg (by omega)) ?_
    refine Ev.step (fun k => by simp only [vinculumlaw01_NatMoves.j0]; exact if_neg (by decide)) ?_
    refine Ev.bind (of_ev hx lx) (Ev.bind (shl_neg h1) (Ev.bind (shr_neg h1) (Ev.bind (natbits_ev hx lx6) (Ev.bind (ref_bits hb) ?_))))
    refine Ev.congr (fun k => if_pos rfl) (Ev.congr (fun k => if_pos h1) (Ev.congr (fun k => if_pos rfl) (Ev.congr (fun k => if_pos rfl) (Ev.congr (fun k => if_pos rfl) (Ev.congr (fun k => if_pos rfl) (Ev.bind awake_ev (Ev.now _)))))))
  obtain ⟨m, rfl⟩ := Int.eq_ofNat_of_zero_le (show 0 ≤ n by omega)
  have hm64 : m < 9223372036854775808 := by omega
  by_cases h2 : (m : Int) > 300
  · refine Ev.congr (fun k => if_pos h2) ?_
    by_cases h3 : (m : Int) ≤ 262144
    · rw [decide_eq_true h3]; exact off
    · rw [decide_eq_false h3]
      refine Ev.step (fun k => by simp only [vinculumlaw01_NatMoves.j0]; exact if_neg (by decide)) ?_
      have gd := shr_ev hx lx6 hm64
      rw [far_zero bx (by omega), limbs_zero] at gd
      refine Ev.bind (of_ev hx lx) (Ev.bind (shl_far (by omega)) (Ev.bind gd (Ev.bind (natbits_ev hx lx6) (Ev.bind (ref_bits hb) ?_))))
      refine Ev.congr (fun k => if_pos rfl) (Ev.congr (fun k => if_neg h1) (Ev.congr (fun k => if_pos h2) (Ev.congr (fun k => if_pos rfl) (Ev.congr (fun k => if_pos rfl) (Ev.congr (fun k => if_pos rfl) (Ev.congr (fun k => if_pos rfl) (Ev.bind awake_ev (Ev.now _))))))))
  · refine Ev.congr (fun k => if_neg h2) ?_
    have hm : m ≤ 300 := by omega
    have hp5 : 2 ^ m < 18446744073709551616 ^ 5 := pow_lt_words (by omega)
    have dp := ds_pow2 m
    refine Ev.step (fun k => by simp only [vinculumlaw01_NatMoves.j0]; exact if_neg (by decide)) ?_
    refine Ev.bind (of_ev hx lx) (Ev.bind (shl_ev hx lx6 (by omega)) (Ev.bind (shr_ev hx lx6 hm64) (Ev.bind (natbits_ev hx lx6) (Ev.bind (ref_bits hb) ?_))))
    refine Ev.congr (fun k => if_pos rfl) (Ev.congr (fun k => if_neg h1) (Ev.congr (fun k => if_neg h2) (Ev.bind (ref_double (by omega)) (Ev.bind (ref_divmod (Nat.pow_pos (by decide)) (by omega) (by omega)) ?_))))
    refine Ev.congr (fun k => if_pos rfl) (Ev.congr (fun k => if_pos rfl) (Ev.bind (ref_mul (by omega) (by omega)) ?_))
    refine Ev.bind (is_ev (limbs_sml (lt_mul bx hp5) (by decide)) rfl) (Ev.congr (fun k => if_pos rfl) ?_)
    have hsm : (limbs (nv x / 2 ^ m)).length ≤ 1000 := limbs_sml (Nat.lt_of_le_of_lt (Nat.div_le_self _ _) bx) (by decide)
    exact Ev.bind (is_ev hsm rfl) (Ev.congr (fun k => if_pos rfl) (Ev.bind awake_ev (Ev.now _)))
end Go.Proofs.YtdomplmilbkaeaaDoor.Pure
