/-
  How many times a number goes into another one, and what is left, against the reference. No condition but the statement's own.
-/
import Derived.Test.YtdomplmilbkaeaaDoorPLaw01
import Derived.Test.YtdomplmilbkaeaaDoorPRefD
import Derived.Test.YtdomplmilbkaeaaDoorPDivM
import Derived.Test.YtdomplmilbkaeaaDoorGNx0
import Derived.Test.YtdomplmilbkaeaaDoorGNx24
namespace Go.Proofs.YtdomplmilbkaeaaDoor.Pure
open Go.RowKit Go.Proofs.YtdomplmilbkaeaaDoor.GN Go.Proofs.YtdomplmilbkaeaaDoorW.PrintWords Go.Proofs.YtdomplmilbkaeaaDoorW.PrintLast Go.Proofs.YtdomplmilbkaeaaDoorW.PrintMore
set_option linter.unusedVariables false
set_option linter.unusedSimpArgs false

theorem divides_j0 {x : List Int} (hx : WF x) (lx : x.length ≤ 12) {w : Nat} (hw : w < 18446744073709551616) (R : List Int × Int × Int) (hR : R = if w = 0 then ([], 0, 10) else (limbs (nv x / w), ((nv x % w : Nat) : Int), 0)) :
    Ev (fun k => vinculumlaw01_NatDivides.j0 k (w : Int) (dec (nv x)) R.1 R.2.1 R.2.2) true := by
  by_cases h : w = 0
  · rw [if_pos h] at hR
    subst hR
    refine Ev.step (f := fun k => (vinculumlaw01_awake.f k).bind fun t => some t) (fun k => ?_) (Ev.bind awake_ev (Ev.now _))
    simp only [vinculumlaw01_NatDivides.j0]
    rw [if_pos (by rw [h]; rfl), if_pos trivial]
    exact (if_pos rfl).trans (if_pos trivial)
  · have hi0 : ¬ (w : Int) = 0 := by omega
    rw [if_neg h] at hR
    subst hR
    have dx := ds_few hx lx
    have hws : w < 18446744073709551616 ^ 1 := by rw [Nat.pow_one]; exact hw
    have dw : (ds w).length ≤ 100000000 := Nat.le_trans (ds_length_mono (Nat.le_of_lt hw)) (by
      have : (ds 18446744073709551616).length ≤ 20 := ds_length_le (by decide) (by decide)
      omega)
    have hp := Nat.pos_of_ne_zero h
    have bx := pow_up (nv_lt hx) lx
    have hm := Nat.mod_lt (nv x) hp
    have hsm : (limbs (nv x / w)).length ≤ 1000 := limbs_sml (Nat.lt_of_le_of_lt (Nat.div_le_self _ _) bx) (by decide)
    refine Ev.step (f := fun k => (vinculumref01_Word.f k (w : Int)).bind fun t538 => ((vinculumref01_DivMod.f k (dec (nv x)) t538).bind fun bt539 => ((vinculumlaw01_Is.f k (limbs (nv x / w)) bt539.1).bind fun t541 => (if t541 = true then ((vinculumref01_Word.f k ((nv x % w : Nat) : Int)).bind fun t542 => (if t542.toList = bt539.2.toList then ((vinculumlaw01_awake.f k).bind fun t543 => (some t543)) else (some false))) else (some false))))) (fun k => ?_) ?_
    · simp only [vinculumlaw01_NatDivides.j0]
      rw [if_neg hi0]
      simp only [if_true]
    · exact Ev.bind (ref_word hw) (Ev.bind (ref_divmod hp (by omega) dw) (Ev.bind (is_ev hsm rfl) (Ev.congr (fun k => if_pos rfl) (Ev.bind (ref_word (Nat.lt_trans hm hw)) (Ev.congr (fun k => if_pos rfl) (Ev.bind awake_ev (Ev.now _)))))))
theorem NatDivides : vinculumlaw01_NatDivides.Pure := by
  intro x y w _ _ wx _ _ wy ww
  apply Ev.rounds
  unfold vinculumlaw01_NatDivides.f
  rw [few_f]
  refine Ev.congr (fun k => Option.bind_some _ _) ?_
  by_cases h : x.length ≤ 12 ∧ y.length ≤ 12
  · rw [decide_eq_true h]
    refine Ev.congr (fun k => if_pos rfl) ?_
    have hx := WF_of_wf wx; have hy := WF_of_wf wy
    have hU := U_of_wf ww
    obtain ⟨m, rfl⟩ := Int.eq_ofNat_of_zero_le hU.1
    have hm : m < 18446744073709551616 := Int.ofNat_lt.1 hU.2
    have lx : x.length ≤ 1000 := by omega
    have ly : y.length ≤ 1000 := by omega
    have bx := pow_up (nv_lt hx) h.1; have by' := pow_up (nv_lt hy) h.2
    have dx := ds_few hx h.1; have dy := ds_few hy h.2
    have gw : Ev (fun k => nat_DivWord.f k x (m : Int)) (if m = 0 then ([], 0, 10) else (limbs (nv x / m), ((nv x % m : Nat) : Int), 0)) := by
      by_cases h0 : m = 0
      · rw [if_pos h0, h0]; exact divw_zero x
      · rw [if_neg h0]; exact divw_ev hx (by omega) (Nat.pos_of_ne_zero h0) hm
    refine Ev.bind (of_ev hx lx) ?_
    by_cases h0 : nv y = 0
    · refine Ev.bind (dm_zero hx hy (by omega) (by omega) h0) (Ev.bind gw (Ev.bind (of_ev hy ly) ?_))
      have e : (dec (nv y)).toList = ([48] : List UInt8) := by rw [h0, dec_zero]; exact tx_toList _
      refine Ev.congr (fun k => if_pos e) (Ev.congr (fun k => if_pos rfl) (Ev.congr (fun k => if_pos rfl) (Ev.congr (fun k => if_pos rfl) ?_)))
      exact divides_j0 hx h.1 hm _ rfl
    · refine Ev.bind (dm_ev hx hy (by omega) (by omega) h0) (Ev.bind gw (Ev.bind (of_ev hy ly) ?_))
      have e : ¬ (dec (nv y)).toList = ([48] : List UInt8) := fun h2 => h0 (by
        rw [show (dec (nv y)).toList = ds (nv y) from tx_toList _, ← ds_zero] at h2
        exact ds_inj h2)
      have hp := Nat.pos_of_ne_zero h0
      have s1 : (limbs (nv x / nv y)).length ≤ 1000 := limbs_sml (Nat.lt_of_le_of_lt (Nat.div_le_self _ _) bx) (by decide)
      have s2 : (limbs (nv x % nv y)).length ≤ 1000 := limbs_sml (Nat.lt_of_le_of_lt (Nat.mod_le _ _) bx) (by decide)
      refine Ev.congr (fun k => if_neg e) (Ev.bind (of_ev hy ly) (Ev.bind (ref_divmod hp (by omega) (by omega)) (Ev.congr (fun k => if_pos rfl) (Ev.bind (is_ev s1 rfl) (Ev.congr (fun k => if_pos rfl) (Ev.bind (is_ev s2 rfl) (Ev.congr (fun k => if_pos rfl) ?_)))))))
      exact divides_j0 hx h.1 hm _ rfl
  · rw [decide_eq_false h]
    exact Ev.congr (fun k => if_neg (by decide)) (Ev.bind awake_ev (Ev.now _))
end Go.Proofs.YtdomplmilbkaeaaDoor.Pure
