/-
  The test tells the primes up to 1000003; what the reference's Is, Next compute. No condition but that bound.
-/
import Derived.Test.YtnlklfhgdefbaaaDoorPTable
import Derived.Test.YtnlklfhgdefbaaaDoorGNx0
import Derived.Test.YtnlklfhgdefbaaaDoorGNx5
namespace Go.Proofs.YtnlklfhgdefbaaaDoor.Pure
open Go.RowKit Go.Proofs.YtnlklfhgdefbaaaDoor.GN Go.Proofs.YtnlklfhgdefbaaaDoorW.PrintWords Go.Proofs.YtnlklfhgdefbaaaDoorW.PrintLast Go.Proofs.YtnlklfhgdefbaaaDoorW.PrintMore
set_option linter.unusedVariables false
set_option linter.unusedSimpArgs false

/-- Up to 1000003 the test tells the primes. -/
theorem isN_iff {n : Nat} (hn : n ≤ 1000003) : isN n = true ↔ Pr n := by
  constructor
  · intro h
    rcases isN_cases h with h1 | ⟨h2, hb, hs⟩
    · exact BL_pr h1
    · apply Classical.byContradiction
      intro hp
      obtain ⟨d, m, hd, hdm, hle⟩ := composite h2 hp
      have hd2 := hd.1
      have hdd : d ≤ 1001 := Nat.le_of_not_lt fun h3 => by
        have : 1002 * 1002 ≤ d * m := Nat.mul_le_mul h3 (Nat.le_trans h3 hle)
        omega
      have no : ∀ x, x ∣ n → smallF x ≠ true := fun x hx h3 => by
        obtain ⟨b, hbm, hb0⟩ := smallF_spec h3
        exact hb b hbm (Nat.mod_eq_zero_of_dvd (Nat.dvd_trans (Nat.dvd_of_mod_eq_zero hb0) hx))
      rcases table hd2 hdd hle (by omega) with h3 | h3 | h3
      · exact no d ⟨m, hdm⟩ h3
      · exact no m ⟨d, by rw [hdm, Nat.mul_comm]⟩ h3
      · rw [← hdm] at h3
        rcases fails_spec h2 (by omega) h3 with h4 | h4
        · rw [hs 2 (by decide)] at h4; cases h4
        · rw [hs 3 (by decide)] at h4; cases h4
  · intro h
    exact isN_prime h (by omega)

/-! ### the reference's Is, by trying all divisors -/
theorem trial_end {n d : Nat} (h2 : 2 ≤ n) (hd : n < d * d) (hno : ∀ e, 2 ≤ e → e < d → ¬ e ∣ n) : Pr n := by
  apply Classical.byContradiction
  intro hp
  obtain ⟨e, m, he, hem, hle⟩ := composite h2 hp
  have hed : e < d := Nat.lt_of_not_le fun h => by
    have : d * d ≤ e * m := Nat.mul_le_mul h (Nat.le_trans h hle)
    omega
  exact hno e he.1 hed ⟨m, hem⟩
theorem ref_is_l0 {n : Nat} (h2 : 2 ≤ n) (hn : n ≤ 4000000000) (b : Bool) (hb : b = true ↔ Pr n) : ∀ (f d : Nat), n + 2 - d = f → 2 ≤ d → d ≤ n + 1 → (∀ e, 2 ≤ e → e < d → ¬ e ∣ n) → Ev (fun k => vinculumref04_Is.l0 k (n : Int) (d : Int)) b := by
  intro f
  induction f with
  | zero => intro d hf h3 h4 _; omega
  | succ f ih =>
    intro d hf h3 h4 hno
    have hdd : d * d < 18446744073709551616 := by
      have : d * d ≤ 4000000001 * 4000000001 := Nat.mul_le_mul (by omega) (by omega)
      omega
    have ew : IntKind.u64.wrap ((d : Int) * (d : Int)) = ((d * d : Nat) : Int) := by rw [mulN, wrapN _ hdd]
    by_cases h : d * d ≤ n
    · have hdn : d < n := by
        have : d * 2 ≤ d * d := Nat.mul_le_mul_left d h3
        omega
      by_cases hd : n % d = 0
      · have hnp : ¬ Pr n := fun hp => by
          rcases hp.2 d (Nat.dvd_of_mod_eq_zero hd) with h5 | h5 <;> omega
        have hb0 : b = false := by
          cases b with
          | false => rfl
          | true => exact absurd (hb.1 rfl) hnp
        rw [hb0]
        refine Ev.step (f := fun k => some false) (fun k => ?_) (Ev.now _)
        simp only [vinculumref04_Is.l0]
        rw [ew, if_pos (Int.ofNat_le.2 h), if_neg (by omega), tmodN, if_pos (by omega)]
      · have g := ih (d + 1) (by omega) (by omega) (by omega) (fun e h5 h6 => by
          by_cases h7 : e = d
          · rw [h7]; exact fun h8 => hd (Nat.mod_eq_zero_of_dvd h8)
          · exact hno e h5 (by omega))
        have e1 : IntKind.u64.wrap ((d : Int) + 1) = ((d + 1 : Nat) : Int) := by rw [show (1 : Int) = ((1 : Nat) : Int) from rfl, addN, wrapN _ (by omega)]
        refine Ev.step (fun k => ?_) g
        simp only [vinculumref04_Is.l0]
        rw [ew, if_pos (Int.ofNat_le.2 h), if_neg (by omega), tmodN, if_neg (by omega), e1]
    · have hp := trial_end h2 (Nat.lt_of_not_le h) hno
      rw [hb.2 hp]
      refine Ev.step (f := fun k => some true) (fun k => ?_) (Ev.now _)
      simp only [vinculumref04_Is.l0]
      rw [ew, if_neg (fun h5 => h (Int.ofNat_le.1 h5))]
theorem ref_is_ev {n : Nat} (hn : n ≤ 1000003) : Ev (fun k => vinculumref04_Is.f k (n : Int)) (isN n) := by
  unfold vinculumref04_Is.f
  by_cases h : n < 2
  · have e : isN n = false := by unfold isN; rw [if_pos h]
    rw [e]
    exact Ev.congr (fun k => if_pos (by omega)) (Ev.now _)
  · exact Ev.congr (fun k => if_neg (by omega)) (ref_is_l0 (by omega) (by omega) _ (isN_iff hn) _ 2 rfl (Nat.le_refl _) (by omega) (fun e h1 h2 => absurd h2 (by omega)))
end Go.Proofs.YtnlklfhgdefbaaaDoor.Pure
