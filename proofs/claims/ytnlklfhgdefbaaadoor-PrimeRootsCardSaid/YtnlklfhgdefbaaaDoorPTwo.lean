/-
  Numbers alone: powers of one less than the modulus; how often 2 goes into a number. No condition, no program.
-/
import Derived.Test.YtnlklfhgdefbaaaDoorPFermat
namespace Go.Proofs.YtnlklfhgdefbaaaDoor.Pure
set_option linter.unusedVariables false
set_option linter.unusedSimpArgs false

theorem neg_one_pow {q : Nat} (hq : 2 ≤ q) : ∀ m, (q - 1) ^ (2 * m + 1) % q = q - 1 := by
  have hsq : (q - 1) * (q - 1) % q = 1 := by
    obtain ⟨m, rfl⟩ : ∃ m, q = m + 2 := ⟨q - 2, by omega⟩
    have e3 : (m + 2 - 1) * (m + 2 - 1) = 1 + (m + 2) * m := by
      have : m + 2 - 1 = m + 1 := by omega
      rw [this]; grind
    rw [e3, Nat.add_mul_mod_self_left, Nat.mod_eq_of_lt (by omega)]
  intro m
  induction m with
  | zero => rw [Nat.mul_zero, Nat.zero_add, Nat.pow_one, Nat.mod_eq_of_lt (by omega)]
  | succ m ih =>
    have e : (q - 1) ^ (2 * (m + 1) + 1) = (q - 1) * (q - 1) * (q - 1) ^ (2 * m + 1) := by
      have : 2 * (m + 1) + 1 = (2 * m + 1) + 1 + 1 := by omega
      rw [this, Nat.pow_succ, Nat.pow_succ]; grind
    rw [e, Nat.mul_mod, hsq, ih, Nat.one_mul, Nat.mod_eq_of_lt (by omega)]
/-- How often 2 goes into a number. -/
theorem two_part : ∀ (k n : Nat), n ≠ 0 → 2 ^ k ∣ n ∨ ∃ j u, j < k ∧ n = 2 ^ j * (2 * u + 1) := by
  intro k
  induction k with
  | zero => intro n _; exact .inl (by rw [Nat.pow_zero]; exact Nat.one_dvd n)
  | succ k ih =>
    intro n hn
    by_cases h : n % 2 = 1
    · exact .inr ⟨0, n / 2, Nat.succ_pos k, by rw [Nat.pow_zero, Nat.one_mul]; omega⟩
    · rcases ih (n / 2) (by omega) with h1 | ⟨j, u, hj, hu⟩
      · refine .inl ?_
        obtain ⟨c, hc⟩ := h1
        exact ⟨c, by rw [Nat.pow_succ, Nat.mul_comm (2 ^ k), Nat.mul_assoc, ← hc]; omega⟩
      · exact .inr ⟨j + 1, u, by omega, by rw [Nat.pow_succ, Nat.mul_comm (2 ^ j), Nat.mul_assoc, ← hu]; omega⟩
end Go.Proofs.YtnlklfhgdefbaaaDoor.Pure
