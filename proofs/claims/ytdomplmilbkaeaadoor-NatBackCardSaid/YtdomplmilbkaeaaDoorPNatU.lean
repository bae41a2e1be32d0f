/-
  Lists of words: zeros ahead, the first words, the others; what nat.up computes. Conditions: no list is longer than 1000 words.
-/
import Derived.Test.YtdomplmilbkaeaaDoorPNatA
import Derived.Test.YtdomplmilbkaeaaDoorGNx0
import Derived.Test.YtdomplmilbkaeaaDoorGNx15
namespace Go.Proofs.YtdomplmilbkaeaaDoor.Pure
open Go.RowKit Go.Proofs.YtdomplmilbkaeaaDoor.GN Go.Proofs.YtdomplmilbkaeaaDoorW.PrintWords Go.Proofs.YtdomplmilbkaeaaDoorW.PrintLast Go.Proofs.YtdomplmilbkaeaaDoorW.PrintMore
set_option linter.unusedVariables false
set_option linter.unusedSimpArgs false

theorem limbs_up (a n : Nat) (h : a ≠ 0) : List.replicate n (0 : Int) ++ limbs a = limbs (18446744073709551616 ^ n * a) := by
  have hw : WF (List.replicate n (0 : Int) ++ limbs a) := (WF.zeros n).append (limbs_WF a)
  have hne : limbs a ≠ [] := fun h' => h (limbs_eq_nil.1 h')
  have hz : Nz (List.replicate n (0 : Int) ++ limbs a) := fun h' => by
    rw [List.getLast_append_of_ne_nil _ hne]; exact limbs_Nz a hne
  have := limbs_of hw hz
  rw [this]
  congr 1
  rw [nv_append, nv_zeros, nv_limbs, List.length_replicate, Nat.zero_add]
theorem up_f {a n : Nat} (ha : (limbs a).length ≤ 1000) (hn : n ≤ 1000000) : nat_up.f (limbs a) (n : Int) = some (limbs (18446744073709551616 ^ n * a)) := by
  unfold nat_up.f
  by_cases h : a = 0
  · subst h
    rw [limbs_zero, Nat.mul_zero, limbs_zero]; rfl
  · have h1 := limbs_length_pos h
    have e : wrap64 ((n : Int) + ((limbs a).length : Int)) = ((n + (limbs a).length : Nat) : Int) := w64_add (by omega)
    rw [if_neg (by omega), if_pos (Int.natCast_nonneg n), e]
    rw [if_pos (by omega), Int.toNat_natCast, if_pos (by omega)]
    rw [Option.bind_some]
    rw [Int.toNat_natCast, List.length_replicate, if_pos (by omega), limbs_up a n h]
theorem dm_of {a p q P : Nat} (h : a = p + P * q) (hp : p < P) : a % P = p ∧ a / P = q := by
  subst h
  exact ⟨by rw [Nat.add_mul_mod_self_left, Nat.mod_eq_of_lt hp], by rw [Nat.add_mul_div_left _ _ (Nat.lt_of_le_of_lt (Nat.zero_le _) hp), Nat.div_eq_of_lt hp, Nat.zero_add]⟩
theorem limbs_take (a n : Nat) : limbs (nv ((limbs a).take n)) = limbs (a % 18446744073709551616 ^ n) := by
  congr 1
  by_cases h : n ≤ (limbs a).length
  · have h1 := nv_split (limbs a) n h
    rw [nv_limbs] at h1
    have h2 := nv_lt ((limbs_WF a).take n)
    rw [List.length_take, Nat.min_eq_left h] at h2
    exact (dm_of h1 h2).1.symm
  · have h3 := lt_pow_limbs a
    have h4 : a < 18446744073709551616 ^ n := Nat.lt_of_lt_of_le h3 (Nat.pow_le_pow_right (by decide) (by omega))
    rw [List.take_of_length_le (by omega), nv_limbs, Nat.mod_eq_of_lt h4]
theorem limbs_drop (a n : Nat) : (limbs a).drop n = limbs (a / 18446744073709551616 ^ n) := by
  by_cases h : n < (limbs a).length
  · have hne : (limbs a).drop n ≠ [] := by
      intro h'; have := List.drop_eq_nil_iff.1 h'; omega
    have hz : Nz ((limbs a).drop n) := fun h' => by
      rw [List.getLast_drop]
      exact limbs_Nz a _
    have h0 := limbs_of ((limbs_WF a).drop n) hz
    rw [h0]
    congr 1
    have h1 := nv_split (limbs a) n (by omega)
    rw [nv_limbs] at h1
    have h2 := nv_lt ((limbs_WF a).take n)
    rw [List.length_take, Nat.min_eq_left (by omega)] at h2
    exact (dm_of h1 h2).2.symm
  · have h3 := lt_pow_limbs a
    have h4 : a < 18446744073709551616 ^ n := Nat.lt_of_lt_of_le h3 (Nat.pow_le_pow_right (by decide) (by omega))
    rw [Nat.div_eq_of_lt h4, limbs_zero, List.drop_eq_nil_iff]; omega
end Go.Proofs.YtdomplmilbkaeaaDoor.Pure
