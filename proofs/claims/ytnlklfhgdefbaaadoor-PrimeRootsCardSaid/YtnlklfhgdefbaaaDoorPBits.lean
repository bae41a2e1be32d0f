/-
  How many bits a word has: Len64, LeadingZeros64. No condition.
-/
import Derived.Test.YtnlklfhgdefbaaaDoorPBase
import Derived.Test.YtnlklfhgdefbaaaDoorGNx0
import Derived.Test.YtnlklfhgdefbaaaDoorGNx1
namespace Go.Proofs.YtnlklfhgdefbaaaDoor.Pure
open Go.RowKit Go.Proofs.YtnlklfhgdefbaaaDoor.GN Go.Proofs.YtnlklfhgdefbaaaDoorW.PrintWords Go.Proofs.YtnlklfhgdefbaaaDoorW.PrintLast Go.Proofs.YtnlklfhgdefbaaaDoorW.PrintMore
set_option linter.unusedVariables false
set_option linter.unusedSimpArgs false

/-- How many bits. -/
def bits (n : Nat) : Nat := if n = 0 then 0 else Nat.log2 n + 1
theorem lt_bits (n : Nat) : n < 2 ^ bits n := by
  unfold bits
  by_cases h : n = 0
  · subst h; decide
  · rw [if_neg h]; exact Nat.lt_log2_self
theorem le_bits {n i : Nat} (h : 2 ^ i ≤ n) : i < bits n := by
  have h0 : n ≠ 0 := by have := Nat.pow_pos (n := i) (show 0 < 2 by decide); omega
  unfold bits
  rw [if_neg h0]
  exact Nat.lt_succ_of_le ((Nat.le_log2 h0).2 h)
theorem bits_unique {n i : Nat} (h1 : n < 2 ^ i) (h2 : i = 0 ∨ 2 ^ (i - 1) ≤ n) : bits n = i := by
  have h3 : bits n ≤ i := Nat.le_of_not_lt fun h => by
    have h4 : i ≤ bits n - 1 := by omega
    have h5 : bits n ≠ 0 := by omega
    have h6 : 2 ^ (bits n - 1) ≤ n := by
      unfold bits at h5 ⊢
      by_cases h0 : n = 0
      · rw [if_pos h0] at h5; exact absurd rfl h5
      · rw [if_neg h0]; exact Nat.log2_self_le h0
    have := Nat.pow_le_pow_right (n := 2) (by decide) h4
    omega
  rcases h2 with h2 | h2
  · omega
  · have := le_bits h2; omega
theorem bits_le {n : Nat} (h : bits n ≠ 0) : 2 ^ (bits n - 1) ≤ n := by
  unfold bits at h ⊢
  by_cases h0 : n = 0
  · rw [if_pos h0] at h; exact absurd rfl h
  · rw [if_neg h0]; exact Nat.log2_self_le h0
theorem bits_shift {x s : Nat} (h : 2 ^ s ≤ x) : bits x = s + bits (x / 2 ^ s) := by
  have hp : 0 < 2 ^ s := Nat.pow_pos (by decide)
  have h0 : 1 ≤ x / 2 ^ s := (Nat.le_div_iff_mul_le hp).2 (by omega)
  have hb : bits (x / 2 ^ s) ≠ 0 := by unfold bits; rw [if_neg (by omega)]; omega
  apply bits_unique
  · rw [Nat.pow_add]
    have h1 := lt_bits (x / 2 ^ s)
    rw [Nat.mul_comm]
    exact (Nat.div_lt_iff_lt_mul hp).1 h1
  · refine .inr ?_
    have e : s + bits (x / 2 ^ s) - 1 = s + (bits (x / 2 ^ s) - 1) := by omega
    rw [e, Nat.pow_add, Nat.mul_comm]
    exact (Nat.le_div_iff_mul_le hp).1 (bits_le hb)
def lenTab : ByteArray := ⟨#[0, 1, 2, 2, 3, 3, 3, 3, 4, 4, 4, 4, 4, 4, 4, 4, 5, 5, 5, 5, 5, 5, 5, 5, 5, 5, 5, 5, 5, 5, 5, 5, 6, 6, 6, 6, 6, 6, 6, 6, 6, 6, 6, 6, 6, 6, 6, 6, 6, 6, 6, 6, 6, 6, 6, 6, 6, 6, 6, 6, 6, 6, 6, 6, 7, 7, 7, 7, 7, 7, 7, 7, 7, 7, 7, 7, 7, 7, 7, 7, 7, 7, 7, 7, 7, 7, 7, 7, 7, 7, 7, 7, 7, 7, 7, 7, 7, 7, 7, 7, 7, 7, 7, 7, 7, 7, 7, 7, 7, 7, 7, 7, 7, 7, 7, 7, 7, 7, 7, 7, 7, 7, 7, 7, 7, 7, 7, 7, 8, 8, 8, 8, 8, 8, 8, 8, 8, 8, 8, 8, 8, 8, 8, 8, 8, 8, 8, 8, 8, 8, 8, 8, 8, 8, 8, 8, 8, 8, 8, 8, 8, 8, 8, 8, 8, 8, 8, 8, 8, 8, 8, 8, 8, 8, 8, 8, 8, 8, 8, 8, 8, 8, 8, 8, 8, 8, 8, 8, 8, 8, 8, 8, 8, 8, 8, 8, 8, 8, 8, 8, 8, 8, 8, 8, 8, 8, 8, 8, 8, 8, 8, 8, 8, 8, 8, 8, 8, 8, 8, 8, 8, 8, 8, 8, 8, 8, 8, 8, 8, 8, 8, 8, 8, 8, 8, 8, 8, 8, 8, 8, 8, 8, 8, 8, 8, 8, 8, 8, 8, 8, 8, 8, 8, 8, 8, 8]⟩
set_option maxRecDepth 100000 in
theorem lenTab_fin : ∀ n : Fin 256, bt lenTab (n.val : Int) = (bits n.val : Int) ∧ bits n.val ≤ 8 := by decide +kernel
theorem lenTab_at {y : Int} {n : Nat} (hy : y = n) (h : n < 256) : wrap64 (bt lenTab y) = (bits n : Int) ∧ bits n ≤ 8 := by
  subst hy
  have := lenTab_fin ⟨n, h⟩
  exact ⟨by rw [this.1]; exact w64_nat (by have := this.2; omega), this.2⟩
theorem len_sum {s b : Nat} (hs : s ≤ 100) (hb : b ≤ 8) : wrap64 ((s : Int) + (b : Int)) = ((s + b : Nat) : Int) := w64_add (by omega)
theorem len_fin {a c s n : Nat} {y : Int} (hy : y = n) (hn : n < 256) (hs : bits a = s + bits n) (hcs : c + s ≤ 64) : wrap64 (((c + s : Nat) : Int) + wrap64 (bt lenTab y)) = ((c + bits a : Nat) : Int) := by
  obtain ⟨h1, h2⟩ := lenTab_at hy hn
  rw [h1, len_sum (by omega) h2, hs, Nat.add_assoc]
theorem len_w {c d : Nat} (h : c ≤ 64) (hd : d ≤ 16) : wrap64 ((c : Int) + (d : Int)) = ((c + d : Nat) : Int) := w64_add (by omega)
set_option maxRecDepth 100000 in
theorem len_j0 {a c : Nat} (ha : a < 4294967296) (hc : c ≤ 32) (k : Nat) : bits_Len64.j0 (k + 1) (a : Int) (c : Int) = some ((c + bits a : Nat) : Int) := by
  rw [bits_Len64.j0]
  have w16 : wrap64 ((c : Int) + 16) = ((c + 16 : Nat) : Int) := len_w (d := 16) (by omega) (by omega)
  have w8 : wrap64 ((c : Int) + 8) = ((c + 8 : Nat) : Int) := len_w (d := 8) (by omega) (by omega)
  have w24 : wrap64 (((c + 16 : Nat) : Int) + 8) = ((c + 24 : Nat) : Int) := len_w (d := 8) (by omega) (by omega)
  by_cases h1 : a ≥ 65536
  · rw [if_pos (by clear w16 w8 w24; omega)]
    by_cases h2 : a / 65536 ≥ 256
    · rw [if_pos (by clear w16 w8 w24; omega), if_pos (by clear w16 w8 w24; omega), if_pos (by clear w16 w8 w24; omega), w16, w24]
      clear w16 w8 w24
      exact congrArg some (len_fin (n := a / 2 ^ 24) (by omega) (by omega) (bits_shift (by omega)) (by omega))
    · rw [if_neg (by clear w16 w8 w24; omega), if_pos (by clear w16 w8 w24; omega), if_pos (by clear w16 w8 w24; omega), w16]
      clear w16 w8 w24
      exact congrArg some (len_fin (n := a / 2 ^ 16) (by omega) (by omega) (bits_shift (by omega)) (by omega))
  · rw [if_neg (by clear w16 w8 w24; omega)]
    by_cases h2 : a ≥ 256
    · rw [if_pos (by clear w16 w8 w24; omega), if_pos (by clear w16 w8 w24; omega), if_pos (by clear w16 w8 w24; omega), w8]
      clear w16 w8 w24
      exact congrArg some (len_fin (n := a / 2 ^ 8) (by omega) (by omega) (bits_shift (by omega)) (by omega))
    · rw [if_neg (by clear w16 w8 w24; omega), if_pos (by clear w16 w8 w24; omega), if_pos (by clear w16 w8 w24; omega)]
      clear w16 w8 w24
      exact congrArg some (len_fin (s := 0) (n := a) (by omega) (by omega) (Nat.zero_add _).symm (by omega))
theorem len64_ev {a : Nat} (ha : a < 18446744073709551616) : Ev (fun k => bits_Len64.f k (a : Int)) (bits a : Int) := by
  unfold bits_Len64.f
  by_cases h : (a : Int) ≥ 4294967296
  · have e : (a : Int) / 4294967296 = ((a / 2 ^ 32 : Nat) : Int) := by omega
    refine Ev.congr (fun k => if_pos h) ?_
    rw [e, bits_shift (show 2 ^ 32 ≤ a by omega)]
    exact ⟨1, fun k hk => by
      obtain ⟨k, rfl⟩ : ∃ m, k = m + 1 := ⟨k - 1, by omega⟩
      exact len_j0 (c := 32) (by omega) (by omega) k⟩
  · refine Ev.congr (fun k => if_neg h) ?_
    exact ⟨1, fun k hk => by
      obtain ⟨k, rfl⟩ : ∃ m, k = m + 1 := ⟨k - 1, by omega⟩
      have := len_j0 (a := a) (c := 0) (by omega) (by omega) k
      rw [Nat.zero_add] at this
      exact this⟩
theorem bits_le64 {a : Nat} (ha : a < 18446744073709551616) : bits a ≤ 64 := Nat.le_of_not_lt fun h => by
  have h1 := bits_le (show bits a ≠ 0 by omega)
  have h2 : 2 ^ 64 ≤ 2 ^ (bits a - 1) := Nat.pow_le_pow_right (by decide) (by omega)
  omega
theorem lz64_ev {a : Nat} (ha : a < 18446744073709551616) : Ev (fun k => bits_LeadingZeros64.f k (a : Int)) ((64 - bits a : Nat) : Int) := by
  have h := bits_le64 ha
  refine Ev.bind (len64_ev ha) ?_
  have : wrap64 (64 - (bits a : Int)) = ((64 - bits a : Nat) : Int) := by rw [w64_of (by omega) (by omega)]; omega
  rw [this]
  exact Ev.now _
end Go.Proofs.YtnlklfhgdefbaaaDoor.Pure
