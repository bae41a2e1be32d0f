/-
  A number that is c times 2 to the kth and 1, with an odd c below 2 to the kth, is a prime, if a number shows it (after Proth). No condition but the statement's own.
-/
import Derived.Test.YtnlklfhgdefbaaaDoorPStrong
import Derived.Test.YtnlklfhgdefbaaaDoorPRef3
import Derived.Test.YtnlklfhgdefbaaaDoorPAwake04
import Derived.Test.YtnlklfhgdefbaaaDoorGNx0
import Derived.Test.YtnlklfhgdefbaaaDoorGNx11
namespace Go.Proofs.YtnlklfhgdefbaaaDoor.Pure
open Go.RowKit Go.Proofs.YtnlklfhgdefbaaaDoor.GN Go.Proofs.YtnlklfhgdefbaaaDoorW.PrintWords Go.Proofs.YtnlklfhgdefbaaaDoorW.PrintLast Go.Proofs.YtnlklfhgdefbaaaDoorW.PrintMore
set_option linter.unusedVariables false
set_option linter.unusedSimpArgs false

theorem neg_one_pow {q u : Nat} (hq : 2 ≤ q) : ∀ m, (q - 1) ^ (2 * m + 1) % q = q - 1 := by
  have hsq : (q - 1) * (q - 1) % q = 1 := by
    obtain ⟨m, rfl⟩ : ∃ m, q = m + 2 := ⟨q - 2, by omega⟩
    have e3 : (m + 2 - 1) * (m + 2 - 1) = 1 + (m + 2) * m := by
      have : m + 2 - 1 = m + 1 := by omega
      rw [this]; grind
    rw [e3, Nat.add_mul_mod_self_left, Nat.mod_eq_of_lt (by omega)]
  intro m
  induction m with
  | zero => rw [Nat.mul_zero, Nat.zero_add, Nat.pow_one, Nat.mod_eq_of_lt (by omega)]
  | succ m ih =>
    have e : (q - 1) ^ (2 * (m + 1) + 1) = (q - 1) * (q - 1) * (q - 1) ^ (2 * m + 1) := by
      have : 2 * (m + 1) + 1 = (2 * m + 1) + 1 + 1 := by omega
      rw [this, Nat.pow_succ, Nat.pow_succ]; grind
    rw [e, Nat.mul_mod, hsq, ih, Nat.one_mul, Nat.mod_eq_of_lt (by omega)]
/-- How often 2 goes into a number. -/
theorem two_part : ∀ (k n : Nat), n ≠ 0 → 2 ^ k ∣ n ∨ ∃ j u, j < k ∧ n = 2 ^ j * (2 * u + 1) := by
  intro k
  induction k with
  | zero => intro n _; exact .inl (by rw [Nat.pow_zero]; exact Nat.one_dvd n)
  | succ k ih =>
    intro n hn
    by_cases h : n % 2 = 1
    · exact .inr ⟨0, n / 2, Nat.succ_pos k, by rw [Nat.pow_zero, Nat.one_mul]; omega⟩
    · rcases ih (n / 2) (by omega) with h1 | ⟨j, u, hj, hu⟩
      · refine .inl ?_
        obtain ⟨c, hc⟩ := h1
        exact ⟨c, by rw [Nat.pow_succ, Nat.mul_comm (2 ^ k), Nat.mul_assoc, ← hc]; omega⟩
      · exact .inr ⟨j + 1, u, by omega, by rw [Nat.pow_succ, Nat.mul_comm (2 ^ j), Nat.mul_assoc, ← hu]; omega⟩
/-- A prime by which a power of b to a power of 2 is one less: the power of 2 goes into it less 1. -/
theorem order_two {q b k : Nat} (hq : Pr q) (h2 : q ≠ 2) (hk : 1 ≤ k) (h : b ^ 2 ^ (k - 1) % q = q - 1) : 2 ^ k ∣ q - 1 := by
  have hq2 := hq.1
  have hb : ¬ q ∣ b := fun hd => by
    have h1 : q ∣ b ^ 2 ^ (k - 1) := Nat.dvd_trans hd (Nat.dvd_of_pow_dvd (Nat.pow_pos (by decide)) (Nat.dvd_refl _))
    have := Nat.mod_eq_zero_of_dvd h1
    omega
  rcases two_part k (q - 1) (by omega) with h1 | ⟨j, u, hj, hu⟩
  · exact h1
  · exfalso
    have hf := hq.fermat hb
    obtain ⟨i, hi⟩ : ∃ i, k - 1 = j + i := ⟨k - 1 - j, by omega⟩
    -- (b^(2^(k-1)))^(2u+1)
    have e1 : (b ^ 2 ^ (k - 1)) ^ (2 * u + 1) % q = q - 1 := by
      rw [Nat.pow_mod, h]; exact neg_one_pow (u := 0) hq2 u
    have e2 : (b ^ 2 ^ (k - 1)) ^ (2 * u + 1) = (b ^ (q - 1)) ^ 2 ^ i := by
      rw [← Nat.pow_mul, ← Nat.pow_mul, hi, Nat.pow_add, hu]
      congr 1
      grind
    rw [e2, Nat.pow_mod, hf, Nat.one_pow, hq.one_mod] at e1
    omega
theorem proth {c k a n : Nat} (hn : n = c * 2 ^ k + 1) (hk : 1 ≤ k) (hc0 : 0 < c) (hc : c < 2 ^ k) (h : a ^ ((n - 1) / 2) % n = n - 1) : Pr n := by
  have hp : 0 < 2 ^ k := Nat.pow_pos (by decide)
  have hcp : 0 < c * 2 ^ k := Nat.mul_pos hc0 hp
  apply Classical.byContradiction
  intro hnp
  obtain ⟨q, m, hq, hqm, hle⟩ := composite (show 2 ≤ n by omega) hnp
  have hk2 : 2 ^ k = 2 * 2 ^ (k - 1) := by
    obtain ⟨j, rfl⟩ : ∃ j, k = j + 1 := ⟨k - 1, by omega⟩
    rw [Nat.pow_succ, Nat.add_sub_cancel, Nat.mul_comm]
  have hhalf : (n - 1) / 2 = c * 2 ^ (k - 1) := by
    rw [hn, Nat.add_sub_cancel, hk2, Nat.mul_left_comm, Nat.mul_div_cancel_left _ (by decide)]
  have hodd : n % 2 = 1 := by rw [hn, hk2, Nat.mul_left_comm]; omega
  have hq2 : q ≠ 2 := fun h2 => by rw [hqm, h2, Nat.mul_mod_right] at hodd; cases hodd
  have hb : (a ^ c) ^ 2 ^ (k - 1) % q = q - 1 := by
    rw [← Nat.pow_mul, ← hhalf]
    have h1 : a ^ ((n - 1) / 2) % n % q = a ^ ((n - 1) / 2) % q := Nat.mod_mod_of_dvd _ ⟨m, hqm⟩
    rw [← h1, h]
    have hm1 : 1 ≤ m := Nat.le_trans (by have := hq.1; omega) hle
    have e : n - 1 = (q - 1) + q * (m - 1) := by
      have e1 : q * m = q * (m - 1) + q := by
        obtain ⟨j, rfl⟩ : ∃ j, m = j + 1 := ⟨m - 1, by omega⟩
        rw [Nat.add_sub_cancel, Nat.mul_add, Nat.mul_one]
      have := hq.1
      omega
    rw [e, Nat.add_mul_mod_self_left, Nat.mod_eq_of_lt (by have := hq.1; omega)]
  have hd := Nat.le_of_dvd (by have := hq.1; omega) (order_two hq hq2 hk hb)
  have hsq : (2 ^ k + 1) * (2 ^ k + 1) ≤ q * m := Nat.mul_le_mul (by omega) (by omega)
  have hlt : c * 2 ^ k + 1 ≤ (2 ^ k - 1) * 2 ^ k + 1 := by
    have := Nat.mul_le_mul_right (2 ^ k) (show c ≤ 2 ^ k - 1 by omega)
    omega
  have e3 : (2 ^ k - 1) * 2 ^ k = 2 ^ k * 2 ^ k - 2 ^ k := by rw [Nat.sub_mul, Nat.one_mul]
  have e4 : (2 ^ k + 1) * (2 ^ k + 1) = 2 ^ k * 2 ^ k + 2 * 2 ^ k + 1 := by grind
  rw [e4, ← hqm, hn] at hsq
  rw [e3] at hlt
  generalize 2 ^ k * 2 ^ k = y at *
  generalize c * 2 ^ k = z at *
  omega
theorem PrimeProth : vinculumlaw04_PrimeProth.Pure := by
  intro c k a wc wk wa
  apply Ev.rounds
  unfold vinculumlaw04_PrimeProth.f
  have off : Ev (fun q => vinculumlaw04_PrimeProth.j0 q c k a true) true :=
    Ev.step (f := fun q => (vinculumlaw04_awake.f q).bind fun t => some t) (fun q => by simp only [vinculumlaw04_PrimeProth.j0]; exact if_pos trivial) (Ev.bind awake_ev (Ev.now _))
  by_cases h1 : k < 1
  · exact Ev.congr (fun q => if_pos h1) off
  refine Ev.congr (fun q => if_neg h1) ?_
  by_cases h2 : k > 40
  · exact Ev.congr (fun q => if_pos h2) off
  refine Ev.congr (fun q => if_neg h2) ?_
  by_cases h3 : Int.tmod c 2 = 0
  · exact Ev.congr (fun q => if_pos h3) off
  refine Ev.congr (fun q => if_neg h3) ?_
  have hUc := U_of_wf wc
  have hUa := U_of_wf wa
  obtain ⟨C, rfl⟩ := Int.eq_ofNat_of_zero_le hUc.1
  obtain ⟨A, rfl⟩ := Int.eq_ofNat_of_zero_le hUa.1
  obtain ⟨K, rfl⟩ := Int.eq_ofNat_of_zero_le (show 0 ≤ k by omega)
  have hA : A < 18446744073709551616 := Int.ofNat_lt.1 hUa.2
  have hpk := Nat.pow_le_pow_right (show 0 < 2 by decide) (show K ≤ 40 by omega)
  have hC0 : 0 < C := Nat.pos_of_ne_zero fun h => h3 (by rw [h]; rfl)
  have gp := rpow_ev (x := 2) (n := K) (m := 4611686018427387904) (by decide) (by decide) (by omega)
  rw [Nat.mod_eq_of_lt (show 2 ^ K < 4611686018427387904 by omega)] at gp
  rw [wrapN K (by omega)]
  refine Ev.bind gp ?_
  by_cases h4 : (C : Int) ≥ ((2 ^ K : Nat) : Int)
  · exact Ev.congr (fun q => if_pos h4) off
  refine Ev.congr (fun q => if_neg h4) ?_
  by_cases h5 : (C : Int) ≥ 4194304
  · rw [decide_eq_true h5]; exact off
  rw [decide_eq_false h5]
  have hC1 : C < 2 ^ K := by omega
  have hC2 : C < 4194304 := by omega
  have hn63 : C * 2 ^ K + 1 < 4611686018427387904 + 1 := by
    have : C * 2 ^ K ≤ 4194303 * 2 ^ 40 := Nat.mul_le_mul (by omega) hpk
    omega
  have hpos : 0 < C * 2 ^ K := Nat.mul_pos hC0 (Nat.pow_pos (by decide))
  obtain ⟨n, hn⟩ : ∃ n, n = C * 2 ^ K + 1 := ⟨_, rfl⟩
  have en : IntKind.u64.wrap ((IntKind.u64.wrap ((C : Int) * ((2 ^ K : Nat) : Int))) + 1) = (n : Int) := by
    rw [mulN, wrapN _ (by omega), show (1 : Int) = ((1 : Nat) : Int) from rfl, addN, wrapN _ (by omega), hn]
  have hn2 : 2 ≤ n := by omega
  have hnB : n ≤ 4611686018427387904 := by omega
  have ed : IntKind.u64.wrap ((n : Int) - 1) = ((n - 1 : Nat) : Int) := u_pred (by omega) (by omega)
  have eh : IntKind.u64.wrap (Int.tdiv ((n - 1 : Nat) : Int) 2) = (((n - 1) / 2 : Nat) : Int) := rhalf (by omega)
  have off1 : Ev (fun q => vinculumlaw04_PrimeProth.j1 q (n : Int) true) true :=
    Ev.step (f := fun q => (vinculumlaw04_awake.f q).bind fun t => some t) (fun q => by simp only [vinculumlaw04_PrimeProth.j1]; exact if_pos trivial) (Ev.bind awake_ev (Ev.now _))
  have gq := rpow_ev (x := A) (n := (n - 1) / 2) (m := n) (by omega) (by omega) (by omega)
  refine Ev.step (f := fun q => (vinculumref03_Pow.f q 2 (K : Int) 4611686018427387904).bind fun t177 => (if (IntKind.u64.wrap ((IntKind.u64.wrap ((C : Int) * t177)) + 1)) = 0 then (none) else (if (Int.tmod (A : Int) (IntKind.u64.wrap ((IntKind.u64.wrap ((C : Int) * t177)) + 1))) = 0 then (vinculumlaw04_PrimeProth.j1 q (IntKind.u64.wrap ((IntKind.u64.wrap ((C : Int) * t177)) + 1)) true) else ((vinculumref03_Pow.f q (A : Int) (IntKind.u64.wrap (Int.tdiv (IntKind.u64.wrap ((IntKind.u64.wrap ((IntKind.u64.wrap ((C : Int) * t177)) + 1)) - 1)) 2)) (IntKind.u64.wrap ((IntKind.u64.wrap ((C : Int) * t177)) + 1))).bind fun t178 => (vinculumlaw04_PrimeProth.j1 q (IntKind.u64.wrap ((IntKind.u64.wrap ((C : Int) * t177)) + 1)) (t178 != (IntKind.u64.wrap ((IntKind.u64.wrap ((IntKind.u64.wrap ((C : Int) * t177)) + 1)) - 1)))))))) (fun q => ?_) (Ev.bind gp ?_)
  · simp only [vinculumlaw04_PrimeProth.j0]
    rw [if_neg (by decide), wrapN K (by omega)]
  · rw [en, ed, eh]
    refine Ev.congr (fun q => if_neg (by omega)) ?_
    by_cases h6 : Int.tmod (A : Int) (n : Int) = 0
    · exact Ev.congr (fun q => if_pos h6) off1
    · refine Ev.congr (fun q => if_neg h6) (Ev.bind gq ?_)
      by_cases h7 : A ^ ((n - 1) / 2) % n = n - 1
      · have hP := proth hn (show 1 ≤ K by omega) hC0 hC1 h7
        have e7 : (((A ^ ((n - 1) / 2) % n : Nat) : Int) != ((n - 1 : Nat) : Int)) = false := by rw [h7]; simp
        rw [e7]
        have gi := pis_ev (n := n) (by omega)
        rw [isN_prime hP (by omega)] at gi
        refine Ev.step (f := fun q => (prime_Is.f q (n : Int)).bind fun t180 => (if t180 = true then ((vinculumlaw04_awake.f q).bind fun t181 => (some t181)) else (none))) (fun q => ?_) (Ev.bind gi (Ev.congr (fun q => if_pos rfl) (Ev.bind awake_ev (Ev.now _))))
        simp only [vinculumlaw04_PrimeProth.j1]
        rw [if_neg (by decide)]
      · have e7 : (((A ^ ((n - 1) / 2) % n : Nat) : Int) != ((n - 1 : Nat) : Int)) = true := by
          apply bne_iff_ne.2
          intro h8
          exact h7 (Int.ofNat_inj.1 h8)
        rw [e7]
        exact off1
end Go.Proofs.YtnlklfhgdefbaaaDoor.Pure
