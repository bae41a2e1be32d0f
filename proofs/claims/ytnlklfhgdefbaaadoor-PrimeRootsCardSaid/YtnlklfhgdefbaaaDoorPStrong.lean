/-
  A prime passes the strong test by the twelve bases. No condition but that it is a word.
-/
import Derived.Test.YtnlklfhgdefbaaaDoorPPrimeA
import Derived.Test.YtnlklfhgdefbaaaDoorPFermat
namespace Go.Proofs.YtnlklfhgdefbaaaDoor.Pure
open Go.RowKit Go.Proofs.YtnlklfhgdefbaaaDoor.GN Go.Proofs.YtnlklfhgdefbaaaDoorW.PrintWords Go.Proofs.YtnlklfhgdefbaaaDoorW.PrintLast Go.Proofs.YtnlklfhgdefbaaaDoorW.PrintMore
set_option linter.unusedVariables false
set_option linter.unusedSimpArgs false

theorem sqs_prime {p : Nat} (h : Pr p) : ∀ (s x : Nat), x < p → x ^ 2 ^ s % p = 1 → x = 1 ∨ sqs p x s = true := by
  intro s
  induction s with
  | zero =>
    intro x hx h1
    rw [Nat.pow_zero, Nat.pow_one, Nat.mod_eq_of_lt hx] at h1
    exact .inl h1
  | succ s ih =>
    intro x hx h1
    have hxx : x * x % p < p := Nat.mod_lt _ h.pos
    have e : (x * x % p) ^ 2 ^ s % p = 1 := by
      rw [← Nat.pow_mod, ← Nat.pow_two, ← Nat.pow_mul]
      rw [Nat.pow_succ, Nat.mul_comm] at h1
      exact h1
    rcases ih _ hxx e with h2 | h2
    · rcases h.sqrt_one hx h2 with h3 | h3
      · exact .inl h3
      · exact .inr (by simp [sqs, h3])
    · exact .inr (by simp [sqs, h2])
theorem strong_prime {p b : Nat} (h : Pr p) (hp : p < 18446744073709551616) (hb : ¬ p ∣ b) : strongN p b = true := by
  have h2 := h.1
  obtain ⟨m, hm⟩ := ctz_spec (x := p - 1) (by omega) (by omega)
  have hf := h.fermat hb
  unfold strongN
  generalize Lib.ctz 64 (p - 1) = s at *
  have hd : (p - 1) / 2 ^ s = 2 * m + 1 := by rw [hm, Nat.mul_div_cancel_left _ (Nat.pow_pos (by decide))]
  rw [hd]
  have hx : b ^ (2 * m + 1) % p < p := Nat.mod_lt _ h.pos
  have e : (b ^ (2 * m + 1) % p) ^ 2 ^ s % p = 1 := by
    rw [← Nat.pow_mod, ← Nat.pow_mul, Nat.mul_comm, ← hm]; exact hf
  rcases sqs_prime h s _ hx e with h3 | h3
  · simp [h3]
  · simp [h3]
theorem BL_small : ∀ b ∈ BL, 2 ≤ b ∧ b < 38 := by decide
theorem BL_prime : ∀ b ∈ BL, ∀ d, d < 38 → d ∣ b → d = 1 ∨ d = b := by decide
theorem BL_pr {b : Nat} (h : b ∈ BL) : Pr b := ⟨(BL_small b h).1, fun d hd => BL_prime b h d (Nat.lt_of_le_of_lt (Nat.le_of_dvd (by have := (BL_small b h).1; omega) hd) (BL_small b h).2) hd⟩
theorem isN_prime {p : Nat} (h : Pr p) (hp : p < 18446744073709551616) : isN p = true := by
  unfold isN
  rw [if_neg (by have := h.1; omega)]
  cases e : BL.find? (fun b => p % b == 0) with
  | some b =>
    have h1 := List.find?_some e
    have h2 := List.mem_of_find?_eq_some e
    have hb := BL_small b h2
    rcases h.2 b (Nat.dvd_of_mod_eq_zero (beq_iff_eq.1 h1)) with h3 | h3
    · omega
    · simp [h3]
  | none =>
    have h1 := List.find?_eq_none.1 e
    refine List.all_eq_true.2 fun b hb => strong_prime h hp fun hd => ?_
    rcases (BL_pr hb).2 p hd with h3 | h3
    · have := h.1; omega
    · have := h1 b hb
      rw [h3] at this
      simp at this
/-- What passes has no small divisor, or is one. -/
theorem isN_cases {n : Nat} (h : isN n = true) : n ∈ BL ∨ (2 ≤ n ∧ (∀ b ∈ BL, n % b ≠ 0) ∧ ∀ b ∈ BL, strongN n b = true) := by
  unfold isN at h
  by_cases h2 : n < 2
  · rw [if_pos h2] at h; cases h
  rw [if_neg h2] at h
  cases e : BL.find? (fun b => n % b == 0) with
  | some b =>
    rw [e] at h
    have h3 : n = b := beq_iff_eq.1 h
    exact .inl (h3 ▸ List.mem_of_find?_eq_some e)
  | none =>
    rw [e] at h
    have h1 := List.find?_eq_none.1 e
    exact .inr ⟨by omega, fun b hb h4 => h1 b hb (beq_iff_eq.2 h4), List.all_eq_true.1 h⟩

/-! ### what is no prime, below a bound, by the kernel's run -/
def prims : Nat := 7420738134810
def smallF (n : Nat) : Bool := cond (Nat.beq (Nat.gcd n prims) 1) false true
theorem smallF_spec {n : Nat} (h : smallF n = true) : ∃ b ∈ BL, n % b = 0 := by
  have hg : Nat.gcd n prims ≠ 1 := by
    intro h1
    unfold smallF at h
    rw [h1] at h
    exact absurd h (by decide)
  have h0 : Nat.gcd n prims ≠ 0 := fun h1 => absurd (Nat.gcd_eq_zero_iff.1 h1).2 (by decide)
  obtain ⟨q, hq, hd, _⟩ := least_divisor (n := Nat.gcd n prims) (by omega)
  have hqn : q ∣ n := Nat.dvd_trans hd (Nat.gcd_dvd_left _ _)
  have hqp : q ∣ prims := Nat.dvd_trans hd (Nat.gcd_dvd_right _ _)
  have fin : ∀ b, b ∈ BL → q ∣ b → ∃ b ∈ BL, n % b = 0 := fun b hb hqb => by
    rcases (BL_pr hb).2 q hqb with h1 | h1
    · have := hq.1; omega
    · exact ⟨b, hb, Nat.mod_eq_zero_of_dvd (h1 ▸ hqn)⟩
  have e : prims = 2 * (3 * (5 * (7 * (11 * (13 * (17 * (19 * (23 * (29 * (31 * 37)))))))))) := by decide
  rw [e] at hqp
  rcases hq.euclid hqp with h1 | h1
  · exact fin 2 (by decide) h1
  rcases hq.euclid h1 with h1 | h1
  · exact fin 3 (by decide) h1
  rcases hq.euclid h1 with h1 | h1
  · exact fin 5 (by decide) h1
  rcases hq.euclid h1 with h1 | h1
  · exact fin 7 (by decide) h1
  rcases hq.euclid h1 with h1 | h1
  · exact fin 11 (by decide) h1
  rcases hq.euclid h1 with h1 | h1
  · exact fin 13 (by decide) h1
  rcases hq.euclid h1 with h1 | h1
  · exact fin 17 (by decide) h1
  rcases hq.euclid h1 with h1 | h1
  · exact fin 19 (by decide) h1
  rcases hq.euclid h1 with h1 | h1
  · exact fin 23 (by decide) h1
  rcases hq.euclid h1 with h1 | h1
  · exact fin 29 (by decide) h1
  rcases hq.euclid h1 with h1 | h1
  · exact fin 31 (by decide) h1
  · exact fin 37 (by decide) h1
theorem sqs_one {n : Nat} (h2 : 2 ≤ n) : ∀ (s x : Nat), sqs n x s = true → x ^ 2 ^ s % n = 1 := by
  intro s
  induction s with
  | zero => intro x h; cases h
  | succ s ih =>
    intro x h
    have e : x ^ 2 ^ (s + 1) = (x * x) ^ 2 ^ s := by rw [Nat.pow_succ, Nat.mul_comm, Nat.pow_mul, Nat.pow_two]
    rw [e, Nat.pow_mod]
    by_cases h1 : x = n - 1
    · have e2 : x * x % n = 1 := by
        obtain ⟨m, rfl⟩ : ∃ m, n = m + 2 := ⟨n - 2, by omega⟩
        subst h1
        have e3 : (m + 2 - 1) * (m + 2 - 1) = 1 + (m + 2) * m := by
          have : m + 2 - 1 = m + 1 := by omega
          rw [this]; grind
        rw [e3, Nat.add_mul_mod_self_left, Nat.mod_eq_of_lt (by omega)]
      rw [e2, Nat.one_pow, Nat.mod_eq_of_lt (by omega)]
    · have h3 : sqs n (x * x % n) s = true := by simpa [sqs, h1] using h
      exact ih _ h3
theorem strong_one {n b : Nat} (h2 : 2 ≤ n) (hn : n < 18446744073709551616) (h : strongN n b = true) : b ^ (n - 1) % n = 1 := by
  obtain ⟨m, hm⟩ := ctz_spec (x := n - 1) (by omega) (by omega)
  unfold strongN at h
  generalize Lib.ctz 64 (n - 1) = s at *
  have hd : (n - 1) / 2 ^ s = 2 * m + 1 := by rw [hm, Nat.mul_div_cancel_left _ (Nat.pow_pos (by decide))]
  rw [hd, Bool.or_eq_true] at h
  have e : b ^ (n - 1) % n = (b ^ (2 * m + 1) % n) ^ 2 ^ s % n := by
    rw [← Nat.pow_mod, ← Nat.pow_mul, Nat.mul_comm (2 * m + 1), ← hm]
  rw [e]
  rcases h with h | h
  · rw [beq_iff_eq.1 h, Nat.one_pow, Nat.mod_eq_of_lt (by omega)]
  · exact sqs_one h2 s _ h
def fails (n : Nat) : Bool := cond (Nat.beq (2 ^ (n - 1) % n) 1) (!strongN n 2 || !strongN n 3) true
theorem fails_spec {n : Nat} (h2 : 2 ≤ n) (hn : n < 18446744073709551616) (h : fails n = true) : strongN n 2 = false ∨ strongN n 3 = false := by
  unfold fails at h
  cases e : Nat.beq (2 ^ (n - 1) % n) 1 with
  | true =>
    rw [e, cond_true, Bool.or_eq_true] at h
    simpa using h
  | false =>
    refine .inl ?_
    cases e2 : strongN n 2 with
    | false => rfl
    | true =>
      have := strong_one h2 hn e2
      rw [this] at e
      cases e
/-- No product d·m passes, m from M less c on up to M. -/
def rowOk (d M c : Nat) : Bool := Nat.rec true (fun c ih => cond (cond (smallF (M - c)) true (fails (d * (M - c)))) ih false) c
theorem rowOk_spec {d M : Nat} : ∀ c, rowOk d M c = true → ∀ m, m ≤ M → M < m + c → smallF m = true ∨ fails (d * m) = true := by
  intro c
  induction c with
  | zero => intro _ m h1 h2; omega
  | succ c ih =>
    intro h m h1 h2
    have e : rowOk d M (c + 1) = ((smallF (M - c) || fails (d * (M - c))) && rowOk d M c) := by
      show cond (cond (smallF (M - c)) true (fails (d * (M - c)))) (rowOk d M c) false = _
      cases smallF (M - c) <;> cases fails (d * (M - c)) <;> rfl
    rw [e, Bool.and_eq_true, Bool.or_eq_true] at h
    by_cases h3 : M - c = m
    · rw [h3] at h; exact h.1
    · exact ih h.2 m h1 (by omega)
/-- For each d from D less c on up to D, no product below N passes. -/
def allOk (N D c : Nat) : Bool := Nat.rec true (fun c ih => cond (cond (smallF (D - c)) true (rowOk (D - c) (N / (D - c)) (N / (D - c) + 1 - (D - c)))) ih false) c
theorem allOk_spec {N D : Nat} : ∀ c, allOk N D c = true → ∀ d, d ≤ D → D < d + c → smallF d = true ∨ ∀ m, d ≤ m → d * m ≤ N → smallF m = true ∨ fails (d * m) = true := by
  intro c
  induction c with
  | zero => intro _ d h1 h2; omega
  | succ c ih =>
    intro h d h1 h2
    have e : allOk N D (c + 1) = ((smallF (D - c) || rowOk (D - c) (N / (D - c)) (N / (D - c) + 1 - (D - c))) && allOk N D c) := by
      show cond (cond (smallF (D - c)) true (rowOk (D - c) (N / (D - c)) (N / (D - c) + 1 - (D - c)))) (allOk N D c) false = _
      cases smallF (D - c) <;> cases rowOk (D - c) (N / (D - c)) (N / (D - c) + 1 - (D - c)) <;> rfl
    rw [e, Bool.and_eq_true, Bool.or_eq_true] at h
    by_cases h3 : D - c = d
    · rw [h3] at h
      rcases h.1 with h4 | h4
      · exact .inl h4
      · by_cases hd0 : d = 0
        · exact .inl (by rw [hd0]; decide)
        · refine .inr fun m hdm hN => ?_
          have hm : m ≤ N / d := (Nat.le_div_iff_mul_le (Nat.pos_of_ne_zero hd0)).2 (by rw [Nat.mul_comm]; exact hN)
          exact rowOk_spec _ h4 m hm (by omega)
    · exact ih h.2 d h1 (by omega)
end Go.Proofs.YtnlklfhgdefbaaaDoor.Pure
