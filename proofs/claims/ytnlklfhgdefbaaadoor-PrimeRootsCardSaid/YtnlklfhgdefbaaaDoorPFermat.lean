/-
  Numbers alone: primes, Fermat's little theorem, square roots of 1. No condition, no program.
-/
import Derived.Test.YtnlklfhgdefbaaaDoorPBase
namespace Go.Proofs.YtnlklfhgdefbaaaDoor.Pure
set_option linter.unusedVariables false
set_option linter.unusedSimpArgs false

/-- A prime. -/
def Pr (p : Nat) : Prop := 2 ≤ p ∧ ∀ d, d ∣ p → d = 1 ∨ d = p
theorem Pr.euclid {p a b : Nat} (h : Pr p) (hd : p ∣ a * b) : p ∣ a ∨ p ∣ b := by
  by_cases ha : p ∣ a
  · exact .inl ha
  · refine .inr ?_
    have hg : Nat.gcd p a = 1 := by
      rcases h.2 (Nat.gcd p a) (Nat.gcd_dvd_left p a) with h1 | h1
      · exact h1
      · exact absurd (h1 ▸ Nat.gcd_dvd_right p a) ha
    exact Nat.Coprime.dvd_of_dvd_mul_left hg hd
theorem Pr.pos {p : Nat} (h : Pr p) : 0 < p := Nat.lt_of_lt_of_le (by decide) h.1
theorem Pr.dvd_pow {p a : Nat} (h : Pr p) : ∀ n, p ∣ a ^ n → p ∣ a := by
  intro n
  induction n with
  | zero => intro hd; rw [Nat.pow_zero] at hd; have := Nat.le_of_dvd (by decide) hd; have := h.1; omega
  | succ n ih =>
    intro hd
    rw [Nat.pow_succ] at hd
    rcases h.euclid hd with h1 | h1
    · exact ih h1
    · exact h1

/-! ### sums, choices -/
def sumTo (g : Nat → Nat) : Nat → Nat
  | 0 => 0
  | m + 1 => sumTo g m + g m
theorem sumTo_shift (g : Nat → Nat) : ∀ m, sumTo g (m + 1) = g 0 + sumTo (fun k => g (k + 1)) m
  | 0 => by simp [sumTo]
  | m + 1 => by rw [sumTo, sumTo_shift g m, sumTo, Nat.add_assoc]
theorem sumTo_add (f g : Nat → Nat) : ∀ m, sumTo (fun k => f k + g k) m = sumTo f m + sumTo g m
  | 0 => rfl
  | m + 1 => by rw [sumTo, sumTo_add f g m, sumTo, sumTo]; omega
theorem sumTo_mul (g : Nat → Nat) (a : Nat) : ∀ m, sumTo g m * a = sumTo (fun k => g k * a) m
  | 0 => by simp [sumTo]
  | m + 1 => by rw [sumTo, Nat.add_mul, sumTo_mul g a m, sumTo]
theorem sumTo_congr {f g : Nat → Nat} : ∀ m, (∀ k, k < m → f k = g k) → sumTo f m = sumTo g m
  | 0, _ => rfl
  | m + 1, h => by rw [sumTo, sumTo, sumTo_congr m (fun k hk => h k (Nat.lt_succ_of_lt hk)), h m (Nat.lt_succ_self m)]
theorem sumTo_dvd {g : Nat → Nat} {p : Nat} : ∀ m, (∀ k, k < m → p ∣ g k) → p ∣ sumTo g m
  | 0, _ => Nat.dvd_zero p
  | m + 1, h => by rw [sumTo]; exact Nat.dvd_add (sumTo_dvd m (fun k hk => h k (Nat.lt_succ_of_lt hk))) (h m (Nat.lt_succ_self m))
def choose : Nat → Nat → Nat
  | _, 0 => 1
  | 0, _ + 1 => 0
  | n + 1, k + 1 => choose n k + choose n (k + 1)
theorem choose_zero (n : Nat) : choose n 0 = 1 := by cases n <;> rfl
theorem choose_big : ∀ (n k : Nat), n < k → choose n k = 0
  | 0, k + 1, _ => rfl
  | n + 1, k + 1, h => by rw [choose, choose_big n k (by omega), choose_big n (k + 1) (by omega)]
theorem choose_self : ∀ n, choose n n = 1
  | 0 => rfl
  | n + 1 => by rw [choose, choose_self n, choose_big n (n + 1) (Nat.lt_succ_self n)]
theorem choose_mul : ∀ (n k : Nat), (k + 1) * choose (n + 1) (k + 1) = (n + 1) * choose n k
  | 0, k => by
    cases k with
    | zero => rfl
    | succ k => simp [choose, choose_big 0 (k + 1) (by omega)]
  | n + 1, k => by
    cases k with
    | zero =>
      have h := choose_mul n 0
      rw [choose_zero] at h ⊢
      rw [choose, choose_zero]
      omega
    | succ k =>
      have h1 := choose_mul n k
      have h2 := choose_mul n (k + 1)
      rw [choose]
      have e : choose (n + 1) (k + 1) = choose n k + choose n (k + 1) := rfl
      have h3 : (k + 1 + 1) * choose (n + 1) (k + 1) = (k + 1) * choose (n + 1) (k + 1) + choose (n + 1) (k + 1) := by rw [Nat.add_mul, Nat.one_mul]
      rw [Nat.mul_add, h3, h1, h2, e]
      grind
theorem Pr.dvd_choose {p k : Nat} (h : Pr p) (h0 : 0 < k) (hk : k < p) : p ∣ choose p k := by
  obtain ⟨j, rfl⟩ : ∃ j, k = j + 1 := ⟨k - 1, by omega⟩
  obtain ⟨q, rfl⟩ : ∃ q, p = q + 1 := ⟨p - 1, by omega⟩
  have e := choose_mul q j
  rcases h.euclid (a := j + 1) (b := choose (q + 1) (j + 1)) ⟨choose q j, e⟩ with h1 | h1
  · have := Nat.le_of_dvd (Nat.succ_pos j) h1; omega
  · exact h1
theorem binomial (a : Nat) : ∀ n, (a + 1) ^ n = sumTo (fun k => choose n k * a ^ k) (n + 1)
  | 0 => by simp [sumTo, choose]
  | n + 1 => by
    have ih := binomial a n
    rw [sumTo_shift]
    have e1 : sumTo (fun k => choose (n + 1) (k + 1) * a ^ (k + 1)) (n + 1) = sumTo (fun k => choose n k * a ^ k) (n + 1) * a + sumTo (fun k => choose n (k + 1) * a ^ (k + 1)) (n + 1) := by
      rw [sumTo_mul, ← sumTo_add]
      refine sumTo_congr _ fun k _ => ?_
      show (choose n k + choose n (k + 1)) * a ^ (k + 1) = choose n k * a ^ k * a + choose n (k + 1) * a ^ (k + 1)
      rw [Nat.add_mul, Nat.mul_assoc (choose n k), ← Nat.pow_succ]
    have e2 : sumTo (fun k => choose n k * a ^ k) (n + 1 + 1) = sumTo (fun k => choose n k * a ^ k) (n + 1) := by
      rw [sumTo, choose_big n (n + 1) (Nat.lt_succ_self n), Nat.zero_mul, Nat.add_zero]
    rw [sumTo_shift] at e2
    rw [e1, Nat.pow_succ, Nat.mul_add, Nat.mul_one, ih]
    simp only [choose_zero, Nat.pow_zero, Nat.mul_one] at e2 ⊢
    omega
/-- The sum's power. -/
theorem Pr.freshman {p a : Nat} (h : Pr p) : (a + 1) ^ p % p = (a ^ p + 1) % p := by
  rw [binomial, sumTo, choose_self, Nat.one_mul]
  obtain ⟨q, hq⟩ : ∃ q, p = q + 1 := ⟨p - 1, by have := h.1; omega⟩
  have e : sumTo (fun k => choose p k * a ^ k) p = 1 + sumTo (fun k => choose p (k + 1) * a ^ (k + 1)) q := by
    have := sumTo_shift (fun k => choose p k * a ^ k) q
    rw [← hq] at this
    rw [this, choose_zero, Nat.pow_zero]
  obtain ⟨c, hc⟩ := sumTo_dvd (g := fun k => choose p (k + 1) * a ^ (k + 1)) (p := p) q (fun k hk => Nat.dvd_trans (h.dvd_choose (Nat.succ_pos k) (by omega)) (Nat.dvd_mul_right _ _))
  rw [e, hc]
  have : 1 + p * c + a ^ p = a ^ p + 1 + p * c := by omega
  rw [this, Nat.add_mul_mod_self_left]
theorem Pr.fermat0 {p : Nat} (h : Pr p) : ∀ a, a ^ p % p = a % p
  | 0 => by rw [Nat.zero_pow h.pos]
  | a + 1 => by rw [h.freshman, Nat.add_mod, h.fermat0 a, ← Nat.add_mod]
theorem Pr.one_mod {p : Nat} (h : Pr p) : 1 % p = 1 := Nat.mod_eq_of_lt h.1
/-- What leaves the same is apart by a multiple. -/
theorem dvd_sub_of_mod {a b p : Nat} (h : b % p = a % p) (hle : a ≤ b) : p ∣ b - a := by
  have h1 := Nat.div_add_mod b p
  have h2 := Nat.div_add_mod a p
  refine ⟨b / p - a / p, ?_⟩
  have h3 : a / p ≤ b / p := Nat.div_le_div_right hle
  rw [Nat.mul_sub]
  have := Nat.mul_le_mul_left p h3
  omega
theorem Pr.fermat {p a : Nat} (h : Pr p) (ha : ¬ p ∣ a) : a ^ (p - 1) % p = 1 := by
  have ha0 : 0 < a := Nat.pos_of_ne_zero fun h0 => ha (h0 ▸ Nat.dvd_zero p)
  have hpw : 0 < a ^ (p - 1) := Nat.pow_pos ha0
  have h0 := h.fermat0 a
  have e : a ^ p = a ^ (p - 1) * a := by rw [← Nat.pow_succ]; congr 1; have := h.1; omega
  have hle : a ≤ a ^ p := by rw [e]; exact Nat.le_mul_of_pos_left _ hpw
  have hd := dvd_sub_of_mod h0 hle
  have e2 : a ^ p - a = (a ^ (p - 1) - 1) * a := by rw [e, Nat.sub_mul, Nat.one_mul]
  rw [e2] at hd
  rcases h.euclid hd with h1 | h1
  · obtain ⟨c, hc⟩ := h1
    have : a ^ (p - 1) = 1 + p * c := by omega
    rw [this, Nat.add_mul_mod_self_left, h.one_mod]
  · exact absurd h1 ha
/-- The square roots of 1. -/
theorem Pr.sqrt_one {p x : Nat} (h : Pr p) (hx : x < p) (h1 : x * x % p = 1) : x = 1 ∨ x = p - 1 := by
  have hx0 : x ≠ 0 := fun h0 => by rw [h0, Nat.zero_mul, Nat.zero_mod] at h1; cases h1
  have hd : p ∣ x * x - 1 := dvd_sub_of_mod (by rw [h1, h.one_mod]) (Nat.mul_pos (Nat.pos_of_ne_zero hx0) (Nat.pos_of_ne_zero hx0))
  obtain ⟨y, rfl⟩ : ∃ y, x = y + 1 := ⟨x - 1, by omega⟩
  have e : (y + 1) * (y + 1) - 1 = y * (y + 2) := by
    have : (y + 1) * (y + 1) = y * (y + 2) + 1 := by grind
    omega
  rw [e] at hd
  rcases h.euclid hd with h2 | h2
  · rcases Nat.eq_zero_or_pos y with h3 | h3
    · exact .inl (by rw [h3])
    · have := Nat.le_of_dvd h3 h2; omega
  · have := Nat.le_of_dvd (by omega) h2
    exact .inr (by omega)
/-- The least divisor. -/
theorem least_divisor {n : Nat} (h : 2 ≤ n) : ∃ d, Pr d ∧ d ∣ n ∧ ∀ e, 2 ≤ e → e ∣ n → d ≤ e := by
  have key : ∀ (f m : Nat), n - m = f → 2 ≤ m → m ≤ n → (∀ e, 2 ≤ e → e < m → ¬ e ∣ n) → ∃ d, 2 ≤ d ∧ d ∣ n ∧ ∀ e, 2 ≤ e → e ∣ n → d ≤ e := by
    intro f
    induction f with
    | zero =>
      intro m hf h2 hm hn
      have : m = n := by omega
      subst this
      exact ⟨m, h2, Nat.dvd_refl m, fun e he hd => Nat.le_of_not_lt fun hlt => hn e he hlt hd⟩
    | succ f ih =>
      intro m hf h2 hm hn
      by_cases hd : m ∣ n
      · exact ⟨m, h2, hd, fun e he hd => Nat.le_of_not_lt fun hlt => hn e he hlt hd⟩
      · refine ih (m + 1) (by omega) (by omega) (by omega) fun e he hlt => ?_
        by_cases h3 : e = m
        · rw [h3]; exact hd
        · exact hn e he (by omega)
  obtain ⟨d, h2, hd, hmin⟩ := key _ 2 rfl (Nat.le_refl 2) h (fun e h1 h2 => absurd h2 (by omega))
  refine ⟨d, ⟨h2, fun e he => ?_⟩, hd, hmin⟩
  by_cases h1 : e = 1
  · exact .inl h1
  · refine .inr ?_
    have h0 : e ≠ 0 := fun h0 => by rw [h0] at he; have := Nat.eq_zero_of_zero_dvd he; omega
    have hle := Nat.le_of_dvd (by omega) he
    have := hmin e (by omega) (Nat.dvd_trans he hd)
    omega
/-- What is no prime has a prime divisor whose square is no greater. -/
theorem composite {n : Nat} (h : 2 ≤ n) (hn : ¬ Pr n) : ∃ d m, Pr d ∧ n = d * m ∧ d ≤ m := by
  obtain ⟨d, hp, ⟨m, hm⟩, hmin⟩ := least_divisor h
  refine ⟨d, m, hp, hm, ?_⟩
  have hdn : d ≠ n := fun h1 => hn (h1 ▸ hp)
  have hm1 : m ≠ 1 := fun h1 => hdn (by rw [hm, h1, Nat.mul_one])
  have hm0 : m ≠ 0 := fun h0 => by rw [h0, Nat.mul_zero] at hm; omega
  exact hmin m (by omega) ⟨d, by rw [hm, Nat.mul_comm]⟩
theorem not_prime_mul {d m : Nat} (h1 : 2 ≤ d) (h2 : 2 ≤ m) : ¬ Pr (d * m) := fun h => by
  rcases h.2 d ⟨m, rfl⟩ with h3 | h3
  · omega
  · have : d * 1 < d * m := Nat.mul_lt_mul_of_pos_left (by omega) (by omega)
    rw [Nat.mul_one] at this
    omega
end Go.Proofs.YtnlklfhgdefbaaaDoor.Pure
