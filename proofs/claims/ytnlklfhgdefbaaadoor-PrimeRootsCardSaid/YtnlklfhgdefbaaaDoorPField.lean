/-
  What the methods of a word's field compute: Of, Mul, Pow; what word.New, prime.field and prime.order answer. Condition: the word is below 2 to the 63rd.
-/
import Derived.Test.YtnlklfhgdefbaaaDoorPStrong
import Derived.Test.YtnlklfhgdefbaaaDoorGNx0
import Derived.Test.YtnlklfhgdefbaaaDoorGNx3
namespace Go.Proofs.YtnlklfhgdefbaaaDoor.Pure
open Go.RowKit Go.Proofs.YtnlklfhgdefbaaaDoor.GN Go.Proofs.YtnlklfhgdefbaaaDoorW.PrintWords Go.Proofs.YtnlklfhgdefbaaaDoorW.PrintLast Go.Proofs.YtnlklfhgdefbaaaDoorW.PrintMore
set_option linter.unusedVariables false
set_option linter.unusedSimpArgs false

theorem fmul_ev {p x y : Nat} {s1 s2 : Int} (h0 : 0 < p) (hp : p < 18446744073709551616) (hx : x < 18446744073709551616) (hy : y < 18446744073709551616) : Ev (fun k => word_Field_Mul.f k (p : Int) s1 s2 (x : Int) (y : Int)) (((x * y % p : Nat) : Int), (p : Int), s1, s2) := by
  unfold word_Field_Mul.f
  have hx2 := Nat.mod_lt x h0
  have hy2 := Nat.mod_lt y h0
  refine Ev.congr (fun k => if_neg (by omega)) ?_
  rw [tmodN, tmodN, mul64_nat _ _ (Nat.lt_trans hx2 hp) (Nat.lt_trans hy2 hp)]
  refine Ev.congr (fun k => Option.bind_some _ _) ?_
  have g := rem64_ev (hi := x % p * (y % p) / 18446744073709551616) (lo := x % p * (y % p) % 18446744073709551616) h0 hp (Nat.mod_lt _ (by decide))
  rw [Nat.mul_comm (x % p * (y % p) / _), Nat.div_add_mod, ← Nat.mul_mod] at g
  exact Ev.bind g (Ev.now _)
theorem fpow_l0 {p : Nat} {s1 s2 : Int} (h0 : 0 < p) (hp : p < 18446744073709551616) : ∀ (n x out : Nat), n < 18446744073709551616 → x < 18446744073709551616 → out < p → Ev (fun k => word_Field_Pow.l0 k (x : Int) (n : Int) (out : Int) (p : Int) s1 s2) (((out * x ^ n % p : Nat) : Int), (p : Int), s1, s2) := by
  intro n
  induction n using Nat.strongRecOn with
  | _ n ih =>
    intro x out hn hx ho
    by_cases hz : n = 0
    · subst hz
      rw [Nat.pow_zero, Nat.mul_one, Nat.mod_eq_of_lt ho]
      refine Ev.step (f := fun k => some ((out : Int), (p : Int), s1, s2)) (fun k => ?_) (Ev.now _)
      simp only [word_Field_Pow.l0]
      rw [if_pos (by omega)]
    · have hdiv : (n : Int) / 2 = ((n / 2 : Nat) : Int) := by omega
      have gs := fmul_ev (s1 := s1) (s2 := s2) h0 hp hx hx
      have hxx : x * x % p < p := Nat.mod_lt _ h0
      by_cases h1 : n % 2 = 1
      · have hox : out * x % p < p := Nat.mod_lt _ h0
        have g := ih (n / 2) (by omega) (x * x % p) (out * x % p) (by omega) (Nat.lt_trans hxx hp) hox
        have e : out * x % p * (x * x % p) ^ (n / 2) % p = out * x ^ n % p := by
          rw [pow_half x n, h1, Nat.pow_one, Nat.mul_mod, Nat.mod_mod, Nat.pow_mod, Nat.mod_mod, ← Nat.pow_mod, ← Nat.mul_mod, Nat.mul_assoc, Nat.mul_comm x]
        rw [e] at g
        refine Ev.step (f := fun k => (word_Field_Mul.f k (p : Int) s1 s2 (out : Int) (x : Int)).bind fun bt125 => ((word_Field_Mul.f k bt125.2.1 bt125.2.2.1 bt125.2.2.2 (x : Int) (x : Int)).bind fun bt129 => (word_Field_Pow.l0 k bt129.1 ((n / 2 : Nat) : Int) bt125.1 bt129.2.1 bt129.2.2.1 bt129.2.2.2))) (fun k => ?_) (Ev.bind (fmul_ev h0 hp (Nat.lt_trans ho hp) hx) (Ev.bind gs g))
        simp only [word_Field_Pow.l0]
        rw [if_neg (by omega), and_one hn, if_pos (by omega), hdiv]
      · have h10 : n % 2 = 0 := by omega
        have g := ih (n / 2) (by omega) (x * x % p) out (by omega) (Nat.lt_trans hxx hp) ho
        have e : out * (x * x % p) ^ (n / 2) % p = out * x ^ n % p := by
          rw [pow_half x n, h10, Nat.pow_zero, Nat.mul_one, Nat.mul_mod, ← Nat.pow_mod, ← Nat.mul_mod]
        rw [e] at g
        refine Ev.step (f := fun k => (word_Field_Mul.f k (p : Int) s1 s2 (x : Int) (x : Int)).bind fun bt133 => (word_Field_Pow.l0 k bt133.1 ((n / 2 : Nat) : Int) (out : Int) bt133.2.1 bt133.2.2.1 bt133.2.2.2)) (fun k => ?_) (Ev.bind gs g)
        simp only [word_Field_Pow.l0]
        rw [if_neg (by omega), and_one hn, if_neg (by omega), hdiv]
theorem fpow_ev {p x n : Nat} {s1 s2 : Int} (h0 : 0 < p) (hp : p < 18446744073709551616) (hx : x < 18446744073709551616) (hn : n < 18446744073709551616) : Ev (fun k => word_Field_Pow.f k (p : Int) s1 s2 (x : Int) (n : Int)) (((x ^ n % p : Nat) : Int), (p : Int), s1, s2) := by
  unfold word_Field_Pow.f word_Field_Of.f
  rw [if_neg (by omega)]
  refine Ev.congr (fun k => Option.bind_some _ _) ?_
  have g := fpow_l0 (s1 := s1) (s2 := s2) h0 hp n x (1 % p) hn hx (Nat.mod_lt _ h0)
  have e2 : 1 % p * x ^ n % p = x ^ n % p := by rw [Nat.mod_mul_mod, Nat.one_mul]
  rw [e2] at g
  exact g

/-! ### New, field -/
theorem new_l0 {p : Nat} (h2 : 2 ≤ p) (hp : p < 9223372036854775808) : ∀ (d i : Nat) (inv : Int), 5 - i = d → i ≤ 5 → ∃ s1 s2, Ev (fun k => word_New.l0 k (p : Int) inv (i : Int)) ((p : Int), s1, s2) := by
  intro d
  induction d with
  | zero =>
    intro i inv hd hi
    have : i = 5 := by omega
    subst this
    have hU : 0 ≤ IntKind.u64.wrap (-(p : Int)) ∧ IntKind.u64.wrap (-(p : Int)) < 18446744073709551616 := by rw [wu]; constructor <;> omega
    obtain ⟨w, hw⟩ := Int.eq_ofNat_of_zero_le hU.1
    rw [hw] at hU
    have hwm : w % p < p := Nat.mod_lt _ (by omega)
    have gm := fmul_ev (p := p) (s1 := IntKind.u64.wrap (-inv)) (s2 := 0) (x := w % p) (y := w % p) (by omega) (by omega) (by omega) (by omega)
    refine ⟨_, _, Ev.step (f := fun k => (word_Field_Mul.f k (p : Int) (IntKind.u64.wrap (-inv)) 0 ((w % p : Nat) : Int) ((w % p : Nat) : Int)).bind fun t => some (t.2.1, t.2.2.1, t.1)) (fun k => ?_) (Ev.bind gm (Ev.now _))⟩
    rw [word_New.l0, if_neg (by decide), hw, tmodN]
  | succ d ih =>
    intro i inv hd hi
    obtain ⟨s1, s2, g⟩ := ih (i + 1) (IntKind.u64.wrap (inv * (IntKind.u64.wrap (2 - (IntKind.u64.wrap ((p : Int) * inv)))))) (by omega) (by omega)
    refine ⟨s1, s2, Ev.step (fun k => ?_) g⟩
    rw [word_New.l0, if_pos (by omega), w64_succ (by omega)]
theorem new_ev {p : Nat} (h2 : 2 ≤ p) (hp : p < 9223372036854775808) : ∃ s1 s2, Ev (fun k => word_New.f k (p : Int)) ((p : Int), s1, s2) := by
  by_cases h : Go.bits .and .u64 (p : Int) 1 = 1
  · obtain ⟨s1, s2, g⟩ := new_l0 h2 hp _ 0 (p : Int) rfl (Nat.zero_le _)
    refine ⟨s1, s2, Ev.congr (fun k => ?_) g⟩
    unfold word_New.f
    rw [if_neg (by omega), if_neg (by omega), if_pos h]; rfl
  · refine ⟨0, 0, Ev.congr (fun k => ?_) (Ev.now _)⟩
    unfold word_New.f
    rw [if_neg (by omega), if_neg (by omega), if_neg h]
theorem field_no {p : Nat} (hp : p < 9223372036854775808) (h : isN p = false) : Ev (fun k => prime_field.f k (p : Int)) none := by
  unfold prime_field.f
  have g := pis_ev (n := p) (by omega)
  rw [h] at g
  exact Ev.congr (fun k => if_neg (by omega)) (Ev.bind g (Ev.congr (fun k => if_neg (by decide)) (Ev.now _)))
theorem field_yes {p : Nat} (hp : p < 9223372036854775808) (h : isN p = true) : ∃ s1 s2, Ev (fun k => prime_field.f k (p : Int)) (some ((p : Int), s1, s2)) := by
  have h2 : 2 ≤ p := Nat.le_of_not_lt fun h3 => by unfold isN at h; rw [if_pos h3] at h; cases h
  obtain ⟨s1, s2, g2⟩ := new_ev h2 hp
  have g := pis_ev (n := p) (by omega)
  rw [h] at g
  unfold prime_field.f
  exact ⟨s1, s2, Ev.congr (fun k => if_neg (by omega)) (Ev.bind g (Ev.congr (fun k => if_pos rfl) (Ev.bind g2 (Ev.now _))))⟩

/-! ### orders -/
/-- The first square that is 1. -/
def ordF (p : Nat) : Nat → Nat → Nat → Option Nat
  | 0, _, _ => none
  | d + 1, i, y => if y = 1 then some i else ordF p d (i + 1) (y * y % p)
def ordR (r : Option Nat) : Int × Bool := match r with | some n => ((n : Int), true) | none => (0, false)
theorem order_l0 {p : Nat} {s1 s2 : Int} (h0 : 0 < p) (hp : p < 18446744073709551616) : ∀ (d i y : Nat), 63 - i = d → i ≤ 63 → y < p → Ev (fun k => prime_order.l0 k (y : Int) (i : Int) (p : Int) s1 s2) ((ordR (ordF p d i y)).1, (ordR (ordF p d i y)).2, (p : Int), s1, s2) := by
  intro d
  induction d with
  | zero =>
    intro i y hd hi hy
    refine Ev.step (f := fun k => some (0, false, (p : Int), s1, s2)) (fun k => ?_) (Ev.now _)
    simp only [prime_order.l0]
    rw [if_neg (by omega)]
  | succ d ih =>
    intro i y hd hi hy
    rw [ordF]
    by_cases h : y = 1
    · rw [if_pos h]
      refine Ev.step (f := fun k => some ((i : Int), true, (p : Int), s1, s2)) (fun k => ?_) (Ev.now _)
      simp only [prime_order.l0]
      rw [if_pos (by omega), if_pos (by omega)]
    · rw [if_neg h]
      have hyB : y < 18446744073709551616 := Nat.lt_trans hy hp
      refine Ev.step (f := fun k => (word_Field_Mul.f k (p : Int) s1 s2 (y : Int) (y : Int)).bind fun bt137 => (prime_order.l0 k bt137.1 ((i + 1 : Nat) : Int) bt137.2.1 bt137.2.2.1 bt137.2.2.2)) (fun k => ?_) (Ev.bind (fmul_ev h0 hp hyB hyB) (ih (i + 1) (y * y % p) (by omega) (by omega) (Nat.mod_lt _ h0)))
      simp only [prime_order.l0]
      rw [if_pos (by omega), if_neg (by omega), w64_succ (by omega)]
theorem order_ev {p y : Nat} {s1 s2 : Int} (h0 : 0 < p) (hp : p < 18446744073709551616) (hy : y < p) : Ev (fun k => prime_order.f k (p : Int) s1 s2 (y : Int)) ((ordR (ordF p 63 0 y)).1, (ordR (ordF p 63 0 y)).2, (p : Int), s1, s2) :=
  order_l0 h0 hp _ 0 y rfl (Nat.zero_le _) hy
theorem pow_sq (y p s : Nat) : (y * y % p) ^ 2 ^ s % p = y ^ 2 ^ (s + 1) % p := by
  rw [← Nat.pow_mod, ← Nat.pow_two, ← Nat.pow_mul, Nat.pow_succ, Nat.mul_comm 2]
/-- The order is found if there is one. -/
theorem ordF_some {p : Nat} (h2 : 2 ≤ p) : ∀ (d i y t : Nat), y < p → t < d → y ^ 2 ^ t % p = 1 → (∀ s, s < t → y ^ 2 ^ s % p ≠ 1) → ordF p d i y = some (i + t) := by
  intro d
  induction d with
  | zero => intro i y t hy ht; omega
  | succ d ih =>
    intro i y t hy ht h1 hno
    rw [ordF]
    by_cases h : y = 1
    · rw [if_pos h]
      rcases Nat.eq_zero_or_pos t with h3 | h3
      · rw [h3, Nat.add_zero]
      · exact absurd (show y ^ 2 ^ 0 % p = 1 by rw [Nat.pow_zero, Nat.pow_one, h, Nat.mod_eq_of_lt (by omega)]) (hno 0 h3)
    · rw [if_neg h]
      cases t with
      | zero => rw [Nat.pow_zero, Nat.pow_one, Nat.mod_eq_of_lt hy] at h1; exact absurd h1 h
      | succ t =>
        have := ih (i + 1) (y * y % p) t (Nat.mod_lt _ (by omega)) (by omega) (by rw [pow_sq]; exact h1) (fun s hs => by rw [pow_sq]; exact hno (s + 1) (by omega))
        rw [this]
        congr 1; omega
theorem ordF_none {p : Nat} (h2 : 2 ≤ p) : ∀ (d i y : Nat), y < p → (∀ s, s < d → y ^ 2 ^ s % p ≠ 1) → ordF p d i y = none := by
  intro d
  induction d with
  | zero => intro i y _ _; rfl
  | succ d ih =>
    intro i y hy hno
    rw [ordF]
    have h : y ≠ 1 := fun h => hno 0 (Nat.succ_pos d) (by rw [Nat.pow_zero, Nat.pow_one, h, Nat.mod_eq_of_lt (by omega)])
    rw [if_neg h]
    exact ih (i + 1) (y * y % p) (Nat.mod_lt _ (by omega)) (fun s hs => by rw [pow_sq]; exact hno (s + 1) (by omega))
/-- The first of the places below d at which a power to a power of 2 is 1. -/
theorem first_one (p y : Nat) : ∀ d, (∃ t, t < d ∧ y ^ 2 ^ t % p = 1 ∧ ∀ s, s < t → y ^ 2 ^ s % p ≠ 1) ∨ ∀ s, s < d → y ^ 2 ^ s % p ≠ 1 := by
  intro d
  induction d with
  | zero => exact .inr fun s hs => by omega
  | succ d ih =>
    rcases ih with ⟨t, h1, h2, h3⟩ | h
    · exact .inl ⟨t, by omega, h2, h3⟩
    · by_cases h1 : y ^ 2 ^ d % p = 1
      · exact .inl ⟨d, Nat.lt_succ_self d, h1, h⟩
      · refine .inr fun s hs => ?_
        by_cases h4 : s = d
        · rw [h4]; exact h1
        · exact h s (by omega)
end Go.Proofs.YtnlklfhgdefbaaaDoor.Pure
