/-
  What the reference computes modulo a word: Add, Mul by doubling, Pow. Condition: the word is no greater than 2 to the 63rd.
-/
import Derived.Test.YtnlklfhgdefbaaaDoorPDiv64
import Derived.Test.YtnlklfhgdefbaaaDoorGNx0
import Derived.Test.YtnlklfhgdefbaaaDoorGNx4
namespace Go.Proofs.YtnlklfhgdefbaaaDoor.Pure
open Go.RowKit Go.Proofs.YtnlklfhgdefbaaaDoor.GN Go.Proofs.YtnlklfhgdefbaaaDoorW.PrintWords Go.Proofs.YtnlklfhgdefbaaaDoorW.PrintLast Go.Proofs.YtnlklfhgdefbaaaDoorW.PrintMore
set_option linter.unusedVariables false
set_option linter.unusedSimpArgs false

theorem radd_f {x y m : Nat} (h0 : 0 < m) (hm : m ≤ 9223372036854775808) : vinculumref03_Add.f (x : Int) (y : Int) (m : Int) = some (((x + y) % m : Nat) : Int) := by
  unfold vinculumref03_Add.f
  have h1 := Nat.mod_lt x h0
  have h2 := Nat.mod_lt y h0
  rw [if_neg (by omega), tmodN, tmodN, addN, wrapN _ (by omega), tmodN, ← Nat.add_mod]
theorem rhalf {n : Nat} (hn : n < 18446744073709551616) : IntKind.u64.wrap (Int.tdiv (n : Int) 2) = ((n / 2 : Nat) : Int) := by
  have e : Int.tdiv (n : Int) 2 = ((n / 2 : Nat) : Int) := rfl
  rw [e, wrapN _ (by omega)]
theorem rmul_l0 {m : Nat} (h0 : 0 < m) (hm : m ≤ 9223372036854775808) : ∀ (y x out : Nat), y < 18446744073709551616 → out < m → Ev (fun k => vinculumref03_Mul.l0 k (x : Int) (y : Int) (m : Int) (out : Int)) (((out + x * y) % m : Nat) : Int) := by
  intro y
  induction y using Nat.strongRecOn with
  | _ y ih =>
    intro x out hy ho
    by_cases hz : y = 0
    · subst hz
      rw [Nat.mul_zero, Nat.add_zero, Nat.mod_eq_of_lt ho]
      refine Ev.step (f := fun k => some (out : Int)) (fun k => ?_) (Ev.now _)
      simp only [vinculumref03_Mul.l0]
      rw [if_neg (by decide)]
    · have ht : Int.tmod (y : Int) 2 = ((y % 2 : Nat) : Int) := rfl
      have hdm := Nat.div_add_mod y 2
      by_cases h1 : y % 2 = 1
      · have g := ih (y / 2) (by omega) ((x + x) % m) ((out + x) % m) (by omega) (Nat.mod_lt _ h0)
        have e : ((out + x) % m + (x + x) % m * (y / 2)) % m = (out + x * y) % m := by
          rw [Nat.add_mod, Nat.mod_mod, Nat.mod_mul_mod, ← Nat.add_mod]
          congr 1
          rw [h1] at hdm
          have : x * y = x * (2 * (y / 2) + 1) := by rw [hdm]
          rw [this]; grind
        rw [e] at g
        refine Ev.step (fun k => ?_) g
        simp only [vinculumref03_Mul.l0]
        rw [if_pos (by omega), ht, if_pos (by omega), radd_f h0 hm, Option.bind_some, radd_f h0 hm, Option.bind_some, rhalf hy]
      · have g := ih (y / 2) (by omega) ((x + x) % m) out (by omega) ho
        have e : (out + (x + x) % m * (y / 2)) % m = (out + x * y) % m := by
          rw [Nat.add_mod, Nat.mod_mul_mod, ← Nat.add_mod]
          congr 1
          have h10 : y % 2 = 0 := by omega
          rw [h10] at hdm
          have : x * y = x * (2 * (y / 2) + 0) := by rw [hdm]
          rw [this]; grind
        rw [e] at g
        refine Ev.step (fun k => ?_) g
        simp only [vinculumref03_Mul.l0]
        rw [if_pos (by omega), ht, if_neg (by omega), radd_f h0 hm, Option.bind_some, rhalf hy]
theorem rmul_ev {x y m : Nat} (h0 : 0 < m) (hm : m ≤ 9223372036854775808) : Ev (fun k => vinculumref03_Mul.f k (x : Int) (y : Int) (m : Int)) ((x * y % m : Nat) : Int) := by
  unfold vinculumref03_Mul.f
  refine Ev.congr (fun k => if_neg (by omega)) ?_
  have h2 := Nat.mod_lt y h0
  have g := rmul_l0 h0 hm (y % m) (x % m) 0 (by omega) h0
  rw [Nat.zero_add, ← Nat.mul_mod] at g
  rw [tmodN, tmodN]
  exact g
theorem rpow_l0 {m : Nat} (h0 : 0 < m) (hm : m ≤ 9223372036854775808) : ∀ (n x out : Nat), n < 18446744073709551616 → out < m → Ev (fun k => vinculumref03_Pow.l0 k (x : Int) (n : Int) (m : Int) (out : Int)) ((out * x ^ n % m : Nat) : Int) := by
  intro n
  induction n using Nat.strongRecOn with
  | _ n ih =>
    intro x out hn ho
    by_cases hz : n = 0
    · subst hz
      rw [Nat.pow_zero, Nat.mul_one, Nat.mod_eq_of_lt ho]
      refine Ev.step (f := fun k => some (out : Int)) (fun k => ?_) (Ev.now _)
      simp only [vinculumref03_Pow.l0]
      rw [if_neg (by decide)]
    · have ht : Int.tmod (n : Int) 2 = ((n % 2 : Nat) : Int) := rfl
      have hdm := Nat.div_add_mod n 2
      have hp : x ^ n = (x * x) ^ (n / 2) * x ^ (n % 2) := by
        have : x ^ n = x ^ (2 * (n / 2) + n % 2) := by rw [hdm]
        rw [this, Nat.pow_add, Nat.pow_mul, Nat.pow_two]
      have gs := rmul_ev (x := x) (y := x) h0 hm
      by_cases h1 : n % 2 = 1
      · have g := ih (n / 2) (by omega) (x * x % m) (out * x % m) (by omega) (Nat.mod_lt _ h0)
        have e : out * x % m * (x * x % m) ^ (n / 2) % m = out * x ^ n % m := by
          rw [hp, h1, Nat.pow_one, Nat.mul_mod, Nat.mod_mod, Nat.pow_mod, Nat.mod_mod, ← Nat.pow_mod, ← Nat.mul_mod, Nat.mul_assoc, Nat.mul_comm x]
        rw [e] at g
        refine Ev.step (f := fun k => (vinculumref03_Mul.f k (out : Int) (x : Int) (m : Int)).bind fun t154 => (vinculumref03_Mul.f k (x : Int) (x : Int) (m : Int)).bind fun t155 => vinculumref03_Pow.l0 k t155 ((n / 2 : Nat) : Int) (m : Int) t154) (fun k => ?_) (Ev.bind (rmul_ev h0 hm) (Ev.bind gs g))
        simp only [vinculumref03_Pow.l0]
        rw [if_pos (by omega), ht, if_pos (by omega), rhalf hn]
      · have h10 : n % 2 = 0 := by omega
        have g := ih (n / 2) (by omega) (x * x % m) out (by omega) ho
        have e : out * (x * x % m) ^ (n / 2) % m = out * x ^ n % m := by
          rw [hp, h10, Nat.pow_zero, Nat.mul_one, Nat.mul_mod, ← Nat.pow_mod, ← Nat.mul_mod]
        rw [e] at g
        refine Ev.step (f := fun k => (vinculumref03_Mul.f k (x : Int) (x : Int) (m : Int)).bind fun t156 => vinculumref03_Pow.l0 k t156 ((n / 2 : Nat) : Int) (m : Int) (out : Int)) (fun k => ?_) (Ev.bind gs g)
        simp only [vinculumref03_Pow.l0]
        rw [if_pos (by omega), ht, if_neg (by omega), rhalf hn]
theorem rpow_ev {x n m : Nat} (h0 : 0 < m) (hm : m ≤ 9223372036854775808) (hn : n < 18446744073709551616) : Ev (fun k => vinculumref03_Pow.f k (x : Int) (n : Int) (m : Int)) ((x ^ n % m : Nat) : Int) := by
  unfold vinculumref03_Pow.f
  refine Ev.congr (fun k => if_neg (by omega)) ?_
  have e : (1 : Int) % (m : Int) = ((1 % m : Nat) : Int) := rfl
  rw [e]
  have g := rpow_l0 h0 hm n x (1 % m) hn (Nat.mod_lt _ h0)
  have e2 : 1 % m * x ^ n % m = x ^ n % m := by rw [Nat.mod_mul_mod, Nat.one_mul]
  rw [e2] at g
  exact g
end Go.Proofs.YtnlklfhgdefbaaaDoor.Pure
