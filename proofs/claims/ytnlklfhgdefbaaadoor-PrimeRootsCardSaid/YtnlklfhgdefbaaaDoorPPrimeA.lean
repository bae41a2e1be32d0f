/-
  What prime.mul, strong, Is, Next compute on words: the strong test by twelve bases. Condition: all are words.
-/
import Derived.Test.YtnlklfhgdefbaaaDoorPDiv64
import Derived.Test.YtnlklfhgdefbaaaDoorGNx0
import Derived.Test.YtnlklfhgdefbaaaDoorGNx1
import Derived.Test.YtnlklfhgdefbaaaDoorGNx2
namespace Go.Proofs.YtnlklfhgdefbaaaDoor.Pure
open Go.RowKit Go.Proofs.YtnlklfhgdefbaaaDoor.GN Go.Proofs.YtnlklfhgdefbaaaDoorW.PrintWords Go.Proofs.YtnlklfhgdefbaaaDoorW.PrintLast Go.Proofs.YtnlklfhgdefbaaaDoorW.PrintMore
set_option linter.unusedVariables false
set_option linter.unusedSimpArgs false

/-! ### products modulo a word -/
theorem rem64_ev {hi lo y : Nat} (hy : 0 < y) (hy2 : y < 18446744073709551616) (hlo : lo < 18446744073709551616) : Ev (fun k => bits_Rem64.f k (hi : Int) (lo : Int) (y : Int)) (((hi * 18446744073709551616 + lo) % y : Nat) : Int) := by
  unfold bits_Rem64.f
  refine Ev.congr (fun k => if_neg (by omega)) ?_
  rw [tmodN hi y]
  have g := d64_nat (Nat.mod_lt hi hy) hy2 hlo
  refine Ev.bind g ?_
  have e : (hi % y * 18446744073709551616 + lo) % y = (hi * 18446744073709551616 + lo) % y := by
    rw [Nat.add_mod, Nat.mod_mul_mod, ← Nat.add_mod]
  rw [e]
  exact Ev.now _
theorem prodmod_ev {x y n : Nat} (hx : x < 18446744073709551616) (hy : y < 18446744073709551616) (hn : 0 < n) (hn2 : n < 18446744073709551616) : Ev (fun k => (bits_Mul64.f (x : Int) (y : Int)).bind fun bt => bits_Rem64.f k bt.1 bt.2 (n : Int)) ((x * y % n : Nat) : Int) := by
  rw [mul64_nat x y hx hy]
  refine Ev.congr (fun k => Option.bind_some _ _) ?_
  have g := rem64_ev (hi := x * y / 18446744073709551616) (lo := x * y % 18446744073709551616) hn hn2 (Nat.mod_lt _ (by decide))
  rw [Nat.mul_comm (x * y / _), Nat.div_add_mod] at g
  exact g
theorem pmul_ev {x y n : Nat} (hx : x < 18446744073709551616) (hy : y < 18446744073709551616) (hn : 0 < n) (hn2 : n < 18446744073709551616) : Ev (fun k => prime_mul.f k (x : Int) (y : Int) (n : Int)) ((x * y % n : Nat) : Int) := by
  unfold prime_mul.f
  rw [mul64_nat x y hx hy]
  refine Ev.congr (fun k => Option.bind_some _ _) ?_
  have g := rem64_ev (hi := x * y / 18446744073709551616) (lo := x * y % 18446744073709551616) hn hn2 (Nat.mod_lt _ (by decide))
  rw [Nat.mul_comm (x * y / _), Nat.div_add_mod] at g
  exact Ev.bind g (Ev.now _)

/-! ### the strong test -/
theorem u_pred {n : Nat} (h0 : 0 < n) (hn : n < 18446744073709551616) : IntKind.u64.wrap ((n : Int) - 1) = ((n - 1 : Nat) : Int) := by
  have e : (n : Int) - 1 = ((n - 1 : Nat) : Int) := by omega
  rw [e, wrapN _ (by omega)]
theorem and_one {e : Nat} (he : e < 18446744073709551616) : Go.bits .and .u64 (e : Int) 1 = ((e % 2 : Nat) : Int) := by
  have h := bits_and_u64_nat e 1 he (by omega)
  rw [Nat.and_one_is_mod] at h
  exact h
/-- Squares till one less than n comes. -/
def sqs (n : Nat) : Nat → Nat → Bool
  | _, 0 => false
  | x, s + 1 => x == n - 1 || sqs n (x * x % n) s
def strongN (n b : Nat) : Bool := (b ^ ((n - 1) / 2 ^ Lib.ctz 64 (n - 1)) % n == 1) || sqs n (b ^ ((n - 1) / 2 ^ Lib.ctz 64 (n - 1)) % n) (Lib.ctz 64 (n - 1))
theorem strong_l1 {n : Nat} (h2 : 2 ≤ n) (hn : n < 18446744073709551616) (T : Nat) (hT : T ≤ 100) : ∀ (d i x : Nat), T - i = d → i ≤ T → x < n → Ev (fun k => prime_strong.l1 k (n : Int) (x : Int) (T : Int) (i : Int)) (sqs n x d) := by
  intro d
  induction d with
  | zero =>
    intro i x hd hi hx
    refine Ev.step (f := fun k => some false) (fun k => ?_) (Ev.now _)
    simp only [prime_strong.l1]
    rw [if_neg (by omega)]
  | succ d ih =>
    intro i x hd hi hx
    have hi0 : (i : Int) < (T : Int) := by omega
    by_cases h : x = n - 1
    · have e : sqs n x (d + 1) = true := by simp [sqs, h]
      rw [e]
      refine Ev.step (f := fun k => some true) (fun k => ?_) (Ev.now _)
      simp only [prime_strong.l1]
      rw [if_pos hi0, u_pred (by omega) hn, if_pos (by omega)]
    · have e : sqs n x (d + 1) = sqs n (x * x % n) d := by simp [sqs, h]
      rw [e]
      have hxB : x < 18446744073709551616 := Nat.lt_trans hx hn
      refine Ev.step (f := fun k => (prime_mul.f k (x : Int) (x : Int) (n : Int)).bind fun t112 => prime_strong.l1 k (n : Int) t112 (T : Int) ((i + 1 : Nat) : Int)) (fun k => ?_) (Ev.bind (pmul_ev hxB hxB (by omega) hn) (ih (i + 1) (x * x % n) (by omega) (by omega) (Nat.mod_lt _ (by omega))))
      simp only [prime_strong.l1]
      rw [if_pos hi0, u_pred (by omega) hn, if_neg (by omega), w64_succ (by omega)]
theorem pow_half (b e : Nat) : b ^ e = (b * b) ^ (e / 2) * b ^ (e % 2) := by
  have : b ^ e = b ^ (2 * (e / 2) + e % 2) := by rw [Nat.div_add_mod]
  rw [this, Nat.pow_add, Nat.pow_mul, Nat.pow_two]
theorem strong_l0 {n : Nat} (h2 : 2 ≤ n) (hn : n < 18446744073709551616) (T : Nat) (hT : T ≤ 100) : ∀ (e x b : Nat), e < 18446744073709551616 → x < n → b < n → Ev (fun k => prime_strong.l0 k (n : Int) (T : Int) (x : Int) (b : Int) (e : Int)) ((x * b ^ e % n == 1) || sqs n (x * b ^ e % n) T) := by
  intro e
  induction e using Nat.strongRecOn with
  | _ e ih =>
    intro x b he hx hb
    have hxB : x < 18446744073709551616 := Nat.lt_trans hx hn
    have hbB : b < 18446744073709551616 := Nat.lt_trans hb hn
    by_cases h0 : e = 0
    · subst h0
      rw [Nat.pow_zero, Nat.mul_one, Nat.mod_eq_of_lt hx]
      by_cases h1 : x = 1
      · have e1 : (x == 1 || sqs n x T) = true := by simp [h1]
        rw [e1]
        refine Ev.step (f := fun k => some true) (fun k => ?_) (Ev.now _)
        simp only [prime_strong.l0]
        rw [if_neg (by decide), if_pos (by omega)]
      · have e1 : (x == 1 || sqs n x T) = sqs n x T := by simp [h1]
        rw [e1]
        refine Ev.step (fun k => ?_) (strong_l1 h2 hn T hT _ 0 x rfl (Nat.zero_le _) hx)
        simp only [prime_strong.l0]
        rw [if_neg (by decide), if_neg (by omega)]; rfl
    · have hdiv : (e : Int) / 2 = ((e / 2 : Nat) : Int) := by omega
      have hsq := pmul_ev hbB hbB (show 0 < n by omega) hn
      have hbn : b * b % n < n := Nat.mod_lt _ (by omega)
      by_cases h1 : e % 2 = 1
      · have hxn : x * b % n < n := Nat.mod_lt _ (by omega)
        have ee : x * b % n * (b * b % n) ^ (e / 2) % n = x * b ^ e % n := by
          rw [pow_half b e, h1, Nat.pow_one, Nat.mul_mod, Nat.mod_mod, Nat.pow_mod, Nat.mod_mod, ← Nat.pow_mod, ← Nat.mul_mod, Nat.mul_assoc, Nat.mul_comm b]
        have g := ih (e / 2) (by omega) (x * b % n) (b * b % n) (by omega) hxn hbn
        rw [ee] at g
        refine Ev.step (f := fun k => (prime_mul.f k (x : Int) (b : Int) (n : Int)).bind fun t109 => (prime_mul.f k (b : Int) (b : Int) (n : Int)).bind fun t110 => prime_strong.l0 k (n : Int) (T : Int) t109 t110 ((e / 2 : Nat) : Int)) (fun k => ?_) (Ev.bind (pmul_ev hxB hbB (by omega) hn) (Ev.bind hsq g))
        simp only [prime_strong.l0]
        rw [if_pos (by omega), and_one he, if_pos (by omega), hdiv]
      · have h10 : e % 2 = 0 := by omega
        have ee : x * (b * b % n) ^ (e / 2) % n = x * b ^ e % n := by
          rw [pow_half b e, h10, Nat.pow_zero, Nat.mul_one, Nat.mul_mod, ← Nat.pow_mod, ← Nat.mul_mod]
        have g := ih (e / 2) (by omega) x (b * b % n) (by omega) hx hbn
        rw [ee] at g
        refine Ev.step (f := fun k => (prime_mul.f k (b : Int) (b : Int) (n : Int)).bind fun t111 => prime_strong.l0 k (n : Int) (T : Int) (x : Int) t111 ((e / 2 : Nat) : Int)) (fun k => ?_) (Ev.bind hsq g)
        simp only [prime_strong.l0]
        rw [if_pos (by omega), and_one he, if_neg (by omega), hdiv]
theorem tz_f {x : Nat} (hx : x < 18446744073709551616) : bits_TrailingZeros64.f (x : Int) = some ((Lib.ctz 64 x : Nat) : Int) := by
  unfold bits_TrailingZeros64.f
  rw [if_pos (Int.natCast_nonneg x), if_pos (by omega), Int.toNat_natCast]
theorem ctz_le {x : Nat} (h0 : x ≠ 0) (hx : x < 18446744073709551616) : Lib.ctz 64 x < 64 := (Lib.lowest_bit 64 x h0 hx).2
theorem ctz_spec {x : Nat} (h0 : x ≠ 0) (hx : x < 18446744073709551616) : ∃ m, x = 2 ^ Lib.ctz 64 x * (2 * m + 1) := by
  have e : Lib.ctz 64 x = Lib.ctzFrom 64 x := by simp [Lib.ctz, h0]
  obtain ⟨m, h1, _⟩ := Lib.ctzFrom_spec 64 x (Nat.pos_of_ne_zero h0) hx
  exact ⟨m, by rw [e]; exact h1⟩
theorem strong_ev {n b : Nat} (h2 : 2 ≤ n) (hn : n < 18446744073709551616) (hb : b < 18446744073709551616) : Ev (fun k => prime_strong.f k (n : Int) (b : Int)) (strongN n b) := by
  unfold prime_strong.f
  rw [u_pred (by omega) hn, tz_f (by omega)]
  refine Ev.congr (fun k => Option.bind_some _ _) ?_
  have hs := ctz_le (show n - 1 ≠ 0 by omega) (show n - 1 < 18446744073709551616 by omega)
  unfold strongN
  generalize Lib.ctz 64 (n - 1) = s at *
  rw [wrapN s (by omega), shr_nat (n - 1) (s := s) (by omega), tmodN b n]
  refine Ev.congr (fun k => if_neg (by omega)) (Ev.congr (fun k => if_pos (Int.natCast_nonneg _)) ?_)
  have g := strong_l0 h2 hn s (by omega) ((n - 1) / 2 ^ s) 1 (b % n) (Nat.lt_of_le_of_lt (Nat.div_le_self _ _) (by omega)) (by omega) (Nat.mod_lt _ (by omega))
  rw [Nat.one_mul, ← Nat.pow_mod] at g
  exact g

/-! ### Is, Next -/
def BL : List Nat := [2, 3, 5, 7, 11, 13, 17, 19, 23, 29, 31, 37]
def isN (n : Nat) : Bool := if n < 2 then false else match BL.find? (fun b => n % b == 0) with
  | some b => n == b
  | none => BL.all (strongN n)
theorem BL_rd {i : Nat} (h : i < 12) : rd prime_Is.BL (i : Int) = ((BL.getD i 0 : Nat) : Int) ∧ 2 ≤ BL.getD i 0 ∧ BL.getD i 0 < 38 := by
  have key : ∀ i : Fin 12, rd prime_Is.BL (i.val : Int) = ((BL.getD i.val 0 : Nat) : Int) ∧ 2 ≤ BL.getD i.val 0 ∧ BL.getD i.val 0 < 38 := by decide
  exact key ⟨i, h⟩
theorem BL_drop {i : Nat} (h : i < 12) : BL.drop i = BL.getD i 0 :: BL.drop (i + 1) := by
  have key : ∀ i : Fin 12, BL.drop i.val = BL.getD i.val 0 :: BL.drop (i.val + 1) := by decide
  exact key ⟨i, h⟩
theorem is_l1 {n : Nat} (h2 : 2 ≤ n) (hn : n < 18446744073709551616) : ∀ (d i : Nat), 12 - i = d → i ≤ 12 → Ev (fun k => prime_Is.l1 k (n : Int) (i : Int)) ((BL.drop i).all (strongN n)) := by
  intro d
  induction d with
  | zero =>
    intro i hd hi
    have : i = 12 := by omega
    subst this
    refine Ev.step (f := fun k => some true) (fun k => ?_) (Ev.now _)
    rw [prime_Is.l1, if_neg (by decide)]
  | succ d ih =>
    intro i hd hi
    have hi0 : i < 12 := by omega
    obtain ⟨e1, e2, e3⟩ := BL_rd hi0
    have g := ih (i + 1) (by omega) (by omega)
    have gs := strong_ev (b := BL.getD i 0) h2 hn (by omega)
    rw [BL_drop hi0, List.all_cons]
    refine Ev.step (f := fun k => (prime_strong.f k (n : Int) ((BL.getD i 0 : Nat) : Int)).bind fun t => if t = true then prime_Is.l1 k (n : Int) ((i + 1 : Nat) : Int) else some false) (fun k => ?_) (Ev.bind gs ?_)
    · rw [prime_Is.l1, if_pos (by omega), e1]; rfl
    · by_cases h : strongN n (BL.getD i 0) = true
      · rw [h, Bool.true_and]
        exact Ev.congr (fun k => if_pos rfl) g
      · rw [Bool.not_eq_true] at h
        rw [h, Bool.false_and]
        exact Ev.congr (fun k => if_neg (by decide)) (Ev.now _)
theorem is_l0 {n : Nat} (h2 : 2 ≤ n) (hn : n < 18446744073709551616) : ∀ (d i : Nat), 12 - i = d → i ≤ 12 → Ev (fun k => prime_Is.l0 k (n : Int) (i : Int)) (match (BL.drop i).find? (fun b => n % b == 0) with | some b => n == b | none => BL.all (strongN n)) := by
  intro d
  induction d with
  | zero =>
    intro i hd hi
    have : i = 12 := by omega
    subst this
    have g := is_l1 h2 hn _ 0 rfl (Nat.zero_le _)
    refine Ev.step (fun k => ?_) g
    rw [prime_Is.l0, if_neg (by decide)]; rfl
  | succ d ih =>
    intro i hd hi
    have hi0 : i < 12 := by omega
    obtain ⟨e1, e2, e3⟩ := BL_rd hi0
    have g := ih (i + 1) (by omega) (by omega)
    rw [BL_drop hi0, List.find?_cons]
    generalize BL.getD i 0 = b at *
    by_cases h : n % b = 0
    · have hb : (n % b == 0) = true := beq_iff_eq.2 h
      rw [hb]
      refine Ev.step (f := fun k => some (n == b)) (fun k => ?_) (Ev.now _)
      rw [prime_Is.l0, if_pos (by omega), e1, tmodN, if_pos (by omega)]
      congr 1
      by_cases h3 : n = b
      · subst h3; simp
      · have : ¬ (n : Int) = (b : Int) := fun h4 => h3 (by omega)
        rw [beq_eq_false_iff_ne.2 this, beq_eq_false_iff_ne.2 h3]
    · have hb : (n % b == 0) = false := beq_eq_false_iff_ne.2 h
      rw [hb]
      refine Ev.step (fun k => ?_) g
      rw [prime_Is.l0, if_pos (by omega), e1, tmodN, if_neg (by omega)]; rfl
theorem pis_ev {n : Nat} (hn : n < 18446744073709551616) : Ev (fun k => prime_Is.f k (n : Int)) (isN n) := by
  unfold prime_Is.f isN
  by_cases h : n < 2
  · rw [if_pos h]
    exact Ev.congr (fun k => if_pos (by omega)) (Ev.now _)
  · rw [if_neg h]
    exact Ev.congr (fun k => if_neg (by omega)) (is_l0 (by omega) hn _ 0 rfl (Nat.zero_le _))
end Go.Proofs.YtnlklfhgdefbaaaDoor.Pure
