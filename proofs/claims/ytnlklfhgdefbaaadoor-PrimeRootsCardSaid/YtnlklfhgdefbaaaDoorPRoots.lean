/-
  Numbers whose order is a power of 2, modulo a prime up to 100000: there is one (by the kernel's run), and the code and the reference find the same. No condition but the bound.
-/
import Derived.Test.YtnlklfhgdefbaaaDoorPTell
import Derived.Test.YtnlklfhgdefbaaaDoorPField
import Derived.Test.YtnlklfhgdefbaaaDoorPScan
import Derived.Test.YtnlklfhgdefbaaaDoorPRef3
import Derived.Test.YtnlklfhgdefbaaaDoorPTwo
import Derived.Test.YtnlklfhgdefbaaaDoorGNx0
import Derived.Test.YtnlklfhgdefbaaaDoorGNx3
import Derived.Test.YtnlklfhgdefbaaaDoorGNx6
import Derived.Test.YtnlklfhgdefbaaaDoorGNx7
namespace Go.Proofs.YtnlklfhgdefbaaaDoor.Pure
open Go.RowKit Go.Proofs.YtnlklfhgdefbaaaDoor.GN Go.Proofs.YtnlklfhgdefbaaaDoorW.PrintWords Go.Proofs.YtnlklfhgdefbaaaDoorW.PrintLast Go.Proofs.YtnlklfhgdefbaaaDoorW.PrintMore
set_option linter.unusedVariables false
set_option linter.unusedSimpArgs false

/-! ### a number that is no square -/
def nonres (p : Nat) : Bool := BL.any fun x => Nat.beq (x ^ ((p - 1) / 2) % p) (p - 1)
def resOk (M c : Nat) : Bool := Nat.rec true (fun c ih => cond (cond (smallF (2 * (M - c) + 1)) true (cond (nonres (2 * (M - c) + 1)) true (fails (2 * (M - c) + 1)))) ih false) c
theorem resOk_spec {M : Nat} : ∀ c, resOk M c = true → ∀ m, m ≤ M → M < m + c → smallF (2 * m + 1) = true ∨ nonres (2 * m + 1) = true ∨ fails (2 * m + 1) = true := by
  intro c
  induction c with
  | zero => intro _ m h1 h2; omega
  | succ c ih =>
    intro h m h1 h2
    have e : resOk M (c + 1) = ((smallF (2 * (M - c) + 1) || (nonres (2 * (M - c) + 1) || fails (2 * (M - c) + 1))) && resOk M c) := by
      show cond (cond (smallF (2 * (M - c) + 1)) true (cond (nonres (2 * (M - c) + 1)) true (fails (2 * (M - c) + 1)))) (resOk M c) false = _
      cases smallF (2 * (M - c) + 1) <;> cases nonres (2 * (M - c) + 1) <;> cases fails (2 * (M - c) + 1) <;> rfl
    rw [e, Bool.and_eq_true, Bool.or_eq_true, Bool.or_eq_true] at h
    by_cases h3 : M - c = m
    · rw [h3] at h; exact h.1
    · exact ih h.2 m h1 (by omega)
set_option maxRecDepth 100000 in
theorem res_table : resOk 50000 50000 = true := by decide +kernel
set_option maxRecDepth 100000 in
theorem res_small : ∀ b ∈ BL, b ≠ 2 → nonres b = true := by decide
theorem exists_nonres {p : Nat} (hp : Pr p) (h2 : p ≠ 2) (hb : p ≤ 100001) : ∃ x ∈ BL, x ^ ((p - 1) / 2) % p = p - 1 := by
  have of : nonres p = true → ∃ x ∈ BL, x ^ ((p - 1) / 2) % p = p - 1 := fun h => by
    obtain ⟨x, hx, h1⟩ := List.any_eq_true.1 h
    exact ⟨x, hx, Nat.eq_of_beq_eq_true h1⟩
  have hp2 := hp.1
  have hodd : p % 2 = 1 := by
    rcases Nat.mod_two_eq_zero_or_one p with h | h
    · rcases hp.2 2 (Nat.dvd_of_mod_eq_zero h) with h1 | h1 <;> omega
    · exact h
  have e : 2 * (p / 2) + 1 = p := by omega
  have hsm : smallF p = true → ∃ x ∈ BL, x ^ ((p - 1) / 2) % p = p - 1 := fun h => by
    obtain ⟨b, hbm, h0⟩ := smallF_spec h
    rcases hp.2 b (Nat.dvd_of_mod_eq_zero h0) with h1 | h1
    · have := (BL_small b hbm).1; omega
    · exact of (res_small p (h1 ▸ hbm) h2)
  have key := resOk_spec _ res_table (p / 2) (by omega) (by omega)
  rw [e] at key
  rcases key with h | h | h
  · exact hsm h
  · exact of h
  · have h3 : ¬ p ∣ 2 := fun hd => by have := Nat.le_of_dvd (by decide) hd; omega
    by_cases h5 : p = 3
    · exact of (res_small p (by rw [h5]; decide) h2)
    · have h4 : ¬ p ∣ 3 := fun hd => by have := Nat.le_of_dvd (by decide) hd; omega
      rcases fails_spec hp2 (by omega) h with h6 | h6
      · rw [strong_prime hp (by omega) h3] at h6; cases h6
      · rw [strong_prime hp (by omega) h4] at h6; cases h6

/-! ### which orders there are -/
theorem pow_one_up {y p a b : Nat} (hp : 1 < p) (h : y ^ 2 ^ a % p = 1) (hab : a ≤ b) : y ^ 2 ^ b % p = 1 := by
  obtain ⟨c, rfl⟩ : ∃ c, b = a + c := ⟨b - a, by omega⟩
  rw [Nat.pow_add, Nat.pow_mul, Nat.pow_mod, h, Nat.one_pow, Nat.mod_eq_of_lt hp]
/-- What has an order that is a power of 2 has one below. -/
theorem order_small {p y T : Nat} (hp : Pr p) (hB : p < 1048576) (hT : 20 ≤ T) (h : y ^ 2 ^ (T + 1) % p = 1) : ∃ t, t ≤ T ∧ y ^ 2 ^ t % p = 1 := by
  apply Classical.byContradiction
  intro hno
  have hp1 := hp.1
  have hno' : ∀ t, t ≤ T → y ^ 2 ^ t % p ≠ 1 := fun t ht h1 => hno ⟨t, ht, h1⟩
  -- the square root is one less
  have hz : y ^ 2 ^ T % p = p - 1 := by
    have hlt : y ^ 2 ^ T % p < p := Nat.mod_lt _ (by omega)
    have hsq : (y ^ 2 ^ T % p) * (y ^ 2 ^ T % p) % p = 1 := by
      rw [← Nat.mul_mod, ← Nat.pow_two, ← Nat.pow_mul, ← Nat.pow_succ]; exact h
    rcases hp.sqrt_one hlt hsq with h1 | h1
    · exact absurd h1 (hno' T (Nat.le_refl T))
    · exact h1
  have hy : ¬ p ∣ y := fun hd => by
    have h0 : 2 ^ T ≠ 0 := Nat.ne_of_gt (Nat.pow_pos (by decide))
    have h1 : p ∣ y ^ 2 ^ T := by
      obtain ⟨n, hn⟩ : ∃ n, 2 ^ T = n + 1 := ⟨2 ^ T - 1, (Nat.sub_add_cancel (Nat.pos_of_ne_zero h0)).symm⟩
      rw [hn, Nat.pow_succ]
      exact Nat.dvd_trans hd (Nat.dvd_mul_left _ _)
    have := Nat.mod_eq_zero_of_dvd h1
    omega
  have h2 : p ≠ 2 := fun h2 => by
    have hy1 : y % 2 = 1 := by
      rcases Nat.mod_two_eq_zero_or_one y with h3 | h3
      · exact absurd (h2 ▸ Nat.dvd_of_mod_eq_zero h3) hy
      · exact h3
    refine hno' 0 (Nat.zero_le T) ?_
    rw [Nat.pow_zero, Nat.pow_one, h2]; exact hy1
  obtain ⟨j, u, hj, hu⟩ : ∃ j u, j < 20 ∧ p - 1 = 2 ^ j * (2 * u + 1) := by
    rcases two_part 20 (p - 1) (by omega) with h3 | h3
    · have := Nat.le_of_dvd (by omega) h3
      omega
    · exact h3
  have hf := hp.fermat hy
  have e1 : (y ^ 2 ^ T) ^ (2 * u + 1) % p = p - 1 := by
    rw [Nat.pow_mod, hz]; exact neg_one_pow hp1 u
  have e2 : (y ^ 2 ^ T) ^ (2 * u + 1) = (y ^ (p - 1)) ^ 2 ^ (T - j) := by
    rw [← Nat.pow_mul, ← Nat.pow_mul, hu]
    congr 1
    have : 2 ^ T = 2 ^ j * 2 ^ (T - j) := by rw [← Nat.pow_add]; congr 1; omega
    rw [this]; grind
  rw [e2, Nat.pow_mod, hf, Nat.one_pow, hp.one_mod] at e1
  omega
/-- 63 squares tell as much as 64. -/
theorem ordF_63 {p y : Nat} (hp : Pr p) (hB : p < 1048576) (hy : y < p) : ∀ D, 21 ≤ D → ordF p (D + 1) 0 y = ordF p D 0 y := by
  intro D hD
  rcases first_one p y D with ⟨t, h1, h2, h3⟩ | h
  · rw [ordF_some hp.1 (D + 1) 0 y t hy (by omega) h2 h3, ordF_some hp.1 D 0 y t hy h1 h2 h3]
  · rw [ordF_none hp.1 D 0 y hy h]
    refine ordF_none hp.1 (D + 1) 0 y hy fun s hs => ?_
    by_cases h4 : s = D
    · intro h5
      obtain ⟨T, rfl⟩ : ∃ T, D = T + 1 := ⟨D - 1, by omega⟩
      rw [h4] at h5
      obtain ⟨t, ht, h6⟩ := order_small hp hB (by omega) h5
      exact h t (by omega) h6
    · exact h s (by omega)
/-- There is a number of the order 2 to the kth. -/
theorem exists_root {p k : Nat} (hp : Pr p) (hB : p ≤ 100001) (hk : 2 ^ k ∣ p - 1) (hk62 : k < 63) : ∃ x, 1 ≤ x ∧ x ≤ 40 ∧ ordF p 63 0 (x ^ ((p - 1) / 2 ^ k) % p) = some k := by
  have hp1 := hp.1
  by_cases h0 : k = 0
  · subst h0
    refine ⟨1, by decide, by decide, ?_⟩
    have e : 1 ^ ((p - 1) / 2 ^ 0) % p = 1 := by rw [Nat.one_pow, Nat.mod_eq_of_lt hp1]
    rw [e]
    exact ordF_some hp1 63 0 1 0 hp1 (by decide) (by rw [Nat.one_pow, Nat.mod_eq_of_lt hp1]) (fun s hs => by omega)
  · have h2 : p ≠ 2 := fun h2 => by
      subst h2
      have := Nat.le_of_dvd (by decide) hk
      have h3 : 2 ^ 1 ≤ 2 ^ k := Nat.pow_le_pow_right (by decide) (by omega)
      omega
    obtain ⟨x, hx, hxe⟩ := exists_nonres hp h2 hB
    have hxs := BL_small x hx
    refine ⟨x, by omega, by omega, ?_⟩
    obtain ⟨c, hc⟩ := hk
    have hpw : 0 < 2 ^ k := Nat.pow_pos (by decide)
    obtain ⟨j, rfl⟩ : ∃ j, k = j + 1 := ⟨k - 1, by omega⟩
    have e1 : (p - 1) / 2 ^ (j + 1) = c := by rw [hc, Nat.mul_div_cancel_left _ hpw]
    have e2 : (p - 1) / 2 = c * 2 ^ j := by
      rw [hc, Nat.pow_succ, Nat.mul_comm (2 ^ j), Nat.mul_assoc, Nat.mul_div_cancel_left _ (by decide), Nat.mul_comm]
    have hxp : ¬ p ∣ x := fun hd => by
      rcases (BL_pr hx).2 p hd with h3 | h3
      · omega
      · rw [← h3] at hxe
        have : p ^ ((p - 1) / 2) % p = 0 := Nat.mod_eq_zero_of_dvd (by
          obtain ⟨n, hn⟩ : ∃ n, (p - 1) / 2 = n + 1 := ⟨(p - 1) / 2 - 1, by omega⟩
          rw [hn, Nat.pow_succ]
          exact Nat.dvd_mul_left _ _)
        omega
    have hf := hp.fermat hxp
    rw [e1]
    have hup : (x ^ c % p) ^ 2 ^ j % p = p - 1 := by rw [← Nat.pow_mod, ← Nat.pow_mul, ← e2]; exact hxe
    have h1 : (x ^ c % p) ^ 2 ^ (j + 1) % p = 1 := by
      rw [← Nat.pow_mod, ← Nat.pow_mul]
      have : c * 2 ^ (j + 1) = p - 1 := by rw [hc, Nat.mul_comm]
      rw [this]; exact hf
    have := ordF_some hp1 63 0 (x ^ c % p) (j + 1) (Nat.mod_lt _ (by omega)) hk62 h1 (fun s hs h3 => by
      have h4 := pow_one_up hp1 h3 (show s ≤ j by omega)
      rw [hup] at h4
      have h5 : p - 1 = 1 := h4
      omega)
    rw [this, Nat.zero_add]

/-! ### the code's search and the reference's -/
def ordI (r : Option Nat) : Int := match r with | some n => (n : Int) | none => -1
theorem ref_order_l0 {p : Nat} (h2 : 2 ≤ p) (hp : p ≤ 1000000) : ∀ (d i y : Nat), 64 - i = d → i ≤ 64 → y < p → Ev (fun k => vinculumref04_Order.l0 k (p : Int) (y : Int) (i : Int)) (ordI (ordF p d i y)) := by
  intro d
  induction d with
  | zero =>
    intro i y hd hi hy
    refine Ev.step (f := fun k => some (-1)) (fun k => ?_) (Ev.now _)
    simp only [vinculumref04_Order.l0]
    rw [if_neg (by omega)]
  | succ d ih =>
    intro i y hd hi hy
    have em : (1 : Int) % (p : Int) = 1 := by
      have : (1 : Int) % (p : Int) = ((1 % p : Nat) : Int) := rfl
      rw [this, Nat.mod_eq_of_lt h2]; rfl
    rw [ordF]
    by_cases h : y = 1
    · rw [if_pos h]
      refine Ev.step (f := fun k => some (i : Int)) (fun k => ?_) (Ev.now _)
      simp only [vinculumref04_Order.l0]
      rw [if_pos (by omega), if_neg (by omega), em, if_pos (by omega)]
    · rw [if_neg h]
      refine Ev.step (f := fun k => (vinculumref03_Mul.f k (y : Int) (y : Int) (p : Int)).bind fun t157 => vinculumref04_Order.l0 k (p : Int) t157 ((i + 1 : Nat) : Int)) (fun k => ?_) (Ev.bind (rmul_ev (by omega) (by omega)) (ih (i + 1) (y * y % p) (by omega) (by omega) (Nat.mod_lt _ (by omega))))
      simp only [vinculumref04_Order.l0]
      rw [if_pos (by omega), if_neg (by omega), em, if_neg (by omega), w64_succ (by omega)]
theorem ref_order_ev {p x : Nat} (hP : Pr p) (hp : p ≤ 1000000) : Ev (fun k => vinculumref04_Order.f k (p : Int) (x : Int)) (ordI (ordF p 63 0 (x % p))) := by
  have h2 := hP.1
  unfold vinculumref04_Order.f
  refine Ev.congr (fun k => if_neg (by omega)) ?_
  have hx := Nat.mod_lt x (show 0 < p by omega)
  have g := ref_order_l0 h2 hp _ 0 (x % p) rfl (Nat.zero_le _) hx
  rw [show 64 - 0 = 63 + 1 from rfl, ordF_63 hP (by omega) hx 63 (by decide)] at g
  rw [tmodN]
  exact g
theorem root_both {p k e : Nat} {s1 s2 : Int} (hP : Pr p) (hp : p ≤ 100000) (hk : k ≤ 62) (he : e = (p - 1) / 2 ^ k) (X : Nat) (hX : X ≤ 40) (hXo : ordF p 63 0 (X ^ e % p) = some k) :
    ∀ (d x : Nat), X - x = d → x ≤ X → ∃ y : Nat, Ev (fun q => prime_Root.l0 q (p : Int) s1 s2 (p : Int) (k : Int) (x : Int)) ((y : Int), 0) ∧ Ev (fun q => vinculumref04_Root.l1 q (p : Int) (k : Int) (e : Int) (x : Int)) ((y : Int), 0) := by
  have h2 := hP.1
  have ep : IntKind.u64.wrap ((p : Int) - 1) = ((p - 1 : Nat) : Int) := u_pred (by omega) (by omega)
  have ek : IntKind.u64.wrap (k : Int) = (k : Int) := wrapN k (by omega)
  have esh : shr .u64 ((p - 1 : Nat) : Int) (k : Int) = (e : Int) := by rw [shr_nat (p - 1) (s := k) (by omega), he]
  have hen : e < 18446744073709551616 := by rw [he]; exact Nat.lt_of_le_of_lt (Nat.div_le_self _ _) (by omega)
  intro d
  induction d with
  | zero =>
    intro x hd hx
    have : x = X := by omega
    subst this
    have gp := fpow_ev (s1 := s1) (s2 := s2) (x := x) (n := e) (show 0 < p by omega) (by omega) (by omega) hen
    have go := order_ev (s1 := s1) (s2 := s2) (show 0 < p by omega) (show p < 18446744073709551616 by omega) (Nat.mod_lt (x ^ e) (show 0 < p by omega))
    have gr := rpow_ev (x := x) (n := e) (show 0 < p by omega) (show p ≤ 9223372036854775808 by omega) hen
    have gro := ref_order_ev (x := x ^ e % p) hP (show p ≤ 1000000 by omega)
    rw [Nat.mod_mod, hXo] at gro
    rw [hXo] at go
    refine ⟨x ^ e % p, Ev.step (f := fun q => (word_Field_Pow.f q (p : Int) s1 s2 (x : Int) (e : Int)).bind fun t => ((prime_order.f q t.2.1 t.2.2.1 t.2.2.2 t.1).bind fun u => if u.2.1 = true then (if u.1 = (k : Int) then some (t.1, 0) else prime_Root.l0 q u.2.2.1 u.2.2.2.1 u.2.2.2.2 (p : Int) (k : Int) (IntKind.u64.wrap ((x : Int) + 1))) else prime_Root.l0 q u.2.2.1 u.2.2.2.1 u.2.2.2.2 (p : Int) (k : Int) (IntKind.u64.wrap ((x : Int) + 1)))) (fun q => ?_) (Ev.bind gp (Ev.bind go (Ev.congr (fun q => if_pos rfl) (Ev.congr (fun q => if_pos rfl) (Ev.now _))))), Ev.step (f := fun q => (vinculumref03_Pow.f q (x : Int) (e : Int) (p : Int)).bind fun t159 => ((vinculumref04_Order.f q (p : Int) t159).bind fun t160 => (if t160 = (k : Int) then ((vinculumref03_Pow.f q (x : Int) (e : Int) (p : Int)).bind fun t161 => (some (t161, 0))) else (vinculumref04_Root.l1 q (p : Int) (k : Int) (e : Int) (IntKind.u64.wrap ((x : Int) + 1)))))) (fun q => ?_) (Ev.bind gr (Ev.bind gro (Ev.congr (fun q => if_pos rfl) (Ev.bind gr (Ev.now _)))))⟩
    · rw [prime_Root.l0, ep, ek, esh]
    · simp only [vinculumref04_Root.l1]
  | succ d ih =>
    intro x hd hx
    have gp := fpow_ev (s1 := s1) (s2 := s2) (x := x) (n := e) (show 0 < p by omega) (by omega) (by omega) hen
    have go := order_ev (s1 := s1) (s2 := s2) (show 0 < p by omega) (show p < 18446744073709551616 by omega) (Nat.mod_lt (x ^ e) (show 0 < p by omega))
    have gr := rpow_ev (x := x) (n := e) (show 0 < p by omega) (show p ≤ 9223372036854775808 by omega) hen
    have gro := ref_order_ev (x := x ^ e % p) hP (show p ≤ 1000000 by omega)
    rw [Nat.mod_mod] at gro
    have e1 : IntKind.u64.wrap ((x : Int) + 1) = ((x + 1 : Nat) : Int) := by rw [show (1 : Int) = ((1 : Nat) : Int) from rfl, addN, wrapN _ (by omega)]
    by_cases h : ordF p 63 0 (x ^ e % p) = some k
    · rw [h] at go gro
      refine ⟨x ^ e % p, Ev.step (f := fun q => (word_Field_Pow.f q (p : Int) s1 s2 (x : Int) (e : Int)).bind fun t => ((prime_order.f q t.2.1 t.2.2.1 t.2.2.2 t.1).bind fun u => if u.2.1 = true then (if u.1 = (k : Int) then some (t.1, 0) else prime_Root.l0 q u.2.2.1 u.2.2.2.1 u.2.2.2.2 (p : Int) (k : Int) (IntKind.u64.wrap ((x : Int) + 1))) else prime_Root.l0 q u.2.2.1 u.2.2.2.1 u.2.2.2.2 (p : Int) (k : Int) (IntKind.u64.wrap ((x : Int) + 1)))) (fun q => ?_) (Ev.bind gp (Ev.bind go (Ev.congr (fun q => if_pos rfl) (Ev.congr (fun q => if_pos rfl) (Ev.now _))))), Ev.step (f := fun q => (vinculumref03_Pow.f q (x : Int) (e : Int) (p : Int)).bind fun t159 => ((vinculumref04_Order.f q (p : Int) t159).bind fun t160 => (if t160 = (k : Int) then ((vinculumref03_Pow.f q (x : Int) (e : Int) (p : Int)).bind fun t161 => (some (t161, 0))) else (vinculumref04_Root.l1 q (p : Int) (k : Int) (e : Int) (IntKind.u64.wrap ((x : Int) + 1)))))) (fun q => ?_) (Ev.bind gr (Ev.bind gro (Ev.congr (fun q => if_pos rfl) (Ev.bind gr (Ev.now _)))))⟩
      · rw [prime_Root.l0, ep, ek, esh]
      · simp only [vinculumref04_Root.l1]
    · obtain ⟨y, i1, i2⟩ := ih (x + 1) (by omega) (by omega)
      have hI : ¬ ordI (ordF p 63 0 (x ^ e % p)) = (k : Int) := by
        cases h3 : ordF p 63 0 (x ^ e % p) with
        | none => show ¬ (-1 : Int) = (k : Int); omega
        | some n =>
          rw [h3] at h
          intro h4
          exact h (congrArg some (Int.ofNat_inj.1 h4))
      refine ⟨y, Ev.step (f := fun q => (word_Field_Pow.f q (p : Int) s1 s2 (x : Int) (e : Int)).bind fun t => ((prime_order.f q t.2.1 t.2.2.1 t.2.2.2 t.1).bind fun u => if u.2.1 = true then (if u.1 = (k : Int) then some (t.1, 0) else prime_Root.l0 q u.2.2.1 u.2.2.2.1 u.2.2.2.2 (p : Int) (k : Int) ((x + 1 : Nat) : Int)) else prime_Root.l0 q u.2.2.1 u.2.2.2.1 u.2.2.2.2 (p : Int) (k : Int) ((x + 1 : Nat) : Int))) (fun q => ?_) (Ev.bind gp (Ev.bind go ?_)), Ev.step (f := fun q => (vinculumref03_Pow.f q (x : Int) (e : Int) (p : Int)).bind fun t159 => ((vinculumref04_Order.f q (p : Int) t159).bind fun t160 => (if t160 = (k : Int) then ((vinculumref03_Pow.f q (x : Int) (e : Int) (p : Int)).bind fun t161 => (some (t161, 0))) else (vinculumref04_Root.l1 q (p : Int) (k : Int) (e : Int) ((x + 1 : Nat) : Int))))) (fun q => ?_) (Ev.bind gr (Ev.bind gro (Ev.congr (fun q => if_neg hI) i2)))⟩
      · rw [prime_Root.l0, ep, ek, esh, e1]
      · cases h3 : ordF p 63 0 (x ^ e % p) with
        | none => exact Ev.congr (fun q => if_neg (show ¬ (false = true) by decide)) i1
        | some n =>
          rw [h3] at h
          exact Ev.congr (fun q => if_pos rfl) (Ev.congr (fun q => if_neg (fun h4 => h (congrArg some (Int.ofNat_inj.1 h4)))) i1)
      · simp only [vinculumref04_Root.l1]
        rw [e1]
end Go.Proofs.YtnlklfhgdefbaaaDoor.Pure
