/-
  Which number is answered whose order is a power of 2, and which order numbers have, against the reference. No condition but the statement's own.
-/
import Derived.Test.YtnlklfhgdefbaaaDoorPRoots
import Derived.Test.YtnlklfhgdefbaaaDoorPAwake04
import Derived.Test.YtnlklfhgdefbaaaDoorGNx0
import Derived.Test.YtnlklfhgdefbaaaDoorGNx14
namespace Go.Proofs.YtnlklfhgdefbaaaDoor.Pure
open Go.RowKit Go.Proofs.YtnlklfhgdefbaaaDoor.GN Go.Proofs.YtnlklfhgdefbaaaDoorW.PrintWords Go.Proofs.YtnlklfhgdefbaaaDoorW.PrintLast Go.Proofs.YtnlklfhgdefbaaaDoorW.PrintMore
set_option linter.unusedVariables false
set_option linter.unusedSimpArgs false

theorem tw_iff {n k : Nat} (h0 : n ≠ 0) : k ≤ tw n ↔ 2 ^ k ∣ n := by
  refine ⟨fun h => ?_, tw_ge k n h0⟩
  have key : ∀ (j n : Nat), n ≠ 0 → j ≤ tw n → 2 ^ j ∣ n := by
    intro j
    induction j with
    | zero => intro n _ _; rw [Nat.pow_zero]; exact Nat.one_dvd n
    | succ j ih =>
      intro n h0 h
      by_cases he : n % 2 = 0
      · rw [tw_even h0 he] at h
        obtain ⟨c, hc⟩ := ih (n / 2) (by omega) (Nat.le_of_succ_le_succ h)
        exact ⟨c, by rw [Nat.pow_succ, Nat.mul_comm (2 ^ j), Nat.mul_assoc, ← hc]; omega⟩
      · rw [tw_odd (by omega)] at h; omega
  exact key k n h0 h
theorem halve_l0 {p k : Nat} (hk : k ≤ 62) : ∀ (d i n : Nat) (R : Int × Int), k - i = d → i ≤ k → n < 18446744073709551616 → Ev (fun q => vinculumref04_Root.l1 q (p : Int) (k : Int) ((n / 2 ^ d : Nat) : Int) 1) R → Ev (fun q => vinculumref04_Root.l0 q (p : Int) (k : Int) (n : Int) (i : Int)) R := by
  intro d
  induction d with
  | zero =>
    intro i n R hd hi hn g
    rw [Nat.pow_zero, Nat.div_one] at g
    refine Ev.step (fun q => ?_) g
    simp only [vinculumref04_Root.l0]
    rw [if_neg (by omega)]
  | succ d ih =>
    intro i n R hd hi hn g
    have e : n / 2 ^ (d + 1) = n / 2 / 2 ^ d := by rw [Nat.div_div_eq_div_mul, Nat.pow_succ, Nat.mul_comm]
    rw [e] at g
    refine Ev.step (fun q => ?_) (ih (i + 1) (n / 2) R (by omega) (by omega) (by omega) g)
    simp only [vinculumref04_Root.l0]
    rw [if_pos (by omega), rhalf hn, w64_succ (by omega)]
/-- The code's Root and the reference's answer the same. -/
theorem roots_both {p : Nat} {k : Int} (hP : Pr p) (hp : p ≤ 100000) : ∃ y e : Int, Ev (fun q => prime_Root.f q (p : Int) k) (y, e) ∧ Ev (fun q => vinculumref04_Root.f q (p : Int) k) (y, e) := by
  have h2 := hP.1
  have hN : isN p = true := isN_prime hP (by omega)
  obtain ⟨s1, s2, gf⟩ := field_yes (p := p) (by omega) hN
  have ep : IntKind.u64.wrap ((p : Int) - 1) = ((p - 1 : Nat) : Int) := u_pred (by omega) (by omega)
  have gt := twos_ev (n := p - 1) (by omega)
  have badR : Ev (fun q => vinculumref04_Root.j0 q (p : Int) k true) (0, 1) :=
    Ev.step (f := fun q => some (0, 1)) (fun q => by simp only [vinculumref04_Root.j0]; exact if_pos trivial) (Ev.now _)
  have htw : tw (p - 1) < 20 := tw_lt 20 (p - 1) (by omega) (by omega)
  have refbad : (k < 0 ∨ (0 ≤ k ∧ (tw (p - 1) : Int) < k)) → Ev (fun q => vinculumref04_Root.f q (p : Int) k) (0, 1) := fun hk => by
    unfold vinculumref04_Root.f
    by_cases h1 : k < 0
    · exact Ev.congr (fun q => if_pos h1) badR
    · refine Ev.congr (fun q => if_neg h1) ?_
      rw [ep]
      refine Ev.bind gt (Ev.congr (fun q => if_pos (by omega)) ?_)
      by_cases h3 : (p : Int) > 2
      · exact Ev.congr (fun q => if_pos h3) badR
      · refine Ev.congr (fun q => if_neg h3) (Ev.congr (fun q => if_pos (by omega)) ?_)
        rw [decide_eq_true (by omega)]
        exact badR
  have codebad : ∀ r, (∀ q, (if k < 0 then some ((0 : Int), (1 : Int)) else if 62 < k then some (0, 1) else if Go.bits .and .u64 (IntKind.u64.wrap ((p : Int) - 1)) (IntKind.u64.wrap (IntKind.u64.wrap (2 ^ min (IntKind.u64.wrap k).toNat 64) - 1)) = 0 then prime_Root.l0 q (p : Int) s1 s2 (p : Int) k 1 else some (0, 1)) = some r) → Ev (fun q => prime_Root.f q (p : Int) k) r := fun r h => by
    unfold prime_Root.f
    refine Ev.bind gf ?_
    exact Ev.congr (fun q => h q) (Ev.now _)
  by_cases h1 : k < 0
  · exact ⟨0, 1, codebad (0, 1) (fun q => if_pos h1), refbad (.inl h1)⟩
  by_cases h3 : 62 < k
  · exact ⟨0, 1, codebad (0, 1) (fun q => (if_neg h1).trans (if_pos h3)), refbad (.inr ⟨by omega, by omega⟩)⟩
  obtain ⟨K, rfl⟩ := Int.eq_ofNat_of_zero_le (show 0 ≤ k by omega)
  have hK : K ≤ 62 := by omega
  have hpw : 2 ^ K ≤ 2 ^ 62 := Nat.pow_le_pow_right (by decide) hK
  have hpw0 : 0 < 2 ^ K := Nat.pow_pos (by decide)
  have emask : IntKind.u64.wrap (IntKind.u64.wrap (2 ^ min (IntKind.u64.wrap (K : Int)).toNat 64) - 1) = ((2 ^ K - 1 : Nat) : Int) := by
    rw [wrapN K (by omega), Int.toNat_natCast, Nat.min_eq_left (by omega)]
    have e : (2 : Int) ^ K = ((2 ^ K : Nat) : Int) := by simp
    rw [e, wrapN _ (by omega)]
    exact u_pred hpw0 (by omega)
  have eand : Go.bits .and .u64 ((p - 1 : Nat) : Int) ((2 ^ K - 1 : Nat) : Int) = (((p - 1) % 2 ^ K : Nat) : Int) := by
    rw [bits_and_u64_nat (p - 1) (2 ^ K - 1) (by omega) (by omega), Nat.and_two_pow_sub_one_eq_mod]
  by_cases h4 : 2 ^ K ∣ p - 1
  · obtain ⟨X, x1, x2, hX⟩ := exists_root hP (by omega) h4 (by omega)
    obtain ⟨y, i1, i2⟩ := root_both (s1 := s1) (s2 := s2) hP hp hK rfl X x2 hX _ 1 rfl x1
    refine ⟨y, 0, ?_, ?_⟩
    · unfold prime_Root.f
      refine Ev.bind gf (Ev.congr (fun q => ?_) i1)
      refine (if_neg h1).trans ((if_neg h3).trans ?_)
      rw [ep, emask, eand, Nat.mod_eq_zero_of_dvd h4]
      exact if_pos rfl
    · have hle := (tw_iff (show p - 1 ≠ 0 by omega)).2 h4
      have g0 : Ev (fun q => vinculumref04_Root.j0 q (p : Int) (K : Int) false) ((y : Int), 0) := by
        have g := halve_l0 (p := p) (k := K) hK _ 0 (p - 1) ((y : Int), 0) rfl (Nat.zero_le _) (by omega) i2
        refine Ev.step (fun q => ?_) g
        simp only [vinculumref04_Root.j0]
        rw [if_neg (by decide), ep]; rfl
      unfold vinculumref04_Root.f
      refine Ev.congr (fun q => if_neg h1) ?_
      rw [ep]
      refine Ev.bind gt (Ev.congr (fun q => if_neg (by omega)) ?_)
      by_cases h5 : (p : Int) = 2
      · refine Ev.congr (fun q => if_pos h5) ?_
        have hp2 : p = 2 := by omega
        have : K = 0 := by
          rw [hp2] at hle
          have e : tw (2 - 1) = 0 := tw_odd (by decide)
          omega
        rw [decide_eq_false (by omega)]
        exact g0
      · exact Ev.congr (fun q => if_neg h5) g0
  · have hgt : tw (p - 1) < K := Nat.lt_of_not_le fun h => h4 ((tw_iff (show p - 1 ≠ 0 by omega)).1 h)
    refine ⟨0, 1, codebad (0, 1) (fun q => (if_neg h1).trans ((if_neg h3).trans ?_)), refbad (.inr ⟨by omega, by omega⟩)⟩
    rw [ep, emask, eand]
    refine if_neg fun h => h4 (Nat.dvd_of_mod_eq_zero ?_)
    exact Int.ofNat_inj.1 h
theorem PrimeRoots : vinculumlaw04_PrimeRoots.Pure := by
  intro p k x wp wk wx
  apply Ev.rounds
  unfold vinculumlaw04_PrimeRoots.f
  by_cases h : p > 100000
  · exact Ev.congr (fun q => if_pos h) (Ev.bind awake_ev (Ev.now _))
  refine Ev.congr (fun q => if_neg h) ?_
  have hUp := U_of_wf wp
  have hUx := U_of_wf wx
  obtain ⟨P, rfl⟩ := Int.eq_ofNat_of_zero_le hUp.1
  obtain ⟨X, rfl⟩ := Int.eq_ofNat_of_zero_le hUx.1
  have hP5 : P ≤ 100000 := by omega
  have gis := ref_is_ev (n := P) (by omega)
  by_cases hN : isN P = true
  · have hP := (isN_iff (show P ≤ 1000003 by omega)).1 hN
    have h2 := hP.1
    obtain ⟨y, e, g1, g2⟩ := roots_both (k := k) hP hP5
    obtain ⟨s1, s2, gf⟩ := field_yes (p := P) (by omega) hN
    rw [hN] at gis
    -- Order
    by_cases hx : X % P = 0
    · have ht : Int.tmod (X : Int) (P : Int) = 0 := by rw [tmodN, hx]; rfl
      have go : Ev (fun q => prime_Order.f q (P : Int) (X : Int)) (0, 1) := by
        unfold prime_Order.f
        exact Ev.bind gf (Ev.congr (fun q => (if_neg (by omega)).trans (if_pos ht)) (Ev.now _))
      refine Ev.bind g1 (Ev.bind go (Ev.bind gis (Ev.congr (fun q => if_pos rfl) (Ev.bind g2 (Ev.congr (fun q => if_pos rfl) ?_)))))
      rw [show ((y, e).2 != (y, e).2) = false by simp]
      refine Ev.step (f := fun q => (vinculumlaw04_awake.f q).bind fun t => some t) (fun q => ?_) (Ev.bind awake_ev (Ev.now _))
      simp only [vinculumlaw04_PrimeRoots.j0]
      rw [if_neg (by decide), if_neg (by omega), if_pos ht, if_pos trivial, if_pos trivial]
    · have ht : ¬ Int.tmod (X : Int) (P : Int) = 0 := by rw [tmodN]; omega
      have hlt := Nat.mod_lt X (show 0 < P by omega)
      have gord := order_ev (p := P) (s1 := s1) (s2 := s2) (by omega) (by omega) hlt
      have gro := ref_order_ev (x := X) hP (show P ≤ 1000000 by omega)
      have hrest : ∀ (n en : Int), (match ordF P 63 0 (X % P) with | some m => ((m : Int), (0 : Int)) | none => (0, 19)) = (n, en) → Ev (fun q => prime_Order.f q (P : Int) (X : Int)) (n, en) ∧ Ev (fun q => vinculumlaw04_PrimeRoots.j0 q (P : Int) (X : Int) n en false) true := by
        intro n en hne
        cases hm : ordF P 63 0 (X % P) with
        | none =>
          rw [hm] at hne gord gro
          obtain ⟨rfl, rfl⟩ := Prod.mk.inj hne
          constructor
          · unfold prime_Order.f
            refine Ev.bind gf (Ev.congr (fun q => (if_neg (by omega)).trans (if_neg ht)) ?_)
            rw [tmodN]
            exact Ev.bind gord (Ev.congr (fun q => if_neg (show ¬ (false = true) by decide)) (Ev.now _))
          · refine Ev.step (f := fun q => (vinculumref04_Order.f q (P : Int) (X : Int)).bind fun t218 => (if t218 < 0 then ((vinculumlaw04_awake.f q).bind fun t219 => (some t219)) else (none))) (fun q => ?_) (Ev.bind gro (Ev.congr (fun q => if_pos (by decide)) (Ev.bind awake_ev (Ev.now _))))
            simp only [vinculumlaw04_PrimeRoots.j0]
            rw [if_neg (by decide), if_neg (by omega), if_neg ht]
            refine congrArg (Option.bind _) (funext fun t => ?_)
            by_cases h0 : t < 0
            · rw [if_pos h0, if_pos h0]; exact (if_pos trivial).trans (if_pos trivial)
            · rw [if_neg h0, if_neg h0]; exact if_neg (by decide)
        | some m =>
          rw [hm] at hne gord gro
          obtain ⟨rfl, rfl⟩ := Prod.mk.inj hne
          constructor
          · unfold prime_Order.f
            refine Ev.bind gf (Ev.congr (fun q => (if_neg (by omega)).trans (if_neg ht)) ?_)
            rw [tmodN]
            exact Ev.bind gord (Ev.congr (fun q => if_pos rfl) (Ev.now _))
          · refine Ev.step (f := fun q => (vinculumref04_Order.f q (P : Int) (X : Int)).bind fun t218 => (if t218 < 0 then (none) else (if (m : Int) = t218 then ((vinculumlaw04_awake.f q).bind fun t220 => (some t220)) else (none)))) (fun q => ?_) (Ev.bind gro (Ev.congr (fun q => if_neg (show ¬ ((m : Int) < 0) by omega)) (Ev.congr (fun q => if_pos rfl) (Ev.bind awake_ev (Ev.now _)))))
            simp only [vinculumlaw04_PrimeRoots.j0]
            rw [if_neg (by decide), if_neg (by omega), if_neg ht]
            refine congrArg (Option.bind _) (funext fun t => ?_)
            by_cases h0 : t < 0
            · rw [if_pos h0, if_pos h0]; exact if_neg (by decide)
            · rw [if_neg h0, if_neg h0]; exact if_pos trivial
      obtain ⟨o1, o2⟩ := hrest _ _ rfl
      refine Ev.bind g1 (Ev.bind o1 (Ev.bind gis (Ev.congr (fun q => if_pos rfl) (Ev.bind g2 (Ev.congr (fun q => if_pos rfl) ?_)))))
      rw [show ((y, e).2 != (y, e).2) = false by simp]
      exact o2
  · rw [Bool.not_eq_true] at hN
    rw [hN] at gis
    have gf := field_no (p := P) (by omega) hN
    have g1 : Ev (fun q => prime_Root.f q (P : Int) k) (0, 14) := by
      unfold prime_Root.f
      exact Ev.bind gf (Ev.now _)
    have g2 : Ev (fun q => prime_Order.f q (P : Int) (X : Int)) (0, 14) := by
      unfold prime_Order.f
      exact Ev.bind gf (Ev.now _)
    exact Ev.bind g1 (Ev.bind g2 (Ev.bind gis (Ev.congr (fun q => if_neg (by decide)) (Ev.congr (fun q => if_pos rfl) (Ev.congr (fun q => if_pos rfl) (Ev.congr (fun q => if_pos rfl) (Ev.congr (fun q => if_pos rfl) (Ev.bind awake_ev (Ev.now _)))))))))
end Go.Proofs.YtnlklfhgdefbaaaDoor.Pure
