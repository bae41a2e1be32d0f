/-
  Long division of numbers: what nat.DivMod computes. Conditions: all are words, no list is longer than 900000 words.
-/
import Derived.Test.YtdomplmilbkaeaaDoorPGuess
import Derived.Test.YtdomplmilbkaeaaDoorPTakes
import Derived.Test.YtdomplmilbkaeaaDoorPShift
import Derived.Test.YtdomplmilbkaeaaDoorPDivW
import Derived.Test.YtdomplmilbkaeaaDoorGNx0
import Derived.Test.YtdomplmilbkaeaaDoorGNx6
namespace Go.Proofs.YtdomplmilbkaeaaDoor.Pure
open Go.RowKit Go.Proofs.YtdomplmilbkaeaaDoor.GN Go.Proofs.YtdomplmilbkaeaaDoorW.PrintWords Go.Proofs.YtdomplmilbkaeaaDoorW.PrintLast Go.Proofs.YtdomplmilbkaeaaDoorW.PrintMore
set_option linter.unusedVariables false
set_option linter.unusedSimpArgs false

theorem digit_core {N V P R T W Q K2 : Nat} (hP : 0 < P) (hR : 0 < R) (hT : T = N / (P * R)) (hW : W = V / R) (hV : 18446744073709551616 * 18446744073709551616 * R ≤ 2 * V) (hN : N < P * 18446744073709551616 * V) (f : Fit T W Q) : N / (P * V) ≤ Q ∧ Q ≤ N / (P * V) + 1 := by
  have hVp : 0 < V := Nat.pos_of_ne_zero fun h => by rw [h, Nat.mul_zero] at hN; exact absurd hN (Nat.not_lt_zero _)
  have hPV : 0 < P * V := Nat.mul_pos hP hVp
  have hPR : 0 < P * R := Nat.mul_pos hP hR
  have hqN : N / (P * V) * (P * V) ≤ N := Nat.div_mul_le_self _ _
  have hNq : N < (N / (P * V) + 1) * (P * V) := by rw [Nat.mul_comm]; exact Nat.lt_mul_div_succ N hPV
  have hWR : W * R ≤ V := by rw [hW]; exact Nat.div_mul_le_self _ _
  have hVW : V < (W + 1) * R := by rw [hW, Nat.mul_comm]; exact Nat.lt_mul_div_succ V hR
  have hqB : N / (P * V) < 18446744073709551616 := by
    apply Nat.div_lt_of_lt_mul
    have e : P * V * 18446744073709551616 = P * 18446744073709551616 * V := by grind
    rw [e]; exact hN
  have hWB : 18446744073709551616 ≤ W := by
    rw [hW]
    apply (Nat.le_div_iff_mul_le hR).2
    have h1 : 18446744073709551616 * 18446744073709551616 * R = 2 * (9223372036854775808 * 18446744073709551616 * R) := by grind
    rw [h1] at hV
    have h2 := Nat.le_of_mul_le_mul_left hV (by decide)
    refine Nat.le_trans (Nat.mul_le_mul_right R ?_) h2
    decide
  generalize N / (P * V) = q at *
  constructor
  · rcases f.max with h | h
    · rw [h]; omega
    · have h1 : q * W ≤ T := by
        rw [hT]
        apply (Nat.le_div_iff_mul_le hPR).2
        have e : q * W * (P * R) = q * P * (W * R) := by grind
        rw [e]
        refine Nat.le_trans (Nat.mul_le_mul_left (q * P) hWR) ?_
        rw [Nat.mul_assoc]; exact hqN
      have h2 := Nat.lt_of_le_of_lt h1 h
      exact Nat.le_of_lt_succ (Nat.lt_of_mul_lt_mul_right h2)
  · apply Nat.le_of_not_lt
    intro h
    have hle := f.le
    rw [hT] at hle
    have h1 := (Nat.le_div_iff_mul_le hPR).1 hle
    have h2 : (q + 1) * (P * V) ≤ (Q - 1) * (P * V) := Nat.mul_le_mul_right _ (by omega)
    have h3 : (Q - 1) * (P * V) ≤ (Q - 1) * (W + 1) * (P * R) := by
      have e : (Q - 1) * (W + 1) * (P * R) = (Q - 1) * (P * ((W + 1) * R)) := by grind
      rw [e]
      exact Nat.mul_le_mul_left _ (Nat.mul_le_mul_left _ (Nat.le_of_lt hVW))
    have h4 : Q * W * (P * R) < (Q - 1) * (W + 1) * (P * R) := Nat.lt_of_le_of_lt h1 (Nat.lt_of_lt_of_le hNq (Nat.le_trans h2 h3))
    have h5 := Nat.lt_of_mul_lt_mul_right h4
    have hQ := f.lt
    obtain ⟨Q', rfl⟩ : ∃ m, Q = m + 1 := ⟨Q - 1, by omega⟩
    rw [Nat.add_sub_cancel, Nat.add_mul, Nat.mul_add, Nat.one_mul, Nat.mul_one] at h5
    omega
theorem nv_drop_div {l : List Int} (hw : WF l) (p : Nat) : nv (l.drop p) = nv l / 18446744073709551616 ^ p := by
  by_cases h : p ≤ l.length
  · have h1 := nv_lt (hw.take p)
    rw [List.length_take, Nat.min_eq_left h] at h1
    exact (dm_of (nv_split l p h) h1).2.symm
  · rw [List.drop_of_length_le (by omega), Nat.div_eq_of_lt (pow_up (nv_lt hw) (by omega))]; rfl
theorem div_limb {l : List Int} (hw : WF l) {p a : Nat} (h : rd l (p : Int) = (a : Int)) : nv l / 18446744073709551616 ^ p = a + 18446744073709551616 * (nv l / 18446744073709551616 ^ (p + 1)) := by
  have h1 := nv_drop_mod hw p
  rw [h, nv_drop_div hw] at h1
  have h2 : a = nv l / 18446744073709551616 ^ p % 18446744073709551616 := Int.ofNat_inj.1 h1
  have h3 := Nat.mod_add_div (nv l / 18446744073709551616 ^ p) 18446744073709551616
  rw [← h2, Nat.div_div_eq_div_mul, ← Nat.pow_succ] at h3
  exact h3.symm
theorem three_words {u : List Int} (hw : WF u) {p u0 u1 u2 : Nat} (h0 : rd u (p : Int) = (u0 : Int)) (h1 : rd u ((p + 1 : Nat) : Int) = (u1 : Int)) (h2 : rd u ((p + 2 : Nat) : Int) = (u2 : Int)) (hz : nv u < 18446744073709551616 ^ (p + 3)) : nv u / 18446744073709551616 ^ p = (u2 * 18446744073709551616 + u1) * 18446744073709551616 + u0 ∧ u2 = nv u / 18446744073709551616 ^ (p + 2) := by
  have e0 := div_limb hw h0
  have e1 := div_limb hw h1
  have e2 := div_limb hw h2
  rw [show p + 2 + 1 = p + 3 from rfl, Nat.div_eq_of_lt hz] at e2
  rw [e0, e1, e2]
  omega
theorem two_words {v : List Int} (hw : WF v) {p v0 v1 : Nat} (h0 : rd v (p : Int) = (v0 : Int)) (h1 : rd v ((p + 1 : Nat) : Int) = (v1 : Int)) (hz : nv v < 18446744073709551616 ^ (p + 2)) : nv v / 18446744073709551616 ^ p = v1 * 18446744073709551616 + v0 ∧ v1 = nv v / 18446744073709551616 ^ (p + 1) := by
  have e0 := div_limb hw h0
  have e1 := div_limb hw h1
  rw [show p + 1 + 1 = p + 2 from rfl, Nat.div_eq_of_lt hz] at e1
  rw [e0, e1]
  omega
theorem first_le {N V P A v1 u2 : Nat} (hA : 0 < A) (hP : 0 < P) (hN : N < P * V) (h1 : v1 = V / A) (h2 : u2 = N / (P * A)) : u2 ≤ v1 := by
  rw [h2]
  apply Nat.le_of_lt_succ
  apply Nat.div_lt_of_lt_mul
  refine Nat.lt_of_lt_of_le hN ?_
  rw [Nat.mul_assoc]
  refine Nat.mul_le_mul_left P ?_
  rw [h1]
  exact Nat.le_of_lt (Nat.lt_mul_div_succ V hA)
/-- A guess that was none too great. -/
theorem step_fine {N V P Q U' : Nat} (hPV : 0 < P * V) (h : U' + Q * V * P = N) (hq : N / (P * V) ≤ Q) : Q = N / (P * V) ∧ U' < P * V := by
  have e : Q * V * P = P * V * Q := by grind
  rw [e] at h
  have h1 : Q ≤ N / (P * V) := (Nat.le_div_iff_mul_le hPV).2 (by rw [Nat.mul_comm]; omega)
  have h2 : Q = N / (P * V) := Nat.le_antisymm h1 hq
  refine ⟨h2, ?_⟩
  have h3 := Nat.div_add_mod N (P * V)
  have h4 := Nat.mod_lt N hPV
  rw [← h2] at h3
  omega
/-- A guess that was one too great. -/
theorem step_back {N V P Q U' U'' E b2 : Nat} (hPV : 0 < P * V) (h : U' + Q * V * P = N + E) (hq : Q ≤ N / (P * V) + 1) (hU' : U' < E) (hU'' : U'' < E) (hb : b2 ≤ 1) (h2 : U'' + E * b2 = U' + V * P) : ∃ q, Q = q + 1 ∧ U'' + q * V * P = N ∧ U'' < P * V := by
  have e : Q * V * P = P * V * Q := by grind
  rw [e] at h
  have h1 : N < P * V * Q := by omega
  have h3 : N / (P * V) < Q := Nat.div_lt_of_lt_mul h1
  have h4 : Q = N / (P * V) + 1 := by omega
  refine ⟨N / (P * V), h4, ?_⟩
  have h5 := Nat.div_add_mod N (P * V)
  have h6 := Nat.mod_lt N hPV
  have e2 : N / (P * V) * V * P = P * V * (N / (P * V)) := by grind
  have e3 : P * V * Q = P * V * (N / (P * V)) + P * V := by rw [h4, Nat.mul_add, Nat.mul_one]
  rw [e2]
  rw [e3] at h
  rw [Nat.mul_comm V P] at h2
  have hb2 : b2 = 1 := by
    rcases Nat.lt_or_ge b2 1 with h0 | h0
    · have : b2 = 0 := by omega
      rw [this, Nat.mul_zero, Nat.add_zero] at h2
      omega
    · omega
  rw [hb2, Nat.mul_one] at h2
  clear e e2 e3 h1 h3 h4
  generalize N / (P * V) = q at *
  generalize P * V * q = z at *
  omega
theorem same_top {u u' : List Int} (hu : WF u) (hu' : WF u') {p : Nat} (h : u'.drop p = u.drop p) (hz : nv u < 18446744073709551616 ^ p) : nv u' < 18446744073709551616 ^ p := by
  have h1 := nv_drop_div hu' p
  rw [h, nv_drop_div hu, Nat.div_eq_of_lt hz] at h1
  have hp : 0 < 18446744073709551616 ^ p := Nat.pow_pos (by decide)
  apply Nat.lt_of_not_le
  intro h2
  have := Nat.div_pos h2 hp
  omega
theorem quot_end {X V U Q : Nat} (h : U + Q * V = X) (hU : U < V) : Q = X / V ∧ U = X % V := by
  have := dm_of (a := X) (p := U) (q := Q) (P := V) (by rw [← h, Nat.mul_comm]) hU
  exact ⟨this.2.symm, this.1.symm⟩
theorem quot_step {U N q V P X Q' Q : Nat} (h1 : U + q * V * P = N) (h2 : N + Q * V = X) (h3 : Q' = Q + q * P) : U + Q' * V = X := by
  rw [h3, ← h2, ← h1]; grind
theorem idx1 {n K2 : Nat} (h : n + K2 + 2 ≤ 1099511627779) : wrap64 ((n : Int) + ((K2 + 2 : Nat) : Int)) = ((n + K2 + 2 : Nat) : Int) := w64_add (Nat.le_trans h (by decide))
theorem idx2 {n K2 : Nat} (h : n + K2 + 2 ≤ 1099511627779) : wrap64 (((n + K2 + 2 : Nat) : Int) - 1) = ((n + K2 + 1 : Nat) : Int) := w64_pred (by omega)
theorem idx3 {n K2 : Nat} (h : n + K2 + 2 ≤ 1099511627779) : wrap64 (((n + K2 + 2 : Nat) : Int) - 2) = ((n + K2 : Nat) : Int) := by rw [w64_of (by omega) (by omega)]; omega
theorem idx4 {n K2 : Nat} (h : n + K2 + 2 ≤ 1099511627779) : wrap64 (((K2 + 2 : Nat) : Int) - 1) = ((K2 + 1 : Nat) : Int) := w64_pred (by omega)
theorem idx5 {n K2 : Nat} (h : n + K2 + 2 ≤ 1099511627779) : wrap64 (((K2 + 2 : Nat) : Int) - 2) = (K2 : Int) := by rw [w64_of (by omega) (by omega)]; omega
theorem dm_l0 (v : List Int) (hv : WF v) (K2 s m X : Nat) (hK : v.length = K2 + 2) (hs : s ≤ 63) (hL : m + (K2 + 2) ≤ 1000000) (hn : 18446744073709551616 ^ (K2 + 2) ≤ 2 * nv v) :
    ∀ (n : Nat) (u Q : List Int), n ≤ m → u.length = m + (K2 + 2) → WF u → nv u < 18446744073709551616 ^ n * nv v → Q.length = m → WF Q → nv (Q.take n) = 0 → nv u + nv Q * nv v = X →
    Ev (fun k => nat_DivMod.l0 k (s : Int) u v ((K2 + 2 : Nat) : Int) Q ((n : Int) - 1)) (limbs (X / nv v), limbs (X % nv v / 2 ^ s), 0) := by
  intro n
  induction n with
  | zero =>
    intro u Q _ hu hW hN hQ hWQ hz hX
    rw [Nat.pow_zero, Nat.one_mul] at hN
    obtain ⟨e1, e2⟩ := quot_end hX hN
    have g1 := shr_ev hW (by rw [hu]; exact hL) (show s < 9223372036854775808 by omega)
    have g2 := trim_ev hWQ (by rw [hQ]; clear hn hN hX e1 e2; omega)
    rw [e2] at g1
    rw [e1] at g2
    refine Ev.step (f := fun k => (nat_Shr.f k u (s : Int)).bind fun bt215 => (nat_trim.f k Q).bind fun t219 => some (t219, bt215.1, bt215.2)) (fun k => ?_) (Ev.bind g1 (Ev.bind g2 (Ev.now _)))
    clear hN hX e1 e2 hn g1 g2
    have w : wrap64 (s : Int) = (s : Int) := w64_nat (by omega)
    simp only [nat_DivMod.l0]
    rw [w, if_neg (by decide)]
  | succ n ih =>
    intro u Q hnm hu hW hN hQ hWQ hz hX
    have hB : ∀ p, 0 < 18446744073709551616 ^ p := fun p => Nat.pow_pos (by decide)
    have hVlt := nv_lt hv
    rw [hK] at hVlt
    have hVp : 0 < nv v := Nat.pos_of_ne_zero fun h => by rw [h] at hn; exact absurd hn (Nat.not_le.2 (hB _))
    have hPV : 0 < 18446744073709551616 ^ n * nv v := Nat.mul_pos (hB _) hVp
    have hj : n + v.length < u.length := by clear hn hN hX hVlt hPV; omega
    have hul : u.length ≤ 1000000 := by rw [hu]; exact hL
    have hE : nv u < 18446744073709551616 ^ (n + K2 + 3) := by
      have e : n + K2 + 3 = (n + 1) + (K2 + 2) := by omega
      rw [e, Nat.pow_add]
      exact Nat.lt_of_lt_of_le hN (Nat.mul_le_mul_left _ (Nat.le_of_lt hVlt))
    have hE' : nv u < 18446744073709551616 ^ (n + v.length + 1) := by rw [hK]; exact hE
    obtain ⟨u0, r0, b0⟩ := rd_word hW ((n + K2 : Nat) : Int)
    obtain ⟨u1, r1, b1⟩ := rd_word hW ((n + K2 + 1 : Nat) : Int)
    obtain ⟨u2, r2, b2⟩ := rd_word hW ((n + K2 + 2 : Nat) : Int)
    obtain ⟨v0, s0, c0⟩ := rd_word hv ((K2 : Nat) : Int)
    obtain ⟨v1, s1, c1⟩ := rd_word hv ((K2 + 1 : Nat) : Int)
    obtain ⟨t1, t2⟩ := three_words hW r0 r1 r2 hE
    obtain ⟨x1, x2⟩ := two_words hv s0 s1 hVlt
    have hle : u2 ≤ v1 := first_le (P := 18446744073709551616 ^ (n + 1)) (A := 18446744073709551616 ^ (K2 + 1)) (hB _) (hB _) hN x2 (by rw [t2, ← Nat.pow_add]; congr 2; omega)
    have hv1p : 0 < v1 := by
      rw [x2]
      apply Nat.div_pos _ (hB _)
      have e : 18446744073709551616 ^ (K2 + 2) = 2 * (9223372036854775808 * 18446744073709551616 ^ (K2 + 1)) := by rw [Nat.pow_succ]; grind
      rw [e] at hn
      exact Nat.le_trans (Nat.le_mul_of_pos_left _ (by decide)) (Nat.le_of_mul_le_mul_left hn (by decide))
    obtain ⟨G, fit, gev⟩ := guess_ev b1 b0 c1 c0 hv1p hle
    rw [← t1, ← x1] at fit
    have hcore := digit_core (N := nv u) (V := nv v) (P := 18446744073709551616 ^ n) (R := 18446744073709551616 ^ K2) (K2 := 0) (hB _) (hB _) (by rw [← Nat.pow_add]) rfl (by
      have e : 18446744073709551616 ^ (K2 + 2) = 18446744073709551616 * 18446744073709551616 * 18446744073709551616 ^ K2 := by rw [Nat.pow_succ, Nat.pow_succ]; grind
      rw [← e]; exact hn) (by rw [← Nat.pow_succ]; exact hN) fit
    obtain ⟨ua, b, la, wa, hb, da, na, gta⟩ := takes_ev hW hv fit.lt hul hj
    have hUa := same_top hW wa da hE'
    have hnQ : n < Q.length := by rw [hQ]; exact hnm
    have hQn : Q[n].toNat = 0 := by
      have h1 := nv_take_succ Q n hnQ
      rw [hz] at h1
      rcases Nat.eq_zero_or_pos Q[n].toNat with h | h
      · exact h
      · have := Nat.mul_pos (hB n) h; omega
    have hzn : nv (Q.take n) = 0 := by
      have h1 := nv_take_succ Q n hnQ
      rw [hz] at h1; omega
    have hset : ∀ q : Nat, nv (Q.set n (q : Int)) = nv Q + q * 18446744073709551616 ^ n := fun q => by
      have h1 := nv_set Q n (q : Int) hnQ
      rw [hQn, Nat.zero_mul, Nat.add_zero, Int.toNat_natCast] at h1
      exact h1
    -- the code's reads
    have i1 : n + (K2 + 2) < u.length := by rw [hu]; clear hn hN hX hVlt hPV hE hE' t1 t2 x1 x2 hcore na hset hQn hzn hz hUa; omega
    have step : ∀ (R : List Int × List Int × Int), Ev (fun k => (nat_takes.f k u v (G : Int) (n : Int)).bind fun bt228 => if bt228.1 = true then ((nat_gives.f k bt228.2 v (n : Int)).bind fun t230 => (if 0 ≤ (n : Int) then (if (n : Int) < (Q.length : Int) then (nat_DivMod.l0 k (s : Int) t230 v ((K2 + 2 : Nat) : Int) (Q.set n (IntKind.u64.wrap ((G : Int) - 1))) (wrap64 ((n : Int) - 1))) else (none)) else (none))) else (if 0 ≤ (n : Int) then (if (n : Int) < (Q.length : Int) then (nat_DivMod.l0 k (s : Int) bt228.2 v ((K2 + 2 : Nat) : Int) (Q.set n (G : Int)) (wrap64 ((n : Int) - 1))) else (none)) else (none))) R → Ev (fun k => nat_DivMod.l0 k (s : Int) u v ((K2 + 2 : Nat) : Int) Q (((n + 1 : Nat) : Int) - 1)) R := by
      intro R hR
      clear hn hN hX hVlt hPV hE hE' t1 t2 x1 x2 hcore na hset hQn hzn hz hUa
      refine Ev.step (f := fun k => (nat_guess.f k (u2 : Int) (u1 : Int) (u0 : Int) (v1 : Int) (v0 : Int)).bind fun t227 => (nat_takes.f k u v t227 (n : Int)).bind fun bt228 => if bt228.1 = true then ((nat_gives.f k bt228.2 v (n : Int)).bind fun t230 => (if 0 ≤ (n : Int) then (if (n : Int) < (Q.length : Int) then (nat_DivMod.l0 k (s : Int) t230 v ((K2 + 2 : Nat) : Int) (Q.set n (IntKind.u64.wrap (t227 - 1))) (wrap64 ((n : Int) - 1))) else (none)) else (none))) else (if 0 ≤ (n : Int) then (if (n : Int) < (Q.length : Int) then (nat_DivMod.l0 k (s : Int) bt228.2 v ((K2 + 2 : Nat) : Int) (Q.set n t227) (wrap64 ((n : Int) - 1))) else (none)) else (none))) (fun k => ?_) (Ev.bind gev hR)
      · have e0 : ((n + 1 : Nat) : Int) - 1 = (n : Int) := by omega
        have q0 : n + K2 + 2 ≤ 1099511627779 := by omega
        have q1 : ((n + K2 + 2 : Nat) : Int) < (u.length : Int) := by omega
        have q2 : ((n + K2 + 1 : Nat) : Int) < (u.length : Int) := by omega
        have q3 : ((n + K2 : Nat) : Int) < (u.length : Int) := by omega
        have q4 : ((K2 + 1 : Nat) : Int) < (v.length : Int) := by omega
        have q5 : (K2 : Int) < (v.length : Int) := by omega
        simp only [nat_DivMod.l0]
        rw [e0, idx1 q0, idx2 q0, idx3 q0, idx4 q0, idx5 q0]
        rw [if_pos (Int.natCast_nonneg n), if_pos (Int.natCast_nonneg (n + K2 + 2)), if_pos q1, if_pos (Int.natCast_nonneg (n + K2 + 1)), if_pos q2, if_pos (Int.natCast_nonneg (n + K2)), if_pos q3, if_pos (Int.natCast_nonneg (K2 + 1)), if_pos q4, if_pos (Int.natCast_nonneg K2), if_pos q5, r2, r1, r0, s1, s0, Int.toNat_natCast]
    have hUG : U (G : Int) := ⟨Int.natCast_nonneg _, Int.ofNat_lt.2 fit.lt⟩
    have w1 : wrap64 ((n : Int) - 1) = (n : Int) - 1 := w64_dec (by clear hn hN hX hVlt hPV hE hE' t1 t2 x1 x2 hcore na hset hQn hzn hz hUa; omega)
    have hnQi : (n : Int) < (Q.length : Int) := Int.ofNat_lt.2 hnQ
    have hn0 := Int.natCast_nonneg n
    apply step
    refine Ev.bind gta ?_
    rw [w1]
    rcases Nat.eq_zero_or_pos b with hb0 | hb0
    · subst hb0
      rw [Nat.mul_zero, Nat.add_zero] at na
      obtain ⟨f1, f2⟩ := step_fine hPV na hcore.1
      have g := ih ua (Q.set n (G : Int)) (Nat.le_of_lt hnm) (by rw [la]; exact hu) wa f2 (by rw [List.length_set]; exact hQ) (hWQ.set n hUG) (by rw [List.take_set_of_le (Nat.le_refl n)]; exact hzn) (quot_step na hX (hset G))
      exact Ev.congr (fun k => if_neg (show ¬ decide (((0 : Nat) : Int) > 0) = true by decide)) (Ev.congr (fun k => if_pos hn0) (Ev.congr (fun k => if_pos hnQi) g))
    · have hb1 : b = 1 := Nat.le_antisymm hb hb0
      subst hb1
      rw [Nat.mul_one] at na
      obtain ⟨ug, b2, lg, wg, hb2, dg, ng, ggv⟩ := gives_ev wa hv (j := n) (by rw [la]; exact hul) (by rw [la]; exact hj)
      have hUg := same_top wa wg dg hUa
      obtain ⟨q, f0, f1, f2⟩ := step_back hPV na hcore.2 hUa hUg hb2 ng
      subst f0
      have hUq : U (q : Int) := ⟨Int.natCast_nonneg _, Int.ofNat_lt.2 (Nat.lt_of_succ_lt fit.lt)⟩
      have g := ih ug (Q.set n (q : Int)) (Nat.le_of_lt hnm) (by rw [lg, la]; exact hu) wg f2 (by rw [List.length_set]; exact hQ) (hWQ.set n hUq) (by rw [List.take_set_of_le (Nat.le_refl n)]; exact hzn) (quot_step f1 hX (hset q))
      rw [q_dec fit.lt]
      exact Ev.congr (fun k => if_pos (show decide (((1 : Nat) : Int) > 0) = true by decide)) (Ev.bind ggv (Ev.congr (fun k => if_pos hn0) (Ev.congr (fun k => if_pos hnQi) g)))

/-! ### DivMod -/
theorem limbs_one {b : Nat} (h0 : b ≠ 0) (h : b < 18446744073709551616) : limbs b = [(b : Int)] := by
  rw [limbs_pos h0, Nat.div_eq_of_lt h, limbs_zero, Nat.mod_eq_of_lt h]
theorem half_b {P z : Nat} (h : P * 9223372036854775808 ≤ z) : P * 18446744073709551616 ≤ 2 * z := by
  have e : P * 18446744073709551616 = 2 * (P * 9223372036854775808) := by rw [Nat.mul_left_comm]
  rw [e]; exact Nat.mul_le_mul_left 2 h
/-- A number moved up so far that its highest bit is a word's highest. -/
theorem norm_num {b w : Nat} {t : List Int} (ht : WF t) (hw0 : 0 < w) (hw : w < 18446744073709551616) (hb : b = nv t + 18446744073709551616 ^ t.length * w) : 18446744073709551616 ^ (t.length + 1) ≤ 2 * (b * 2 ^ (64 - bits w)) ∧ b * 2 ^ (64 - bits w) < 18446744073709551616 ^ (t.length + 1) := by
  obtain ⟨n1, n2, n3⟩ := norm_y hw0 hw
  have h1 := nv_lt ht
  have h2 := lt_bits w
  have hbl := bits_le64 hw
  have e1 : (18446744073709551616 : Nat) = 2 ^ bits w * 2 ^ (64 - bits w) := by rw [← Nat.pow_add, Nat.add_sub_cancel' hbl]
  have h3 : (w + 1) * 2 ^ (64 - bits w) ≤ 18446744073709551616 := by rw [e1]; exact Nat.mul_le_mul_right _ h2
  have h4 : b < 18446744073709551616 ^ t.length * (w + 1) := by rw [hb, Nat.mul_add, Nat.mul_one]; clear e1 h3; omega
  have hp : 0 < 2 ^ (64 - bits w) := Nat.pow_pos (by decide)
  rw [Nat.pow_succ]
  constructor
  · have h5 : 18446744073709551616 ^ t.length * w ≤ b := by rw [hb]; exact Nat.le_add_left _ _
    have h6 := Nat.mul_le_mul_right (2 ^ (64 - bits w)) h5
    have h7 := Nat.mul_le_mul_left (18446744073709551616 ^ t.length) n1
    rw [Nat.mul_assoc] at h6
    have h8 := Nat.le_trans h7 h6
    exact half_b h8
  · have h5 := Nat.mul_lt_mul_of_pos_right h4 hp
    rw [Nat.mul_assoc] at h5
    exact Nat.lt_of_lt_of_le h5 (Nat.mul_le_mul_left _ h3)
theorem limbs_length_of {c p : Nat} (h1 : 18446744073709551616 ^ (p + 1) ≤ 2 * c) (h2 : c < 18446744073709551616 ^ (p + 1)) : (limbs c).length = p + 1 := by
  apply Nat.le_antisymm (limbs_length_le h2)
  apply Nat.lt_of_not_le
  intro h3
  have h4 := pow_up (lt_pow_limbs c) h3
  rw [Nat.pow_succ] at h1
  have hp : 0 < 18446744073709551616 ^ p := Nat.pow_pos (by decide)
  generalize 18446744073709551616 ^ p = P at *
  omega
theorem start_lt {a s V m la K : Nat} (ha : a < 18446744073709551616 ^ la) (hs : s ≤ 63) (hV : 18446744073709551616 ^ K ≤ 2 * V) (hm : m + K = la + 1) : a * 2 ^ s < 18446744073709551616 ^ m * V := by
  have h1 : a * 2 ^ s * 2 ≤ a * 18446744073709551616 := by
    rw [Nat.mul_assoc, ← Nat.pow_succ]
    refine Nat.mul_le_mul_left a ?_
    have : 2 ^ (s + 1) ≤ 2 ^ 64 := Nat.pow_le_pow_right (by decide) (by omega)
    exact this
  have h2 : a * 18446744073709551616 < 18446744073709551616 ^ (la + 1) := by rw [Nat.pow_succ]; exact Nat.mul_lt_mul_of_pos_right ha (by decide)
  have h3 := Nat.mul_le_mul_left (18446744073709551616 ^ m) hV
  rw [← Nat.pow_add, hm] at h3
  have h4 : 18446744073709551616 ^ m * (2 * V) = 2 * (18446744073709551616 ^ m * V) := by grind
  rw [h4] at h3
  have h5 := Nat.lt_of_le_of_lt h1 (Nat.lt_of_lt_of_le h2 h3)
  clear h1 h2 h3 h4 ha hV
  generalize a * 2 ^ s = z at *
  generalize 18446744073709551616 ^ m * V = y at *
  omega
theorem dm_len {la t : Nat} (h : la + 1 = la - t + (t + 1)) (h2 : la ≤ 1099511627775) : wrap64 (((la + 1 : Nat) : Int) - ((t + 1 : Nat) : Int)) = ((la - t : Nat) : Int) := by
  rw [w64_of (by omega) (by omega)]; omega
theorem dm_zero {x y : List Int} (hx : WF x) (hy : WF y) (lx : x.length ≤ 900000) (ly : y.length ≤ 900000) (h : nv y = 0) : Ev (fun k => nat_DivMod.f k x y) ([], [], 10) := by
  unfold nat_DivMod.f
  have gy := trim_ev hy (Nat.le_trans ly (by decide))
  rw [h, limbs_zero] at gy
  exact Ev.bind (trim_ev hx (Nat.le_trans lx (by decide))) (Ev.bind gy (Ev.congr (fun k => if_pos rfl) (Ev.now _)))
theorem dm_ev {x y : List Int} (hx : WF x) (hy : WF y) (lx : x.length ≤ 900000) (ly : y.length ≤ 900000) (h : nv y ≠ 0) : Ev (fun k => nat_DivMod.f k x y) (limbs (nv x / nv y), limbs (nv x % nv y), 0) := by
  unfold nat_DivMod.f
  refine Ev.bind (trim_ev hx (Nat.le_trans lx (by decide))) (Ev.bind (trim_ev hy (Nat.le_trans ly (by decide))) ?_)
  have la : (limbs (nv x)).length ≤ 900000 := Nat.le_trans (limbs_length_le (nv_lt hx)) lx
  have lb : (limbs (nv y)).length ≤ 900000 := Nat.le_trans (limbs_length_le (nv_lt hy)) ly
  generalize nv x = a at *
  generalize nv y = b at *
  have hbp := limbs_length_pos h
  refine Ev.congr (fun k => if_neg (by omega)) ?_
  have gc := cmp_ev (limbs_WF a) (limbs_WF b) (Nat.le_trans la (by decide)) (Nat.le_trans lb (by decide))
  rw [nv_limbs, nv_limbs] at gc
  refine Ev.bind gc ?_
  by_cases hab : a < b
  · have hc : cmpI a b < 0 := by rw [cmpI, if_pos hab]; decide
    have gn := norm_ev (limbs_WF a) (Nat.le_trans la (by decide))
    rw [nv_limbs] at gn
    rw [Nat.div_eq_of_lt hab, Nat.mod_eq_of_lt hab, limbs_zero]
    exact Ev.congr (fun k => if_pos hc) (Ev.bind gn (Ev.now _))
  · have hc : ¬ cmpI a b < 0 := fun h4 => hab (by
      unfold cmpI at h4
      by_cases h5 : a < b
      · exact h5
      · rw [if_neg h5] at h4
        by_cases h6 : a = b
        · rw [if_pos h6] at h4; exact absurd h4 (by decide)
        · rw [if_neg h6] at h4; exact absurd h4 (by decide))
    refine Ev.congr (fun k => if_neg hc) ?_
    by_cases h1 : (limbs b).length = 1
    · refine Ev.congr (fun k => if_pos (by omega)) (Ev.congr (fun k => if_pos (by omega)) ?_)
      have hb64 : b < 18446744073709551616 := by
        have := lt_pow_limbs b
        rw [h1, Nat.pow_one] at this; exact this
      have hr : rd (limbs b) 0 = (b : Int) := by rw [limbs_one h hb64]; rfl
      rw [hr]
      have gd := divw_ev (limbs_WF a) (Nat.le_trans la (by decide)) (Nat.pos_of_ne_zero h) hb64
      rw [nv_limbs] at gd
      have hm := Nat.mod_lt a (Nat.pos_of_ne_zero h)
      have hU : WF [((a % b : Nat) : Int)] := WF.cons ⟨Int.natCast_nonneg _, Int.ofNat_lt.2 (Nat.lt_trans hm hb64)⟩ WF.nil
      have gn := norm_ev hU (by simp)
      rw [nv_one] at gn
      exact Ev.bind gd (Ev.bind gn (Ev.now _))
    · refine Ev.congr (fun k => if_neg (by omega)) ?_
      obtain ⟨t, v, e, ht, hv, hv0⟩ := limbs_take_last h
      obtain ⟨w, rfl⟩ := Int.eq_ofNat_of_zero_le hv.1
      have hw : w < 18446744073709551616 := Int.ofNat_lt.1 hv.2
      have hw0 : 0 < w := Nat.pos_of_ne_zero fun h => hv0 (by rw [h]; rfl)
      have eb : b = nv t + 18446744073709551616 ^ t.length * w := by
        have h1 := nv_limbs b
        rw [e, nv_append, nv_one] at h1
        exact h1.symm
      have hlen : (limbs b).length = t.length + 1 := by rw [e, List.length_append]; rfl
      have hr : rd (limbs b) (t.length : Int) = (w : Int) := by
        have h2 : t.length < (limbs b).length := by rw [hlen]; exact Nat.lt_succ_self _
        rw [rd_of rfl h2]
        simp [e]
      obtain ⟨n1, n2⟩ := norm_num ht hw0 hw eb
      obtain ⟨-, -, hs⟩ := norm_y hw0 hw
      have hK := limbs_length_of n1 n2
      have hlab := limbs_length_mono (Nat.le_of_not_lt hab)
      obtain ⟨K2, hK2⟩ : ∃ m, t.length = m + 1 := ⟨t.length - 1, by clear eb n1 n2; omega⟩
      obtain ⟨ou, u1, u2, u3, u4⟩ := shifted_ev (limbs_WF a) (Nat.le_trans la (by decide)) hs
      obtain ⟨ov, v1, v2, v3, v4⟩ := shifted_ev (limbs_WF b) (Nat.le_trans lb (by decide)) hs
      rw [nv_limbs] at u3 v3
      have gv := trim_ev v2 (by rw [v1]; clear eb n1 n2 u3 v3; omega)
      rw [v3] at gv
      have hlz := lz64_ev hw
      have hms : (limbs a).length + 1 = (limbs a).length - t.length + (t.length + 1) := by clear eb n1 n2 u3 v3; omega
      have hst := start_lt (lt_pow_limbs a) hs n1 hms.symm
      have q0 : ((limbs b).length : Int) - 1 = (t.length : Int) := by rw [hlen]; clear eb n1 n2 u3 v3 hst; omega
      have q1 : wrap64 (((limbs b).length : Int) - 1) = (t.length : Int) := by rw [w64_dec (Nat.le_trans lb (by decide)), q0]
      have q2 : wrap64 ((ou.length : Int) - ((limbs (b * 2 ^ (64 - bits w))).length : Int)) = (((limbs a).length - t.length : Nat) : Int) := by
        rw [hK, u1]; exact dm_len hms (Nat.le_trans la (by decide))
      have q3 : (t.length : Int) < ((limbs b).length : Int) := by rw [hlen]; clear eb n1 n2 u3 v3 hst q1 q2; omega
      have q4 : (limbs a).length - t.length ≤ 35184372088832 := by clear eb n1 n2 u3 v3 hst q1 q2; omega
      have q5 : (limbs a).length - t.length ≤ 1099511627779 := by clear eb n1 n2 u3 v3 hst q1 q2; omega
      have q6 : (limbs a).length - t.length + (K2 + 2) ≤ 1000000 := by clear eb n1 n2 u3 v3 hst q1 q2; omega
      have hsw : IntKind.u64.wrap ((64 - bits w : Nat) : Int) = ((64 - bits w : Nat) : Int) := wrapN _ (by clear eb n1 n2 u3 v3 hst q1 q2; omega)
      rw [hK2] at hK n1 n2 hms hst
      have g := dm_l0 (limbs (b * 2 ^ (64 - bits w))) (limbs_WF _) K2 (64 - bits w) ((limbs a).length - t.length) (a * 2 ^ (64 - bits w)) hK hs q6 (by rw [nv_limbs]; exact n1) ((limbs a).length - t.length) ou (List.replicate ((limbs a).length - t.length) 0) (Nat.le_refl _) (by rw [u1, hK2]; exact hms) u2 (by rw [u3, nv_limbs, hK2]; exact hst) (List.length_replicate ..) (WF.zeros _) (by rw [List.take_replicate, nv_zeros]) (by rw [nv_zeros, Nat.zero_mul, u3]; rfl)
      rw [nv_limbs, Nat.mul_div_mul_right _ _ (Nat.pow_pos (by decide)), Nat.mul_mod_mul_right, Nat.mul_div_cancel _ (Nat.pow_pos (by decide))] at g
      rw [q1, hr]
      refine Ev.congr (fun k => if_pos (Int.natCast_nonneg _)) (Ev.congr (fun k => if_pos q3) (Ev.bind hlz ?_))
      rw [hsw]
      refine Ev.bind u4 (Ev.bind v4 (Ev.bind gv ?_))
      rw [q2]
      refine Ev.congr (fun k => if_pos (Int.natCast_nonneg _)) (Ev.congr (fun k => if_pos (by rw [Int.toNat_natCast]; exact q4)) (Ev.congr (fun k => Option.bind_some _ _) ?_))
      rw [List.length_replicate, Int.toNat_natCast, w64_dec q5, hK]
      exact g
end Go.Proofs.YtdomplmilbkaeaaDoor.Pure
