/-
  Long division's steps on words: what nat.takes and nat.gives compute. Conditions: all are words, no list is longer than a million words.
-/
import Derived.Test.YtdomplmilbkaeaaDoorPNatL
import Derived.Test.YtdomplmilbkaeaaDoorPNatU
import Derived.Test.YtdomplmilbkaeaaDoorGNx0
import Derived.Test.YtdomplmilbkaeaaDoorGNx4
import Derived.Test.YtdomplmilbkaeaaDoorGNx5
namespace Go.Proofs.YtdomplmilbkaeaaDoor.Pure
open Go.RowKit Go.Proofs.YtdomplmilbkaeaaDoor.GN Go.Proofs.YtdomplmilbkaeaaDoorW.PrintWords Go.Proofs.YtdomplmilbkaeaaDoorW.PrintLast Go.Proofs.YtdomplmilbkaeaaDoorW.PrintMore
set_option linter.unusedVariables false
set_option linter.unusedSimpArgs false

theorem rd_word {l : List Int} (hw : WF l) (i : Int) : ∃ a : Nat, rd l i = (a : Int) ∧ a < 18446744073709551616 := by
  have h := hw.rdU i
  obtain ⟨a, e⟩ := Int.eq_ofNat_of_zero_le h.1
  exact ⟨a, e, by have := h.2; rw [e] at this; exact Int.ofNat_lt.1 this⟩
theorem mul_carry {a q c : Nat} (ha : a < 18446744073709551616) (hq : q < 18446744073709551616) (hc : c < 18446744073709551616) :
    a * q / 18446744073709551616 + (a * q % 18446744073709551616 + c) / 18446744073709551616 < 18446744073709551616 ∧ (a * q / 18446744073709551616 + (a * q % 18446744073709551616 + c) / 18446744073709551616) * 18446744073709551616 + (a * q % 18446744073709551616 + c) % 18446744073709551616 = a * q + c := by
  have h1 : a * q ≤ 18446744073709551615 * 18446744073709551615 := Nat.mul_le_mul (by omega) (by omega)
  generalize a * q = p at *
  omega
theorem take_word {U' U x s P W0 q V v c c' l l' lo T : Nat} (h1 : U' + x * P = U + s * P) (h2 : U + q * V * W0 = T + P * (c + l)) (h3 : c' * 18446744073709551616 + lo = v * q + c) (h4 : x + l' * 18446744073709551616 = lo + l + s) {R : Nat} (hP : P = W0 * R) : U' + q * (V + R * v) * W0 = T + P * 18446744073709551616 * (c' + l') := by
  have e1 : q * (V + R * v) * W0 = q * V * W0 + P * (v * q) := by rw [hP]; grind
  have e2 : P * (v * q) + P * c = P * (c' * 18446744073709551616) + P * lo := by rw [← Nat.mul_add, ← h3, Nat.mul_add]
  have e3 : P * x + P * (l' * 18446744073709551616) = P * lo + P * l + P * s := by rw [← Nat.mul_add, h4, Nat.mul_add, Nat.mul_add]
  have e4 : P * 18446744073709551616 * (c' + l') = P * (c' * 18446744073709551616) + P * (l' * 18446744073709551616) := by grind
  rw [e1, e4]
  rw [Nat.mul_comm x P, Nat.mul_comm s P] at h1
  rw [Nat.mul_add] at h2
  omega
theorem takes_l0 (v : List Int) (hv : WF v) (q j : Nat) (hq : q < 18446744073709551616) (N L : Nat) (up : List Int) (hL : L ≤ 1000000) (hj : j + v.length < L) : ∀ (d i : Nat) (u : List Int) (c l : Nat), v.length + 1 - i = d → i ≤ v.length + 1 → u.length = L → WF u → c < 18446744073709551616 → l ≤ 1 → u.drop (j + v.length + 1) = up → (i = v.length + 1 → c = 0) →
    nv u + q * nv (v.take i) * 18446744073709551616 ^ j = N + 18446744073709551616 ^ (j + i) * (c + l) →
    ∃ (u' : List Int) (b : Nat), u'.length = L ∧ WF u' ∧ b ≤ 1 ∧ u'.drop (j + v.length + 1) = up ∧ nv u' + q * nv v * 18446744073709551616 ^ j = N + 18446744073709551616 ^ (j + v.length + 1) * b ∧ Ev (fun k => nat_takes.l0 k u v (q : Int) (j : Int) (c : Int) (l : Int) (i : Int)) (decide ((b : Int) > 0), u') := by
  intro d
  induction d with
  | zero =>
    intro i u c l hd hi hu hW hc hl hup h0 hN
    have hi2 : i = v.length + 1 := by clear hN; omega
    have hc0 := h0 hi2
    subst hi2; subst hc0
    rw [nv_take_all v (by omega), Nat.zero_add] at hN
    refine ⟨u, l, hu, hW, hl, hup, hN, Ev.step (f := fun k => some (decide ((l : Int) > 0), u)) (fun k => ?_) (Ev.now _)⟩
    simp only [nat_takes.l0]
    rw [if_neg (by clear hN; omega)]
  | succ d ih =>
    intro i u c l hd hi hu hW hc hl hup h0 hN
    have hi0 : i ≤ v.length := by clear hN; omega
    have hd' : v.length + 1 - (i + 1) = d := by clear hN; omega
    have hji : j + i < u.length := by clear hN; omega
    have hjd : j + i < j + v.length + 1 := by clear hN; omega
    have hw1 : j + i ≤ 1099511627780 := by clear hN; omega
    have hw2 : i ≤ 1099511627779 := by clear hN; omega
    obtain ⟨a, ea, ha⟩ := rd_word hv (i : Int)
    obtain ⟨x, ex, hx⟩ := rd_word hW ((j + i : Nat) : Int)
    obtain ⟨m1, m2⟩ := mul_carry ha hq hc
    have hlo : (a * q % 18446744073709551616 + c) % 18446744073709551616 < 18446744073709551616 := Nat.mod_lt _ (by decide)
    have eA : adS ((a * q % 18446744073709551616 : Nat) : Int) (c : Int) 0 = (((a * q % 18446744073709551616 + c) % 18446744073709551616 : Nat) : Int) := by
      rw [adS_of (Int.natCast_nonneg _) (Int.natCast_nonneg _) (Int.le_refl _)]; clear hN; generalize a * q = p; omega
    have eC : adC ((a * q % 18446744073709551616 : Nat) : Int) (c : Int) 0 = (((a * q % 18446744073709551616 + c) / 18446744073709551616 : Nat) : Int) := by
      rw [adC_of (Int.natCast_nonneg _) (Int.natCast_nonneg _) (Int.le_refl _)]; clear hN; generalize a * q = p; omega
    have hUx : U (x : Int) := ⟨Int.natCast_nonneg _, Int.ofNat_lt.2 hx⟩
    have hUlo : U (((a * q % 18446744073709551616 + c) % 18446744073709551616 : Nat) : Int) := ⟨Int.natCast_nonneg _, Int.ofNat_lt.2 hlo⟩
    obtain ⟨us, c0, c1, e3⟩ := sb_word hUx hUlo (Int.natCast_nonneg l) (by clear hN; omega)
    obtain ⟨s, es⟩ := Int.eq_ofNat_of_zero_le us.1
    obtain ⟨l', el'⟩ := Int.eq_ofNat_of_zero_le c0
    rw [es] at us
    rw [es, el'] at e3
    rw [el'] at c1
    simp only [Int.toNat_natCast] at e3
    have hgx : u[j + i] = (x : Int) := by rw [← ex, rd_of rfl hji]
    have hset := nv_set u (j + i) (s : Int) hji
    rw [hgx, Int.toNat_natCast, Int.toNat_natCast] at hset
    have htk : nv (v.take (i + 1)) = nv (v.take i) + 18446744073709551616 ^ i * a := by rw [nv_take_rd, ea, Int.toNat_natCast]
    have hN' : nv (u.set (j + i) (s : Int)) + q * nv (v.take (i + 1)) * 18446744073709551616 ^ j = N + 18446744073709551616 ^ (j + (i + 1)) * ((a * q / 18446744073709551616 + (a * q % 18446744073709551616 + c) / 18446744073709551616) + l') := by
      rw [htk, ← Nat.add_assoc, Nat.pow_succ]
      exact take_word hset hN m2 e3 (Nat.pow_add ..)
    have hup' : (u.set (j + i) (s : Int)).drop (j + v.length + 1) = up := by rw [List.drop_set_of_lt hjd, hup]
    have h0' : i + 1 = v.length + 1 → a * q / 18446744073709551616 + (a * q % 18446744073709551616 + c) / 18446744073709551616 = 0 := fun h => by
      have hiv : ¬ i < v.length := by omega
      have a0 : a = 0 := by
        have : rd v (i : Int) = 0 := by simp [rd, List.getD_eq_getElem?_getD, List.getElem?_eq_none (Nat.le_of_not_lt hiv)]
        rw [this] at ea; exact (Int.ofNat_inj.1 ea).symm
      subst a0
      rw [Nat.zero_mul, Nat.zero_mod, Nat.zero_div, Nat.zero_add, Nat.zero_add, Nat.div_eq_of_lt hc]
    obtain ⟨u', b, r1, r2, r3, r4, r5, r6⟩ := ih (i + 1) (u.set (j + i) (s : Int)) _ l' hd' (Nat.succ_le_succ hi0) (by rw [List.length_set]; exact hu) (hW.set _ us) m1 (by clear hN hN' m2 e3; omega) hup' h0' hN'
    refine ⟨u', b, r1, r2, r3, r4, r5, Ev.step (fun k => ?_) r6⟩
    clear hN hN' m2 e3 hset htk r5
    have w1 : wrap64 ((j : Int) + (i : Int)) = ((j + i : Nat) : Int) := w64_add hw1
    have w2 : wrap64 ((i : Int) + 1) = ((i + 1 : Nat) : Int) := w64_succ hw2
    have w3 : IntKind.u64.wrap (((a * q / 18446744073709551616 : Nat) : Int) + (((a * q % 18446744073709551616 + c) / 18446744073709551616 : Nat) : Int)) = ((a * q / 18446744073709551616 + (a * q % 18446744073709551616 + c) / 18446744073709551616 : Nat) : Int) := by
      rw [addN, wrapN _ m1]
    simp only [nat_takes.l0]
    rw [if_pos (Int.ofNat_le.2 hi0), at_f, Option.bind_some, ea, mul64_nat a q ha hq, Option.bind_some, w1, w2, if_pos (Int.natCast_nonneg _), if_pos (Int.ofNat_lt.2 hji), if_pos (by omega), eA, eC, w3, ex, es, el', Int.toNat_natCast]
theorem takes_ev {u v : List Int} (hu : WF u) (hv : WF v) {q j : Nat} (hq : q < 18446744073709551616) (hL : u.length ≤ 1000000) (hj : j + v.length < u.length) :
    ∃ (u' : List Int) (b : Nat), u'.length = u.length ∧ WF u' ∧ b ≤ 1 ∧ u'.drop (j + v.length + 1) = u.drop (j + v.length + 1) ∧ nv u' + q * nv v * 18446744073709551616 ^ j = nv u + 18446744073709551616 ^ (j + v.length + 1) * b ∧ Ev (fun k => nat_takes.f k u v (q : Int) (j : Int)) (decide ((b : Int) > 0), u') :=
  takes_l0 v hv q j hq (nv u) u.length _ hL hj _ 0 u 0 0 rfl (Nat.zero_le _) rfl hu (by decide) (by decide) rfl (fun h => by cases h) (by simp [nv])

theorem give_word {U' U x s P W0 V v c c' T : Nat} (h1 : U' + x * P = U + s * P) (h2 : U + P * c = T + V * W0) (h3 : s + c' * 18446744073709551616 = x + v + c) {R : Nat} (hP : P = W0 * R) : U' + P * 18446744073709551616 * c' = T + (V + R * v) * W0 := by
  have e1 : (V + R * v) * W0 = V * W0 + P * v := by rw [hP]; grind
  have e2 : P * s + P * (c' * 18446744073709551616) = P * x + P * v + P * c := by rw [← Nat.mul_add, h3, Nat.mul_add, Nat.mul_add]
  have e4 : P * 18446744073709551616 * c' = P * (c' * 18446744073709551616) := by grind
  rw [e1, e4]
  rw [Nat.mul_comm x P, Nat.mul_comm s P] at h1
  omega
theorem gives_l0 (v : List Int) (hv : WF v) (j : Nat) (N L : Nat) (up : List Int) (hL : L ≤ 1000000) (hj : j + v.length < L) : ∀ (d i : Nat) (u : List Int) (c : Nat), v.length + 1 - i = d → i ≤ v.length + 1 → u.length = L → WF u → c ≤ 1 → u.drop (j + v.length + 1) = up →
    nv u + 18446744073709551616 ^ (j + i) * c = N + nv (v.take i) * 18446744073709551616 ^ j →
    ∃ (u' : List Int) (b : Nat), u'.length = L ∧ WF u' ∧ b ≤ 1 ∧ u'.drop (j + v.length + 1) = up ∧ nv u' + 18446744073709551616 ^ (j + v.length + 1) * b = N + nv v * 18446744073709551616 ^ j ∧ Ev (fun k => nat_gives.l0 k u v (j : Int) (c : Int) (i : Int)) u' := by
  intro d
  induction d with
  | zero =>
    intro i u c hd hi hu hW hc hup hN
    have hi2 : i = v.length + 1 := by clear hN; omega
    subst hi2
    rw [nv_take_all v (by omega)] at hN
    refine ⟨u, c, hu, hW, hc, hup, hN, Ev.step (f := fun k => some u) (fun k => ?_) (Ev.now _)⟩
    simp only [nat_gives.l0]
    rw [if_neg (by clear hN; omega)]
  | succ d ih =>
    intro i u c hd hi hu hW hc hup hN
    have hi0 : i ≤ v.length := by clear hN; omega
    have hd' : v.length + 1 - (i + 1) = d := by clear hN; omega
    have hji : j + i < u.length := by clear hN; omega
    have hjd : j + i < j + v.length + 1 := by clear hN; omega
    have hw1 : j + i ≤ 1099511627780 := by clear hN; omega
    have hw2 : i ≤ 1099511627779 := by clear hN; omega
    obtain ⟨a, ea, ha⟩ := rd_word hv (i : Int)
    obtain ⟨x, ex, hx⟩ := rd_word hW ((j + i : Nat) : Int)
    have eA : adS (x : Int) (a : Int) (c : Int) = (((x + a + c) % 18446744073709551616 : Nat) : Int) := by
      rw [adS_of (Int.natCast_nonneg _) (Int.natCast_nonneg _) (Int.natCast_nonneg _)]; clear hN; omega
    have eC : adC (x : Int) (a : Int) (c : Int) = (((x + a + c) / 18446744073709551616 : Nat) : Int) := by
      rw [adC_of (Int.natCast_nonneg _) (Int.natCast_nonneg _) (Int.natCast_nonneg _)]; clear hN; omega
    have us : U (((x + a + c) % 18446744073709551616 : Nat) : Int) := ⟨Int.natCast_nonneg _, Int.ofNat_lt.2 (Nat.mod_lt _ (by decide))⟩
    have hgx : u[j + i] = (x : Int) := by rw [← ex, rd_of rfl hji]
    have hset := nv_set u (j + i) (((x + a + c) % 18446744073709551616 : Nat) : Int) hji
    rw [hgx, Int.toNat_natCast, Int.toNat_natCast] at hset
    have htk : nv (v.take (i + 1)) = nv (v.take i) + 18446744073709551616 ^ i * a := by rw [nv_take_rd, ea, Int.toNat_natCast]
    have e3 : (x + a + c) % 18446744073709551616 + (x + a + c) / 18446744073709551616 * 18446744073709551616 = x + a + c := by rw [Nat.mul_comm]; exact Nat.mod_add_div _ _
    have hN' : nv (u.set (j + i) (((x + a + c) % 18446744073709551616 : Nat) : Int)) + 18446744073709551616 ^ (j + (i + 1)) * ((x + a + c) / 18446744073709551616) = N + nv (v.take (i + 1)) * 18446744073709551616 ^ j := by
      rw [htk, ← Nat.add_assoc j, Nat.pow_succ]
      exact give_word hset hN e3 (Nat.pow_add ..)
    have hup' : (u.set (j + i) (((x + a + c) % 18446744073709551616 : Nat) : Int)).drop (j + v.length + 1) = up := by rw [List.drop_set_of_lt hjd, hup]
    obtain ⟨u', b, r1, r2, r3, r4, r5, r6⟩ := ih (i + 1) (u.set (j + i) (((x + a + c) % 18446744073709551616 : Nat) : Int)) _ hd' (Nat.succ_le_succ hi0) (by rw [List.length_set]; exact hu) (hW.set _ us) (by clear hN hN' e3; omega) hup' hN'
    refine ⟨u', b, r1, r2, r3, r4, r5, Ev.step (fun k => ?_) r6⟩
    clear hN hN' e3 hset htk r5
    have w1 : wrap64 ((j : Int) + (i : Int)) = ((j + i : Nat) : Int) := w64_add hw1
    have w2 : wrap64 ((i : Int) + 1) = ((i + 1 : Nat) : Int) := w64_succ hw2
    simp only [nat_gives.l0]
    rw [if_pos (Int.ofNat_le.2 hi0), w1, w2, if_pos (Int.natCast_nonneg _), if_pos (Int.ofNat_lt.2 hji), at_f, Option.bind_some, ea, if_pos (by omega), ex, eA, eC, Int.toNat_natCast]
theorem gives_ev {u v : List Int} (hu : WF u) (hv : WF v) {j : Nat} (hL : u.length ≤ 1000000) (hj : j + v.length < u.length) :
    ∃ (u' : List Int) (b : Nat), u'.length = u.length ∧ WF u' ∧ b ≤ 1 ∧ u'.drop (j + v.length + 1) = u.drop (j + v.length + 1) ∧ nv u' + 18446744073709551616 ^ (j + v.length + 1) * b = nv u + nv v * 18446744073709551616 ^ j ∧ Ev (fun k => nat_gives.f k u v (j : Int)) u' :=
  gives_l0 v hv j (nv u) u.length _ hL hj _ 0 u 0 rfl (Nat.zero_le _) rfl hu (by decide) rfl (by simp [nv])
end Go.Proofs.YtdomplmilbkaeaaDoor.Pure
