/-
  What the printed functions of package nat compute: less. Conditions: all are words, no list is longer than 2 to the 30th.
-/
import Derived.Test.YtdomplmilbkaeaaDoorPNatH
import Derived.Test.YtdomplmilbkaeaaDoorGNx0
import Derived.Test.YtdomplmilbkaeaaDoorGNx12
namespace Go.Proofs.YtdomplmilbkaeaaDoor.Pure
open Go.RowKit Go.Proofs.YtdomplmilbkaeaaDoor.GN Go.Proofs.YtdomplmilbkaeaaDoorW.PrintWords Go.Proofs.YtdomplmilbkaeaaDoorW.PrintLast Go.Proofs.YtdomplmilbkaeaaDoorW.PrintMore
set_option linter.unusedVariables false
set_option linter.unusedSimpArgs false

/-! ### less, Sub -/
theorem lent_step {a b o p q s c c' P : Nat} (e3 : p + c' * 18446744073709551616 = q + c + s) (hv : a + c * P = o + b) : a + P * p + c' * (P * 18446744073709551616) = o + P * s + (b + P * q) := by
  have e4 : P * p + c' * (P * 18446744073709551616) = P * q + c * P + P * s := by
    have := congrArg (P * ·) e3
    simp only [Nat.mul_add] at this
    rw [Nat.mul_comm c P, ← this, Nat.mul_comm P (c' * _), Nat.mul_assoc, Nat.mul_comm 18446744073709551616 P]
  omega
theorem sb_word {x y c : Int} (hx : U x) (hy : U y) (h0 : 0 ≤ c) (h1 : c ≤ 1) : U (sbS x y c) ∧ 0 ≤ sbC x y c ∧ sbC x y c ≤ 1 ∧ x.toNat + (sbC x y c).toNat * 18446744073709551616 = y.toNat + c.toNat + (sbS x y c).toNat := by
  rw [sbS_of hx hy h0 h1, sbC_of hx hy h0 h1]
  have := hx.1; have := hx.2; have := hy.1; have := hy.2
  by_cases h : x < y + c
  · rw [if_pos h]
    refine ⟨⟨by omega, by omega⟩, by omega, by omega, by omega⟩
  · rw [if_neg h]
    refine ⟨⟨by omega, by omega⟩, by omega, by omega, by omega⟩
theorem less_l0 (x y : List Int) (hx : WF x) (hy : WF y) (hl : x.length ≤ 1099511627776) : ∀ (d i k : Nat) (out : List Int) (c : Int), x.length - i = d → d < k → i ≤ x.length → out.length = x.length → WF out → 0 ≤ c → c ≤ 1 →
    nv (x.take i) + c.toNat * 18446744073709551616 ^ i = nv (out.take i) + nv (y.take i) →
    ∃ out' : List Int, ∃ c' : Int, WF out' ∧ out'.length = x.length ∧ 0 ≤ c' ∧ nv x + c'.toNat * 18446744073709551616 ^ x.length = nv out' + nv (y.take x.length) ∧ nat_less.l0 k x y out c (x.length : Int) (i : Int) = (nat_trim.f (k - 1 - d) out').bind fun t => some t := by
  intro d
  induction d with
  | zero =>
    intro i k out c hd hk hi ho hw h0 h1 hv
    obtain ⟨k, rfl⟩ : ∃ m, k = m + 1 := ⟨k - 1, by omega⟩
    have : i = x.length := by omega
    subst this
    refine ⟨out, c, hw, ho, h0, ?_, ?_⟩
    · rw [List.take_length, List.take_of_length_le (Nat.le_of_eq ho)] at hv; exact hv
    · simp only [nat_less.l0]; rw [if_neg (Int.lt_irrefl _)]; rfl
  | succ d ih =>
    intro i k out c hd hk hi ho hw h0 h1 hv
    obtain ⟨k, rfl⟩ : ∃ m, k = m + 1 := ⟨k - 1, by omega⟩
    have q1 : i < x.length := by omega
    have q2 : x.length - (i + 1) = d := by omega
    have q3 : d < k := by omega
    have q5 : (i : Int) < (x.length : Int) := by omega
    have q6 : (i : Int) < (out.length : Int) := by omega
    have q7 : k - 1 - d = k + 1 - 1 - (d + 1) := by omega
    have q8 : i < out.length := by omega
    have e1 : wrap64 ((i : Int) + 1) = ((i + 1 : Nat) : Int) := w64_succ (Nat.le_trans (Nat.le_of_lt q1) (Nat.le_trans hl (by decide)))
    clear hd hk
    obtain ⟨us, c0, c1, e3⟩ := sb_word (hx.rdU (i : Int)) (hy.rdU (i : Int)) h0 h1
    obtain ⟨out', c', hw', hl', h0', hv', he⟩ := ih (i + 1) k (out.set i (sbS (rd x i) (rd y i) c)) (sbC (rd x i) (rd y i) c) q2 q3 q1 (by rw [List.length_set]; exact ho) (hw.set _ us) c0 c1 (by
      rw [nv_set_take _ _ _ q8, nv_take_rd x, nv_take_rd y, Nat.pow_succ]
      exact lent_step e3 hv)
    refine ⟨out', c', hw', hl', h0', hv', ?_⟩
    simp only [nat_less.l0]
    rw [if_pos q5]
    rw [if_pos (Int.natCast_nonneg i)]
    rw [if_pos q5]
    rw [at_f]
    rw [Option.bind_some]
    rw [if_pos h1]
    rw [if_pos q6]
    rw [e1, Int.toNat_natCast]
    rw [he, q7]
theorem less_ev {x y : List Int} (hx : WF x) (hy : WF y) (lx : x.length ≤ 274877906944) (hyx : y.length ≤ x.length) (hle : nv y ≤ nv x) : Ev (fun k => nat_less.f k x y) (limbs (nv x - nv y)) := by
  refine ⟨x.length + 1 + (x.length + 1), fun k hk => ?_⟩
  show nat_less.f k x y = _
  unfold nat_less.f
  rw [if_pos (Int.natCast_nonneg x.length), Int.toNat_natCast, if_pos (by omega)]
  rw [Option.bind_some]
  simp only [List.length_replicate]
  obtain ⟨out', c', hw', hl', h0', hv', he⟩ := less_l0 x y hx hy (by omega) x.length 0 k (List.replicate x.length 0) 0 (by omega) (by omega) (by omega) (by simp) (WF.zeros _) (by omega) (by omega) (by simp [nv])
  have e0 : ((0 : Nat) : Int) = (0 : Int) := rfl
  rw [e0] at he
  rw [he]
  have ht := trim_l0 out' hw' (by omega) out'.length (k - 1 - x.length) (by omega) (Nat.le_refl _)
  unfold nat_trim.f
  rw [ht, List.take_length]
  rw [Option.bind_some]
  have b3 := nv_lt hw'
  rw [hl'] at b3
  rw [List.take_of_length_le hyx] at hv'
  have hc : c'.toNat = 0 := by
    rcases Nat.eq_zero_or_pos c'.toNat with h | h
    · exact h
    · have h5 := Nat.le_mul_of_pos_left (18446744073709551616 ^ x.length) h
      omega
  rw [hc, Nat.zero_mul] at hv'
  have : nv x - nv y = nv out' := by omega
  rw [this]
theorem lessL {a b : Nat} (ha : (limbs a).length ≤ 1000) (h : b ≤ a) : Ev (fun k => nat_less.f k (limbs a) (limbs b)) (limbs (a - b)) := by
  have := less_ev (limbs_WF a) (limbs_WF b) (Nat.le_trans ha (by decide)) (limbs_length_mono h) (by rw [nv_limbs, nv_limbs]; exact h)
  rwa [nv_limbs, nv_limbs] at this

end Go.Proofs.YtdomplmilbkaeaaDoor.Pure
