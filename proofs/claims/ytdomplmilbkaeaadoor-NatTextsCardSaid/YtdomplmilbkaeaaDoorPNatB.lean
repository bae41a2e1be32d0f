/-
  What the printed functions of package nat compute: into, Mul (numbers as lists of words). Conditions: all are words, no list is longer than 2 to the 40th.
-/
import Derived.Test.YtdomplmilbkaeaaDoorPNatA
import Derived.Test.YtdomplmilbkaeaaDoorGNx0
import Derived.Test.YtdomplmilbkaeaaDoorGNx8
namespace Go.Proofs.YtdomplmilbkaeaaDoor.Pure
open Go.RowKit Go.Proofs.YtdomplmilbkaeaaDoor.GN Go.Proofs.YtdomplmilbkaeaaDoorW.PrintWords Go.Proofs.YtdomplmilbkaeaaDoorW.PrintLast Go.Proofs.YtdomplmilbkaeaaDoorW.PrintMore
set_option linter.unusedVariables false
set_option linter.unusedSimpArgs false


/-! ### into, Mul -/
theorem U_mul_le {v w : Int} (hv : U v) (hw : U w) : 0 ≤ v * w ∧ v * w ≤ 340282366920938463426481119284349108225 := by
  have := hv.1; have := hv.2; have := hw.1; have := hw.2
  refine ⟨Int.mul_nonneg hv.1 hw.1, ?_⟩
  have := Int.mul_le_mul (show v ≤ 18446744073709551615 by omega) (show w ≤ 18446744073709551615 by omega) hw.1 (by omega)
  omega
/-- One word of a sum, with what is carried. -/
theorem carry_step {a a' o s c c' P T : Nat} (e3 : o + c = s + c' * 18446744073709551616) (h1 : a' + o * P = a + s * P) (hv : a + c * P = T) : a' + c' * (P * 18446744073709551616) = T := by
  have e4 : o * P + c * P = s * P + c' * (P * 18446744073709551616) := by
    rw [← Nat.add_mul, e3, Nat.add_mul, Nat.mul_assoc, Nat.mul_comm 18446744073709551616 P]
  omega
theorem carry_step2 {a a' o c s c' P Q N x w v : Nat} (e3 : o + v * w + c = s + c' * 18446744073709551616) (h1 : a' + o * (Q * P) = a + s * (Q * P)) (hv : a + c * (Q * P) = N + w * x * Q) : a' + c' * (Q * P * 18446744073709551616) = N + w * (x + P * v) * Q := by
  have e4 : o * (Q * P) + v * w * (Q * P) + c * (Q * P) = s * (Q * P) + c' * (Q * P * 18446744073709551616) := by
    rw [← Nat.add_mul, ← Nat.add_mul, e3, Nat.add_mul, Nat.mul_assoc c', Nat.mul_comm 18446744073709551616]
  have e5 : w * (x + P * v) * Q = w * x * Q + v * w * (Q * P) := by grind
  rw [e5]; omega
theorem into_l1 (T L : Nat) (hT : T < 18446744073709551616 ^ L) (hL : L ≤ 1099511627776) : ∀ (d j k : Nat) (out : List Int) (c : Int), L - j = d → d < k → j ≤ L → out.length = L → WF out → U c → nv out + c.toNat * 18446744073709551616 ^ j = T →
    ∃ out' : List Int, WF out' ∧ out'.length = L ∧ nv out' = T ∧ nat_into.l1 k out c (j : Int) = some out' := by
  intro d
  induction d with
  | zero =>
    intro j k out c hd hk hj hl hw hc hv
    obtain ⟨k, rfl⟩ : ∃ m, k = m + 1 := ⟨k - 1, by omega⟩
    have : j = L := by omega
    subst this
    have := hc.1
    have h0 : c.toNat = 0 := by
      rcases Nat.eq_zero_or_pos c.toNat with h | h
      · exact h
      · have := Nat.mul_le_mul_right (18446744073709551616 ^ j) h; omega
    refine ⟨out, hw, hl, by rw [h0] at hv; omega, ?_⟩
    simp only [nat_into.l1]; rw [if_neg (by omega)]
  | succ d ih =>
    intro j k out c hd hk hj hl hw hc hv
    obtain ⟨k, rfl⟩ : ∃ m, k = m + 1 := ⟨k - 1, by omega⟩
    have q1 : j < L := by omega
    have q2 : L - (j + 1) = d := by omega
    have q3 : d < k := by omega
    have q4 : j < out.length := by omega
    have q5 : (j : Int) < (out.length : Int) := by omega
    have q6 : (out.set j (adS (rd out j) c 0)).length = L := by rw [List.length_set]; exact hl
    have e1 : wrap64 ((j : Int) + 1) = ((j + 1 : Nat) : Int) := by rw [w64_of (by omega) (by omega)]; omega
    clear hd hk
    have := hc.1; have := hc.2
    by_cases h0 : c > 0
    · have uo := hw.rdU (j : Int)
      have := uo.1; have := uo.2
      have eS := adS_of uo.1 hc.1 (Int.le_refl 0)
      have eC := adC_of uo.1 hc.1 (Int.le_refl 0)
      obtain ⟨out', hw', hl', hv', he⟩ := ih (j + 1) k (out.set j (adS (rd out j) c 0)) (adC (rd out j) c 0) q2 q3 q1 q6 (hw.set _ ⟨by rw [eS]; omega, by rw [eS]; omega⟩) ⟨by rw [eC]; omega, by rw [eC]; omega⟩ (by
        have h1 := nv_set out j (adS (rd out j) c 0) q4
        rw [← rd_of (l := out) (i := (j : Int)) rfl q4] at h1
        have e3 : (rd out j).toNat + c.toNat = (adS (rd out j) c 0).toNat + (adC (rd out j) c 0).toNat * 18446744073709551616 := by rw [eS, eC]; omega
        rw [Nat.pow_succ]
        exact carry_step e3 h1 hv)
      refine ⟨out', hw', hl', hv', ?_⟩
      simp only [nat_into.l1]
      rw [if_pos h0, if_pos (Int.natCast_nonneg j), if_pos q5, e1, Int.toNat_natCast]
      exact he
    · have h0' : c.toNat = 0 := by omega
      refine ⟨out, hw, hl, by rw [h0'] at hv; omega, ?_⟩
      simp only [nat_into.l1]; rw [if_neg h0]
/-- A product of two words and two words more fit into two words. -/
theorem mac_int (M o c lo c1 s c2 : Int) (m0 : 0 ≤ M) (m1 : M ≤ 340282366920938463426481119284349108225) (o0 : 0 ≤ o) (o1 : o < 18446744073709551616) (c0 : 0 ≤ c) (cl : c < 18446744073709551616)
    (e1 : lo = (M % 18446744073709551616 + c) % 18446744073709551616) (e2 : c1 = (M % 18446744073709551616 + c) / 18446744073709551616) (e3 : s = (o + lo) % 18446744073709551616) (e4 : c2 = (o + lo) / 18446744073709551616) :
    o + M + c = s + (M / 18446744073709551616 + c1 + c2) * 18446744073709551616 ∧ 0 ≤ M / 18446744073709551616 + c1 + c2 ∧ M / 18446744073709551616 + c1 + c2 < 18446744073709551616 ∧ 0 ≤ s ∧ s < 18446744073709551616 ∧ 0 ≤ c1 ∧ 0 ≤ c2 ∧ 0 ≤ lo := by
  have h1 := Int.mul_ediv_add_emod M 18446744073709551616
  have h2 := Int.emod_nonneg M (show (18446744073709551616 : Int) ≠ 0 by decide)
  have h3 := Int.emod_lt_of_pos M (show (0 : Int) < 18446744073709551616 by decide)
  generalize M / 18446744073709551616 = h at *
  generalize M % 18446744073709551616 = l at *
  have f1 : l + c = lo + c1 * 18446744073709551616 := by omega
  have f2 : o + lo = s + c2 * 18446744073709551616 := by omega
  have f3 : 0 ≤ c1 := by omega
  have f4 : 0 ≤ lo := by omega
  have f5 : 0 ≤ c2 := by omega
  have f6 : 0 ≤ s ∧ s < 18446744073709551616 := by omega
  clear e1 e2 e3 e4
  have f7 : o + M + c = s + (h + c1 + c2) * 18446744073709551616 := by omega
  exact ⟨f7, by omega, by omega, f6.1, f6.2, f3, f5, f4⟩
theorem mac {v w o c : Int} (hv : U v) (hw : U w) (ho : U o) (hc : U c) :
    IntKind.u64.wrap (IntKind.u64.wrap (v * w / 18446744073709551616 + adC (v * w % 18446744073709551616) c 0) + adC o (adS (v * w % 18446744073709551616) c 0) 0) = v * w / 18446744073709551616 + adC (v * w % 18446744073709551616) c 0 + adC o (adS (v * w % 18446744073709551616) c 0) 0 ∧
    U (v * w / 18446744073709551616 + adC (v * w % 18446744073709551616) c 0 + adC o (adS (v * w % 18446744073709551616) c 0) 0) ∧ U (adS o (adS (v * w % 18446744073709551616) c 0) 0) ∧
    o.toNat + v.toNat * w.toNat + c.toNat = (adS o (adS (v * w % 18446744073709551616) c 0) 0).toNat + (v * w / 18446744073709551616 + adC (v * w % 18446744073709551616) c 0 + adC o (adS (v * w % 18446744073709551616) c 0) 0).toNat * 18446744073709551616 := by
  obtain ⟨m0, m1⟩ := U_mul_le hv hw
  have e5 : (v * w).toNat = v.toNat * w.toNat := Int.toNat_mul hv.1 hw.1
  rw [← e5]
  generalize v * w = M at *
  have lo0 : 0 ≤ M % 18446744073709551616 := Int.emod_nonneg M (by decide)
  have eS := adS_of lo0 hc.1 (Int.le_refl 0)
  have eC := adC_of lo0 hc.1 (Int.le_refl 0)
  rw [Int.add_zero] at eS eC
  generalize hlo : adS (M % 18446744073709551616) c 0 = lo at *
  generalize hc1 : adC (M % 18446744073709551616) c 0 = c1 at *
  have lo1 : 0 ≤ lo := by rw [eS]; exact Int.emod_nonneg _ (by decide)
  have eS2 := adS_of ho.1 lo1 (Int.le_refl 0)
  have eC2 := adC_of ho.1 lo1 (Int.le_refl 0)
  rw [Int.add_zero] at eS2 eC2
  generalize hs : adS o lo 0 = s at *
  generalize hc2 : adC o lo 0 = c2 at *
  obtain ⟨f7, f8, f9, f10, f11, f12, f13, f14⟩ := mac_int M o c lo c1 s c2 m0 m1 ho.1 ho.2 hc.1 hc.2 eS eC eS2 eC2
  have h2 := Int.ediv_nonneg m0 (show (0 : Int) ≤ 18446744073709551616 by decide)
  clear eS eC eS2 eC2 hlo hc1 hs hc2 hv hw
  generalize M / 18446744073709551616 = h at *
  have := ho.1; have := hc.1
  refine ⟨?_, ⟨f8, f9⟩, ⟨f10, f11⟩, by omega⟩
  rw [wu_of (x := h + c1) ⟨by omega, by omega⟩, wu_of ⟨f8, f9⟩]
theorem into_l0 (x : List Int) (w : Int) (p L N0 : Nat) (hx : WF x) (hw0 : U w) (hT : N0 + w.toNat * nv x * 18446744073709551616 ^ p < 18446744073709551616 ^ L) (hL : L ≤ 1099511627776) (hpl : p + x.length ≤ L) : ∀ (d i k : Nat) (out : List Int) (c : Int), x.length - i = d → d + L + 1 < k → i ≤ x.length → out.length = L → WF out → U c →
    nv out + c.toNat * 18446744073709551616 ^ (p + i) = N0 + w.toNat * nv (x.take i) * 18446744073709551616 ^ p →
    ∃ out' : List Int, WF out' ∧ out'.length = L ∧ nv out' = N0 + w.toNat * nv x * 18446744073709551616 ^ p ∧ nat_into.l0 k out x w (p : Int) c x (x.length : Int) (i : Int) = some out' := by
  intro d
  induction d with
  | zero =>
    intro i k out c hd hk hi hl hw hc hv
    obtain ⟨k, rfl⟩ : ∃ m, k = m + 1 := ⟨k - 1, by omega⟩
    have : i = x.length := by omega
    subst this
    rw [List.take_length] at hv
    obtain ⟨out', hw', hl', hv', he⟩ := into_l1 _ L hT hL (L - (p + x.length)) (p + x.length) k out c rfl (by omega) hpl hl hw hc hv
    refine ⟨out', hw', hl', hv', ?_⟩
    simp only [nat_into.l0]
    have e1 : wrap64 ((p : Int) + (x.length : Int)) = ((p + x.length : Nat) : Int) := w64_add (Nat.le_trans hpl (Nat.le_trans hL (by decide)))
    rw [if_neg (Int.lt_irrefl _), e1]
    exact he
  | succ d ih =>
    intro i k out c hd hk hi hl hw hc hv
    obtain ⟨k, rfl⟩ : ∃ m, k = m + 1 := ⟨k - 1, by omega⟩
    have q1 : i < x.length := by omega
    have q2 : x.length - (i + 1) = d := by omega
    have q3 : d + L + 1 < k := by omega
    have q4 : p + i < out.length := by omega
    have q5 : ((p + i : Nat) : Int) < (out.length : Int) := by omega
    have q7 : (i : Int) < (x.length : Int) := by omega
    have q6 : ∀ v, (out.set (p + i) v).length = L := fun v => by rw [List.length_set]; exact hl
    have q9 : p + i ≤ 1099511627776 := Nat.le_trans (Nat.le_of_lt (hl ▸ q4)) hL
    have e1 : wrap64 ((i : Int) + 1) = ((i + 1 : Nat) : Int) := w64_succ (Nat.le_trans (Nat.le_add_left i p) (Nat.le_trans q9 (by decide)))
    have e2 : wrap64 ((p : Int) + (i : Int)) = ((p + i : Nat) : Int) := w64_add (Nat.le_trans q9 (by decide))
    clear hd hk
    have ux := hx.rdU (i : Int); have uo := hw.rdU ((p + i : Nat) : Int)
    obtain ⟨ew, uc, us, e3⟩ := mac ux hw0 uo hc
    clear hT
    generalize hs : adS (rd out ((p + i : Nat) : Int)) (adS (rd x i * w % 18446744073709551616) c 0) 0 = s at *
    generalize hcc : rd x i * w / 18446744073709551616 + adC (rd x i * w % 18446744073709551616) c 0 + adC (rd out ((p + i : Nat) : Int)) (adS (rd x i * w % 18446744073709551616) c 0) 0 = cc at *
    obtain ⟨out', hw', hl', hv', he⟩ := ih (i + 1) k (out.set (p + i) s) cc q2 q3 q1 (q6 s) (hw.set _ us) uc (by
      have h1 := nv_set out (p + i) s q4
      rw [← rd_of (l := out) (i := ((p + i : Nat) : Int)) rfl q4] at h1
      rw [nv_take_rd]
      have e6 : 18446744073709551616 ^ (p + (i + 1)) = 18446744073709551616 ^ (p + i) * 18446744073709551616 := by rw [← Nat.add_assoc, Nat.pow_succ]
      have e7 : 18446744073709551616 ^ (p + i) = 18446744073709551616 ^ p * 18446744073709551616 ^ i := Nat.pow_add _ _ _
      rw [e6, e7]
      rw [e7] at h1 hv
      exact carry_step2 e3 h1 hv)
    refine ⟨out', hw', hl', hv', ?_⟩
    simp only [nat_into.l0]
    rw [if_pos q7]
    rw [if_pos (Int.natCast_nonneg i)]
    rw [if_pos q7]
    rw [mul64 ux hw0]
    rw [Option.bind_some]
    rw [e2]
    rw [if_pos (Int.natCast_nonneg (p + i))]
    rw [if_pos q5]
    rw [hs]
    rw [ew]
    rw [e1]
    rw [Int.toNat_natCast]
    exact he
theorem mul_l0 (x y : List Int) (hx : WF x) (hy : WF y) (L : Nat) (hL : L = x.length + y.length + 1) (hL2 : L ≤ 1099511627776) : ∀ (d i k : Nat) (out : List Int), y.length - i = d → x.length + L + 2 + d < k → i ≤ y.length → out.length = L → WF out → nv out = nv x * nv (y.take i) →
    ∃ out' : List Int, WF out' ∧ out'.length = L ∧ nv out' = nv x * nv y ∧ nat_Mul.l0 k x out y (y.length : Int) (i : Int) = (nat_trim.f (k - 1 - d) out').bind fun t => some t := by
  intro d
  induction d with
  | zero =>
    intro i k out hd hk hi hl hw hv
    obtain ⟨k, rfl⟩ : ∃ m, k = m + 1 := ⟨k - 1, by omega⟩
    have : i = y.length := by omega
    subst this
    rw [List.take_length] at hv
    refine ⟨out, hw, hl, hv, ?_⟩
    simp only [nat_Mul.l0]
    rw [if_neg (by omega)]; rfl
  | succ d ih =>
    intro i k out hd hk hi hl hw hv
    obtain ⟨k, rfl⟩ : ∃ m, k = m + 1 := ⟨k - 1, by omega⟩
    have q1 : i < y.length := by omega
    have q2 : y.length - (i + 1) = d := by omega
    have q3 : x.length + L + 2 + d < k := by omega
    have q4 : x.length + L + 1 < k := by omega
    have q5 : (i : Int) < (y.length : Int) := by omega
    have q6 : i + x.length ≤ L := by omega
    have q7 : k - 1 - d = k + 1 - 1 - (d + 1) := by omega
    have q8 : x.length + y.length < L := by omega
    have e1 : wrap64 ((i : Int) + 1) = ((i + 1 : Nat) : Int) := by rw [w64_of (by omega) (by omega)]; omega
    clear hd hk
    have uy := hy.rdU (i : Int)
    have hb : nv out + (rd y i).toNat * nv x * 18446744073709551616 ^ i = nv x * nv (y.take (i + 1)) := by
      rw [hv, nv_take_rd]; grind
    have hlt : nv x * nv (y.take (i + 1)) < 18446744073709551616 ^ L := by
      have a1 := nv_lt hx; have a2 := nv_lt (hy.take (i + 1))
      rw [List.length_take, Nat.min_eq_left q1] at a2
      have a3 : 18446744073709551616 ^ (i + 1) ≤ 18446744073709551616 ^ y.length := Nat.pow_le_pow_right (by decide) q1
      have a4 := Nat.mul_le_mul (Nat.le_of_lt a1) (Nat.le_of_lt (Nat.lt_of_lt_of_le a2 a3))
      rw [← Nat.pow_add] at a4
      have a5 : 18446744073709551616 ^ (x.length + y.length) < 18446744073709551616 ^ L := Nat.pow_lt_pow_right (by decide) q8
      exact Nat.lt_of_le_of_lt a4 a5
    obtain ⟨o1, hw1, hl1, hv1, he1⟩ := into_l0 x (rd y i) i L (nv out) hx uy (by rw [hb]; exact hlt) hL2 q6 x.length 0 k out 0 (Nat.sub_zero _) q4 (Nat.zero_le _) hl hw ⟨by decide, by decide⟩ (by simp [nv])
    obtain ⟨out', hw', hl', hv', he⟩ := ih (i + 1) k o1 q2 q3 q1 hl1 hw1 (by rw [hv1, hb])
    refine ⟨out', hw', hl', hv', ?_⟩
    simp only [nat_Mul.l0]
    rw [if_pos q5, if_pos (Int.natCast_nonneg i), if_pos q5]
    unfold nat_into.f
    have e0 : ((0 : Nat) : Int) = (0 : Int) := rfl
    rw [e0] at he1
    rw [he1]
    simp only [Option.bind_some]
    rw [e1, he]
    rw [q7]
theorem mul_ev {x y : List Int} (hx : WF x) (hy : WF y) (lx : x.length ≤ 274877906944) (ly : y.length ≤ 274877906944) : Ev (fun k => nat_Mul.f k x y) (limbs (nv x * nv y)) := by
  unfold nat_Mul.f
  refine Ev.bind (trim_ev hx (by omega)) (Ev.bind (trim_ev hy (by omega)) ?_)
  have la := nv_limbs_length hx; have lb := nv_limbs_length hy
  generalize nv x = a at *
  generalize nv y = b at *
  have e0 : wrap64 ((wrap64 (((limbs a).length : Int) + ((limbs b).length : Int))) + 1) = (((limbs a).length + (limbs b).length + 1 : Nat) : Int) := by
    rw [w64_of (x := ((limbs a).length : Int) + ((limbs b).length : Int)) (by omega) (by omega), w64_of (by omega) (by omega)]; omega
  generalize hm : (limbs a).length + (limbs b).length + 1 = L at e0
  refine ⟨(limbs a).length + L + 2 + (limbs b).length + 1 + (L + 1) + 1, fun k hk => ?_⟩
  show (if _ then _ else _) = _
  rw [e0, if_pos (by omega), if_pos (by omega), Int.toNat_natCast]
  obtain ⟨out', hw', hl', hv', he⟩ := mul_l0 (limbs a) (limbs b) (limbs_WF a) (limbs_WF b) L hm.symm (by omega) (limbs b).length 0 k (List.replicate L 0) (by omega) (by omega) (by omega) (by simp) (WF.zeros L) (by simp [nv, nv_zeros])
  have e1 : ((0 : Nat) : Int) = (0 : Int) := rfl
  rw [e1] at he
  rw [he]
  have ht := trim_l0 out' hw' (by omega) out'.length (k - 1 - (limbs b).length) (by omega) (Nat.le_refl _)
  unfold nat_trim.f
  rw [ht, List.take_length]
  simp only [Option.bind_some]
  rw [hv', nv_limbs, nv_limbs]
end Go.Proofs.YtdomplmilbkaeaaDoor.Pure
