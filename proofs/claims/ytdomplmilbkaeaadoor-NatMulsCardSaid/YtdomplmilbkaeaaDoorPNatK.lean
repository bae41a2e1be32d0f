/-
  What the printed functions of package nat compute: karatsuba, Karatsuba. Conditions: no list is longer than 100 words.
-/
import Derived.Test.YtdomplmilbkaeaaDoorPNatC
import Derived.Test.YtdomplmilbkaeaaDoorPNatM
import Derived.Test.YtdomplmilbkaeaaDoorGNx0
import Derived.Test.YtdomplmilbkaeaaDoorGNx18
namespace Go.Proofs.YtdomplmilbkaeaaDoor.Pure
open Go.RowKit Go.Proofs.YtdomplmilbkaeaaDoor.GN Go.Proofs.YtdomplmilbkaeaaDoorW.PrintWords Go.Proofs.YtdomplmilbkaeaaDoorW.PrintLast Go.Proofs.YtdomplmilbkaeaaDoorW.PrintMore

def KK (c : Int) (a b : Nat) : Prop := Ev (fun k => nat_karatsuba.f k (limbs a) (limbs b) c) (limbs (a * b))
theorem half_of (N : Nat) (h : N ≤ 1000) : wrap64 (Int.tdiv (wrap64 ((N : Int) + 1)) 2) = (((N + 1) / 2 : Nat) : Int) := by
  rw [w64_succ (by omega), Int.tdiv_eq_ediv_of_nonneg (by omega), w64_of (by omega) (by omega)]; omega
theorem kk_base {c : Int} {a b : Nat} (ha : (limbs a).length ≤ 1000) (hb : (limbs b).length ≤ 1000) (h : mx ((limbs a).length : Int) ((limbs b).length : Int) ≤ mx c 2) : KK c a b := by
  refine Ev.step (fun k => by simp only [nat_karatsuba.f]; exact if_pos h) ?_
  exact Ev.bind (mulL ha hb) (Ev.now _)
theorem kara_id (a b P : Nat) : a % P * (b % P) + P * ((a % P + a / P) * (b % P + b / P) - a % P * (b % P) - a / P * (b / P)) + P ^ 2 * (a / P * (b / P)) = a * b := by
  have e1 : (a % P + a / P) * (b % P + b / P) - a % P * (b % P) - a / P * (b / P) = a % P * (b / P) + a / P * (b % P) := by
    have : (a % P + a / P) * (b % P + b / P) = a % P * (b % P) + (a / P * (b / P) + (a % P * (b / P) + a / P * (b % P))) := by grind
    rw [this, Nat.add_sub_cancel_left, Nat.add_sub_cancel_left]
  rw [e1]
  have ha := Nat.mod_add_div a P
  have hb := Nat.mod_add_div b P
  generalize a % P = p at *
  generalize a / P = q at *
  generalize b % P = r at *
  generalize b / P = s at *
  rw [← ha, ← hb]
  grind
theorem kara_le1 (p q r s : Nat) : p * r ≤ (p + q) * (r + s) := Nat.mul_le_mul (Nat.le_add_right _ _) (Nat.le_add_right _ _)
theorem kara_le2 (p q r s : Nat) : q * s ≤ (p + q) * (r + s) - p * r := by
  have : (p + q) * (r + s) = p * r + (q * s + (p * s + q * r)) := by grind
  rw [this, Nat.add_sub_cancel_left]; exact Nat.le_add_right _ _
theorem kk_step {c : Int} {a b N : Nat} (ha : a < 18446744073709551616 ^ 100) (hb : b < 18446744073709551616 ^ 100) (hN : max (limbs a).length (limbs b).length = N) (h : ¬ mx ((limbs a).length : Int) ((limbs b).length : Int) ≤ mx c 2)
    (k0 : KK c (a % 18446744073709551616 ^ ((N + 1) / 2)) (b % 18446744073709551616 ^ ((N + 1) / 2))) (k1 : KK c (a / 18446744073709551616 ^ ((N + 1) / 2)) (b / 18446744073709551616 ^ ((N + 1) / 2)))
    (k2 : KK c (a % 18446744073709551616 ^ ((N + 1) / 2) + a / 18446744073709551616 ^ ((N + 1) / 2)) (b % 18446744073709551616 ^ ((N + 1) / 2) + b / 18446744073709551616 ^ ((N + 1) / 2))) : KK c a b := by
  have la := limbs_length_le ha; have lb := limbs_length_le hb
  have hN2 : N ≤ 100 := by omega
  have eh : wrap64 (Int.tdiv (wrap64 ((mx ((limbs a).length : Int) ((limbs b).length : Int)) + 1)) 2) = (((N + 1) / 2 : Nat) : Int) := by rw [mx_of, hN]; exact half_of N (by omega)
  generalize hm : (N + 1) / 2 = m at *
  have hm2 : m ≤ 50 := by omega
  have e2 : wrap64 (2 * (m : Int)) = ((2 * m : Nat) : Int) := by rw [w64_of (by omega) (by omega)]; omega
  have kid := kara_id a b (18446744073709551616 ^ m)
  have le1 := kara_le1 (a % 18446744073709551616 ^ m) (a / 18446744073709551616 ^ m) (b % 18446744073709551616 ^ m) (b / 18446744073709551616 ^ m)
  have le2 := kara_le2 (a % 18446744073709551616 ^ m) (a / 18446744073709551616 ^ m) (b % 18446744073709551616 ^ m) (b / 18446744073709551616 ^ m)
  have a0 : a % 18446744073709551616 ^ m < 18446744073709551616 ^ 100 := Nat.lt_of_le_of_lt (Nat.mod_le _ _) ha
  have a1 : a / 18446744073709551616 ^ m < 18446744073709551616 ^ 100 := Nat.lt_of_le_of_lt (Nat.div_le_self _ _) ha
  have b0 : b % 18446744073709551616 ^ m < 18446744073709551616 ^ 100 := Nat.lt_of_le_of_lt (Nat.mod_le _ _) hb
  have b1 : b / 18446744073709551616 ^ m < 18446744073709551616 ^ 100 := Nat.lt_of_le_of_lt (Nat.div_le_self _ _) hb
  have pm : 18446744073709551616 ^ m < 18446744073709551616 ^ 51 := Nat.pow_lt_pow_right (by decide) (by omega)
  have pm2 : 18446744073709551616 ^ (2 * m) < 18446744073709551616 ^ 101 := Nat.pow_lt_pow_right (by decide) (by omega)
  have es : 18446744073709551616 ^ (2 * m) = (18446744073709551616 ^ m) ^ 2 := by rw [Nat.mul_comm, Nat.pow_mul]
  refine Ev.step (fun k => by simp only [nat_karatsuba.f]; exact if_neg h) ?_
  rw [eh]
  refine Ev.bind (halves_ev (Nat.le_trans la (by decide))) ?_
  refine Ev.bind (halves_ev (Nat.le_trans lb (by decide))) ?_
  refine Ev.bind k0 (Ev.bind k1 ?_)
  refine Ev.bind (addL (limbs_sml a0 (by decide)) (limbs_sml a1 (by decide))) ?_
  refine Ev.bind (addL (limbs_sml b0 (by decide)) (limbs_sml b1 (by decide))) ?_
  refine Ev.bind k2 ?_
  rw [e2]
  have s0 := lt_add a0 a1
  have s1 := lt_add b0 b1
  have s2 := lt_mul s0 s1
  rw [← es] at kid
  have hl := lt_mul a0 b0
  have hh := lt_mul a1 b1
  generalize (a % 18446744073709551616 ^ m + a / 18446744073709551616 ^ m) * (b % 18446744073709551616 ^ m + b / 18446744073709551616 ^ m) = M at *
  generalize a % 18446744073709551616 ^ m * (b % 18446744073709551616 ^ m) = lo at *
  generalize a / 18446744073709551616 ^ m * (b / 18446744073709551616 ^ m) = hi at *
  refine Ev.bind (lessL (limbs_sml s2 (by decide)) le1) ?_
  refine Ev.bind (lessL (limbs_sml (Nat.lt_of_le_of_lt (Nat.sub_le _ _) s2) (by decide)) le2) ?_
  have s3 : M - lo - hi < 18446744073709551616 ^ (100 + 1 + (100 + 1)) := Nat.lt_of_le_of_lt (Nat.sub_le _ _) (Nat.lt_of_le_of_lt (Nat.sub_le _ _) s2)
  have s4 := lt_mul pm s3
  have s5 := lt_add (pow_up hl (show 100 + 100 ≤ 253 by decide)) (pow_up s4 (show 51 + (100 + 1 + (100 + 1)) ≤ 253 by decide))
  have s6 := lt_mul pm2 hh
  refine Ev.bind (Ev.congr (fun k => up_f (limbs_sml s3 (by decide)) (by omega)) (Ev.now _)) ?_
  refine Ev.bind (addL (limbs_sml hl (by decide)) (limbs_sml s4 (by decide))) ?_
  refine Ev.bind (Ev.congr (fun k => up_f (limbs_sml hh (by decide)) (by omega)) (Ev.now _)) ?_
  refine Ev.bind (addL (limbs_sml s5 (by decide)) (limbs_sml s6 (by decide))) ?_
  rw [kid]
  exact Ev.now _
/-- Two words and a bit. -/
theorem kk_all {c : Int} (hc : 1 ≤ c) (hc2 : c ≤ 1024) : ∀ (N : Nat) (a b : Nat), N ≤ 100 → a < 18446744073709551616 ^ N → b < 18446744073709551616 ^ N → KK c a b := by
  have hmx : ((2 : Nat) : Int) ≤ mx c 2 := by unfold mx; split <;> omega
  have base : ∀ a b : Nat, a < 18446744073709551616 ^ 2 → b < 18446744073709551616 ^ 2 → KK c a b := by
    intro a b ha hb
    have la := limbs_length_le ha; have lb := limbs_length_le hb
    exact kk_base (by omega) (by omega) (Int.le_trans (by rw [mx_of]; omega) hmx)
  have three : ∀ a b : Nat, a < 18446744073709551616 ^ 2 + 18446744073709551616 → b < 18446744073709551616 ^ 2 + 18446744073709551616 → KK c a b := by
    intro a b ha hb
    have ha3 : a < 18446744073709551616 ^ 3 := by omega
    have hb3 : b < 18446744073709551616 ^ 3 := by omega
    have la := limbs_length_le ha3; have lb := limbs_length_le hb3
    by_cases h : mx ((limbs a).length : Int) ((limbs b).length : Int) ≤ mx c 2
    · exact kk_base (by omega) (by omega) h
    · have hN : max (limbs a).length (limbs b).length = 3 := by
        rw [mx_of] at h; omega
      refine kk_step (pow_up ha3 (by decide)) (pow_up hb3 (by decide)) hN h ?_ ?_ ?_
      · exact base _ _ (Nat.mod_lt _ (by decide)) (Nat.mod_lt _ (by decide))
      · exact base _ _ (by omega) (by omega)
      · exact base _ _ (by omega) (by omega)
  intro N
  induction N using Nat.strongRecOn with
  | _ N ih =>
    intro a b hN ha hb
    have la := limbs_length_le ha; have lb := limbs_length_le hb
    by_cases h : mx ((limbs a).length : Int) ((limbs b).length : Int) ≤ mx c 2
    · exact kk_base (by omega) (by omega) h
    · generalize hM : max (limbs a).length (limbs b).length = M
      have hM3 : 3 ≤ M := by rw [mx_of] at h; omega
      have hMN : M ≤ N := by omega
      have ha' : a < 18446744073709551616 ^ M := pow_up (lt_pow_limbs a) (by omega)
      have hb' : b < 18446744073709551616 ^ M := pow_up (lt_pow_limbs b) (by omega)
      have q0 : ∀ x : Nat, x % 18446744073709551616 ^ ((M + 1) / 2) < 18446744073709551616 ^ ((M + 1) / 2) := fun x => Nat.mod_lt _ (Nat.pow_pos (by decide))
      have q1 : ∀ x : Nat, x < 18446744073709551616 ^ M → x / 18446744073709551616 ^ ((M + 1) / 2) < 18446744073709551616 ^ (M - (M + 1) / 2) := fun x hx => by
        apply Nat.div_lt_of_lt_mul
        rw [← Nat.pow_add]
        rwa [show (M + 1) / 2 + (M - (M + 1) / 2) = M by omega]
      refine kk_step (pow_up ha' (by omega)) (pow_up hb' (by omega)) hM h ?_ ?_ ?_
      · exact ih ((M + 1) / 2) (by omega) _ _ (by omega) (q0 a) (q0 b)
      · exact ih ((M + 1) / 2) (by omega) _ _ (by omega) (pow_up (q1 a ha') (by omega)) (pow_up (q1 b hb') (by omega))
      · by_cases h3 : M = 3
        · subst h3
          have r1 := q1 a ha'; have r2 := q1 b hb'; have r3 := q0 a; have r4 := q0 b
          exact three _ _ (by
            have e1 : 18446744073709551616 ^ ((3 + 1) / 2) = 18446744073709551616 ^ 2 := rfl
            have e2 : 18446744073709551616 ^ (3 - (3 + 1) / 2) = 18446744073709551616 := rfl
            rw [e1] at *; rw [e2] at r1; exact Nat.add_lt_add r3 r1) (by
            have e1 : 18446744073709551616 ^ ((3 + 1) / 2) = 18446744073709551616 ^ 2 := rfl
            have e2 : 18446744073709551616 ^ (3 - (3 + 1) / 2) = 18446744073709551616 := rfl
            rw [e1] at *; rw [e2] at r2; exact Nat.add_lt_add r4 r2)
        · exact ih ((M + 1) / 2 + 1) (by omega) _ _ (by omega) (lt_add (q0 a) (pow_up (q1 a ha') (by omega))) (lt_add (q0 b) (pow_up (q1 b hb') (by omega)))
theorem karatsuba_ev {x y : List Int} (hx : WF x) (hy : WF y) (lx : x.length ≤ 100) (ly : y.length ≤ 100) {c : Int} (hc : 1 ≤ c) (hc2 : c ≤ 1024) : Ev (fun k => nat_Karatsuba.f k x y c) (limbs (nv x * nv y), 0) := by
  unfold nat_Karatsuba.f
  refine Ev.congr (fun k => if_neg (by omega)) ?_
  rw [decide_eq_false (by omega)]
  refine Ev.step (fun k => by simp only [nat_Karatsuba.j0]; exact if_neg (by decide)) ?_
  refine Ev.bind (trim_ev hx (by omega)) (Ev.bind (trim_ev hy (by omega)) ?_)
  have bx := pow_up (nv_lt hx) lx; have by' := pow_up (nv_lt hy) ly
  refine Ev.bind (kk_all hc hc2 100 _ _ (Nat.le_refl _) bx by') ?_
  refine Ev.bind (norm_ev (limbs_WF _) (Nat.le_trans (limbs_sml (lt_mul bx by') (by decide)) (by decide))) ?_
  rw [nv_limbs]
  exact Ev.now _
theorem karatsuba_err {x y : List Int} {c : Int} (hc : c < 1 ∨ c > 1024) : Ev (fun k => nat_Karatsuba.f k x y c) ([], 1) := by
  unfold nat_Karatsuba.f
  have e : Ev (fun k => nat_Karatsuba.j0 k x y c true) ([], 1) := Ev.step (fun k => by simp only [nat_Karatsuba.j0]; exact if_pos trivial) (Ev.now _)
  by_cases h : c < 1
  · exact Ev.congr (fun k => if_pos h) e
  · refine Ev.congr (fun k => if_neg h) ?_
    rw [decide_eq_true (by omega)]; exact e
end Go.Proofs.YtdomplmilbkaeaaDoor.Pure
