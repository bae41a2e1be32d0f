/-
  What the printed functions of package nat compute: trim, Norm, at, Cmp, Add, Mul (numbers as lists of words). Conditions: all are words, no list is longer than 2 to the 40th.
-/
import Derived.Test.YtdomplmilbkaeaaDoorPBase
import Derived.Test.YtdomplmilbkaeaaDoorGNx0
import Derived.Test.YtdomplmilbkaeaaDoorGNx1
import Derived.Test.YtdomplmilbkaeaaDoorGNx3
import Derived.Test.YtdomplmilbkaeaaDoorGNx4
import Derived.Test.YtdomplmilbkaeaaDoorGNx7
import Derived.Lib.Mul64
import Derived.Laws.Bits64b
namespace Go.Proofs.YtdomplmilbkaeaaDoor.Pure
open Go.RowKit Go.Proofs.YtdomplmilbkaeaaDoor.GN Go.Proofs.YtdomplmilbkaeaaDoorW.PrintWords Go.Proofs.YtdomplmilbkaeaaDoorW.PrintLast Go.Proofs.YtdomplmilbkaeaaDoorW.PrintMore
set_option linter.unusedVariables false
set_option linter.unusedSimpArgs false

theorem nv_take_rd (l : List Int) (i : Nat) : nv (l.take (i + 1)) = nv (l.take i) + 18446744073709551616 ^ i * (rd l i).toNat := by
  by_cases h : i < l.length
  · rw [nv_take_succ l i h, rd_of rfl h]
  · have e : rd l i = 0 := by simp [rd, List.getD_eq_getElem?_getD, List.getElem?_eq_none (Nat.le_of_not_lt h)]
    rw [List.take_of_length_le (by omega), List.take_of_length_le (by omega), e]; simp
theorem nv_set_take (l : List Int) (i : Nat) (v : Int) (h : i < l.length) : nv ((l.set i v).take (i + 1)) = nv (l.take i) + 18446744073709551616 ^ i * v.toNat := by
  rw [nv_take_rd, rd_of rfl (by simpa using h), List.take_set_of_le (by omega)]
  simp
theorem nv_take_all (l : List Int) {n : Nat} (h : l.length ≤ n) : nv (l.take n) = nv l := by rw [List.take_of_length_le h]
theorem rd_set_ne (l : List Int) (i j : Nat) (v : Int) (h : i ≠ j) : rd (l.set i v) j = rd l j := by
  simp [rd, List.getD_eq_getElem?_getD, List.getElem?_set, h]

/-! ### trim, Norm, at -/
theorem trim_l0 (l : List Int) (hw : WF l) (hl : l.length ≤ 1099511627776) : ∀ (n k : Nat), n < k → n ≤ l.length → nat_trim.l0 k l (n : Int) = some (limbs (nv (l.take n))) := by
  intro n
  induction n with
  | zero =>
    intro k hk _
    obtain ⟨k, rfl⟩ : ∃ m, k = m + 1 := ⟨k - 1, by omega⟩
    simp only [nat_trim.l0]
    rw [if_neg (by omega), if_pos (by omega), if_pos (by omega)]
    simp [nv, limbs_zero]
  | succ n ih =>
    intro k hk hn
    obtain ⟨k, rfl⟩ : ∃ m, k = m + 1 := ⟨k - 1, by omega⟩
    simp only [nat_trim.l0]
    have e : wrap64 (((n + 1 : Nat) : Int) - 1) = n := by rw [w64_of (by omega) (by omega)]; omega
    rw [if_pos (by omega), e, if_pos (by omega), if_pos (by omega), rd_of rfl (by omega)]
    by_cases h0 : l[n] = 0
    · rw [if_pos h0, ih k (by omega) (by omega), nv_take_succ l n (by omega), h0]; simp
    · rw [if_neg h0, if_pos (by omega), if_pos (by omega), Int.toNat_natCast]
      refine congrArg some (limbs_of (hw.take _) (fun hne => ?_))
      have : (l.take (n + 1)).getLast hne = l[n] := by
        rw [List.getLast_eq_getElem]
        simp [List.length_take, Nat.min_eq_left hn]
      rw [this]; exact h0
theorem trim_ev {l : List Int} (hw : WF l) (hl : l.length ≤ 1099511627776) : Ev (fun k => nat_trim.f k l) (limbs (nv l)) :=
  ⟨l.length + 1, fun k hk => by
    show nat_trim.l0 k l (l.length : Int) = _
    rw [trim_l0 l hw hl l.length k (by omega) (by omega), List.take_length]⟩
theorem trim_limbs {n : Nat} (hl : (limbs n).length ≤ 1099511627776) : Ev (fun k => nat_trim.f k (limbs n)) (limbs n) := by
  have := trim_ev (limbs_WF n) hl
  rwa [nv_limbs] at this
theorem nv_limbs_length {l : List Int} (hw : WF l) : (limbs (nv l)).length ≤ l.length := limbs_length_le (nv_lt hw)
theorem norm_ev {l : List Int} (hw : WF l) (hl : l.length ≤ 1099511627776) : Ev (fun k => nat_Norm.f k l) (limbs (nv l)) := by
  unfold nat_Norm.f
  refine Ev.bind (trim_ev hw hl) (Ev.congr (fun k => ?_) (Ev.now _))
  have := nv_limbs_length hw
  rw [if_pos (by simp; omega)]; simp
theorem at_f (l : List Int) (n : Nat) : nat_at.f l (n : Int) = some (rd l n) := by
  unfold nat_at.f
  by_cases h : n < l.length
  · rw [if_pos (by omega), if_pos (by omega)]
  · rw [if_neg (by omega)]
    have e : rd l n = 0 := by simp [rd, List.getD_eq_getElem?_getD, List.getElem?_eq_none (Nat.le_of_not_lt h)]
    rw [e]

/-! ### Cmp -/
def cmpI (a b : Nat) : Int := if a < b then -1 else if a = b then 0 else 1
theorem cmpI_add (a b c : Nat) : cmpI (a + c) (b + c) = cmpI a b := by unfold cmpI; simp
theorem cmp_l0 (x y : List Int) (hx : WF x) (hy : WF y) (hxy : x.length = y.length) (hl : x.length ≤ 1099511627776) : ∀ (n k : Nat), n < k → n ≤ x.length → nat_Cmp.l0 k x y ((n : Int) - 1) = some (cmpI (nv (x.take n)) (nv (y.take n))) := by
  intro n
  induction n with
  | zero =>
    intro k hk _
    obtain ⟨k, rfl⟩ : ∃ m, k = m + 1 := ⟨k - 1, by omega⟩
    simp only [nat_Cmp.l0]
    rw [if_neg (by omega)]
    simp [cmpI, nv]
  | succ n ih =>
    intro k hk hn
    obtain ⟨k, rfl⟩ : ∃ m, k = m + 1 := ⟨k - 1, by omega⟩
    simp only [nat_Cmp.l0]
    have e0 : ((n + 1 : Nat) : Int) - 1 = (n : Nat) := by omega
    rw [e0, if_pos (by omega), if_pos (by omega), if_pos (by omega), if_pos (by omega), rd_of rfl (show n < x.length by omega), rd_of rfl (show n < y.length by omega)]
    rw [nv_take_succ x n (by omega), nv_take_succ y n (by omega)]
    have b1 := nv_lt (hx.take n); have b2 := nv_lt (hy.take n)
    rw [List.length_take, Nat.min_eq_left (by omega)] at b1 b2
    have u1 := hx.get (show n < x.length by omega); have u2 := hy.get (show n < y.length by omega)
    have := u1.1; have := u1.2; have := u2.1; have := u2.2
    generalize 18446744073709551616 ^ n = P at *
    generalize nv (x.take n) = a at *
    generalize nv (y.take n) = b at *
    generalize ep : x[n] = p at *
    generalize eq : y[n] = q at *
    by_cases h1 : p < q
    · rw [if_pos h1]
      have h2 : p.toNat + 1 ≤ q.toNat := by omega
      have h3 := Nat.mul_le_mul_left P h2
      have : a + P * p.toNat < b + P * q.toNat := by rw [Nat.mul_add] at h3; omega
      simp [cmpI, this]
    · rw [if_neg h1]
      by_cases h2 : p > q
      · rw [if_pos h2]
        have h2 : q.toNat + 1 ≤ p.toNat := by omega
        have h3 := Nat.mul_le_mul_left P h2
        have h4 : b + P * q.toNat < a + P * p.toNat := by rw [Nat.mul_add] at h3; omega
        have h5 : ¬ a + P * p.toNat < b + P * q.toNat := by omega
        have h6 : ¬ a + P * p.toNat = b + P * q.toNat := by omega
        simp [cmpI, h5, h6]
      · rw [if_neg h2]
        have e1 : wrap64 ((n : Int) - 1) = (n : Int) - 1 := w64_of (by omega) (by omega)
        have e2 : p = q := by omega
        rw [e1, ih k (by omega) (by omega), e2]
        rw [cmpI_add]
theorem cmp_ev {x y : List Int} (hx : WF x) (hy : WF y) (lx : x.length ≤ 1099511627776) (ly : y.length ≤ 1099511627776) : Ev (fun k => nat_Cmp.f k x y) (cmpI (nv x) (nv y)) := by
  unfold nat_Cmp.f
  refine Ev.bind (trim_ev hx lx) (Ev.bind (trim_ev hy ly) ?_)
  have hla : (limbs (nv x)).length ≤ 1099511627776 := Nat.le_trans (nv_limbs_length hx) lx
  generalize nv x = a at *
  generalize nv y = b
  by_cases h1 : (limbs a).length < (limbs b).length
  · have h2 : a < b := by
      rcases Nat.lt_or_ge a b with h | h
      · exact h
      · have := limbs_length_mono h; omega
    refine Ev.congr (fun k => ?_) (Ev.now _)
    rw [if_pos (by omega)]; simp [cmpI, h2]
  · by_cases h2 : (limbs b).length < (limbs a).length
    · have h3 : b < a := by
        rcases Nat.lt_or_ge b a with h | h
        · exact h
        · have := limbs_length_mono h; omega
      refine Ev.congr (fun k => ?_) (Ev.now _)
      rw [if_neg (by omega), if_pos (by omega)]
      have h4 : ¬ a < b := by omega
      have h5 : ¬ a = b := by omega
      simp [cmpI, h4, h5]
    · refine ⟨(limbs a).length + 1, fun k hk => ?_⟩
      have e : wrap64 (((limbs a).length : Int) - 1) = ((limbs a).length : Int) - 1 := w64_of (by omega) (by omega)
      have := cmp_l0 (limbs a) (limbs b) (limbs_WF a) (limbs_WF b) (by omega) hla (limbs a).length k (by omega) (Nat.le_refl _)
      rw [List.take_length, List.take_of_length_le (by omega), nv_limbs, nv_limbs] at this
      show (if ((limbs a).length : Int) < (limbs b).length then _ else _) = _
      rw [if_neg (by omega), if_neg (by omega), e, this]

/-! ### Add -/
theorem mx_of (a b : Nat) : mx (a : Int) (b : Int) = ((max a b : Nat) : Int) := by unfold mx; split <;> omega
theorem add_l0 (x y : List Int) (hx : WF x) (hy : WF y) (m : Nat) (hm : m ≤ 1099511627777) : ∀ (d i k : Nat) (out : List Int) (c : Int), m - i = d → d < k → m < k + i → i ≤ m → out.length = m → WF out → 0 ≤ c → c ≤ 1 →
    nv (x.take i) + nv (y.take i) = nv (out.take i) + c.toNat * 18446744073709551616 ^ i →
    ∃ out' : List Int, ∃ c' : Int, WF out' ∧ out'.length = m ∧ 0 ≤ c' ∧ nv (x.take m) + nv (y.take m) = nv out' + c'.toNat * 18446744073709551616 ^ m ∧ nat_Add.l0 k x y out c (m : Int) (i : Int) = (nat_trim.f (k - 1 - d) out').bind fun t => some t := by
  intro d
  induction d with
  | zero =>
    intro i k out c hd hk hk2 hi hl hw h0 h1 hv
    obtain ⟨k, rfl⟩ : ∃ m, k = m + 1 := ⟨k - 1, by omega⟩
    have : i = m := by omega
    subst this
    refine ⟨out, c, hw, hl, h0, ?_, ?_⟩
    · rw [hv, List.take_of_length_le (by omega)]
    · simp only [nat_Add.l0]; rw [if_neg (by omega)]; rfl
  | succ d ih =>
    intro i k out c hd hk hk2 hi hl hw h0 h1 hv
    obtain ⟨k, rfl⟩ : ∃ m, k = m + 1 := ⟨k - 1, by omega⟩
    have ux := hx.rdU (i : Int); have uy := hy.rdU (i : Int)
    have := ux.1; have := ux.2; have := uy.1; have := uy.2
    have eS := adS_of ux.1 uy.1 h0
    have eC := adC_of ux.1 uy.1 h0
    have uS : U (adS (rd x i) (rd y i) c) := by rw [eS]; exact ⟨by omega, by omega⟩
    obtain ⟨out', c', hw', hl', h0', hv', he⟩ := ih (i + 1) k (out.set i (adS (rd x i) (rd y i) c)) (adC (rd x i) (rd y i) c) (by omega) (by omega) (by omega) (by omega) (by simpa using hl) (hw.set _ uS) (by rw [eC]; omega) (by rw [eC]; omega) (by
      rw [nv_take_rd, nv_take_rd, nv_set_take _ _ _ (by omega), Nat.pow_succ]
      have e3 : (rd x i).toNat + (rd y i).toNat + c.toNat = (adS (rd x i) (rd y i) c).toNat + (adC (rd x i) (rd y i) c).toNat * 18446744073709551616 := by rw [eS, eC]; omega
      generalize 18446744073709551616 ^ i = P at *
      have e4 := congrArg (P * ·) e3
      simp only [Nat.mul_add] at e4
      grind)
    refine ⟨out', c', hw', hl', h0', hv', ?_⟩
    simp only [nat_Add.l0]
    rw [if_pos (by omega), at_f, at_f]
    simp only [Option.bind_some]
    rw [if_pos h1, if_pos (by omega), if_pos (by omega), Int.toNat_natCast]
    have e1 : wrap64 ((i : Int) + 1) = ((i + 1 : Nat) : Int) := by rw [w64_of (by omega) (by omega)]; omega
    rw [e1, he]
    have : k - 1 - d = k + 1 - 1 - (d + 1) := by omega
    rw [this]
theorem add_ev {x y : List Int} (hx : WF x) (hy : WF y) (lx : x.length ≤ 549755813888) (ly : y.length ≤ 549755813888) : Ev (fun k => nat_Add.f k x y) (limbs (nv x + nv y)) := by
  have e0 : wrap64 ((mx (x.length : Int) (y.length : Int)) + 1) = ((max x.length y.length + 1 : Nat) : Int) := by rw [mx_of, w64_of (by omega) (by omega)]; omega
  generalize hm : max x.length y.length + 1 = m at e0
  have hm1 : m ≤ 1099511627777 := by omega
  refine ⟨m + 1 + (m + 1), fun k hk => ?_⟩
  show nat_Add.f k x y = _
  unfold nat_Add.f
  rw [e0, if_pos (by omega), if_pos (by omega)]
  simp only [Option.bind_some, Int.toNat_natCast, List.length_replicate]
  obtain ⟨out', c', hw', hl', h0', hv', he⟩ := add_l0 x y hx hy m hm1 m 0 k (List.replicate m 0) 0 (by omega) (by omega) (by omega) (by omega) (by simp) (WF.zeros m) (by omega) (by omega) (by simp [nv])
  have b1 := nv_lt (hx.take m); have b2 := nv_lt (hy.take m); have b3 := nv_lt hw'
  rw [hl'] at b3
  rw [List.take_of_length_le (by omega)] at b1 b2
  have p1 : 18446744073709551616 ^ x.length ≤ 18446744073709551616 ^ (m - 1) := Nat.pow_le_pow_right (by omega) (by omega)
  have p2 : 18446744073709551616 ^ y.length ≤ 18446744073709551616 ^ (m - 1) := Nat.pow_le_pow_right (by omega) (by omega)
  have p3 : 18446744073709551616 ^ m = 18446744073709551616 ^ (m - 1) * 18446744073709551616 := by rw [← Nat.pow_succ]; congr 1; omega
  rw [List.take_of_length_le (by omega), List.take_of_length_le (by omega)] at hv'
  have hc : c'.toNat = 0 := by
    rcases Nat.eq_zero_or_pos c'.toNat with h | h
    · exact h
    · exfalso
      have h5 : 18446744073709551616 ^ m ≤ c'.toNat * 18446744073709551616 ^ m := Nat.le_mul_of_pos_left (18446744073709551616 ^ m) h
      have h6 : nv x + nv y ≥ 18446744073709551616 ^ (m - 1) * 18446744073709551616 := by rw [hv']; rw [p3] at h5; exact Nat.le_trans h5 (by rw [p3]; exact Nat.le_add_left _ _)
      omega
  rw [hc] at hv'
  have e2 : ((0 : Nat) : Int) = (0 : Int) := rfl
  rw [e2] at he
  rw [he]
  have ht := trim_l0 out' hw' (by omega) out'.length (k - 1 - m) (by omega) (Nat.le_refl _)
  unfold nat_trim.f
  rw [ht, List.take_length]
  simp only [Option.bind_some]
  rw [hv']; simp

/-! ### Mul64 -/
theorem maskN (a : Nat) (ha : a < 18446744073709551616) : Go.bits .and .u64 (a : Int) 4294967295 = ((a % 4294967296 : Nat) : Int) := by
  have h := bits_and_u64_nat a 4294967295 ha (by omega)
  have e : a &&& 4294967295 = a % 4294967296 := Nat.and_two_pow_sub_one_eq_mod a 32
  rw [e] at h
  exact h
theorem divN (a : Nat) : (a : Int) / 4294967296 = ((a / 4294967296 : Nat) : Int) := by omega
theorem mulN (a b : Nat) : (a : Int) * (b : Int) = ((a * b : Nat) : Int) := (Int.natCast_mul a b).symm
theorem addN (a b : Nat) : (a : Int) + (b : Int) = ((a + b : Nat) : Int) := (Int.natCast_add a b).symm
theorem wrapN (a : Nat) (ha : a < 18446744073709551616) : IntKind.u64.wrap (a : Int) = (a : Int) := by rw [wu]; omega
theorem wrapM (a : Nat) : IntKind.u64.wrap (a : Int) = ((a % 18446744073709551616 : Nat) : Int) := by rw [wu]; omega
theorem mul64_nat (x y : Nat) (hx : x < 18446744073709551616) (hy : y < 18446744073709551616) :
    bits_Mul64.f (x : Int) (y : Int) = some (((x * y / 18446744073709551616 : Nat) : Int), ((x * y % 18446744073709551616 : Nat) : Int)) := by
  obtain ⟨bd, bt, bw, hhi⟩ := Lib.mul64_hi x y hx hy
  have ba := Lib.half_mul_le (a := x / 4294967296) (b := y / 4294967296) (by omega) (by omega)
  have bb := Lib.half_mul_le (a := x / 4294967296) (b := y % 4294967296) (by omega) (by omega)
  have bc := Lib.half_mul_le (a := x % 4294967296) (b := y / 4294967296) (by omega) (by omega)
  have ba' : x / 4294967296 * (y / 4294967296) < 18446744073709551616 := by omega
  have bb' : x / 4294967296 * (y % 4294967296) < 18446744073709551616 := by omega
  have bc' : x % 4294967296 * (y / 4294967296) < 18446744073709551616 := by omega
  have bh1 : x / 4294967296 * (y / 4294967296) + (x / 4294967296 * (y % 4294967296) + x % 4294967296 * (y % 4294967296) / 4294967296) / 4294967296 < 18446744073709551616 := by omega
  have bh : x / 4294967296 * (y / 4294967296) + (x / 4294967296 * (y % 4294967296) + x % 4294967296 * (y % 4294967296) / 4294967296) / 4294967296 + ((x / 4294967296 * (y % 4294967296) + x % 4294967296 * (y % 4294967296) / 4294967296) % 4294967296 + x % 4294967296 * (y / 4294967296)) / 4294967296 < 18446744073709551616 := by omega
  unfold bits_Mul64.f
  simp only [maskN x hx, maskN y hy, divN, mulN, addN, wrapN _ bd, wrapN _ bb', wrapN _ bt, maskN _ bt, wrapN _ bc', wrapN _ bw, wrapN _ ba', wrapN _ bh1, wrapN _ bh, wrapM (x * y)]
  rw [hhi]
theorem mul64 {x y : Int} (hx : U x) (hy : U y) : bits_Mul64.f x y = some (x * y / 18446744073709551616, x * y % 18446744073709551616) := by
  obtain ⟨a, rfl⟩ := Int.eq_ofNat_of_zero_le hx.1
  obtain ⟨b, rfl⟩ := Int.eq_ofNat_of_zero_le hy.1
  have := hx.2; have := hy.2
  rw [mul64_nat a b (by omega) (by omega)]
  simp

end Go.Proofs.YtdomplmilbkaeaaDoor.Pure
