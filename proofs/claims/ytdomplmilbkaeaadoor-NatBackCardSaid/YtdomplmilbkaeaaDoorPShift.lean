/-
  Numbers moved by bits: what nat.shifted, Shl, Shr and Bits compute. Conditions: no list is longer than 1000 words.
-/
import Derived.Test.YtdomplmilbkaeaaDoorPDiv64
import Derived.Test.YtdomplmilbkaeaaDoorPNatU
import Derived.Test.YtdomplmilbkaeaaDoorPNatH
import Derived.Test.YtdomplmilbkaeaaDoorPBits
import Derived.Test.YtdomplmilbkaeaaDoorGNx0
import Derived.Test.YtdomplmilbkaeaaDoorGNx20
import Derived.Test.YtdomplmilbkaeaaDoorGNx22
import Derived.Test.YtdomplmilbkaeaaDoorGNx3
import Derived.Test.YtdomplmilbkaeaaDoorGNx4
namespace Go.Proofs.YtdomplmilbkaeaaDoor.Pure
open Go.RowKit Go.Proofs.YtdomplmilbkaeaaDoor.GN Go.Proofs.YtdomplmilbkaeaaDoorW.PrintWords Go.Proofs.YtdomplmilbkaeaaDoorW.PrintLast Go.Proofs.YtdomplmilbkaeaaDoorW.PrintMore
set_option linter.unusedVariables false
set_option linter.unusedSimpArgs false

/-- A word moved up: what stays and what goes over. -/
theorem word_up {v s : Nat} (hv : v < 18446744073709551616) (hs : s ≤ 64) : v / 2 ^ (64 - s) < 2 ^ s ∧ v * 2 ^ s % 18446744073709551616 = v * 2 ^ s % 18446744073709551616 / 2 ^ s * 2 ^ s := by
  constructor
  · rw [Nat.div_lt_iff_lt_mul (Nat.pow_pos (by decide)), ← Nat.pow_add, Nat.add_sub_cancel' (by omega)]; exact hv
  · have e : (18446744073709551616 : Nat) = 2 ^ (64 - s) * 2 ^ s := by rw [← Nat.pow_add, Nat.sub_add_cancel (by omega)]
    rw [e, Nat.mul_mod_mul_right, Nat.mul_div_cancel _ (Nat.pow_pos (by decide))]
theorem or_low {v c s : Nat} (hv : v < 18446744073709551616) (hs : s ≤ 64) (hc : c < 2 ^ s) : Go.bits .or .u64 (c : Int) (shl .u64 (v : Int) (s : Int)) = ((c + v * 2 ^ s % 18446744073709551616 : Nat) : Int) ∧ c + v * 2 ^ s % 18446744073709551616 < 18446744073709551616 := by
  rw [shl_nat v (by omega)]
  obtain ⟨-, h2⟩ := word_up hv hs
  have hm : v * 2 ^ s % 18446744073709551616 < 18446744073709551616 := Nat.mod_lt _ (by decide)
  have e : (18446744073709551616 : Nat) = 2 ^ (64 - s) * 2 ^ s := by rw [← Nat.pow_add, Nat.sub_add_cancel (by omega)]
  have hlt : v * 2 ^ s % 18446744073709551616 / 2 ^ s + 1 ≤ 2 ^ (64 - s) := by
    refine Nat.succ_le_of_lt ((Nat.div_lt_iff_lt_mul (Nat.pow_pos (by decide))).2 ?_)
    rw [← e]; exact hm
  have h3 := Nat.mul_le_mul_right (2 ^ s) hlt
  rw [← e, Nat.add_mul, Nat.one_mul, ← h2] at h3
  have hc64 : c < 18446744073709551616 := by omega
  refine ⟨?_, by omega⟩
  rw [bits_or_u64_nat _ _ hc64 hm, h2]
  generalize v * 2 ^ s % 18446744073709551616 / 2 ^ s = m
  rw [Nat.or_comm, Nat.mul_comm m, ← Nat.two_pow_add_eq_or_of_lt hc, Nat.add_comm]
theorem nv_one (m : Nat) : nv [(m : Int)] = m := by simp [nv]
theorem shift_step {o c m q X v S P B : Nat} (hv : o + P * c = X * S) (hsp : v * S = q * B + m) : o + P * (c + m) + P * B * q = (X + P * v) * S := by
  have h1 : (X + P * v) * S = X * S + P * (v * S) := by grind
  rw [h1, hsp, ← hv]; grind
theorem shifted_l0 (x : List Int) (s : Nat) (hx : WF x) (hl : x.length ≤ 1000000) (hs : s ≤ 63) : ∀ (d i : Nat) (out : List Int) (c : Nat), x.length - i = d → (hi : i ≤ x.length) → (ho : out.length = x.length + 1) → WF out → out[i]'(by omega) = (c : Int) → c < 2 ^ s → nv (out.take i) + 18446744073709551616 ^ i * c = nv (x.take i) * 2 ^ s →
    ∃ out', out'.length = x.length + 1 ∧ WF out' ∧ nv out' = nv x * 2 ^ s ∧ Ev (fun k => nat_shifted.l0 k (s : Int) out x (x.length : Int) (i : Int)) out' := by
  intro d
  induction d with
  | zero =>
    intro i out c hd hi ho hW hc hlt hv
    have hi2 : i = x.length := by clear hv; omega
    subst hi2
    refine ⟨out, ho, hW, ?_, Ev.step (f := fun k => some out) (fun k => ?_) (Ev.now _)⟩
    · have h1 := nv_take_succ out x.length (by rw [ho]; exact Nat.lt_succ_self _)
      have h2 : out.take (x.length + 1) = out := by rw [← ho, List.take_length]
      rw [h2, hc, Int.toNat_natCast, hv, List.take_length] at h1
      exact h1
    · simp only [nat_shifted.l0]
      rw [if_neg (Int.lt_irrefl _)]
  | succ d ih =>
    intro i out c hd hi ho hW hc hlt hv
    have hi0 : i < x.length := by clear hv; omega
    have hio : i < out.length := by rw [ho]; exact Nat.lt_succ_of_lt hi0
    have hio1 : i + 1 < out.length := by rw [ho]; exact Nat.succ_lt_succ hi0
    have hd' : x.length - (i + 1) = d := by clear hv; omega
    have hu := hx.get hi0
    have ht := nv_take_succ x i hi0
    have hr : rd x (i : Int) = x[i] := rd_of rfl hi0
    have hro : rd out (i : Int) = (c : Int) := by rw [rd_of rfl hio, hc]
    obtain ⟨v, hve⟩ := Int.eq_ofNat_of_zero_le hu.1
    have hv64 : v < 18446744073709551616 := by have := hu.2; rw [hve] at this; exact Int.ofNat_lt.1 this
    rw [hve] at hr ht
    rw [Int.toNat_natCast] at ht
    obtain ⟨o1, o2⟩ := or_low hv64 (show s ≤ 64 by omega) hlt
    obtain ⟨u1, u2⟩ := word_up hv64 (show s ≤ 64 by omega)
    have hsp := shift_split (lo := v) (s := s) (by omega)
    have er := shr_nat v (s := 64 - s) (by omega)
    have ws2 : IntKind.u64.wrap (64 - (s : Int)) = ((64 - s : Nat) : Int) := by
      have e : (64 : Int) - (s : Int) = ((64 - s : Nat) : Int) := by clear hv ht; omega
      rw [e, wrapN _ (by clear hv ht; omega)]
    have hU1 : U ((c + v * 2 ^ s % 18446744073709551616 : Nat) : Int) := ⟨Int.natCast_nonneg _, Int.ofNat_lt.2 o2⟩
    have hc64 : v / 2 ^ (64 - s) < 18446744073709551616 := Nat.lt_of_le_of_lt (Nat.div_le_self _ _) hv64
    have hU2 : U ((v / 2 ^ (64 - s) : Nat) : Int) := ⟨Int.natCast_nonneg _, Int.ofNat_lt.2 hc64⟩
    have hlen : ((out.set i ((c + v * 2 ^ s % 18446744073709551616 : Nat) : Int)).set (i + 1) ((v / 2 ^ (64 - s) : Nat) : Int)).length = x.length + 1 := by rw [List.length_set, List.length_set]; exact ho
    have htk : ((out.set i ((c + v * 2 ^ s % 18446744073709551616 : Nat) : Int)).set (i + 1) ((v / 2 ^ (64 - s) : Nat) : Int)).take (i + 1) = out.take i ++ [((c + v * 2 ^ s % 18446744073709551616 : Nat) : Int)] := by
      rw [List.take_set_of_le (Nat.le_refl _), List.take_succ_eq_append_getElem (by rw [List.length_set]; exact hio), List.take_set_of_le (Nat.le_refl _), List.getElem_set_self]
    have hv' : nv (((out.set i ((c + v * 2 ^ s % 18446744073709551616 : Nat) : Int)).set (i + 1) ((v / 2 ^ (64 - s) : Nat) : Int)).take (i + 1)) + 18446744073709551616 ^ (i + 1) * (v / 2 ^ (64 - s)) = nv (x.take (i + 1)) * 2 ^ s := by
      rw [htk, nv_append, List.length_take, Nat.min_eq_left (Nat.le_of_lt hio), ht]
      rw [nv_one, Nat.pow_succ]
      exact shift_step hv hsp
    obtain ⟨out', g1, g2, g3, g4⟩ := ih (i + 1) ((out.set i ((c + v * 2 ^ s % 18446744073709551616 : Nat) : Int)).set (i + 1) ((v / 2 ^ (64 - s) : Nat) : Int)) (v / 2 ^ (64 - s)) hd' hi0 hlen ((hW.set i hU1).set (i + 1) hU2) (List.getElem_set_self _) u1 hv'
    refine ⟨out', g1, g2, g3, Ev.step (fun k => ?_) g4⟩
    have e1 : wrap64 ((i : Int) + 1) = ((i + 1 : Nat) : Int) := w64_succ (by clear hv ht hsp htk hv' er ws2; omega)
    simp only [nat_shifted.l0]
    rw [e1, ws2, if_pos (Int.ofNat_lt.2 hi0), if_pos (Int.natCast_nonneg i), if_pos (Int.ofNat_lt.2 hi0), if_pos (Int.ofNat_lt.2 hio), if_pos (Int.natCast_nonneg s), if_pos (Int.natCast_nonneg (64 - s)), if_pos (Int.natCast_nonneg (i + 1)), if_pos (Int.ofNat_lt.2 hio1), hr, hro, o1, er, Int.toNat_natCast, Int.toNat_natCast]
theorem shifted_ev {x : List Int} (hx : WF x) (hl : x.length ≤ 1000000) {s : Nat} (hs : s ≤ 63) : ∃ out, out.length = x.length + 1 ∧ WF out ∧ nv out = nv x * 2 ^ s ∧ Ev (fun k => nat_shifted.f k x (s : Int)) out := by
  obtain ⟨out, h1, h2, h3, h4⟩ := shifted_l0 x s hx hl hs _ 0 (List.replicate (x.length + 1) 0) 0 rfl (Nat.zero_le _) (List.length_replicate ..) (WF.zeros _) (by rw [List.getElem_replicate]; rfl) (Nat.pow_pos (by decide)) (by simp [nv])
  refine ⟨out, h1, h2, h3, Ev.congr (fun k => ?_) h4⟩
  unfold nat_shifted.f
  have e1 : wrap64 ((x.length : Int) + 1) = ((x.length + 1 : Nat) : Int) := w64_succ (by omega)
  rw [e1, if_pos (Int.natCast_nonneg _), Int.toNat_natCast, if_pos (by clear e1; omega)]; rfl

/-! ### Shr -/
theorem nv_drop_mod {l : List Int} (hw : WF l) (n : Nat) : rd l (n : Int) = ((nv (l.drop n) % 18446744073709551616 : Nat) : Int) := by
  by_cases h : n < l.length
  · have hu := hw.get h
    have h1 := hu.1; have h2 := hu.2
    rw [rd_of rfl h, nv_drop l n h]
    generalize l[n] = a at *
    omega
  · rw [List.drop_of_length_le (Nat.le_of_not_lt h)]
    simp [rd, List.getD_eq_getElem?_getD, List.getElem?_eq_none (Nat.le_of_not_lt h), nv]
theorem down_word {a D r : Nat} (hr : r ≤ 63) : (a + 18446744073709551616 * D) / 2 ^ r = a / 2 ^ r + (D % 18446744073709551616) * 2 ^ (64 - r) % 18446744073709551616 + 18446744073709551616 * (D / 2 ^ r) := by
  have hp : 0 < 2 ^ r := Nat.pow_pos (by decide)
  have e : (18446744073709551616 : Nat) = 2 ^ (64 - r) * 2 ^ r := by rw [← Nat.pow_add, Nat.sub_add_cancel (by omega)]
  have e1 : (a + 18446744073709551616 * D) / 2 ^ r = a / 2 ^ r + 2 ^ (64 - r) * D := by
    rw [show a + 18446744073709551616 * D = a + 2 ^ r * (2 ^ (64 - r) * D) by rw [← Nat.mul_assoc, Nat.mul_comm (2 ^ r), ← e], Nat.add_mul_div_left _ _ hp]
  have e2 : 2 ^ (64 - r) * D / 18446744073709551616 = D / 2 ^ r := by rw [e, Nat.mul_div_mul_left _ _ (Nat.pow_pos (by decide))]
  have e3 : 2 ^ (64 - r) * D % 18446744073709551616 = (D % 18446744073709551616) * 2 ^ (64 - r) % 18446744073709551616 := by rw [Nat.mul_comm, Nat.mod_mul_mod]
  have e4 := Nat.mod_add_div (2 ^ (64 - r) * D) 18446744073709551616
  rw [e1, Nat.add_assoc, ← e3, ← e2, e4]
theorem down_step {o w P B D' r' N : Nat} (h : o + P * (w + B * D') = N) : o + P * w + P * B * D' = N := by
  rw [← h, Nat.mul_add]; grind
theorem shr_l0 (x : List Int) (n : Nat) (hx : WF x) (hl : x.length ≤ 1000000) : ∀ (d i : Nat) (out : List Int), x.length - i = d → (hi : i ≤ x.length) → (ho : out.length = x.length) → WF out → nv (out.take i) + 18446744073709551616 ^ i * (nv (x.drop i) / 2 ^ (n % 64)) = nv x / 2 ^ (n % 64) →
    Ev (fun k => nat_Shr.l0 k x (n : Int) out (x.length : Int) (i : Int)) (limbs (nv x / 2 ^ (n % 64)), 0) := by
  intro d
  induction d with
  | zero =>
    intro i out hd hi ho hW hv
    have hi2 : i = x.length := by clear hv; omega
    subst hi2
    rw [List.drop_length, ← ho, List.take_length, show nv [] = 0 from rfl, Nat.zero_div, Nat.mul_zero, Nat.add_zero] at hv
    have g := trim_ev hW (by rw [ho]; omega)
    rw [hv] at g
    refine Ev.step (f := fun k => (nat_trim.f k out).bind fun t => some (t, 0)) (fun k => ?_) (Ev.bind g (Ev.now _))
    simp only [nat_Shr.l0]
    rw [if_neg (Int.lt_irrefl _)]
  | succ d ih =>
    intro i out hd hi ho hW hv
    have hi0 : i < x.length := by clear hv; omega
    have hio : i < out.length := by rw [ho]; exact hi0
    have hd' : x.length - (i + 1) = d := by clear hv; omega
    have hr63 : n % 64 ≤ 63 := by clear hv; omega
    have hu := hx.get hi0
    have hr : rd x (i : Int) = x[i] := rd_of rfl hi0
    have hdr := nv_drop x i hi0
    have hr1 := nv_drop_mod hx (i + 1)
    obtain ⟨v, hve⟩ := Int.eq_ofNat_of_zero_le hu.1
    have hv64 : v < 18446744073709551616 := by have := hu.2; rw [hve] at this; exact Int.ofNat_lt.1 this
    rw [hve] at hr hdr
    rw [Int.toNat_natCast] at hdr
    have hD64 : nv (x.drop (i + 1)) % 18446744073709551616 < 18446744073709551616 := Nat.mod_lt _ (by decide)
    have hdown := down_word (a := v) (D := nv (x.drop (i + 1))) hr63
    rw [← hdr] at hdown
    have e64 : 64 - (64 - n % 64) = n % 64 := by clear hv; omega
    have hq : v / 2 ^ (n % 64) < 2 ^ (64 - n % 64) := by
      have := (word_up (s := 64 - n % 64) hv64 (Nat.sub_le _ _)).1
      rwa [e64] at this
    obtain ⟨o1, o2⟩ := or_low (c := v / 2 ^ (n % 64)) (s := 64 - n % 64) hD64 (Nat.sub_le _ _) hq
    have er := shr_nat v (s := n % 64) (by clear hv; omega)
    have hv' : nv ((out.set i ((v / 2 ^ (n % 64) + nv (x.drop (i + 1)) % 18446744073709551616 * 2 ^ (64 - n % 64) % 18446744073709551616 : Nat) : Int)).take (i + 1)) + 18446744073709551616 ^ (i + 1) * (nv (x.drop (i + 1)) / 2 ^ (n % 64)) = nv x / 2 ^ (n % 64) := by
      rw [nv_set_take out i _ hio, Int.toNat_natCast, Nat.pow_succ]
      rw [hdown] at hv
      exact down_step (r' := 0) hv
    have hU1 : U ((v / 2 ^ (n % 64) + nv (x.drop (i + 1)) % 18446744073709551616 * 2 ^ (64 - n % 64) % 18446744073709551616 : Nat) : Int) := ⟨Int.natCast_nonneg _, Int.ofNat_lt.2 o2⟩
    refine Ev.step (fun k => ?_) (ih (i + 1) (out.set i ((v / 2 ^ (n % 64) + nv (x.drop (i + 1)) % 18446744073709551616 * 2 ^ (64 - n % 64) % 18446744073709551616 : Nat) : Int)) hd' hi0 (by rw [List.length_set]; exact ho) (hW.set i hU1) hv')
    clear hv hv' hdown hdr
    have t1 : Int.tmod (n : Int) 64 = ((n % 64 : Nat) : Int) := tmodN n 64
    have t2 : IntKind.u64.wrap ((n % 64 : Nat) : Int) = ((n % 64 : Nat) : Int) := wrapN _ (by omega)
    have t3 : wrap64 (64 - ((n % 64 : Nat) : Int)) = ((64 - n % 64 : Nat) : Int) := by rw [w64_of (by omega) (by omega)]; omega
    have t4 : IntKind.u64.wrap ((64 - n % 64 : Nat) : Int) = ((64 - n % 64 : Nat) : Int) := wrapN _ (by omega)
    have e1 : wrap64 ((i : Int) + 1) = ((i + 1 : Nat) : Int) := w64_succ (by clear t1 t2 t3 t4; omega)
    simp only [nat_Shr.l0]
    rw [e1, t1, t2, t3, t4, at_f, Option.bind_some, if_pos (Int.ofNat_lt.2 hi0), if_pos (Int.natCast_nonneg i), if_pos (Int.ofNat_lt.2 hi0), if_pos (Int.natCast_nonneg (n % 64)), if_pos (Int.natCast_nonneg (64 - n % 64)), if_pos (Int.ofNat_lt.2 hio), hr, hr1, er, o1, Int.toNat_natCast]
theorem pow_bits (q r : Nat) : 2 ^ (64 * q + r) = 18446744073709551616 ^ q * 2 ^ r := by
  rw [Nat.pow_add, Nat.pow_mul]
theorem shr_ev {x : List Int} (hx : WF x) (hl : x.length ≤ 1000000) {n : Nat} (hn : n < 9223372036854775808) : Ev (fun k => nat_Shr.f k x (n : Int)) (limbs (nv x / 2 ^ n), 0) := by
  unfold nat_Shr.f
  refine Ev.congr (fun k => if_neg (by omega)) (Ev.bind (trim_ev hx (Nat.le_trans hl (by decide))) ?_)
  have hla := limbs_length_le (nv_lt hx)
  generalize nv x = a at *
  have hdm : 2 ^ n = 18446744073709551616 ^ (n / 64) * 2 ^ (n % 64) := by rw [← pow_bits, Nat.div_add_mod]
  have t1 : wrap64 (Int.tdiv (n : Int) 64) = ((n / 64 : Nat) : Int) := by
    have : Int.tdiv (n : Int) 64 = ((n / 64 : Nat) : Int) := tdivN n 64
    rw [this, w64_of (by omega) (by omega)]
  rw [t1]
  by_cases h : (limbs a).length ≤ n / 64
  · refine Ev.congr (fun k => if_pos (by clear t1 hdm; omega)) ?_
    have h1 : a / 2 ^ n = 0 := by
      apply Nat.div_eq_of_lt
      rw [hdm]
      have h2 := pow_up (lt_pow_limbs a) h
      exact Nat.lt_of_lt_of_le h2 (Nat.le_mul_of_pos_right _ (Nat.pow_pos (by decide)))
    rw [h1, limbs_zero]
    exact Ev.now _
  · have e : a / 2 ^ n = nv (limbs (a / 18446744073709551616 ^ (n / 64))) / 2 ^ (n % 64) := by rw [nv_limbs, hdm, Nat.div_div_eq_div_mul]
    have hlen : (limbs (a / 18446744073709551616 ^ (n / 64))).length ≤ 1000000 := by
      have h3 : (limbs a).length ≤ 1000000 := Nat.le_trans hla hl
      exact Nat.le_trans (limbs_length_mono (Nat.div_le_self _ _)) h3
    clear hdm
    refine Ev.congr (fun k => if_neg (by clear t1; omega)) (Ev.congr (fun k => if_pos (Int.natCast_nonneg _)) (Ev.congr (fun k => if_pos (by clear t1; omega)) ?_))
    rw [Int.toNat_natCast, limbs_drop, e]
    refine Ev.congr (fun k => Option.bind_some _ _) ?_
    refine Ev.congr (fun k => if_pos (Int.natCast_nonneg _)) (Ev.congr (fun k => if_pos (by clear t1 e; omega)) ?_)
    refine Ev.congr (fun k => Option.bind_some _ _) ?_
    have g := shr_l0 (limbs (a / 18446744073709551616 ^ (n / 64))) n (limbs_WF _) hlen _ 0 (List.replicate (limbs (a / 18446744073709551616 ^ (n / 64))).length 0) rfl (Nat.zero_le _) (List.length_replicate ..) (WF.zeros _) (by simp [nv])
    rw [List.length_replicate]
    exact g
theorem pow_words (q : Nat) : 18446744073709551616 ^ q = 2 ^ (64 * q) := by
  have := pow_bits q 0
  rw [Nat.pow_zero, Nat.mul_one, Nat.add_zero] at this
  exact this.symm
theorem pow_lt_words {m q : Nat} (h : m < 64 * q) : 2 ^ m < 18446744073709551616 ^ q := by
  rw [pow_words]; exact Nat.pow_lt_pow_right (by decide) h
theorem far_zero {a n q : Nat} (h : a < 18446744073709551616 ^ q) (hn : 64 * q ≤ n) : a / 2 ^ n = 0 := by
  rw [pow_words] at h
  exact Nat.div_eq_of_lt (Nat.lt_of_lt_of_le h (Nat.pow_le_pow_right (by decide) hn))
theorem bits_le_pow {a n : Nat} (h : a < 2 ^ n) : bits a ≤ n := Nat.le_of_not_lt fun h2 => by
  have h1 := bits_le (show bits a ≠ 0 by omega)
  have h3 : 2 ^ n ≤ 2 ^ (bits a - 1) := Nat.pow_le_pow_right (by decide) (by omega)
  omega
theorem bits_le_words {a q : Nat} (h : a < 18446744073709551616 ^ q) : bits a ≤ 64 * q := by
  rw [pow_words] at h; exact bits_le_pow h
theorem shr_neg {x : List Int} {n : Int} (hn : n < 0) : Ev (fun k => nat_Shr.f k x n) ([], 1) := by
  unfold nat_Shr.f
  exact Ev.congr (fun k => if_pos hn) (Ev.now _)

/-! ### Shl -/
theorem shl_neg {x : List Int} {n : Int} (hn : n < 0) : Ev (fun k => nat_Shl.f k x n) ([], 1) := by
  unfold nat_Shl.f
  exact Ev.congr (fun k => if_pos hn) (Ev.now _)
theorem shl_far {x : List Int} {n : Int} (hn : n > 262144) : Ev (fun k => nat_Shl.f k x n) ([], 13) := by
  unfold nat_Shl.f
  exact Ev.congr (fun k => if_neg (by omega)) (Ev.congr (fun k => if_pos hn) (Ev.now _))
theorem up_g {l : List Int} {n : Nat} (hl : l ≠ []) (h1 : l.length ≤ 1000001) (hn : n ≤ 1000000) : nat_up.f l (n : Int) = some (List.replicate n 0 ++ l) := by
  have hp : 0 < l.length := List.length_pos_iff.2 hl
  have e : wrap64 ((n : Int) + (l.length : Int)) = ((n + l.length : Nat) : Int) := w64_add (by omega)
  unfold nat_up.f
  rw [e, if_neg (by clear e; omega), if_pos (by clear e; omega), if_pos (by clear e; omega), if_pos (by rw [Int.toNat_natCast]; clear e; omega), Option.bind_some, if_pos (by rw [List.length_replicate, Int.toNat_natCast]; clear e; omega), Int.toNat_natCast]
theorem shl_ev {x : List Int} (hx : WF x) (hl : x.length ≤ 1000000) {n : Nat} (hn : n ≤ 262144) : Ev (fun k => nat_Shl.f k x (n : Int)) (limbs (nv x * 2 ^ n), 0) := by
  unfold nat_Shl.f
  refine Ev.congr (fun k => if_neg (by omega)) (Ev.congr (fun k => if_neg (by omega)) (Ev.bind (trim_ev hx (Nat.le_trans hl (by decide))) ?_))
  have hla := limbs_length_le (nv_lt hx)
  have t1 : wrap64 (Int.tdiv (n : Int) 64) = ((n / 64 : Nat) : Int) := by
    have : Int.tdiv (n : Int) 64 = ((n / 64 : Nat) : Int) := tdivN n 64
    rw [this, w64_nat (by omega)]
  have t2 : IntKind.u64.wrap (Int.tmod (n : Int) 64) = ((n % 64 : Nat) : Int) := by
    have : Int.tmod (n : Int) 64 = ((n % 64 : Nat) : Int) := tmodN n 64
    rw [this, wrapN _ (by omega)]
  have hdm : 2 ^ n = 18446744073709551616 ^ (n / 64) * 2 ^ (n % 64) := by rw [← pow_bits, Nat.div_add_mod]
  have hn1 : n / 64 ≤ 1000000 := by clear t1 t2 hdm; omega
  have hn2 : n % 64 ≤ 63 := by clear t1 t2 hdm; omega
  have hll : (limbs (nv x)).length ≤ 1000000 := Nat.le_trans hla hl
  obtain ⟨out, o1, o2, o3, o4⟩ := shifted_ev (limbs_WF (nv x)) hll hn2
  rw [nv_limbs] at o3
  rw [t1, t2]
  have hol : out.length ≤ 1000001 := by rw [o1]; clear t1 t2 hdm; omega
  have hon : out ≠ [] := List.length_pos_iff.1 (by rw [o1]; exact Nat.succ_pos _)
  refine Ev.bind o4 ?_
  have hup : nat_up.f out ((n / 64 : Nat) : Int) = some (List.replicate (n / 64) 0 ++ out) := up_g hon hol hn1
  rw [hup]
  refine Ev.congr (fun k => Option.bind_some _ _) ?_
  have hW : WF (List.replicate (n / 64) 0 ++ out) := (WF.zeros _).append o2
  have g := trim_ev hW (by rw [List.length_append, List.length_replicate]; clear t1 t2 hdm; omega)
  have e : nv (List.replicate (n / 64) 0 ++ out) = nv x * 2 ^ n := by
    rw [nv_append, nv_zeros, List.length_replicate, o3, hdm, Nat.zero_add]; grind
  rw [e] at g
  exact Ev.bind g (Ev.now _)

/-! ### Bits -/
theorem bits_limbs {t : List Int} {v : Nat} (ht : WF t) (hv : v ≠ 0) : bits (nv t + 18446744073709551616 ^ t.length * v) = 64 * t.length + bits v := by
  have hb : bits v ≠ 0 := by have := le_bits (n := v) (i := 0) (by rw [Nat.pow_zero]; omega); omega
  have h1 := lt_bits v
  have h2 := bits_le hb
  have h3 := nv_lt ht
  have e0 := pow_bits t.length 0
  rw [Nat.pow_zero, Nat.mul_one, Nat.add_zero] at e0
  rw [← e0] at h3 ⊢
  apply bits_unique
  · rw [Nat.pow_add]
    have h4 := Nat.mul_le_mul_left (2 ^ (64 * t.length)) (Nat.succ_le_of_lt h1)
    rw [Nat.succ_eq_add_one, Nat.mul_add, Nat.mul_one] at h4
    omega
  · refine .inr ?_
    have e : 64 * t.length + bits v - 1 = 64 * t.length + (bits v - 1) := by omega
    rw [e, Nat.pow_add]
    have h4 := Nat.mul_le_mul_left (2 ^ (64 * t.length)) h2
    omega
theorem natbits_ev {x : List Int} (hx : WF x) (hl : x.length ≤ 1000000) : Ev (fun k => nat_Bits.f k x) (bits (nv x) : Int) := by
  unfold nat_Bits.f
  refine Ev.bind (trim_ev hx (Nat.le_trans hl (by decide))) ?_
  have hla := limbs_length_le (nv_lt hx)
  generalize hae : nv x = a at *
  by_cases h : a = 0
  · subst h
    rw [limbs_zero]
    refine Ev.congr (fun k => if_pos rfl) ?_
    exact Ev.now _
  · obtain ⟨t, v, e, ht, hv, hv0⟩ := limbs_take_last h
    obtain ⟨w, rfl⟩ := Int.eq_ofNat_of_zero_le hv.1
    have hw : w < 18446744073709551616 := Int.ofNat_lt.1 hv.2
    have hw0 : w ≠ 0 := fun h => hv0 (by rw [h]; rfl)
    have hb := bits_limbs ht hw0
    have ea : a = nv t + 18446744073709551616 ^ t.length * w := by
      have h1 := nv_limbs a
      rw [e, nv_append, nv_one] at h1
      exact h1.symm
    rw [← ea] at hb
    have hlen : (limbs a).length = t.length + 1 := by rw [e, List.length_append]; rfl
    have hr : rd (limbs a) (t.length : Int) = (w : Int) := by
      have h2 : t.length < (limbs a).length := by rw [hlen]; exact Nat.lt_succ_self _
      rw [rd_of rfl h2]
      simp [e]
    have hb64 := bits_le64 hw
    have ht6 : t.length ≤ 1000000 := by clear ea hb; omega
    have e1 : wrap64 (((t.length + 1 : Nat) : Int) - 1) = (t.length : Int) := w64_pred (by clear ea hb; omega)
    have e2 : wrap64 (64 * (t.length : Int)) = ((64 * t.length : Nat) : Int) := by rw [w64_of (by clear ea hb e1; omega) (by clear ea hb e1; omega)]; clear ea hb e1; omega
    have e3 : wrap64 (((64 * t.length : Nat) : Int) + ((bits w : Nat) : Int)) = ((64 * t.length + bits w : Nat) : Int) := w64_add (by clear ea hb e1 e2; omega)
    rw [hlen, e1, hr, e2, hb]
    refine Ev.congr (fun k => if_neg (by clear ea hb e1 e2 e3; omega)) (Ev.congr (fun k => if_pos (Int.natCast_nonneg _)) (Ev.congr (fun k => if_pos (by clear ea hb e1 e2 e3; omega)) ?_))
    refine Ev.bind (len64_ev hw) ?_
    rw [e3]
    exact Ev.now _
end Go.Proofs.YtdomplmilbkaeaaDoor.Pure
