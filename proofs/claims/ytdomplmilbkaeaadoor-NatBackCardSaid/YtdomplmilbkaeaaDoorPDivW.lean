/-
  A number by a word: what nat.DivWord computes. Condition: the list is shorter than 2 to the 40th.
-/
import Derived.Test.YtdomplmilbkaeaaDoorPDiv64
import Derived.Test.YtdomplmilbkaeaaDoorGNx0
import Derived.Test.YtdomplmilbkaeaaDoorGNx2
namespace Go.Proofs.YtdomplmilbkaeaaDoor.Pure
open Go.RowKit Go.Proofs.YtdomplmilbkaeaaDoor.GN Go.Proofs.YtdomplmilbkaeaaDoorW.PrintWords Go.Proofs.YtdomplmilbkaeaaDoorW.PrintLast Go.Proofs.YtdomplmilbkaeaaDoorW.PrintMore
set_option linter.unusedVariables false
set_option linter.unusedSimpArgs false

theorem divw_l0 (x : List Int) (w W : Nat) (hx : WF x) (hl : x.length ≤ 274877906944) (h0 : 0 < w) (hw : w < 18446744073709551616) : ∀ (n : Nat) (out : List Int) (left : Nat), n ≤ x.length → out.length = x.length → WF out → left < w → nv (out.take n) = 0 → (nv out) * w + 18446744073709551616 ^ n * left + nv (x.take n) = nv x →
    Ev (fun k => nat_DivWord.l0 k x (w : Int) out (left : Int) ((n : Int) - 1)) (limbs (nv x / w), ((nv x % w : Nat) : Int), 0) := by
  intro n
  induction n with
  | zero =>
    intro out left hn ho hW hlt hz hv
    rw [List.take_zero, show nv [] = 0 from rfl, Nat.add_zero, Nat.pow_zero, Nat.one_mul] at hv
    have e1 : nv x / w = nv out := by rw [← hv, Nat.mul_comm, Nat.mul_add_div h0, Nat.div_eq_of_lt hlt, Nat.add_zero]
    have e2 : nv x % w = left := by rw [← hv, Nat.mul_comm, Nat.mul_add_mod, Nat.mod_eq_of_lt hlt]
    rw [e1, e2]
    refine Ev.step (f := fun k => (nat_trim.f k out).bind fun t121 => some (t121, (left : Int), 0)) (fun k => ?_) (Ev.bind (trim_ev hW (by rw [ho]; omega)) (Ev.now _))
    simp only [nat_DivWord.l0]
    rw [if_neg (by decide)]
  | succ n ih =>
    intro out left hn ho hW hlt hz hv
    have hn0 : n < x.length := hn
    have ho0 : n < out.length := by rw [ho]; exact hn
    have e0 : ((n + 1 : Nat) : Int) - 1 = (n : Int) := by omega
    have hr : rd x (n : Int) = x[n] := rd_of rfl hn0
    have hu := hx.get hn0
    have ht := nv_take_succ x n hn0
    have hzt := nv_take_succ out n ho0
    have hset := nv_set out n (((left * 18446744073709551616 + (x[n]).toNat) / w : Nat) : Int) ho0
    obtain ⟨a, ha⟩ := Int.eq_ofNat_of_zero_le hu.1
    have ha2 : a < 18446744073709551616 := by have := hu.2; rw [ha] at this; exact Int.ofNat_lt.1 this
    rw [ha] at hr ht hset
    rw [Int.toNat_natCast] at ht hset
    have g := d64_nat hlt hw ha2
    have hQ : (left * 18446744073709551616 + a) / w < 18446744073709551616 := by
      rw [Nat.div_lt_iff_lt_mul h0]; clear hv hset hzt ht hz; omega
    have hout0 : (out[n]).toNat = 0 := by
      rw [hzt] at hz
      have h1 := Nat.eq_zero_of_add_eq_zero_left hz
      rcases Nat.mul_eq_zero.1 h1 with h2 | h2
      · exact absurd h2 (Nat.pos_iff_ne_zero.1 (Nat.pow_pos (by decide)))
      · exact h2
    have hz' : nv (out.take n) = 0 := by rw [hzt] at hz; exact Nat.eq_zero_of_add_eq_zero_right hz
    rw [hout0, Nat.zero_mul, Nat.add_zero] at hset
    have hdm := Nat.div_add_mod (left * 18446744073709551616 + a) w
    have hrlt := Nat.mod_lt (left * 18446744073709551616 + a) h0
    generalize (left * 18446744073709551616 + a) / w = q at *
    generalize (left * 18446744073709551616 + a) % w = r at *
    rw [Int.toNat_natCast] at hset
    have hv' : nv (out.set n (q : Int)) * w + 18446744073709551616 ^ n * r + nv (x.take n) = nv x := by
      rw [hset, ← hv, ht, Nat.pow_succ]
      have e : 18446744073709551616 ^ n * (w * q + r) = 18446744073709551616 ^ n * (left * 18446744073709551616 + a) := by rw [hdm]
      generalize 18446744073709551616 ^ n = P at *
      clear hv ht hset hzt hz hdm
      grind
    have hzs : nv ((out.set n (q : Int)).take n) = 0 := by rw [List.take_set_of_le (Nat.le_refl n)]; exact hz'
    have hUq : U (q : Int) := ⟨Int.natCast_nonneg q, by exact Int.ofNat_lt.2 hQ⟩
    have ho1 : (n : Int) < (out.length : Int) := Int.ofNat_lt.2 ho0
    have e1 : wrap64 ((n : Int) - 1) = (n : Int) - 1 := w64_dec (by clear hv ht hset hzt hz hdm hv' e0; omega)
    refine Ev.step (f := fun k => (bits_Div64.f k (left : Int) (a : Int) (w : Int)).bind fun bt118 => if (n : Int) < (out.length : Int) then nat_DivWord.l0 k x (w : Int) (out.set n bt118.1) bt118.2 ((n : Int) - 1) else none) (fun k => ?_) (Ev.bind g (Ev.congr (fun k => if_pos ho1) (ih _ r (Nat.le_of_lt hn0) (by rw [List.length_set]; exact ho) (hW.set n hUq) hrlt hzs hv')))
    simp only [nat_DivWord.l0]
    rw [e0, if_pos (Int.natCast_nonneg n), if_pos (Int.natCast_nonneg n), if_pos (Int.ofNat_lt.2 hn0), hr, e1, Int.toNat_natCast]
theorem divw_ev {x : List Int} (hx : WF x) (hl : x.length ≤ 1000000) {w : Nat} (h0 : 0 < w) (hw : w < 18446744073709551616) : Ev (fun k => nat_DivWord.f k x (w : Int)) (limbs (nv x / w), ((nv x % w : Nat) : Int), 0) := by
  have g := divw_l0 x w 0 hx (by omega) h0 hw x.length (List.replicate x.length 0) 0 (Nat.le_refl _) (List.length_replicate ..) (WF.zeros _) h0 (by rw [List.take_replicate, nv_zeros]) (by rw [nv_zeros, List.take_length]; simp)
  unfold nat_DivWord.f
  refine Ev.congr (fun k => if_neg (by omega)) (Ev.congr (fun k => if_pos (Int.natCast_nonneg _)) (Ev.congr (fun k => if_pos (by omega)) ?_))
  rw [w64_dec (by omega), Int.toNat_natCast]
  exact g
theorem divw_zero (x : List Int) : Ev (fun k => nat_DivWord.f k x 0) ([], 0, 10) := by
  unfold nat_DivWord.f
  exact Ev.congr (fun k => if_pos rfl) (Ev.now _)
end Go.Proofs.YtdomplmilbkaeaaDoor.Pure
