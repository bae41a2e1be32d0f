/-
  What the printed functions of the reference compute on decimal digits: strip, turned, Word, digit, Add, Cmp. Conditions: no text is longer than 2 to the 30th.
-/
import Derived.Test.YtdomplmilbkaeaaDoorPDec
import Derived.Test.YtdomplmilbkaeaaDoorGNx0
import Derived.Test.YtdomplmilbkaeaaDoorGNx13
import Derived.Test.YtdomplmilbkaeaaDoorGNx9
namespace Go.Proofs.YtdomplmilbkaeaaDoor.Pure
open Go.RowKit Go.Proofs.YtdomplmilbkaeaaDoor.GN Go.Proofs.YtdomplmilbkaeaaDoorW.PrintWords Go.Proofs.YtdomplmilbkaeaaDoorW.PrintLast Go.Proofs.YtdomplmilbkaeaaDoorW.PrintMore
set_option linter.unusedVariables false
set_option linter.unusedSimpArgs false

/-! ### strip, turned -/
theorem tx_nil_iff (l : List UInt8) : (tx l).toList = ([] : List UInt8) ↔ l = [] := by rw [tx_toList]
theorem tx_48 : (⟨#[48]⟩ : ByteArray) = tx [48] := rfl
theorem ds_zero : ds 0 = [48] := by rw [ds_small (by decide)]; rfl
theorem dec_zero : dec 0 = tx [48] := by rw [dec, ds_zero]
theorem strip_l0 : ∀ (n k : Nat) (l : List UInt8), l.length ≤ n → n < k → DS l → vinculumref01_strip.l0 k (tx l) = some (dec (sv l)) := by
  intro n
  induction n with
  | zero =>
    intro k l hl hk hd
    obtain ⟨k, rfl⟩ : ∃ m, k = m + 1 := ⟨k - 1, by omega⟩
    have : l = [] := List.length_eq_zero_iff.1 (by omega)
    subst this
    simp only [vinculumref01_strip.l0]
    rw [tx_size, if_neg (by simp), if_pos (tx_toList []), sv_nil, dec_zero]; rfl
  | succ n ih =>
    intro k l hl hk hd
    obtain ⟨k, rfl⟩ : ∃ m, k = m + 1 := ⟨k - 1, by omega⟩
    simp only [vinculumref01_strip.l0]
    rw [tx_size]
    by_cases h1 : (l.length : Int) > 1
    · rw [if_pos h1, if_pos (by omega)]
      cases l with
      | nil => simp at h1
      | cons x xs =>
        have hb := tx_bt (x :: xs) 0 (by simp)
        have e0 : ((0 : Nat) : Int) = (0 : Int) := rfl
        rw [e0] at hb
        rw [hb]
        by_cases h2 : ((x.toNat : Nat) : Int) = 48
        · have h2' : (((x :: xs)[0]).toNat : Int) = 48 := h2
          rw [if_pos h2', if_pos (by omega), tx_extract]
          have e1 : (List.drop 1 (x :: xs)).take ((x :: xs).length - 1) = xs := by simp
          rw [e1, ih k xs (by simpa using hl) (by omega) hd.tail, sv_cons]
          have : x.toNat - 48 = 0 := by omega
          rw [this]; simp
        · have h2' : ¬ (((x :: xs)[0]).toNat : Int) = 48 := h2
          rw [if_neg h2', if_neg (by rw [tx_toList]; simp)]
          have e : x :: xs = ds (sv (x :: xs)) := ds_of hd (by simp) (.inr fun _ h3 => by
            rw [List.head_cons] at h3; subst h3; exact h2 rfl)
          rw [dec, ← e]
    · rw [if_neg h1]
      cases l with
      | nil => rw [if_pos (tx_toList []), sv_nil, dec_zero]; rfl
      | cons x xs =>
        have hx : xs = [] := List.length_eq_zero_iff.1 (by simp at h1; omega)
        subst hx
        rw [if_neg (by rw [tx_toList]; simp)]
        have e := ds_of hd (by simp) (.inl rfl)
        rw [dec, ← e]
theorem strip_ev {l : List UInt8} (hd : DS l) : Ev (fun k => vinculumref01_strip.f k (tx l)) (dec (sv l)) := ⟨l.length + 1, fun k hk => strip_l0 l.length k l (Nat.le_refl _) (by omega) hd⟩
/-- Digits as numbers, the lowest one first. -/
def DI (l : List Int) : Prop := ∀ x ∈ l, 48 ≤ x ∧ x ≤ 57
def by8 (l : List Int) : List UInt8 := l.map fun n => UInt8.ofNat n.toNat
theorem strOf_tx (l : List Int) : strOfNums l = tx (by8 l) := rfl
theorem turned_l0 (l : List Int) : ∀ (n k : Nat) (acc : List Int), n < k → n ≤ l.length → l.length ≤ 1099511627776 → acc.length + n ≤ 1099511627776 → vinculumref01_turned.l0 k l acc ((n : Int) - 1) = some (strOfNums (acc ++ (l.take n).reverse)) := by
  intro n
  induction n with
  | zero =>
    intro k acc hk _ _ _
    obtain ⟨k, rfl⟩ : ∃ m, k = m + 1 := ⟨k - 1, by omega⟩
    simp only [vinculumref01_turned.l0]
    rw [if_neg (by omega)]; simp
  | succ n ih =>
    intro k acc hk hn hl ha
    obtain ⟨k, rfl⟩ : ∃ m, k = m + 1 := ⟨k - 1, by omega⟩
    have e0 : ((n + 1 : Nat) : Int) - 1 = (n : Int) := by omega
    simp only [vinculumref01_turned.l0]
    rw [e0, if_pos (by omega), if_pos (by omega), if_pos (by omega), if_pos (by omega), w64_dec (by omega), ih k _ (by omega) (by omega) hl (by simp; omega), rd_of rfl (by omega)]
    have e := List.take_succ_eq_append_getElem (l := l) (i := n) (by omega)
    rw [e, List.reverse_append]
    simp
theorem turned_ev {l : List Int} (hl : l.length ≤ 1099511627776) : Ev (fun k => vinculumref01_turned.f k l) (strOfNums l.reverse) := ⟨l.length + 1, fun k hk => by
  show vinculumref01_turned.l0 k l [] _ = _
  rw [w64_dec (by omega), turned_l0 l l.length k [] (by omega) (Nat.le_refl _) hl (by simpa using hl)]
  simp⟩
/-- The number of digits, the lowest one first. -/
def dv : List Int → Nat
  | [] => 0
  | x :: xs => (x.toNat - 48) + 10 * dv xs
theorem DI.tail {x : Int} {l : List Int} (h : DI (x :: l)) : DI l := fun b hb => h b (by simp [hb])
theorem DI.snoc {l : List Int} {x : Int} (h : DI l) (hx : 48 ≤ x ∧ x ≤ 57) : DI (l ++ [x]) := fun b hb => by
  rcases List.mem_append.1 hb with h' | h'
  · exact h b h'
  · rw [List.mem_singleton.1 h']; exact hx
theorem dv_snoc (l : List Int) (x : Int) : dv (l ++ [x]) = dv l + 10 ^ l.length * (x.toNat - 48) := by
  induction l with
  | nil => simp [dv]
  | cons y ys ih => simp only [List.cons_append, dv, ih, List.length_cons, Nat.pow_succ]; grind
theorem dv_lt {l : List Int} (h : DI l) : dv l < 10 ^ l.length := by
  induction l with
  | nil => simp [dv]
  | cons x xs ih =>
    have h1 := ih h.tail
    have h2 := h x (by simp)
    simp only [dv, List.length_cons, Nat.pow_succ]
    generalize 10 ^ xs.length = P at *
    omega
theorem by8_DS {l : List Int} (h : DI l) : DS (by8 l) := fun b hb => by
  obtain ⟨x, hx, rfl⟩ := List.mem_map.1 hb
  have := h x hx
  rw [UInt8.toNat_ofNat']; omega
theorem by8_reverse (l : List Int) : by8 l.reverse = (by8 l).reverse := by simp [by8]
theorem sv_by8_reverse {l : List Int} (h : DI l) : sv (by8 l.reverse) = dv l := by
  induction l with
  | nil => rfl
  | cons x xs ih =>
    have h2 := h x (by simp)
    have : by8 (x :: xs).reverse = by8 xs.reverse ++ [UInt8.ofNat x.toNat] := by simp [by8]
    rw [this, sv_snoc, ih h.tail, UInt8.toNat_ofNat', dv]
    omega
/-- What is printed out of digits, the lowest one first. -/
theorem out_ev {l : List Int} (h : DI l) (hl : l.length ≤ 1099511627776) : Ev (fun k => (vinculumref01_turned.f k l).bind fun t => (vinculumref01_strip.f k t).bind fun u => some u) (dec (dv l)) := by
  refine Ev.bind (turned_ev hl) ?_
  rw [strOf_tx]
  have hd : DS (by8 l.reverse) := by8_DS (fun x hx => h x (by simpa using hx))
  refine Ev.bind (strip_ev hd) ?_
  rw [sv_by8_reverse h]
  exact Ev.now _

/-! ### digit -/
theorem dec_size (n : Nat) : (dec n).size = (ds n).length := tx_size _
theorem digit_f (n i : Nat) (hl : (ds n).length ≤ 1099511627776) : vinculumref01_digit.f (dec n) (i : Int) = some ((n / 10 ^ i % 10 : Nat) : Int) := by
  unfold vinculumref01_digit.f
  rw [dec_size]
  by_cases h : (i : Int) ≥ ((ds n).length : Int)
  · rw [if_pos h]
    have h1 : n < 10 ^ i := Nat.lt_of_lt_of_le (lt_pow_ds n) (Nat.pow_le_pow_right (by decide) (by omega))
    rw [Nat.div_eq_of_lt h1]; rfl
  · rw [if_neg h]
    have e : wrap64 ((wrap64 (((ds n).length : Int) - 1)) - (i : Int)) = (((ds n).length - 1 - i : Nat) : Int) := by
      rw [w64_dec (by omega), w64_of (by omega) (by omega)]; omega
    rw [e, if_pos (by omega), if_pos (by omega)]
    have hb := tx_bt (ds n) ((ds n).length - 1 - i) (by omega)
    have hg := ds_get n i (by omega)
    rw [show dec n = tx (ds n) from rfl, hb, hg]
    congr 1
    omega

/-! ### Add -/
theorem mod_pow_step (a i : Nat) : a % 10 ^ (i + 1) = a % 10 ^ i + 10 ^ i * (a / 10 ^ i % 10) := by
  rw [Nat.pow_succ, Nat.mod_mul]
theorem mod_all {a i : Nat} (h : (ds a).length ≤ i) : a % 10 ^ i = a := Nat.mod_eq_of_lt (Nat.lt_of_lt_of_le (lt_pow_ds a) (Nat.pow_le_pow_right (by decide) h))
theorem div_all {a i : Nat} (h : (ds a).length ≤ i) : a / 10 ^ i = 0 := Nat.div_eq_of_lt (Nat.lt_of_lt_of_le (lt_pow_ds a) (Nat.pow_le_pow_right (by decide) h))
theorem digit_byte {n : Nat} (h : n < 1000000000000000000) : (wrap64 (48 + (Int.tmod (n : Int) 10))) % 256 = ((48 + n % 10 : Nat) : Int) := by
  rw [Int.tmod_eq_emod_of_nonneg (by omega), w64_of (by omega) (by omega)]; omega
theorem digit_carry {n : Nat} (h : n < 1000000000000000000) : wrap64 (Int.tdiv (n : Int) 10) = ((n / 10 : Nat) : Int) := by
  rw [Int.tdiv_eq_ediv_of_nonneg (by omega), w64_of (by omega) (by omega)]; omega
theorem w64_sum {x y : Nat} (h : x + y < 1000000000000000000) : wrap64 ((x : Int) + (y : Int)) = ((x + y : Nat) : Int) := by
  rw [w64_of (by omega) (by omega)]; omega
/-- One more digit behind those laid. -/
theorem dv_step {out : List Int} {i : Nat} (ho : out.length = i) (m : Nat) (hm : m < 10) : dv (out ++ [((48 + m : Nat) : Int)]) = dv out + 10 ^ i * m := by
  rw [dv_snoc, ho]
  have : ((48 + m : Nat) : Int).toNat - 48 = m := by omega
  rw [this]
theorem DI.step {out : List Int} (h : DI out) {m : Nat} (hm : m < 10) : DI (out ++ [((48 + m : Nat) : Int)]) := h.snoc ⟨by omega, by omega⟩
theorem carry_dec (P n : Nat) : P * (n % 10) + P * 10 * (n / 10) = P * n := by
  have := Nat.mod_add_div n 10
  calc P * (n % 10) + P * 10 * (n / 10) = P * (n % 10 + 10 * (n / 10)) := by grind
    _ = P * n := by rw [this]
theorem add_inv (a b i c : Nat) (v : Nat) (hv : v + 10 ^ i * c = a % 10 ^ i + b % 10 ^ i) :
    v + 10 ^ i * ((a / 10 ^ i % 10 + b / 10 ^ i % 10 + c) % 10) + 10 ^ (i + 1) * ((a / 10 ^ i % 10 + b / 10 ^ i % 10 + c) / 10) = a % 10 ^ (i + 1) + b % 10 ^ (i + 1) := by
  rw [mod_pow_step a i, mod_pow_step b i, Nat.pow_succ]
  have h := carry_dec (10 ^ i) (a / 10 ^ i % 10 + b / 10 ^ i % 10 + c)
  have e : 10 ^ i * (a / 10 ^ i % 10 + b / 10 ^ i % 10 + c) = 10 ^ i * (a / 10 ^ i % 10) + 10 ^ i * (b / 10 ^ i % 10) + 10 ^ i * c := by rw [Nat.mul_add, Nat.mul_add]
  rw [e] at h
  generalize 10 ^ i * ((a / 10 ^ i % 10 + b / 10 ^ i % 10 + c) % 10) = A at *
  generalize 10 ^ i * 10 * ((a / 10 ^ i % 10 + b / 10 ^ i % 10 + c) / 10) = D at *
  generalize 10 ^ i * (a / 10 ^ i % 10) = E at *
  generalize 10 ^ i * (b / 10 ^ i % 10) = F at *
  generalize 10 ^ i * c = G at *
  generalize a % 10 ^ i = H at *
  generalize b % 10 ^ i = I at *
  omega
theorem sum3 {x y c : Nat} (hx : x < 10) (hy : y < 10) (hc : c ≤ 1) : wrap64 ((x : Int) + (y : Int)) = ((x + y : Nat) : Int) ∧ wrap64 (((x + y : Nat) : Int) + (c : Int)) = ((x + y + c : Nat) : Int) ∧ x + y + c < 1000000000000000000 ∧ (x + y + c) / 10 ≤ 1 := ⟨w64_sum (by omega), w64_sum (by omega), by omega, by omega⟩
theorem add_ref_l0 (a b M : Nat) (la : (ds a).length ≤ M) (lb : (ds b).length ≤ M) (hM : M = (ds a).length ∨ M = (ds b).length) (hMs : M ≤ 1000000000) : ∀ (d i : Nat) (out : List Int) (c : Nat), M + 2 - i = d → out.length = i → i ≤ M + 1 → DI out → c ≤ 1 → dv out + 10 ^ i * c = a % 10 ^ i + b % 10 ^ i → (M < i → c = 0) →
    Ev (fun k => vinculumref01_Add.l0 k (dec a) (dec b) out (c : Int) (i : Int)) (dec (a + b)) := by
  intro d
  induction d with
  | zero => intro i out c hd ho hi; omega
  | succ d ih =>
    intro i out c hd ho hi hD hc hv hlast
    have go : i ≤ M → Ev (fun k => vinculumref01_Add.j1 k (dec a) (dec b) out (c : Int) (i : Int) true) (dec (a + b)) := by
      intro hiM
      have hx : a / 10 ^ i % 10 < 10 := Nat.mod_lt _ (by decide)
      have hy : b / 10 ^ i % 10 < 10 := Nat.mod_lt _ (by decide)
      have hv' := add_inv a b i c (dv out) hv
      have h3 := sum3 hx hy hc
      have h0 : i = M → (a / 10 ^ i % 10 + b / 10 ^ i % 10 + c) / 10 = 0 := fun h => by
        rw [div_all (a := a) (by rw [h]; exact la), div_all (a := b) (by rw [h]; exact lb)]; exact Nat.div_eq_of_lt (by clear hv hv' hx hy h3; omega)
      have e1 : wrap64 ((i : Int) + 1) = ((i + 1 : Nat) : Int) := w64_succ (by clear hv hv' hx hy h0 h3; omega)
      have ol : out.length < 140737488355328 := by clear hv hv' hx hy h0 h3; omega
      have da : (ds a).length ≤ 1099511627776 := by clear hv hv' hx hy h0 h3; omega
      have db : (ds b).length ≤ 1099511627776 := by clear hv hv' hx hy h0 h3; omega
      have hi' : M + 2 - (i + 1) = d := by clear hv hv' hx hy h0 h3; omega
      have hl' : (out ++ [((48 + (a / 10 ^ i % 10 + b / 10 ^ i % 10 + c) % 10 : Nat) : Int)]).length = i + 1 := by rw [List.length_append, ho]; rfl
      have hlt : (a / 10 ^ i % 10 + b / 10 ^ i % 10 + c) % 10 < 10 := Nat.mod_lt _ (by decide)
      have g := ih (i + 1) (out ++ [((48 + (a / 10 ^ i % 10 + b / 10 ^ i % 10 + c) % 10 : Nat) : Int)]) ((a / 10 ^ i % 10 + b / 10 ^ i % 10 + c) / 10) hi' hl' (Nat.succ_le_succ hiM) (hD.step hlt) h3.2.2.2 (by rw [dv_step ho _ hlt]; exact hv') (fun h => h0 (by clear hv hv' hx hy h0 h3; omega))
      obtain ⟨es, es2, hn, -⟩ := h3
      refine Ev.step (f := fun k => vinculumref01_Add.l0 k (dec a) (dec b) (out ++ [((48 + (a / 10 ^ i % 10 + b / 10 ^ i % 10 + c) % 10 : Nat) : Int)]) (((a / 10 ^ i % 10 + b / 10 ^ i % 10 + c) / 10 : Nat) : Int) ((i + 1 : Nat) : Int)) (fun k => ?_) g
      simp only [vinculumref01_Add.j1]
      rw [if_pos trivial, digit_f a i da, digit_f b i db]
      rw [Option.bind_some, Option.bind_some]
      rw [if_pos ol, es, es2, digit_byte hn, digit_carry hn, e1]
    have stop : M ≤ i → c = 0 → Ev (fun k => vinculumref01_Add.j1 k (dec a) (dec b) out (c : Int) (i : Int) false) (dec (a + b)) := by
      intro h1 h2
      have e : dv out = a + b := by rw [h2, Nat.mul_zero, Nat.add_zero, mod_all (Nat.le_trans la h1), mod_all (Nat.le_trans lb h1)] at hv; exact hv
      rw [← e]
      exact Ev.step (fun k => by simp only [vinculumref01_Add.j1]; exact if_neg (by decide)) (out_ev hD (by clear hv e; omega))
    by_cases h1 : (i : Int) < ((ds a).length : Int)
    · exact Ev.step (fun k => by simp only [vinculumref01_Add.l0]; rw [dec_size, dec_size]; exact if_pos h1) (go (by clear hv; omega))
    · by_cases h2 : (i : Int) < ((ds b).length : Int)
      · exact Ev.step (fun k => by simp only [vinculumref01_Add.l0]; rw [dec_size, dec_size, if_neg h1]; exact if_pos h2) (go (by clear hv; omega))
      · by_cases h3 : (c : Int) > 0
        · exact Ev.step (fun k => by simp only [vinculumref01_Add.l0]; rw [dec_size, dec_size, if_neg h1, if_neg h2, decide_eq_true h3]) (go (by clear hv; omega))
        · exact Ev.step (fun k => by simp only [vinculumref01_Add.l0]; rw [dec_size, dec_size, if_neg h1, if_neg h2, decide_eq_false h3]) (stop (by clear hv; omega) (by clear hv; omega))
theorem ref_add {a b : Nat} (la : (ds a).length ≤ 1000000000) (lb : (ds b).length ≤ 1000000000) : Ev (fun k => vinculumref01_Add.f k (dec a) (dec b)) (dec (a + b)) := by
  have g := add_ref_l0 a b (max (ds a).length (ds b).length) (Nat.le_max_left _ _) (Nat.le_max_right _ _) (by omega) (by omega) _ 0 [] 0 rfl rfl (by omega) (fun x h => by cases h) (by omega) (by simp [dv, Nat.mod_one]) (fun _ => rfl)
  exact g

/-! ### Cmp -/
theorem bytes_lt : ∀ (x y : List UInt8), DS x → DS y → x.length = y.length → Op.bytesLess x y = decide (sv x < sv y)
  | [], [], _, _, _ => by simp [Op.bytesLess]
  | a :: x, [], _, _, h => by simp at h
  | [], b :: y, _, _, h => by simp at h
  | a :: x, b :: y, hx, hy, h => by
    have ih := bytes_lt x y hx.tail hy.tail (by simpa using h)
    have h1 := hx.head; have h2 := hy.head
    have l1 := sv_lt hx.tail; have l2 := sv_lt hy.tail
    have hl : x.length = y.length := by simpa using h
    rw [sv_cons, sv_cons, hl]
    rw [hl] at l1
    rw [Op.bytesLess, ih]
    generalize 10 ^ y.length = P at *
    rcases Nat.lt_trichotomy a.toNat b.toNat with h3 | h3 | h3
    · have e1 : decide (a < b) = true := decide_eq_true (UInt8.lt_iff_toNat_lt.2 h3)
      have h4 := Nat.mul_le_mul_right P (show a.toNat - 48 + 1 ≤ b.toNat - 48 by omega)
      rw [Nat.add_mul, Nat.one_mul] at h4
      have e2 : (a.toNat - 48) * P + sv x < (b.toNat - 48) * P + sv y := by omega
      simp [e1, e2, UInt8.lt_iff_toNat_lt.2 h3]
    · have e0 : a = b := UInt8.toNat.inj h3
      subst e0
      simp
    · have e1 : ¬ a < b := fun h5 => by have := UInt8.lt_iff_toNat_lt.1 h5; omega
      have h4 := Nat.mul_le_mul_right P (show b.toNat - 48 + 1 ≤ a.toNat - 48 by omega)
      rw [Nat.add_mul, Nat.one_mul] at h4
      have e2 : ¬ (a.toNat - 48) * P + sv x < (b.toNat - 48) * P + sv y := by omega
      have e3 : a ≠ b := fun h5 => by subst h5; omega
      simp [e1, e2, e3]
end Go.Proofs.YtdomplmilbkaeaaDoor.Pure
