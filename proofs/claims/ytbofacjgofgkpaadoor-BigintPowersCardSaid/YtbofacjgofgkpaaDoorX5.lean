/-
  Texts of this proof, one behind the other: RRefA, RText, RRefB, RRefC, RRefD, RRefE, RInt, RRef2, RPow, RBigA, RBigB, RBigC, RLaw. No condition of their own.
-/
import Derived.Test.YtbofacjgofgkpaaDoorX4
section
/-
  What the reference computes on decimal digits: strip, turned, digit, Add, Cmp. Conditions: no text is longer than 2 to the 30th.
-/
namespace Go.Proofs.YtbofacjgofgkpaaDoor.Pure
open Go.RowKit Go.Proofs.YtbofacjgofgkpaaDoor.F Go.Proofs.YtbofacjgofgkpaaDoorW.PrintWords Go.Proofs.YtbofacjgofgkpaaDoorW.PrintLast Go.Proofs.YtbofacjgofgkpaaDoorW.PrintMore
open Go.Proofs.YtbofacjgofgkpaaDoor.E (tEq tLt tApp tCut tEq_eq tLt_eq tApp_eq tCut_eq tEq0 tLt0)
set_option linter.unusedVariables false
set_option linter.unusedSimpArgs false
/-! ### texts -/
theorem tEq_tx (a b : List UInt8) : tEq (tx a) (tx b) = decide (a = b) := by rw [tEq_eq]; unfold tEq0; rw [tx_toList, tx_toList]
theorem tEq_yes {a b : List UInt8} (h : a = b) : tEq (tx a) (tx b) = true := by rw [tEq_tx]; exact decide_eq_true h
theorem tEq_no {a b : List UInt8} (h : a ≠ b) : ¬ tEq (tx a) (tx b) = true := by rw [tEq_tx, decide_eq_true_iff]; exact h
theorem tLt_tx (a b : List UInt8) : tLt (tx a) (tx b) = Op.bytesLess a b := by rw [tLt_eq]; unfold tLt0; rw [tx_toList, tx_toList]
theorem tCut_tx (l : List UInt8) (a b : Nat) : tCut (tx l) a b = tx ((l.drop a).take (b - a)) := by rw [tCut_eq, tx_extract]
theorem tApp_tx (a b : List UInt8) : tApp (tx a) (tx b) = tx (a ++ b) := by rw [tApp_eq, tx_append]
theorem mk_nil : (ByteArray.mk (Array.mk []) : ByteArray) = tx [] := rfl
theorem mk_48 : (ByteArray.mk (Array.mk [48]) : ByteArray) = tx [48] := rfl
theorem mk_49 : (ByteArray.mk (Array.mk [49]) : ByteArray) = tx [49] := rfl
theorem mk_45 : (ByteArray.mk (Array.mk [45]) : ByteArray) = tx [45] := rfl
theorem tx_48 : (⟨#[48]⟩ : ByteArray) = tx [48] := rfl
theorem ds_zero : ds 0 = [48] := by rw [ds_small (by decide)]; rfl
theorem dec_zero : dec 0 = tx [48] := by rw [dec, ds_zero]
theorem strip_end {l : List UInt8} (h : l = [] ∨ l = ds (sv l)) : Ev (fun k => if tEq (tx l) (tx []) = true then some (tx [48]) else some (tx l)) (dec (sv l)) := by
  by_cases h0 : l = []
  · subst h0
    exact Ev.pos (tEq_yes rfl) (Ev.ret (by rw [sv_nil, dec_zero]))
  · refine Ev.neg (tEq_no h0) (Ev.ret ?_)
    rw [dec, ← h.resolve_left h0]
theorem strip_l1 : ∀ (l : List UInt8), DS l → Ev (fun k => vinculumref01_strip.l1 k (tx l)) (dec (sv l))
  | [], hd => by
    refine Ev.step (fun k => vinculumref01_strip.l1_eq ..) ?_
    rw [tx_size, mk_nil, mk_48]
    exact Ev.neg (by simp) (strip_end (.inl rfl))
  | x :: xs, hd => by
    have g := strip_l1 xs hd.tail
    refine Ev.step (fun k => vinculumref01_strip.l1_eq ..) ?_
    rw [tx_size, mk_nil, mk_48]
    by_cases h1 : ((x :: xs).length : Int) > 1
    · have hb : bt (tx (x :: xs)) 0 = ((x.toNat : Nat) : Int) := tx_bt (x :: xs) 0 (by simp)
      rw [hb, tCut_tx]
      refine Ev.pos h1 (Ev.pos (by omega) ?_)
      by_cases h2 : ((x.toNat : Nat) : Int) = 48
      · refine Ev.pos h2 (Ev.pos (by omega) ?_)
        have e1 : (List.drop (1 : Int).toNat (x :: xs)).take ((x :: xs).length - (1 : Int).toNat) = xs := by
          show (List.drop 1 (x :: xs)).take ((x :: xs).length - 1) = xs
          simp
        have e2 : x.toNat - 48 = 0 := by omega
        rw [e1, sv_cons, e2, Nat.zero_mul, Nat.zero_add]
        exact g
      · exact Ev.neg h2 (strip_end (.inr (ds_of hd (by simp) (.inr fun _ h3 => by rw [List.head_cons] at h3; subst h3; exact h2 rfl))))
    · have hx : xs = [] := List.length_eq_zero_iff.1 (by simp at h1; omega)
      subst hx
      exact Ev.neg h1 (strip_end (.inr (ds_of hd (by simp) (.inl rfl))))
theorem strip_ev {l : List UInt8} (hd : DS l) : Ev (fun k => vinculumref01_strip.f k (tx l)) (dec (sv l)) := Ev.congr (fun k => vinculumref01_strip.f_eq ..) (strip_l1 l hd)
/-- Digits as numbers, the lowest one first. -/
def DI (l : List Int) : Prop := ∀ x ∈ l, 48 ≤ x ∧ x ≤ 57
def by8 (l : List Int) : List UInt8 := l.map fun n => UInt8.ofNat n.toNat
theorem strOf_tx (l : List Int) : strOfNums l = tx (by8 l) := rfl
theorem turned_l3 (l : List Int) (hl : l.length ≤ 1099511627776) : ∀ (n : Nat) (acc : List Int), n ≤ l.length → acc.length + n ≤ 1099511627776 → Ev (fun k => vinculumref01_turned.l3 k l acc ((n : Int) - 1)) (strOfNums (acc ++ (l.take n).reverse))
  | 0, acc, _, ha => Ev.step (fun k => vinculumref01_turned.l3_eq ..) (Ev.neg (by omega) (Ev.pos (by omega) (Ev.ret (by simp))))
  | n + 1, acc, hn, ha => by
    have g := turned_l3 l hl n (acc ++ [rd l (n : Int)]) (by omega) (by simp; omega)
    have e0 : ((n + 1 : Nat) : Int) - 1 = (n : Int) := by omega
    have e := List.take_succ_eq_append_getElem (l := l) (i := n) (by omega)
    rw [← w64_dec (a := n) (by omega)] at g
    refine Ev.step (fun k => vinculumref01_turned.l3_eq ..) ?_
    rw [e0, e, List.reverse_append]
    refine Ev.pos (by omega) (Ev.pos (by omega) (Ev.pos (by omega) (Ev.pos (by simp; omega) ?_)))
    rw [rd_of rfl (show n < l.length by omega)] at g ⊢
    simpa using g
theorem turned_ev {l : List Int} (hl : l.length ≤ 1099511627776) : Ev (fun k => vinculumref01_turned.f k l) (strOfNums l.reverse) := by
  have g := turned_l3 l hl l.length [] (Nat.le_refl _) (by simpa using hl)
  rw [List.take_length, List.nil_append, ← w64_dec (by omega)] at g
  exact Ev.congr (fun k => vinculumref01_turned.f_eq ..) g
/-- The number of digits, the lowest one first. -/
def dv : List Int → Nat
  | [] => 0
  | x :: xs => (x.toNat - 48) + 10 * dv xs
theorem DI.tail {x : Int} {l : List Int} (h : DI (x :: l)) : DI l := fun b hb => h b (by simp [hb])
theorem DI.snoc {l : List Int} {x : Int} (h : DI l) (hx : 48 ≤ x ∧ x ≤ 57) : DI (l ++ [x]) := fun b hb => by
  rcases List.mem_append.1 hb with h' | h'
  · exact h b h'
  · rw [List.mem_singleton.1 h']; exact hx
theorem dv_snoc (l : List Int) (x : Int) : dv (l ++ [x]) = dv l + 10 ^ l.length * (x.toNat - 48) := by
  induction l with
  | nil => simp [dv]
  | cons y ys ih => simp only [List.cons_append, dv, ih, List.length_cons, Nat.pow_succ]; grind
theorem dv_lt {l : List Int} (h : DI l) : dv l < 10 ^ l.length := by
  induction l with
  | nil => simp [dv]
  | cons x xs ih =>
    have h1 := ih h.tail
    have h2 := h x (by simp)
    simp only [dv, List.length_cons, Nat.pow_succ]
    generalize 10 ^ xs.length = P at *
    omega
theorem by8_DS {l : List Int} (h : DI l) : DS (by8 l) := fun b hb => by
  obtain ⟨x, hx, rfl⟩ := List.mem_map.1 hb
  have := h x hx
  rw [UInt8.toNat_ofNat']; omega
theorem by8_reverse (l : List Int) : by8 l.reverse = (by8 l).reverse := by simp [by8]
theorem sv_by8_reverse {l : List Int} (h : DI l) : sv (by8 l.reverse) = dv l := by
  induction l with
  | nil => rfl
  | cons x xs ih =>
    have h2 := h x (by simp)
    have : by8 (x :: xs).reverse = by8 xs.reverse ++ [UInt8.ofNat x.toNat] := by simp [by8]
    rw [this, sv_snoc, ih h.tail, UInt8.toNat_ofNat', dv]
    omega
/-- What is printed out of digits, the lowest one first. -/
theorem out_ev {l : List Int} (h : DI l) (hl : l.length ≤ 1099511627776) : Ev (fun k => (vinculumref01_turned.f k l).bind fun t => (vinculumref01_strip.f k t).bind fun u => some u) (dec (dv l)) := by
  refine Ev.bind (turned_ev hl) ?_
  rw [strOf_tx]
  have hd : DS (by8 l.reverse) := by8_DS (fun x hx => h x (by simpa using hx))
  refine Ev.bind (strip_ev hd) ?_
  rw [sv_by8_reverse h]
  exact Ev.now _

/-! ### digit -/
theorem dec_size (n : Nat) : (dec n).size = (ds n).length := tx_size _
theorem digit_ev (n i : Nat) (hl : (ds n).length ≤ 1099511627776) : Ev (fun k => vinculumref01_digit.f k (dec n) (i : Int)) ((n / 10 ^ i % 10 : Nat) : Int) := by
  refine Ev.congr (fun k => vinculumref01_digit.f_eq ..) ?_
  rw [dec_size]
  by_cases h : (i : Int) ≥ ((ds n).length : Int)
  · refine Ev.pos h (Ev.ret ?_)
    have h1 : n < 10 ^ i := Nat.lt_of_lt_of_le (lt_pow_ds n) (Nat.pow_le_pow_right (by decide) (by omega))
    rw [Nat.div_eq_of_lt h1]; rfl
  · have hb := tx_bt (ds n) ((ds n).length - 1 - i) (by omega)
    have hg := ds_get n i (by omega)
    have hm : n / 10 ^ i % 10 < 10 := Nat.mod_lt _ (by decide)
    have e : wrap64 ((wrap64 (((ds n).length : Int) - 1)) - (i : Int)) = (((ds n).length - 1 - i : Nat) : Int) := by
      rw [w64_dec (by omega), w64_of (by omega) (by omega)]; omega
    rw [e, show dec n = tx (ds n) from rfl, hb, hg]
    clear e hb hg
    refine Ev.neg h (Ev.pos (by omega) (Ev.pos (by omega) (Ev.ret ?_)))
    generalize n / 10 ^ i % 10 = m at *
    have e2 : (((48 + m : Nat) : Int) - 48) % 256 = (m : Int) := by omega
    rw [e2, w64_nat (by omega)]

/-! ### Add -/
theorem mod_pow_step (a i : Nat) : a % 10 ^ (i + 1) = a % 10 ^ i + 10 ^ i * (a / 10 ^ i % 10) := by
  rw [Nat.pow_succ, Nat.mod_mul]
theorem mod_all {a i : Nat} (h : (ds a).length ≤ i) : a % 10 ^ i = a := Nat.mod_eq_of_lt (Nat.lt_of_lt_of_le (lt_pow_ds a) (Nat.pow_le_pow_right (by decide) h))
theorem div_all {a i : Nat} (h : (ds a).length ≤ i) : a / 10 ^ i = 0 := Nat.div_eq_of_lt (Nat.lt_of_lt_of_le (lt_pow_ds a) (Nat.pow_le_pow_right (by decide) h))
theorem digit_byte {n : Nat} (h : n < 1000000000000000000) : (wrap64 (48 + (Int.tmod (n : Int) 10))) % 256 = ((48 + n % 10 : Nat) : Int) := by
  rw [Int.tmod_eq_emod_of_nonneg (by omega), w64_of (by omega) (by omega)]; omega
theorem digit_carry {n : Nat} (h : n < 1000000000000000000) : wrap64 (Int.tdiv (n : Int) 10) = ((n / 10 : Nat) : Int) := by
  rw [Int.tdiv_eq_ediv_of_nonneg (by omega), w64_of (by omega) (by omega)]; omega
theorem w64_sum {x y : Nat} (h : x + y < 1000000000000000000) : wrap64 ((x : Int) + (y : Int)) = ((x + y : Nat) : Int) := by
  rw [w64_of (by omega) (by omega)]; omega
/-- One more digit behind those laid. -/
theorem dv_step {out : List Int} {i : Nat} (ho : out.length = i) (m : Nat) (hm : m < 10) : dv (out ++ [((48 + m : Nat) : Int)]) = dv out + 10 ^ i * m := by
  rw [dv_snoc, ho]
  have : ((48 + m : Nat) : Int).toNat - 48 = m := by omega
  rw [this]
theorem DI.step {out : List Int} (h : DI out) {m : Nat} (hm : m < 10) : DI (out ++ [((48 + m : Nat) : Int)]) := h.snoc ⟨by omega, by omega⟩
theorem carry_dec (P n : Nat) : P * (n % 10) + P * 10 * (n / 10) = P * n := by
  have := Nat.mod_add_div n 10
  calc P * (n % 10) + P * 10 * (n / 10) = P * (n % 10 + 10 * (n / 10)) := by grind
    _ = P * n := by rw [this]
theorem add_inv (a b i c : Nat) (v : Nat) (hv : v + 10 ^ i * c = a % 10 ^ i + b % 10 ^ i) :
    v + 10 ^ i * ((a / 10 ^ i % 10 + b / 10 ^ i % 10 + c) % 10) + 10 ^ (i + 1) * ((a / 10 ^ i % 10 + b / 10 ^ i % 10 + c) / 10) = a % 10 ^ (i + 1) + b % 10 ^ (i + 1) := by
  rw [mod_pow_step a i, mod_pow_step b i, Nat.pow_succ]
  have h := carry_dec (10 ^ i) (a / 10 ^ i % 10 + b / 10 ^ i % 10 + c)
  have e : 10 ^ i * (a / 10 ^ i % 10 + b / 10 ^ i % 10 + c) = 10 ^ i * (a / 10 ^ i % 10) + 10 ^ i * (b / 10 ^ i % 10) + 10 ^ i * c := by rw [Nat.mul_add, Nat.mul_add]
  rw [e] at h
  generalize 10 ^ i * ((a / 10 ^ i % 10 + b / 10 ^ i % 10 + c) % 10) = A at *
  generalize 10 ^ i * 10 * ((a / 10 ^ i % 10 + b / 10 ^ i % 10 + c) / 10) = D at *
  generalize 10 ^ i * (a / 10 ^ i % 10) = E at *
  generalize 10 ^ i * (b / 10 ^ i % 10) = F at *
  generalize 10 ^ i * c = G at *
  generalize a % 10 ^ i = H at *
  generalize b % 10 ^ i = I at *
  omega
theorem sum3 {x y c : Nat} (hx : x < 10) (hy : y < 10) (hc : c ≤ 1) : wrap64 ((x : Int) + (y : Int)) = ((x + y : Nat) : Int) ∧ wrap64 (((x + y : Nat) : Int) + (c : Int)) = ((x + y + c : Nat) : Int) ∧ x + y + c < 1000000000000000000 ∧ (x + y + c) / 10 ≤ 1 := ⟨w64_sum (by omega), w64_sum (by omega), by omega, by omega⟩
theorem add_ref_l4 (a b M : Nat) (la : (ds a).length ≤ M) (lb : (ds b).length ≤ M) (hM : M = (ds a).length ∨ M = (ds b).length) (hMs : M ≤ 1000000000) : ∀ (d i : Nat) (out : List Int) (c : Nat), M + 2 - i = d → out.length = i → i ≤ M + 1 → DI out → c ≤ 1 → dv out + 10 ^ i * c = a % 10 ^ i + b % 10 ^ i → (M < i → c = 0) →
    Ev (fun k => vinculumref01_Add.l4 k (dec a) (dec b) out (c : Int) (i : Int)) (dec (a + b)) := by
  intro d
  induction d with
  | zero => intro i out c hd ho hi; omega
  | succ d ih =>
    intro i out c hd ho hi hD hc hv hlast
    have go : i ≤ M → Ev (fun k => (vinculumref01_digit.f k (dec a) (i : Int)).bind fun t0 => ((vinculumref01_digit.f k (dec b) (i : Int)).bind fun t1 => (if (out.length + ([((wrap64 (48 + (Int.tmod (wrap64 ((wrap64 (t0 + t1)) + (c : Int))) 10))) % 256)] : List Int).length) ≤ 140737488355328 then vinculumref01_Add.l4 k (dec a) (dec b) (out ++ ([((wrap64 (48 + (Int.tmod (wrap64 ((wrap64 (t0 + t1)) + (c : Int))) 10))) % 256)] : List Int)) (wrap64 (Int.tdiv (wrap64 ((wrap64 (t0 + t1)) + (c : Int))) 10)) (wrap64 ((i : Int) + 1)) else none))) (dec (a + b)) := by
      intro hiM
      have hx : a / 10 ^ i % 10 < 10 := Nat.mod_lt _ (by decide)
      have hy : b / 10 ^ i % 10 < 10 := Nat.mod_lt _ (by decide)
      have hv' := add_inv a b i c (dv out) hv
      have h3 := sum3 hx hy hc
      have h0 : i = M → (a / 10 ^ i % 10 + b / 10 ^ i % 10 + c) / 10 = 0 := fun h => by
        rw [div_all (a := a) (by rw [h]; exact la), div_all (a := b) (by rw [h]; exact lb)]; exact Nat.div_eq_of_lt (by clear hv hv' hx hy h3; omega)
      have e1 : wrap64 ((i : Int) + 1) = ((i + 1 : Nat) : Int) := w64_succ (by clear hv hv' hx hy h0 h3; omega)
      have ol : out.length + 1 ≤ 140737488355328 := by clear hv hv' hx hy h0 h3; omega
      have da : (ds a).length ≤ 1099511627776 := by clear hv hv' hx hy h0 h3; omega
      have db : (ds b).length ≤ 1099511627776 := by clear hv hv' hx hy h0 h3; omega
      have hi' : M + 2 - (i + 1) = d := by clear hv hv' hx hy h0 h3; omega
      have hl' : (out ++ [((48 + (a / 10 ^ i % 10 + b / 10 ^ i % 10 + c) % 10 : Nat) : Int)]).length = i + 1 := by rw [List.length_append, ho]; rfl
      have hlt : (a / 10 ^ i % 10 + b / 10 ^ i % 10 + c) % 10 < 10 := Nat.mod_lt _ (by decide)
      have g := ih (i + 1) (out ++ [((48 + (a / 10 ^ i % 10 + b / 10 ^ i % 10 + c) % 10 : Nat) : Int)]) ((a / 10 ^ i % 10 + b / 10 ^ i % 10 + c) / 10) hi' hl' (Nat.succ_le_succ hiM) (hD.step hlt) h3.2.2.2 (by rw [dv_step ho _ hlt]; exact hv') (fun h => h0 (by clear hv hv' hx hy h0 h3; omega))
      obtain ⟨es, es2, hn, -⟩ := h3
      refine Ev.bind (digit_ev a i da) (Ev.bind (digit_ev b i db) ?_)
      rw [es, es2, digit_byte hn, digit_carry hn, e1]
      exact Ev.pos ol g
    have stop : M ≤ i → c = 0 → Ev (fun k => (vinculumref01_turned.f k out).bind fun t => (vinculumref01_strip.f k t).bind fun u => some u) (dec (a + b)) := by
      intro h1 h2
      have e : dv out = a + b := by rw [h2, Nat.mul_zero, Nat.add_zero, mod_all (Nat.le_trans la h1), mod_all (Nat.le_trans lb h1)] at hv; exact hv
      rw [← e]
      exact out_ev hD (by clear hv e; omega)
    refine Ev.step (fun k => vinculumref01_Add.l4_eq ..) ?_
    rw [dec_size, dec_size]
    by_cases h1 : (i : Int) < ((ds a).length : Int)
    · exact Ev.pos h1 (go (by clear hv; omega))
    · refine Ev.neg h1 ?_
      by_cases h2 : (i : Int) < ((ds b).length : Int)
      · exact Ev.pos h2 (go (by clear hv; omega))
      · refine Ev.neg h2 ?_
        by_cases h3 : (c : Int) > 0
        · exact Ev.pos h3 (go (by clear hv; omega))
        · exact Ev.neg h3 (stop (by clear hv; omega) (by clear hv; omega))
theorem ref_add {a b : Nat} (la : (ds a).length ≤ 1000000000) (lb : (ds b).length ≤ 1000000000) : Ev (fun k => vinculumref01_Add.f k (dec a) (dec b)) (dec (a + b)) := by
  have g := add_ref_l4 a b (max (ds a).length (ds b).length) (Nat.le_max_left _ _) (Nat.le_max_right _ _) (by omega) (by omega) _ 0 [] 0 rfl rfl (by omega) (fun x h => by cases h) (by omega) (by simp [dv, Nat.mod_one]) (fun _ => rfl)
  exact Ev.congr (fun k => vinculumref01_Add.f_eq ..) g

/-! ### Cmp -/
theorem bytes_lt : ∀ (x y : List UInt8), DS x → DS y → x.length = y.length → Op.bytesLess x y = decide (sv x < sv y)
  | [], [], _, _, _ => by simp [Op.bytesLess]
  | a :: x, [], _, _, h => by simp at h
  | [], b :: y, _, _, h => by simp at h
  | a :: x, b :: y, hx, hy, h => by
    have ih := bytes_lt x y hx.tail hy.tail (by simpa using h)
    have h1 := hx.head; have h2 := hy.head
    have l1 := sv_lt hx.tail; have l2 := sv_lt hy.tail
    have hl : x.length = y.length := by simpa using h
    rw [sv_cons, sv_cons, hl]
    rw [hl] at l1
    rw [Op.bytesLess, ih]
    generalize 10 ^ y.length = P at *
    rcases Nat.lt_trichotomy a.toNat b.toNat with h3 | h3 | h3
    · have e1 : decide (a < b) = true := decide_eq_true (UInt8.lt_iff_toNat_lt.2 h3)
      have h4 := Nat.mul_le_mul_right P (show a.toNat - 48 + 1 ≤ b.toNat - 48 by omega)
      rw [Nat.add_mul, Nat.one_mul] at h4
      have e2 : (a.toNat - 48) * P + sv x < (b.toNat - 48) * P + sv y := by omega
      simp [e1, e2, UInt8.lt_iff_toNat_lt.2 h3]
    · have e0 : a = b := UInt8.toNat.inj h3
      subst e0
      simp
    · have e1 : ¬ a < b := fun h5 => by have := UInt8.lt_iff_toNat_lt.1 h5; omega
      have h4 := Nat.mul_le_mul_right P (show b.toNat - 48 + 1 ≤ a.toNat - 48 by omega)
      rw [Nat.add_mul, Nat.one_mul] at h4
      have e2 : ¬ (a.toNat - 48) * P + sv x < (b.toNat - 48) * P + sv y := by omega
      have e3 : a ≠ b := fun h5 => by subst h5; omega
      simp [e1, e2, e3]
theorem cmpI_neg {a b : Nat} : ¬ (cmpI a b ≥ 0) ↔ a < b := by
  unfold cmpI
  by_cases h : a < b
  · rw [if_pos h]; exact ⟨fun _ => h, fun _ => by decide⟩
  · rw [if_neg h]
    by_cases h2 : a = b
    · rw [if_pos h2]; exact ⟨fun h3 => absurd (by decide) h3, fun h3 => absurd h3 h⟩
    · rw [if_neg h2]; exact ⟨fun h3 => absurd (by decide) h3, fun h3 => absurd h3 h⟩
theorem ref_cmp (a b : Nat) : Ev (fun k => vinculumref01_Cmp.f k (dec a) (dec b)) (cmpI a b) := by
  refine Ev.congr (fun k => vinculumref01_Cmp.f_eq ..) ?_
  rw [dec_size, dec_size, show dec a = tx (ds a) from rfl, show dec b = tx (ds b) from rfl, tLt_tx, tEq_tx]
  by_cases h : ((ds a).length : Int) = ((ds b).length : Int)
  · refine Ev.pos h ?_
    rw [bytes_lt _ _ (ds_DS a) (ds_DS b) (by omega), sv_ds, sv_ds]
    unfold cmpI
    by_cases h1 : a < b
    · exact Ev.pos (decide_eq_true h1) (Ev.ret (if_pos h1).symm)
    · refine Ev.neg (by simp [h1]) ?_
      rw [decide_eq_false h1, if_neg h1]
      by_cases h2 : a = b
      · exact Ev.pos (decide_eq_true (by rw [h2])) (Ev.ret (if_pos h2).symm)
      · exact Ev.neg (by rw [decide_eq_true_iff]; exact fun h3 => h2 (ds_inj h3)) (Ev.ret (if_neg h2).symm)
  · refine Ev.neg h ?_
    unfold cmpI
    by_cases h1 : ((ds a).length : Int) < ((ds b).length : Int)
    · have : a < b := Nat.lt_of_not_le fun h2 => by have := ds_length_mono h2; omega
      exact Ev.pos h1 (Ev.ret (if_pos this).symm)
    · have h4 : b < a := Nat.lt_of_not_le fun h2 => by have := ds_length_mono h2; omega
      refine Ev.neg h1 (Ev.ret ?_)
      rw [if_neg (by omega), if_neg (by omega)]
end Go.Proofs.YtbofacjgofgkpaaDoor.Pure
end
section
/-
  Numbers and texts: what nat.Print, nat.right and nat.Parse compute. Conditions: no list is longer than 1000 words, no text longer than a million bytes.
-/
namespace Go.Proofs.YtbofacjgofgkpaaDoor.Pure
open Go.RowKit Go.Proofs.YtbofacjgofgkpaaDoor.F Go.Proofs.YtbofacjgofgkpaaDoorW.PrintWords Go.Proofs.YtbofacjgofgkpaaDoorW.PrintLast Go.Proofs.YtbofacjgofgkpaaDoorW.PrintMore
open Go.Proofs.YtbofacjgofgkpaaDoor.E (tEq tLt tApp tCut)
set_option linter.unusedVariables false
set_option linter.unusedSimpArgs false
/-! ### a list turned, in place -/
theorem rd_get (l : List Int) (p : Nat) : rd l (p : Int) = l[p]?.getD 0 := by simp [rd, List.getD_eq_getElem?_getD]
theorem turn_l14 (l : List Int) (hl : l.length ≤ 1000000) : ∀ (d i : Nat) (c : List Int), l.length - i = d → c.length = l.length →
    (∀ p, p < l.length → c[p]? = if p < i ∨ l.length - 1 - i < p then l[l.length - 1 - p]? else l[p]?) → 2 * i ≤ l.length →
    Ev (fun k => nat_Print.l14 k c (i : Int) ((l.length : Int) - 1 - (i : Int))) (strOfNums l.reverse) := by
  intro d
  induction d with
  | zero =>
    intro i c hd hc hp h2
    have h0 : l.length = 0 := by omega
    have hl0 : l = [] := List.length_eq_zero_iff.1 h0
    have hc0 : c = [] := List.length_eq_zero_iff.1 (by rw [hc, h0])
    subst hl0; subst hc0
    exact Ev.step (fun k => nat_Print.l14_eq ..) (Ev.neg (by simp; omega) (Ev.pos (by decide) (Ev.now _)))
  | succ d ih =>
    intro i c hd hc hp h2
    by_cases h : (i : Int) < (l.length : Int) - 1 - (i : Int)
    · have hk : (l.length : Int) - 1 - (i : Int) = ((l.length - 1 - i : Nat) : Int) := by omega
      have hki : l.length - 1 - i < c.length := by omega
      have hii : i < c.length := by omega
      have hp1 := hp i (by omega)
      have hp2 := hp (l.length - 1 - i) (by omega)
      rw [if_neg (by omega)] at hp1 hp2
      have r1 : rd c (i : Int) = rd l (i : Int) := by rw [rd_get, rd_get, hp1]
      have r2 : rd c ((l.length - 1 - i : Nat) : Int) = rd l ((l.length - 1 - i : Nat) : Int) := by rw [rd_get, rd_get, hp2]
      have g1 : l[i]? = some (rd l (i : Int)) := by rw [rd_get, List.getElem?_eq_getElem (by omega)]; rfl
      have g2 : l[l.length - 1 - i]? = some (rd l ((l.length - 1 - i : Nat) : Int)) := by rw [rd_get, List.getElem?_eq_getElem (by omega)]; rfl
      have g := ih (i + 1) ((c.set i (rd l ((l.length - 1 - i : Nat) : Int))).set (l.length - 1 - i) (rd l (i : Int))) (by omega) (by rw [List.length_set, List.length_set]; exact hc) (fun p hpl => by
        rw [List.getElem?_set, List.length_set]
        by_cases e1 : l.length - 1 - i = p
        · rw [if_pos e1, if_pos hki, if_pos (by omega)]
          have : l.length - 1 - p = i := by omega
          rw [this, g1]
        · rw [if_neg e1, List.getElem?_set]
          by_cases e2 : i = p
          · rw [if_pos e2, if_pos hii, if_pos (by omega), ← e2, g2]
          · rw [if_neg e2, hp p hpl]
            by_cases e3 : p < i ∨ l.length - 1 - i < p
            · rw [if_pos e3, if_pos (by omega)]
            · rw [if_neg e3, if_neg (by omega)]) (by omega)
      have w1 : wrap64 ((i : Int) + 1) = ((i + 1 : Nat) : Int) := w64_succ (by omega)
      have w2 : wrap64 (((l.length - 1 - i : Nat) : Int) - 1) = (l.length : Int) - 1 - ((i + 1 : Nat) : Int) := by
        rw [w64_dec (by clear w1; omega)]; clear w1; omega
      have q1 : (i : Int) < ((l.length - 1 - i : Nat) : Int) := by rw [← hk]; exact h
      refine Ev.step (fun k => nat_Print.l14_eq ..) ?_
      rw [hk, w1, w2, r1, r2, Int.toNat_natCast, Int.toNat_natCast]
      refine Ev.pos q1 (Ev.pos (Int.natCast_nonneg _) (Ev.pos (Int.ofNat_lt.2 hki) (Ev.pos (Int.natCast_nonneg _) (Ev.pos (Int.ofNat_lt.2 hii) (Ev.pos (Int.natCast_nonneg _) (Ev.pos (Int.ofNat_lt.2 hii) (Ev.pos (Int.natCast_nonneg _) (Ev.pos ?_ g))))))))
      rw [List.length_set]; exact Int.ofNat_lt.2 hki
    · have e : c = l.reverse := by
        apply List.ext_getElem?
        intro p
        by_cases hpl : p < l.length
        · rw [hp p hpl, List.getElem?_reverse hpl]
          by_cases e3 : p < i ∨ l.length - 1 - i < p
          · rw [if_pos e3]
          · rw [if_neg e3]
            have : l.length - 1 - p = p := by omega
            rw [this]
        · rw [List.getElem?_eq_none (by omega), List.getElem?_eq_none (by simp; omega)]
      subst e
      exact Ev.step (fun k => nat_Print.l14_eq ..) (Ev.neg h (Ev.pos (by rw [List.length_reverse]; omega) (Ev.now _)))
theorem turn_ev {l : List Int} (hl : l.length ≤ 1000000) : Ev (fun k => nat_Print.l14 k l 0 (wrap64 ((l.length : Int) - 1))) (strOfNums l.reverse) := by
  have g := turn_l14 l hl _ 0 l rfl rfl (fun p hp => by rw [if_neg (by omega)]) (Nat.zero_le _)
  have e : (l.length : Int) - 1 - ((0 : Nat) : Int) = wrap64 ((l.length : Int) - 1) := by rw [w64_dec (by omega)]; omega
  rw [e] at g
  exact g

/-! ### Print -/
/-- Digits so far, the lowest one first: the highest is not 0. -/
def Lead (out : List Int) : Prop := out = [] ∨ 10 ^ (out.length - 1) ≤ dv out
theorem dig_int {n : Nat} (h : n < 18446744073709551616) : (IntKind.u64.wrap (48 + (Int.tmod (n : Int) 10))) % 256 = ((48 + n % 10 : Nat) : Int) := by
  rw [Int.tmod_eq_emod_of_nonneg (by omega), wu]; omega
theorem dig_next {n : Nat} (h : n < 18446744073709551616) : IntKind.u64.wrap (Int.tdiv (n : Int) 10) = ((n / 10 : Nat) : Int) := by
  rw [Int.tdiv_eq_ediv_of_nonneg (by omega), wu]; omega
theorem lt_digits {L T W D x : Nat} (h : x + 10 ^ L * T = W) (hT : T ≠ 0) (hW : W < 10 ^ D) : L < D := by
  have h1 : 10 ^ L ≤ 10 ^ L * T := Nat.le_mul_of_pos_right _ (Nat.pos_of_ne_zero hT)
  exact (Nat.pow_lt_pow_iff_right (by decide)).1 (Nat.lt_of_le_of_lt (show 10 ^ L ≤ W by omega) hW)
theorem split10 {a p m : Nat} : (a * 10 ^ (m + 1) + p) = 10 * (a * 10 ^ m + p / 10) + p % 10 := by
  rw [Nat.pow_succ]
  have := Nat.div_add_mod p 10
  have e : a * (10 ^ m * 10) = 10 * (a * 10 ^ m) := by grind
  rw [e, Nat.mul_add]; omega
theorem push_dv {x L T' d T W : Nat} (h : x + 10 ^ L * T = W) (hT : T = 10 * T' + d) : x + 10 ^ L * d + 10 ^ (L + 1) * T' = W := by
  rw [← h, hT, Nat.pow_succ]; grind
theorem print_l9 (a W D : Nat) (R : ByteArray) (hW : W < 10 ^ D) (hD : D ≤ 1000000) (H : ∀ out : List Int, DI out → dv out + 10 ^ out.length * a = W → (a ≠ 0 ∨ Lead out) → Ev (fun k => nat_Print.l5 k (limbs a) out) R) :
    ∀ (m i part : Nat) (out : List Int), 19 - i = m → i ≤ 19 → part < 10 ^ m → part < 18446744073709551616 → DI out → dv out + 10 ^ out.length * (a * 10 ^ m + part) = W → (a * 10 ^ m + part ≠ 0 ∨ Lead out) →
    Ev (fun k => nat_Print.l9 k (limbs a) out (part : Int) (i : Int)) R := by
  intro m
  induction m with
  | zero =>
    intro i part out hm hi hp hp64 hDI hv hz
    have hi19 : i = 19 := by clear hv hp; omega
    have hp0 : part = 0 := by rw [Nat.pow_zero] at hp; clear hv; omega
    subst hi19; subst hp0
    rw [Nat.pow_zero, Nat.mul_one, Nat.add_zero] at hv hz
    exact Ev.step (fun k => nat_Print.l9_eq ..) (Ev.neg (by decide) (H out hDI hv hz))
  | succ m ih =>
    intro i part out hm hi hp hp64 hDI hv hz
    have hi19 : i < 19 := by clear hv hp; omega
    have hi19' : (i : Int) < 19 := by clear hv hp; omega
    have hm' : 19 - (i + 1) = m := by clear hv hp; omega
    have w1 : wrap64 ((i : Int) + 1) = ((i + 1 : Nat) : Int) := w64_succ (by clear hv hp; omega)
    by_cases hT : a * 10 ^ (m + 1) + part = 0
    · have hp0 : part = 0 := by clear w1 hp; omega
      have ha0 : a = 0 := by
        have h1 : a * 10 ^ (m + 1) = 0 := by clear w1 hp; omega
        rcases Nat.mul_eq_zero.1 h1 with h | h
        · exact h
        · exact absurd h (Nat.ne_of_gt (Nat.pow_pos (by decide)))
      rw [hT, Nat.mul_zero, Nat.add_zero] at hv
      have hl := hz.resolve_left (fun h => h hT)
      have g := H out hDI (by rw [ha0, Nat.mul_zero, Nat.add_zero]; exact hv) (.inr hl)
      subst ha0; subst hp0
      rw [limbs_zero] at g ⊢
      exact Ev.step (fun k => nat_Print.l9_eq ..) (Ev.pos hi19' (Ev.neg (by decide) (Ev.neg (by decide) g)))
    · have hL := lt_digits hv hT hW
      have hol : out.length + 1 ≤ 140737488355328 := by clear w1 hv hp hW; omega
      have hp' : part / 10 < 10 ^ m := Nat.div_lt_of_lt_mul (by rw [Nat.pow_succ, Nat.mul_comm] at hp; exact hp)
      have hd : part % 10 < 10 := Nat.mod_lt _ (by decide)
      have hD1 : DI (out ++ [((48 + part % 10 : Nat) : Int)]) := hDI.snoc (by clear w1 hv hp hW; omega)
      have edv : dv (out ++ [((48 + part % 10 : Nat) : Int)]) = dv out + 10 ^ out.length * (part % 10) := by
        rw [dv_snoc, Int.toNat_natCast, Nat.add_sub_cancel_left]
      have hsp := split10 (a := a) (p := part) (m := m)
      have hv' : dv (out ++ [((48 + part % 10 : Nat) : Int)]) + 10 ^ (out ++ [((48 + part % 10 : Nat) : Int)]).length * (a * 10 ^ m + part / 10) = W := by
        rw [edv, List.length_append, List.length_singleton]
        exact push_dv hv hsp
      have hz' : a * 10 ^ m + part / 10 ≠ 0 ∨ Lead (out ++ [((48 + part % 10 : Nat) : Int)]) := by
        by_cases h : a * 10 ^ m + part / 10 = 0
        · refine .inr (.inr ?_)
          rw [edv, List.length_append, List.length_singleton, Nat.add_sub_cancel]
          rw [h, Nat.mul_zero, Nat.zero_add] at hsp
          have h1 : 0 < part % 10 := Nat.pos_of_ne_zero fun h2 => hT (by rw [hsp, h2])
          exact Nat.le_trans (Nat.le_mul_of_pos_right _ h1) (Nat.le_add_left _ _)
        · exact .inl h
      have g := ih (i + 1) (part / 10) (out ++ [((48 + part % 10 : Nat) : Int)]) hm' hi19 hp' (Nat.lt_of_le_of_lt (Nat.div_le_self _ _) hp64) hD1 hv' hz'
      refine Ev.step (fun k => nat_Print.l9_eq ..) (Ev.pos hi19' ?_)
      rw [dig_int hp64, dig_next hp64, w1]
      by_cases hp0 : (part : Int) > 0
      · exact Ev.pos hp0 (Ev.pos hol g)
      · have ha0 : a ≠ 0 := fun h => hT (by
          rw [h, Nat.zero_mul, Nat.zero_add]; clear w1 hv hv' hp hW hsp edv; omega)
        have hlp := limbs_length_pos ha0
        exact Ev.neg hp0 (Ev.pos (by clear w1 hv hv' hp hW hsp edv; omega) (Ev.pos hol g))
theorem lead_ds {out : List Int} (hDI : DI out) (h : Lead out) (hne : out ≠ []) : tx (by8 out.reverse) = dec (dv out) := by
  have hd : DS (by8 out.reverse) := by8_DS (fun x hx => hDI x (by simpa using hx))
  have hl : (by8 out.reverse).length = out.length := by simp [by8]
  have hne' : by8 out.reverse ≠ [] := fun h1 => hne (List.length_eq_zero_iff.1 (by rw [← hl, h1]; rfl))
  have hs := sv_by8_reverse hDI
  have hge := h.resolve_left hne
  have e := ds_of hd hne' (by
    by_cases h1 : (by8 out.reverse).length = 1
    · exact .inl h1
    · refine .inr fun h2 h3 => ?_
      generalize by8 out.reverse = l at *
      cases l with
      | nil => exact h2 rfl
      | cons x xs =>
        rw [List.head_cons] at h3
        have h4 := sv_lt hd.tail
        rw [sv_cons, h3] at hs
        have h5 : ((48 : UInt8).toNat - 48) * 10 ^ xs.length = 0 := by
          have : (48 : UInt8).toNat - 48 = 0 := rfl
          rw [this, Nat.zero_mul]
        rw [h5, Nat.zero_add] at hs
        have h6 : xs.length = out.length - 1 := by rw [← hl]; rfl
        rw [h6, hs] at h4
        exact absurd hge (Nat.not_le.2 h4))
  rw [hs] at e
  rw [e]; rfl
theorem print_l5 (W D : Nat) (hW : W < 10 ^ D) (hD : D ≤ 1000000) (hW0 : W ≠ 0) : ∀ (a : Nat) (out : List Int), (limbs a).length ≤ 1000 → DI out → dv out + 10 ^ out.length * a = W → (a ≠ 0 ∨ Lead out) → Ev (fun k => nat_Print.l5 k (limbs a) out) (dec W) := by
  intro a
  induction a using Nat.strongRecOn with
  | _ a ih =>
    intro out hl hDI hv hz
    by_cases h : a = 0
    · have hlead := hz.resolve_left (fun h1 => h1 h)
      rw [h, Nat.mul_zero, Nat.add_zero] at hv
      have hne : out ≠ [] := fun h1 => hW0 (by rw [← hv, h1]; rfl)
      have hge := hlead.resolve_left hne
      have hlen : out.length ≤ 1000000 := by
        have h1 : out.length - 1 < D := (Nat.pow_lt_pow_iff_right (by decide)).1 (Nat.lt_of_le_of_lt hge (by rw [hv]; exact hW))
        clear hv hge hW; omega
      have g := turn_ev hlen
      rw [strOf_tx, lead_ds hDI hlead hne, hv] at g
      subst h
      rw [limbs_zero]
      exact Ev.step (fun k => nat_Print.l5_eq ..) (Ev.neg (by decide) g)
    · have hp := limbs_length_pos h
      have gd := divw_ev (limbs_WF a) (Nat.le_trans hl (by decide)) (show 0 < 10000000000000000000 by decide) (by decide)
      rw [nv_limbs] at gd
      have hlt : a / 10000000000000000000 < a := Nat.div_lt_self (Nat.pos_of_ne_zero h) (by decide)
      have hdm := Nat.div_add_mod a 10000000000000000000
      have hml := Nat.mod_lt a (show 10000000000000000000 > 0 by decide)
      have g := print_l9 (a / 10000000000000000000) W D (dec W) hW hD (fun out' h1 h2 h3 => ih _ hlt out' (Nat.le_trans (limbs_length_mono (Nat.le_of_lt hlt)) hl) h1 h2 h3) 19 0 (a % 10000000000000000000) out rfl (by decide) hml (Nat.lt_trans hml (by decide)) hDI (by
        rw [show (10 : Nat) ^ 19 = 10000000000000000000 from rfl, Nat.mul_comm (a / _), hdm]; exact hv) (by
        rw [show (10 : Nat) ^ 19 = 10000000000000000000 from rfl, Nat.mul_comm (a / _), hdm]; exact hz)
      exact Ev.step (fun k => nat_Print.l5_eq ..) (Ev.pos (by clear hv hdm hml g; omega) (Ev.bind gd g))
theorem print_ev {x : List Int} (hx : WF x) (hl : x.length ≤ 1000) : Ev (fun k => nat_Print.f k x) (dec (nv x)) := by
  refine Ev.congr (fun k => nat_Print.f_eq ..) (Ev.bind (norm_ev hx (Nat.le_trans hl (by decide))) ?_)
  have hla := Nat.le_trans (limbs_length_le (nv_lt hx)) hl
  by_cases h : nv x = 0
  · rw [h, limbs_zero]
    refine Ev.congr (fun k => if_pos rfl) ?_
    rw [dec_zero]
    exact Ev.now _
  · have hp := limbs_length_pos h
    refine Ev.congr (fun k => if_neg (by omega)) ?_
    have hD : (20 * x.length + 1) ≤ 1000000 := by omega
    have hW : nv x < 10 ^ (20 * x.length + 1) := by
      refine Nat.lt_of_lt_of_le (nv_lt hx) ?_
      rw [Nat.pow_succ, Nat.pow_mul]
      exact Nat.le_trans (Nat.pow_le_pow_left (by decide) _) (Nat.le_mul_of_pos_right _ (by decide))
    exact print_l5 (nv x) _ hW hD h (nv x) [] hla (fun x hx => by cases hx) (by simp [dv]) (.inl h)

/-! ### right, Parse -/
theorem digit_set (b : UInt8) : ([48, 49, 50, 51, 52, 53, 54, 55, 56, 57] : List UInt8).contains b = true ↔ 48 ≤ b.toNat ∧ b.toNat ≤ 57 := by
  have key : ∀ n : Fin 256, ([48, 49, 50, 51, 52, 53, 54, 55, 56, 57] : List UInt8).contains (UInt8.ofNat n.val) = decide (48 ≤ n.val ∧ n.val ≤ 57) := by decide +kernel
  have h := key ⟨b.toNat, b.toNat_lt⟩
  rw [UInt8.ofNat_toNat] at h
  rw [h, decide_eq_true_iff]
theorem dropWhile_nil (p : UInt8 → Bool) (l : List UInt8) : l.dropWhile p = [] ↔ ∀ x ∈ l, p x = true := by
  induction l with
  | nil => simp
  | cons x xs ih =>
    rw [List.dropWhile_cons]
    by_cases h : p x = true
    · rw [if_pos h, ih]; simp [h]
    · rw [if_neg h]; simp [h]
theorem trim_digits (l : List UInt8) : Go.Lib.trimS l [48, 49, 50, 51, 52, 53, 54, 55, 56, 57] = [] ↔ DS l := by
  unfold Go.Lib.trimS Go.Lib.trimRightS Go.Lib.trimLeftS
  rw [dropWhile_nil]
  constructor
  · intro h
    have h1 : l.reverse.dropWhile (([48, 49, 50, 51, 52, 53, 54, 55, 56, 57] : List UInt8).contains ·) = [] := by
      cases e : l.reverse.dropWhile (([48, 49, 50, 51, 52, 53, 54, 55, 56, 57] : List UInt8).contains ·) with
      | nil => rfl
      | cons x xs =>
        exfalso
        have h2 := h x (by rw [e]; simp)
        have h3 := List.head_dropWhile_not (([48, 49, 50, 51, 52, 53, 54, 55, 56, 57] : List UInt8).contains ·) (l := l.reverse) (by rw [e]; simp)
        simp only [e, List.head_cons] at h3
        rw [h2] at h3; cases h3
    rw [dropWhile_nil] at h1
    exact fun b hb => (digit_set b).1 (h1 b (List.mem_reverse.2 hb))
  · intro h x hx
    exact (digit_set x).2 (h x (List.mem_reverse.1 ((List.dropWhile_sublist _).subset (List.mem_reverse.1 hx))))
/-- A text that is a number's. -/
def Fine (l : List UInt8) : Prop := l ≠ [] ∧ DS l ∧ (l = [48] ∨ l.head? ≠ some 48)
theorem trim_ev8 (l : List UInt8) (hl : l.length ≤ 1000000) : Ev (fun k => strings_Trim.f k (tx l) (ByteArray.mk (Array.mk [48, 49, 50, 51, 52, 53, 54, 55, 56, 57]))) (tx (Go.Lib.trimS l [48, 49, 50, 51, 52, 53, 54, 55, 56, 57])) := ⟨0, fun k _ => by
  show strings_Trim.f k (tx l) _ = _
  unfold strings_Trim.f
  rw [if_pos (by rw [tx_size]; omega), if_pos (by decide), if_pos (by decide)]
  simp [tx]⟩
theorem head_first {l : List UInt8} (h : l ≠ []) : l.head? = some (l[0]'(List.length_pos_iff.2 h)) := by
  cases l with
  | nil => exact absurd rfl h
  | cons x xs => rfl
theorem right_yes {l : List UInt8} (hl : l.length ≤ 1000000) (h : Fine l) : Ev (fun k => nat_right.f k (tx l)) true := by
  have hp : 0 < l.length := List.length_pos_iff.2 h.1
  refine Ev.congr (fun k => nat_right.f_eq ..) ?_
  rw [mk_nil, mk_48]
  refine Ev.neg (tEq_no h.1) (Ev.bind (trim_ev8 l hl) (Ev.pos (tEq_yes ((trim_digits l).2 h.2.1)) ?_))
  by_cases h1 : l = [48]
  · exact Ev.pos (tEq_yes h1) (Ev.now _)
  · refine Ev.neg (tEq_no h1) (Ev.pos (by rw [tx_size]; omega) (Ev.ret ?_))
    have hb : bt (tx l) 0 = ((l[0]).toNat : Int) := tx_bt l 0 hp
    have h2 := h.2.2.resolve_left h1
    have h3 : ¬ ((l[0]).toNat : Int) = 48 := fun h4 => h2 (by
      rw [head_first h.1]; congr 1
      apply UInt8.toNat.inj
      have : (48 : UInt8).toNat = 48 := rfl
      omega)
    rw [hb]
    simp [h3]
theorem right_no {l : List UInt8} (hl : l.length ≤ 1000000) (h : ¬ Fine l) : Ev (fun k => nat_right.f k (tx l)) false := by
  refine Ev.congr (fun k => nat_right.f_eq ..) ?_
  rw [mk_nil, mk_48]
  by_cases h0 : l = []
  · exact Ev.pos (tEq_yes h0) (Ev.now _)
  have hp : 0 < l.length := List.length_pos_iff.2 h0
  refine Ev.neg (tEq_no h0) (Ev.bind (trim_ev8 l hl) ?_)
  by_cases hd : DS l
  · have h1 : ¬ l = [48] := fun h2 => h ⟨h0, hd, .inl h2⟩
    have h2 : l.head? = some 48 := Decidable.not_not.1 fun h3 => h ⟨h0, hd, .inr h3⟩
    have hb : bt (tx l) 0 = ((l[0]).toNat : Int) := tx_bt l 0 hp
    rw [head_first h0] at h2
    refine Ev.pos (tEq_yes ((trim_digits l).2 hd)) (Ev.neg (tEq_no h1) (Ev.pos (by rw [tx_size]; omega) (Ev.ret ?_)))
    rw [hb, Option.some.inj h2]; rfl
  · exact Ev.neg (tEq_no fun h2 => hd ((trim_digits l).1 h2)) (Ev.now _)
theorem dig_byte {b : UInt8} (h : 48 ≤ b.toNat ∧ b.toNat ≤ 57) : (((b.toNat : Nat) : Int) - 48) % 256 = ((b.toNat - 48 : Nat) : Int) := by omega
theorem sv_take_succ (l : List UInt8) (i : Nat) (h : i < l.length) : sv (l.take (i + 1)) = sv (l.take i) * 10 + ((l[i]).toNat - 48) := by
  rw [List.take_succ_eq_append_getElem h, sv_snoc, Nat.mul_comm]
theorem short_limbs {n i : Nat} (h : n < 10 ^ i) (hi : i ≤ 990) : (limbs n).length ≤ 990 :=
  Nat.le_trans (limbs_length_le (Nat.lt_of_lt_of_le h (Nat.pow_le_pow_left (by decide) i))) hi
theorem parse_l7 (l : List UInt8) (hd : DS l) (hl : l.length ≤ 980) : ∀ (d i : Nat), l.length - i = d → i ≤ l.length → Ev (fun k => nat_Parse.l7 k (limbs (sv (l.take i))) (l.map fun b => (b.toNat : Int)) (l.length : Int) (i : Int)) (limbs (sv l), 0) := by
  intro d
  induction d with
  | zero =>
    intro i hi0 hi
    have : i = l.length := by omega
    subst this
    rw [List.take_length]
    exact Ev.step (fun k => nat_Parse.l7_eq ..) (Ev.neg (Int.lt_irrefl _) (Ev.now _))
  | succ d ih =>
    intro i hi0 hi
    have hil : i < l.length := by omega
    have hb := hd _ (List.getElem_mem hil)
    have hbe := dig_byte hb
    have hsv := sv_lt (fun b h => hd b (List.mem_of_mem_take h) : DS (l.take i))
    rw [List.length_take, Nat.min_eq_left hi] at hsv
    have hs := short_limbs hsv (by clear hsv; omega)
    have gm := mulXX (limbs_WF (sv (l.take i))) (WF.cons (x := (10 : Int)) ⟨by decide, by decide⟩ WF.nil) (Nat.le_trans hs (by decide)) (by decide)
    have e10 : nv [(10 : Int)] = 10 := rfl
    rw [nv_limbs, e10] at gm
    have hsv2 : sv (l.take i) * 10 < 10 ^ (i + 1) := by rw [Nat.pow_succ]; exact Nat.mul_lt_mul_of_pos_right hsv (by decide)
    have hs2 := short_limbs hsv2 (by clear hsv hsv2; omega)
    have hUd : U (((l[i]).toNat - 48 : Nat) : Int) := ⟨Int.natCast_nonneg _, by clear hsv hsv2; omega⟩
    have ga := addXX (limbs_WF (sv (l.take i) * 10)) (WF.cons hUd WF.nil) (Nat.le_trans hs2 (by decide)) (by simp)
    have e1 : nv [(((l[i]).toNat - 48 : Nat) : Int)] = (l[i]).toNat - 48 := by rw [nv, nv, Int.toNat_natCast, Nat.mul_zero, Nat.add_zero]
    rw [nv_limbs, e1, ← sv_take_succ l i hil] at ga
    have g := ih (i + 1) (by clear hsv hsv2; omega) hil
    have hr : rd (l.map fun b => (b.toNat : Int)) (i : Int) = ((l[i]).toNat : Int) := by
      rw [rd_of rfl (by rw [List.length_map]; exact hil), List.getElem_map]
    have hil2 : (i : Int) < ((l.map fun b => (b.toNat : Int)).length : Int) := by rw [List.length_map]; exact Int.ofNat_lt.2 hil
    clear hsv hsv2
    have w1 : wrap64 ((i : Int) + 1) = ((i + 1 : Nat) : Int) := w64_succ (by omega)
    have w2 : IntKind.u64.wrap (((l[i]).toNat - 48 : Nat) : Int) = (((l[i]).toNat - 48 : Nat) : Int) := wrapN _ (by omega)
    refine Ev.step (fun k => nat_Parse.l7_eq ..) ?_
    rw [hr, hbe, w1, w2]
    exact Ev.pos (Int.ofNat_lt.2 hil) (Ev.pos (Int.natCast_nonneg i) (Ev.pos hil2 (Ev.bind gm (Ev.bind ga g))))
theorem parse_fine {l : List UInt8} (hl : l.length ≤ 980) (h : Fine l) : Ev (fun k => nat_Parse.f k (tx l)) (limbs (sv l), 0) := by
  have g := parse_l7 l h.2.1 hl _ 0 rfl (Nat.zero_le _)
  rw [List.take_zero, sv_nil, limbs_zero] at g
  have e : bytesOf (tx l) = l.map fun b => (b.toNat : Int) := by simp [bytesOf, tx]
  refine Ev.congr (fun k => nat_Parse.f_eq ..) (Ev.bind (right_yes (by omega) h) (Ev.neg (by decide) (Ev.neg (by rw [tx_size]; omega) ?_)))
  rw [e, List.length_map]
  exact g
theorem parse_long {l : List UInt8} (hl : l.length ≤ 1000000) (h2 : 20000 < l.length) (h : Fine l) : Ev (fun k => nat_Parse.f k (tx l)) ([], 13) :=
  Ev.congr (fun k => nat_Parse.f_eq ..) (Ev.bind (right_yes hl h) (Ev.neg (by decide) (Ev.pos (by rw [tx_size]; omega) (Ev.now _))))
theorem parse_bad {l : List UInt8} (hl : l.length ≤ 1000000) (h : ¬ Fine l) : Ev (fun k => nat_Parse.f k (tx l)) ([], 16) :=
  Ev.congr (fun k => nat_Parse.f_eq ..) (Ev.bind (right_no hl h) (Ev.pos rfl (Ev.now _)))
theorem fine_ds (n : Nat) : Fine (ds n) := by
  refine ⟨ds_ne n, ds_DS n, ?_⟩
  by_cases h : n < 10
  · by_cases h0 : n = 0
    · exact .inl (by rw [h0, ds_zero])
    · refine .inr fun h1 => ?_
      rw [ds_small h, List.head?_cons] at h1
      have h2 := congrArg UInt8.toNat (Option.some.inj h1)
      rw [dg_toNat] at h2
      have : (48 : UInt8).toNat = 48 := rfl
      omega
  · refine .inr fun h1 => ?_
    rw [List.head?_eq_some_head (ds_ne n)] at h1
    exact ds_head (Nat.le_of_not_lt h) (ds_ne n) (Option.some.inj h1)
theorem ds_of_fine {l : List UInt8} (h : Fine l) : l = ds (sv l) :=
  ds_of h.2.1 h.1 (by
    rcases h.2.2 with h1 | h1
    · exact .inl (by rw [h1]; rfl)
    · refine .inr fun h2 h3 => h1 ?_
      rw [List.head?_eq_some_head h2, h3])
end Go.Proofs.YtbofacjgofgkpaaDoor.Pure
end
section
/-
  Products of decimal digits: what the reference's Mul computes. Condition: no text is longer than ten million bytes.
-/
namespace Go.Proofs.YtbofacjgofgkpaaDoor.Pure
open Go.RowKit Go.Proofs.YtbofacjgofgkpaaDoor.F Go.Proofs.YtbofacjgofgkpaaDoorW.PrintWords Go.Proofs.YtbofacjgofgkpaaDoorW.PrintLast Go.Proofs.YtbofacjgofgkpaaDoorW.PrintMore
open Go.Proofs.YtbofacjgofgkpaaDoor.E (tEq tLt tApp tCut)
set_option linter.unusedVariables false
set_option linter.unusedSimpArgs false
/-! ### Mul -/
/-- The number of sums at their places. -/
def wv : List Int → Nat
  | [] => 0
  | x :: xs => x.toNat + 10 * wv xs
theorem wv_set (l : List Int) (n : Nat) (v : Int) (hn : n < l.length) : wv (l.set n v) + l[n].toNat * 10 ^ n = wv l + v.toNat * 10 ^ n := by
  induction l generalizing n with
  | nil => simp at hn
  | cons x xs ih =>
    cases n with
    | zero => simp [wv]; omega
    | succ n =>
      have h1 := ih n (by simpa using hn)
      simp only [List.set_cons_succ, wv, List.getElem_cons_succ, Nat.pow_succ]
      grind
theorem wv_zeros (n : Nat) : wv (List.replicate n 0) = 0 := by
  induction n with
  | zero => rfl
  | succ n ih => simp [List.replicate_succ, wv, ih]
theorem wv_drop (l : List Int) (n : Nat) (hn : n < l.length) : wv (l.drop n) = l[n].toNat + 10 * wv (l.drop (n + 1)) := by
  rw [List.drop_eq_getElem_cons hn]; rfl
/-- All lie from 0 to a bound. -/
def BD (S : Nat) (l : List Int) : Prop := ∀ x ∈ l, 0 ≤ x ∧ x ≤ (S : Int)
theorem BD.get {S : Nat} {l : List Int} (h : BD S l) {n : Nat} (hn : n < l.length) : 0 ≤ l[n] ∧ l[n] ≤ (S : Int) := h _ (List.getElem_mem hn)
theorem BD.set {S : Nat} {l : List Int} (h : BD S l) (n : Nat) {v : Int} (hv : 0 ≤ v ∧ v ≤ ((S + 81 : Nat) : Int)) : BD (S + 81) (l.set n v) := fun x hx => by
  rcases List.mem_or_eq_of_mem_set hx with hx | rfl
  · have := h x hx; omega
  · exact hv
theorem BD.mono {S T : Nat} {l : List Int} (h : BD S l) (hST : S ≤ T) : BD T l := fun x hx => by have := h x hx; omega
theorem out_inv {P v x c W T : Nat} (hv : v + P * c + P * (x + 10 * W) = T) : v + P * ((x + c) % 10) + P * 10 * ((x + c) / 10) + P * 10 * W = T := by
  have h4 := carry_dec P (x + c)
  rw [← hv, Nat.mul_add P x, Nat.mul_assoc P 10 W]
  rw [Nat.mul_add] at h4
  generalize P * (10 * W) = Q at *
  generalize P * ((x + c) % 10) = Q1 at *
  generalize P * 10 * ((x + c) / 10) = Q2 at *
  generalize P * x = Q3 at *
  generalize P * c = Q4 at *
  clear hv
  omega
theorem out_end {P v c T : Nat} (hv : v + P * c = T) (hT : T < P) : v = T := by
  rcases Nat.eq_zero_or_pos c with h2 | h2
  · subst h2; rw [Nat.mul_zero] at hv; exact hv
  · have h3 := Nat.mul_le_mul_left P h2
    generalize P * c = Q at *
    omega
theorem out_word {x c S : Nat} (hx : (x : Int) ≤ (S : Int)) (hc : c ≤ S) (hS : S ≤ 10000000000000000) : wrap64 ((x : Int) + (c : Int)) = ((x + c : Nat) : Int) ∧ x + c < 1000000000000000000 ∧ (x + c) / 10 ≤ S :=
  ⟨w64_sum (by omega), by omega, by omega⟩
theorem mul_out (s : List Int) (S : Nat) (hS : S ≤ 10000000000000000) (hB : BD S s) (hl : s.length ≤ 1000000000) (T : Nat) (hT : T < 10 ^ s.length) : ∀ (d i : Nat) (out : List Int) (c : Nat), s.length - i = d → out.length = i → i ≤ s.length → DI out → c ≤ S → dv out + 10 ^ i * c + 10 ^ i * wv (s.drop i) = T →
    Ev (fun k => vinculumref01_Mul.l12 k s out (c : Int) (i : Int)) (dec T) := by
  intro d
  induction d with
  | zero =>
    intro i out c hd ho hi hD hc hv
    have hi2 : i = s.length := by clear hv hT; omega
    have e : dv out = T := by
      rw [hi2, List.drop_length, ← hi2] at hv
      rw [← hi2] at hT
      exact out_end hv hT
    have ol : out.length ≤ 1099511627776 := by clear hv hT e; omega
    rw [← e]
    exact Ev.step (fun k => vinculumref01_Mul.l12_eq ..) (Ev.neg (by rw [hi2]; exact Int.lt_irrefl _) (out_ev hD ol))
  | succ d ih =>
    intro i out c hd ho hi hD hc hv
    have hi0 : i < s.length := by clear hv hT; omega
    have ol : out.length + 1 ≤ 140737488355328 := by clear hv hT; omega
    have e1 : wrap64 ((i : Int) + 1) = ((i + 1 : Nat) : Int) := w64_succ (by clear hv hT; omega)
    have hd' : s.length - (i + 1) = d := by clear hv hT; omega
    obtain ⟨b0, b1⟩ := hB.get hi0
    rw [wv_drop s i hi0] at hv
    have hr : rd s (i : Int) = s[i] := rd_of rfl hi0
    generalize s[i] = x at *
    obtain ⟨x, rfl⟩ := Int.eq_ofNat_of_zero_le b0
    obtain ⟨hsum, hn, hc'⟩ := out_word b1 hc hS
    have hlt : (x + c) % 10 < 10 := Nat.mod_lt _ (by decide)
    have hv' : dv (out ++ [((48 + (x + c) % 10 : Nat) : Int)]) + 10 ^ (i + 1) * ((x + c) / 10) + 10 ^ (i + 1) * wv (s.drop (i + 1)) = T := by
      rw [dv_step ho _ hlt, Nat.pow_succ]
      exact out_inv hv
    have g := ih (i + 1) _ _ hd' (by rw [List.length_append, ho]; rfl) hi0 (hD.step hlt) hc' hv'
    refine Ev.step (fun k => vinculumref01_Mul.l12_eq ..) ?_
    rw [hr, hsum, digit_byte hn, digit_carry hn, e1]
    exact Ev.pos (Int.ofNat_lt.2 hi0) (Ev.pos (Int.natCast_nonneg i) (Ev.pos (Int.ofNat_lt.2 hi0) (Ev.pos ol g)))
theorem mul_set {w' w x A B i j : Nat} (h : w' + x * 10 ^ (i + j) = w + (x + A * B) * 10 ^ (i + j)) : w' = w + 10 ^ i * A * (10 ^ j * B) := by
  rw [Nat.add_mul] at h
  have e : A * B * 10 ^ (i + j) = 10 ^ i * A * (10 ^ j * B) := by rw [Nat.pow_add]; grind
  rw [e] at h
  omega
theorem mul_word {x A B S : Nat} (hx : (x : Int) ≤ (S : Int)) (hA : A < 10) (hB : B < 10) (hS : S ≤ 10000000000000000) : wrap64 ((x : Int) + (wrap64 ((A : Int) * (B : Int)))) = ((x + A * B : Nat) : Int) ∧ x + A * B ≤ S + 81 := by
  have h1 : A * B ≤ 9 * 9 := Nat.mul_le_mul (by omega) (by omega)
  have e : (A : Int) * (B : Int) = ((A * B : Nat) : Int) := by simp
  rw [e]
  generalize A * B = m at *
  rw [w64_of (x := (m : Int)) (by omega) (by omega), w64_sum (by omega)]
  exact ⟨rfl, by omega⟩
theorem rmul_l6 (a b i L : Nat) (la : (ds a).length ≤ 10000000) (lb : (ds b).length ≤ 10000000) (hi : i < (ds a).length) (hL : L = (ds a).length + (ds b).length + 1) (R : ByteArray)
    (H : ∀ s', s'.length = L → BD (81 * ((i + 1) * (ds b).length)) s' → wv s' = a % 10 ^ (i + 1) * b → Ev (fun k => vinculumref01_Mul.l3 k (dec a) (dec b) s' ((i + 1 : Nat) : Int)) R) :
    ∀ (d j : Nat) (s : List Int), (ds b).length - j = d → j ≤ (ds b).length → s.length = L → BD (81 * (i * (ds b).length + j)) s → wv s = a % 10 ^ i * b + 10 ^ i * (a / 10 ^ i % 10) * (b % 10 ^ j) →
    Ev (fun k => vinculumref01_Mul.l6 k (dec a) (dec b) s (i : Int) (j : Int)) R := by
  intro d
  induction d with
  | zero =>
    intro j s hd hj hs hB hv
    have hj2 : j = (ds b).length := by clear hv hB H; omega
    have hv2 : wv s = a % 10 ^ (i + 1) * b := by
      rw [hv, mod_all (a := b) (by rw [hj2]; exact Nat.le_refl _), mod_pow_step a i, Nat.add_mul]
    have hB2 : BD (81 * ((i + 1) * (ds b).length)) s := by rw [Nat.add_mul, Nat.one_mul]; rw [hj2] at hB; exact hB
    have e1 : wrap64 ((i : Int) + 1) = ((i + 1 : Nat) : Int) := w64_succ (by clear hv hB H hv2 hB2; omega)
    refine Ev.step (fun k => vinculumref01_Mul.l6_eq ..) ?_
    rw [dec_size, e1]
    exact Ev.neg (by rw [hj2]; exact Int.lt_irrefl _) (H s hs hB2 hv2)
  | succ d ih =>
    intro j s hd hj hs hB hv
    have hA : a / 10 ^ i % 10 < 10 := Nat.mod_lt _ (by decide)
    have hBd : b / 10 ^ j % 10 < 10 := Nat.mod_lt _ (by decide)
    have sb := mod_pow_step b j
    have hj0 : j < (ds b).length := by clear hv hB H hA hBd sb; omega
    have hd' : (ds b).length - (j + 1) = d := by clear hv hB H hA hBd sb; omega
    have hij : i + j < s.length := by clear hv hB H hA hBd sb; omega
    have da : (ds a).length ≤ 1099511627776 := by clear hv hB H hA hBd sb; omega
    have db : (ds b).length ≤ 1099511627776 := by clear hv hB H hA hBd sb; omega
    have e1 : wrap64 ((j : Int) + 1) = ((j + 1 : Nat) : Int) := w64_succ (by clear hv hB H hA hBd sb; omega)
    have e2 : wrap64 ((i : Int) + (j : Int)) = ((i + j : Nat) : Int) := w64_sum (by clear hv hB H hA hBd sb e1; omega)
    have hS : 81 * (i * (ds b).length + j) ≤ 10000000000000000 := by
      have h1 : i * (ds b).length ≤ 10000000 * 10000000 := Nat.mul_le_mul (by clear hv hB H hA hBd sb e1 e2; omega) lb
      clear hv hB H hA hBd sb e1 e2
      generalize i * (ds b).length = m at *
      omega
    have dx := digit_ev a i da
    have dy := digit_ev b j db
    obtain ⟨b0, b1⟩ := hB.get hij
    have hr : rd s ((i + j : Nat) : Int) = s[i + j] := rd_of rfl hij
    have hset := wv_set s (i + j) (((s[i + j]).toNat + (a / 10 ^ i % 10) * (b / 10 ^ j % 10) : Nat) : Int) hij
    generalize s[i + j] = x at *
    obtain ⟨x, rfl⟩ := Int.eq_ofNat_of_zero_le b0
    obtain ⟨hsum, hbd⟩ := mul_word b1 hA hBd hS
    have hx : ((x : Nat) : Int).toNat = x := Int.toNat_natCast x
    rw [hx] at hset
    have hw := mul_set hset
    rw [hv, Nat.add_assoc, ← Nat.mul_add, ← sb] at hw
    have hB' := hB.set (i + j) (v := ((x + (a / 10 ^ i % 10) * (b / 10 ^ j % 10) : Nat) : Int)) ⟨Int.natCast_nonneg _, Int.ofNat_le.2 hbd⟩
    have e3 : 81 * (i * (ds b).length + j) + 81 = 81 * (i * (ds b).length + (j + 1)) := by rw [← Nat.add_assoc, Nat.mul_add 81 _ 1]
    rw [e3] at hB'
    have g := ih (j + 1) _ hd' hj0 (by rw [List.length_set]; exact hs) hB' hw
    refine Ev.step (fun k => vinculumref01_Mul.l6_eq ..) ?_
    rw [dec_size, e2]
    refine Ev.pos (Int.ofNat_lt.2 hj0) (Ev.pos (Int.natCast_nonneg (i + j)) (Ev.pos (Int.ofNat_lt.2 hij) (Ev.bind dx (Ev.bind dy (Ev.pos (Int.natCast_nonneg (i + j)) (Ev.pos (Int.ofNat_lt.2 hij) ?_))))))
    rw [hr, hsum, e1, Int.toNat_natCast]
    exact g
theorem rmul_l3 (a b L : Nat) (la : (ds a).length ≤ 10000000) (lb : (ds b).length ≤ 10000000) (hL : L = (ds a).length + (ds b).length + 1) :
    ∀ (d i : Nat) (s : List Int), (ds a).length - i = d → i ≤ (ds a).length → s.length = L → BD (81 * (i * (ds b).length)) s → wv s = a % 10 ^ i * b →
    Ev (fun k => vinculumref01_Mul.l3 k (dec a) (dec b) s (i : Int)) (dec (a * b)) := by
  intro d
  induction d with
  | zero =>
    intro i s hd hi hs hB hv
    have hi2 : i = (ds a).length := by clear hv hB; omega
    rw [mod_all (a := a) (by rw [hi2]; exact Nat.le_refl _)] at hv
    have hS : 81 * (i * (ds b).length) ≤ 10000000000000000 := by
      have h1 : i * (ds b).length ≤ 10000000 * 10000000 := Nat.mul_le_mul (by clear hv hB; omega) lb
      clear hv hB
      generalize i * (ds b).length = m at *
      omega
    have hT : a * b < 10 ^ s.length := by
      rw [hs, hL, Nat.pow_succ, Nat.pow_add]
      have h1 := Nat.mul_lt_mul'' (lt_pow_ds a) (lt_pow_ds b)
      generalize 10 ^ (ds a).length * 10 ^ (ds b).length = P at *
      generalize a * b = Q at *
      clear hv hB
      omega
    have ol : s.length ≤ 1000000000 := by clear hv hB hT hS; omega
    have hin : ¬ ((i : Int) < ((ds a).length : Int)) := by rw [hi2]; exact Int.lt_irrefl _
    have g := mul_out s _ hS hB ol _ hT _ 0 [] 0 rfl rfl (Nat.zero_le _) (fun x h => by cases h) (Nat.zero_le _) (by
        rw [List.drop_zero, hv, Nat.pow_zero]; simp [dv])
    refine Ev.step (fun k => vinculumref01_Mul.l3_eq ..) ?_
    rw [dec_size]
    exact Ev.neg hin g
  | succ d ih =>
    intro i s hd hi hs hB hv
    have hi0 : i < (ds a).length := by clear hv hB; omega
    have g := rmul_l6 a b i L la lb hi0 hL _ (fun s' h1 h2 h3 => ih (i + 1) s' (by clear hv hB h2 h3; omega) hi0 h1 h2 h3) _ 0 s rfl (Nat.zero_le _) hs (by rw [Nat.add_zero]; exact hB) (by rw [hv, Nat.pow_zero, Nat.mod_one, Nat.mul_zero, Nat.add_zero])
    refine Ev.step (fun k => vinculumref01_Mul.l3_eq ..) ?_
    rw [dec_size]
    exact Ev.pos (Int.ofNat_lt.2 hi0) g
theorem ref_mul {a b : Nat} (la : (ds a).length ≤ 10000000) (lb : (ds b).length ≤ 10000000) : Ev (fun k => vinculumref01_Mul.f k (dec a) (dec b)) (dec (a * b)) := by
  have e : wrap64 ((wrap64 (((ds a).length : Int) + ((ds b).length : Int))) + 1) = (((ds a).length + (ds b).length + 1 : Nat) : Int) := by
    rw [w64_sum (by omega), w64_succ (by omega)]
  have g := rmul_l3 a b ((ds a).length + (ds b).length + 1) la lb rfl _ 0 (List.replicate ((ds a).length + (ds b).length + 1) 0) rfl (Nat.zero_le _) (List.length_replicate ..) (fun x hx => by
    have := List.eq_of_mem_replicate hx
    subst this; exact ⟨by omega, by omega⟩) (by rw [wv_zeros, Nat.pow_zero, Nat.mod_one, Nat.zero_mul])
  refine Ev.congr (fun k => vinculumref01_Mul.f_eq ..) ?_
  rw [dec_size, dec_size, e, Int.toNat_natCast]
  exact Ev.pos (Int.natCast_nonneg _) (Ev.pos (by omega) g)
end Go.Proofs.YtbofacjgofgkpaaDoor.Pure
end
section
/-
  Differences and quotients of decimal digits: what the reference's Sub and DivMod compute. Condition: no text is longer than a hundred million bytes.
-/
namespace Go.Proofs.YtbofacjgofgkpaaDoor.Pure
open Go.RowKit Go.Proofs.YtbofacjgofgkpaaDoor.F Go.Proofs.YtbofacjgofgkpaaDoorW.PrintWords Go.Proofs.YtbofacjgofgkpaaDoorW.PrintLast Go.Proofs.YtbofacjgofgkpaaDoorW.PrintMore
open Go.Proofs.YtbofacjgofgkpaaDoor.E (tEq tLt tApp tCut)
set_option linter.unusedVariables false
set_option linter.unusedSimpArgs false
/-! ### Sub -/
theorem sub_digit {x y l : Nat} (hx : x < 10) (hy : y < 10) (hl : l ≤ 1) : wrap64 ((wrap64 ((x : Int) - (y : Int))) - (l : Int)) = (x : Int) - (y : Int) - (l : Int) := by
  rw [w64_of (x := (x : Int) - y) (by omega) (by omega), w64_of (by omega) (by omega)]
theorem sub_neg {x y l : Nat} (hx : x < 10) (hy : y < 10) (hl : l ≤ 1) (h : (x : Int) - (y : Int) - (l : Int) < 0) : wrap64 (48 + (wrap64 (((x : Int) - (y : Int) - (l : Int)) + 10))) % 256 = ((48 + (x + 10 - y - l) : Nat) : Int) ∧ x + 10 - y - l < 10 := by
  rw [w64_of (x := (x : Int) - y - l + 10) (by omega) (by omega), w64_of (by omega) (by omega)]; omega
theorem sub_pos {x y l : Nat} (hx : x < 10) (hy : y < 10) (hl : l ≤ 1) (h : ¬ (x : Int) - (y : Int) - (l : Int) < 0) : wrap64 (48 + ((x : Int) - (y : Int) - (l : Int))) % 256 = ((48 + (x - y - l) : Nat) : Int) ∧ x - y - l < 10 := by
  rw [w64_of (by omega) (by omega)]; omega
theorem sub_inv {A B P x y l v m l' : Nat} (hv : A + P * l = v + B) (h : x + 10 * l' = y + l + m) : A + P * x + P * 10 * l' = v + P * m + (B + P * y) := by
  have e : P * (x + 10 * l') = P * (y + l + m) := by rw [h]
  rw [Nat.mul_add, Nat.mul_add, Nat.mul_add] at e
  have e2 : P * (10 * l') = P * 10 * l' := by rw [Nat.mul_assoc]
  rw [e2] at e
  generalize P * 10 * l' = Q at *
  generalize P * x = X at *
  generalize P * y = Y at *
  generalize P * l = L at *
  generalize P * m = M at *
  omega
theorem sub_ref_l4 (a b : Nat) (hab : b ≤ a) (la : (ds a).length ≤ 1000000000) : ∀ (d i : Nat) (out : List Int) (c : Nat), (ds a).length - i = d → out.length = i → i ≤ (ds a).length → DI out → c ≤ 1 → a % 10 ^ i + 10 ^ i * c = dv out + b % 10 ^ i →
    Ev (fun k => vinculumref01_Sub.l4 k (dec a) (dec b) out (c : Int) (i : Int)) (dec (a - b)) := by
  intro d
  have lb := ds_length_mono hab
  induction d with
  | zero =>
    intro i out c hd ho hi hD hc hv
    have hi2 : i = (ds a).length := by clear hv; omega
    have e : dv out = a - b := by
      rw [mod_all (a := a) (by rw [hi2]; exact Nat.le_refl _), mod_all (a := b) (by rw [hi2]; exact lb)] at hv
      have h1 := dv_lt hD
      rw [ho] at h1
      rcases Nat.eq_zero_or_pos c with h2 | h2
      · subst h2; rw [Nat.mul_zero] at hv; omega
      · have h3 : c = 1 := by omega
        subst h3; rw [Nat.mul_one] at hv
        generalize 10 ^ i = P at *
        omega
    rw [← e]
    refine Ev.step (fun k => vinculumref01_Sub.l4_eq ..) ?_
    rw [dec_size]
    exact Ev.neg (by clear hv e; omega) (out_ev hD (by clear hv e; omega))
  | succ d ih =>
    intro i out c hd ho hi hD hc hv
    have hx : a / 10 ^ i % 10 < 10 := Nat.mod_lt _ (by decide)
    have hy : b / 10 ^ i % 10 < 10 := Nat.mod_lt _ (by decide)
    have s1 := mod_pow_step a i
    have s2 := mod_pow_step b i
    have ol : out.length + 1 ≤ 140737488355328 := by clear hv hx hy s1 s2; omega
    have da : (ds a).length ≤ 1099511627776 := by clear hv hx hy s1 s2; omega
    have db : (ds b).length ≤ 1099511627776 := by clear hv hx hy s1 s2; omega
    have e1 : wrap64 ((i : Int) + 1) = ((i + 1 : Nat) : Int) := w64_succ (by clear hv hx hy s1 s2; omega)
    have hi0 : (i : Int) < ((ds a).length : Int) := by clear hv hx hy s1 s2; omega
    have hd' : (ds a).length - (i + 1) = d := by clear hv hx hy s1 s2; omega
    have hi' : i + 1 ≤ (ds a).length := by clear hv hx hy s1 s2; omega
    have round : ∀ (m l' : Nat), m < 10 → l' ≤ 1 → a / 10 ^ i % 10 + 10 * l' = b / 10 ^ i % 10 + c + m → Ev (fun k => vinculumref01_Sub.l4 k (dec a) (dec b) (out ++ [((48 + m : Nat) : Int)]) (l' : Int) ((i + 1 : Nat) : Int)) (dec (a - b)) := by
      intro m l' hm hl' he
      refine ih (i + 1) _ l' hd' (by rw [List.length_append, ho]; rfl) hi' (hD.step hm) hl' ?_
      rw [dv_step ho _ hm, s1, s2]
      exact sub_inv hv he
    clear ih hv s1 s2
    have hsd := sub_digit hx hy hc
    generalize hgx : a / 10 ^ i % 10 = x at *
    generalize hgy : b / 10 ^ i % 10 = y at *
    have dx := digit_ev a i da
    have dy := digit_ev b i db
    rw [hgx] at dx; rw [hgy] at dy
    by_cases h : (x : Int) - (y : Int) - (c : Int) < 0
    · obtain ⟨e2, h2⟩ := sub_neg hx hy hc h
      refine Ev.step (fun k => vinculumref01_Sub.l4_eq ..) ?_
      rw [dec_size]
      refine Ev.pos hi0 (Ev.bind dx (Ev.bind dy ?_))
      rw [hsd, e2, e1]
      exact Ev.pos h (Ev.pos ol (round _ 1 h2 (Nat.le_refl _) (by clear hsd e2 e1; omega)))
    · obtain ⟨e2, h2⟩ := sub_pos hx hy hc h
      refine Ev.step (fun k => vinculumref01_Sub.l4_eq ..) ?_
      rw [dec_size]
      refine Ev.pos hi0 (Ev.bind dx (Ev.bind dy ?_))
      rw [hsd, e2, e1]
      exact Ev.neg h (Ev.pos ol (round _ 0 h2 (by omega) (by clear hsd e2 e1; omega)))
theorem ref_sub {a b : Nat} (hab : b ≤ a) (la : (ds a).length ≤ 1000000000) : Ev (fun k => vinculumref01_Sub.f k (dec a) (dec b)) (dec (a - b)) :=
  Ev.congr (fun k => vinculumref01_Sub.f_eq ..) (sub_ref_l4 a b hab la _ 0 [] 0 rfl rfl (by omega) (fun x h => by cases h) (by omega) (by simp [dv, Nat.mod_one]))

/-! ### DivMod -/
theorem by8_snoc (l : List Int) (m : Nat) (hm : m < 10) : by8 (l ++ [((48 + m : Nat) : Int)]) = by8 l ++ [dg m] := by
  unfold by8
  rw [List.map_append]
  have : ((48 + m : Nat) : Int).toNat = 48 + m % 10 := by omega
  simp only [List.map_cons, List.map_nil, this, dg]
theorem sv_by8_snoc (l : List Int) (m : Nat) (hm : m < 10) : sv (by8 (l ++ [((48 + m : Nat) : Int)])) = 10 * sv (by8 l) + m := by
  rw [by8_snoc l m hm, sv_snoc, dg_toNat]; omega
theorem div_word {n : Nat} (h : n < 10) : (wrap64 (48 + (n : Int))) % 256 = ((48 + n : Nat) : Int) := by
  rw [w64_of (by omega) (by omega)]; omega
theorem w64_up {n : Nat} (h : n < 1000) : wrap64 ((n : Int) + 1) = ((n + 1 : Nat) : Int) := w64_succ (by omega)
/-- The inner loop: y is taken off as often as it goes. -/
theorem div_l8 (x : ByteArray) (b : Nat) (hb : 0 < b) (i : Nat) (out : List Int) (lb : (ds b).length ≤ 100000000) (ho : out.length + 1 ≤ 140737488355328) (hi : i < 1000000000) (R : ByteArray × ByteArray) (N : Nat) (hN : N < 10 * b)
    (H : Ev (fun k => vinculumref01_DivMod.l4 k x (dec b) (out ++ [((48 + N / b : Nat) : Int)]) (dec (N % b)) ((i + 1 : Nat) : Int)) R) :
    ∀ (d n : Nat), N / b - n = d → n ≤ N / b → Ev (fun k => vinculumref01_DivMod.l8 k x (dec b) out (dec (N - n * b)) (i : Int) (n : Int)) R := by
  have hq : N / b < 10 := Nat.div_lt_of_lt_mul (by rw [Nat.mul_comm]; exact hN)
  intro d
  induction d with
  | zero =>
    intro n hd hn
    have e : n = N / b := by clear H; omega
    subst e
    have e2 : N - N / b * b = N % b := by have := Nat.div_add_mod N b; rw [Nat.mul_comm] at this; generalize N / b * b = m at *; omega
    rw [e2]
    refine Ev.step (fun k => vinculumref01_DivMod.l8_eq ..) (Ev.bind (ref_cmp _ _) ?_)
    rw [div_word hq, w64_succ (a := i) (by clear H hN e2; omega)]
    exact Ev.neg (cmpI_neg.2 (Nat.mod_lt N hb)) (Ev.pos ho H)
  | succ d ih =>
    intro n hd hn
    have h1 : n + 1 ≤ N / b := by clear H ih; omega
    have h2 := Nat.mul_le_of_le_div b (n + 1) N h1
    rw [Nat.add_mul, Nat.one_mul] at h2
    have hge : b ≤ N - n * b := by generalize n * b = m at *; clear H ih hd hn hq h1; omega
    have e2 : N - n * b - b = N - (n + 1) * b := by rw [Nat.add_mul, Nat.one_mul, Nat.sub_sub]
    have hlen : (ds (N - n * b)).length ≤ 1000000000 := by
      have h3 : N - n * b < 10 ^ ((ds b).length + 1) := by
        rw [Nat.pow_succ]
        have h4 := lt_pow_ds b
        generalize 10 ^ (ds b).length = P at *
        generalize n * b = m at *
        clear H ih hd hn hq h1
        omega
      have := ds_length_le h3 (Nat.succ_pos _)
      clear H ih hd hn hq h1 h2
      omega
    have hs := ref_sub hge hlen
    rw [e2] at hs
    have hn2 : n < 1000 := by clear H ih; omega
    have gi := ih (n + 1) (by clear H ih; omega) h1
    rw [← w64_up hn2] at gi
    exact Ev.step (fun k => vinculumref01_DivMod.l8_eq ..) (Ev.bind (ref_cmp _ _) (Ev.pos (Decidable.not_not.1 fun h => by have := cmpI_neg.1 h; omega) (Ev.bind hs gi)))
/-- The number of the first digits. -/
theorem sv_take_ds (a i : Nat) (h : i < (ds a).length) : sv ((ds a).take (i + 1)) = 10 * sv ((ds a).take i) + (((ds a)[i]).toNat - 48) := by
  rw [List.take_succ_eq_append_getElem h, sv_snoc]
theorem div_bound {p b d : Nat} (hb : 0 < b) (hd : d < 10) : 10 * (p % b) + d < 10 * b := by
  have := Nat.mod_lt p hb; omega
theorem div_next (p b d : Nat) (hb : 0 < b) : (10 * p + d) / b = 10 * (p / b) + (10 * (p % b) + d) / b ∧ (10 * p + d) % b = (10 * (p % b) + d) % b := by
  have e : 10 * p + d = (10 * (p % b) + d) + b * (10 * (p / b)) := by
    have := Nat.mod_add_div p b
    calc 10 * p + d = 10 * (p % b + b * (p / b)) + d := by rw [this]
      _ = _ := by grind
  rw [e, Nat.add_mul_div_left _ _ hb, Nat.add_mul_mod_self_left]
  exact ⟨Nat.add_comm _ _, rfl⟩
theorem extract_one (l : List UInt8) (i : Nat) (h : i < l.length) : (tx l).extract i (i + 1) = tx [l[i]] := by
  rw [tx_extract]
  congr 1
  rw [List.drop_eq_getElem_cons h]
  have : i + 1 - i = 1 := by omega
  rw [this]; rfl
theorem div_l4 (a b : Nat) (hb : 0 < b) (la : (ds a).length ≤ 100000000) (lb : (ds b).length ≤ 100000000) :
    ∀ (d i : Nat) (out : List Int), (ds a).length - i = d → i ≤ (ds a).length → out.length = i → DI out → sv (by8 out) = sv ((ds a).take i) / b →
    Ev (fun k => vinculumref01_DivMod.l4 k (dec a) (dec b) out (dec (sv ((ds a).take i) % b)) (i : Int)) (dec (a / b), dec (a % b)) := by
  intro d
  induction d with
  | zero =>
    intro i out hd hi ho hD hv
    have e : i = (ds a).length := by clear hv; omega
    rw [e, List.take_length, sv_ds] at hv ⊢
    have g := strip_ev (by8_DS hD)
    rw [hv] at g
    refine Ev.step (fun k => vinculumref01_DivMod.l4_eq ..) ?_
    rw [dec_size, strOf_tx]
    exact Ev.neg (Int.lt_irrefl _) (Ev.pos (by clear hv g; omega) (Ev.bind g (Ev.now _)))
  | succ d ih =>
    intro i out hd hi ho hD hv
    have hi0 : i < (ds a).length := by clear hv; omega
    have hi1 : i < 1000000000 := by clear hv; omega
    have ol : out.length + 1 ≤ 140737488355328 := by clear hv; omega
    have hd1 := ds_DS a _ (List.getElem_mem hi0)
    have ht := sv_take_ds a i hi0
    have hx := extract_one (ds a) i hi0
    have hlt : ((ds a)[i]).toNat - 48 < 10 := by clear hv ht; omega
    generalize (ds a)[i] = g at *
    have hN := div_bound (p := sv ((ds a).take i)) hb hlt
    have hnx := div_next (sv ((ds a).take i)) b (g.toNat - 48) hb
    rw [← ht] at hnx
    have hq : (10 * (sv ((ds a).take i) % b) + (g.toNat - 48)) / b < 10 := Nat.div_lt_of_lt_mul (by rw [Nat.mul_comm b 10]; exact hN)
    have hl0 : (ds (sv ((ds a).take i) % b)).length ≤ 100000000 := Nat.le_trans (ds_length_mono (Nat.le_of_lt (Nat.mod_lt _ hb))) lb
    have hstrip : Ev (fun k => vinculumref01_strip.f k (tx (ds (sv ((ds a).take i) % b) ++ [g]))) (dec (10 * (sv ((ds a).take i) % b) + (g.toNat - 48))) := by
      have := strip_ev (l := ds (sv ((ds a).take i) % b) ++ [g]) ((ds_DS _).append (fun x hx => by rw [List.mem_singleton.1 hx]; exact hd1))
      rwa [sv_snoc, sv_ds] at this
    have H := ih (i + 1) (out ++ [((48 + (10 * (sv ((ds a).take i) % b) + (g.toNat - 48)) / b : Nat) : Int)]) (by clear hv hnx hq hN ht hx; omega) hi0 (by rw [List.length_append, ho]; rfl) (hD.step hq) (by rw [sv_by8_snoc _ _ hq, hv, hnx.1])
    rw [hnx.2] at H
    have g1 := div_l8 (dec a) b hb i out lb ol hi1 _ _ hN H _ 0 rfl (Nat.zero_le _)
    rw [Nat.zero_mul, Nat.sub_zero] at g1
    have e1 : wrap64 ((i : Int) + 1) = ((i + 1 : Nat) : Int) := w64_succ (by clear hv hnx hq hN ht hx; omega)
    have es : tCut (dec a) i (i + 1) = tx [g] := by rw [E.tCut_eq]; exact hx
    have ea : tApp (dec (sv ((ds a).take i) % b)) (tx [g]) = tx (ds (sv ((ds a).take i) % b) ++ [g]) := tApp_tx _ _
    refine Ev.step (fun k => vinculumref01_DivMod.l4_eq ..) ?_
    rw [dec_size, e1, Int.toNat_natCast, Int.toNat_natCast, es, ea, dec_size]
    refine Ev.pos (Int.ofNat_lt.2 hi0) (Ev.pos (Int.natCast_nonneg (i + 1)) (Ev.pos (Int.ofNat_le.2 hi0) (Ev.pos (Int.natCast_nonneg i) (Ev.pos (Int.ofNat_le.2 (Nat.le_succ i)) (Ev.pos ?_ (Ev.bind hstrip g1))))))
    rw [tx_size, List.length_singleton]; clear hv hnx hq hN ht hx e1 es ea; omega
theorem ref_divmod {a b : Nat} (hb : 0 < b) (la : (ds a).length ≤ 100000000) (lb : (ds b).length ≤ 100000000) : Ev (fun k => vinculumref01_DivMod.f k (dec a) (dec b)) (dec (a / b), dec (a % b)) := by
  have g := div_l4 a b hb la lb _ 0 [] rfl (Nat.zero_le _) rfl (fun x h => by cases h) (by rw [List.take_zero, sv_nil, Nat.zero_div]; rfl)
  rw [List.take_zero, sv_nil, Nat.zero_mod, dec_zero] at g
  exact Ev.congr (fun k => vinculumref01_DivMod.f_eq ..) g
end Go.Proofs.YtbofacjgofgkpaaDoor.Pure
end
section
/-
  Words and numbers as decimal digits: what the reference's Word and Of compute. Condition: no list is longer than 1000 words.
-/
namespace Go.Proofs.YtbofacjgofgkpaaDoor.Pure
open Go.RowKit Go.Proofs.YtbofacjgofgkpaaDoor.F Go.Proofs.YtbofacjgofgkpaaDoorW.PrintWords Go.Proofs.YtbofacjgofgkpaaDoorW.PrintLast Go.Proofs.YtbofacjgofgkpaaDoorW.PrintMore
open Go.Proofs.YtbofacjgofgkpaaDoor.E (tEq tLt tApp tCut)
set_option linter.unusedVariables false
set_option linter.unusedSimpArgs false
instance (l : List UInt8) : Decidable (DS l) := by unfold DS; infer_instance
/-! ### Word -/
theorem word_byte {n : Nat} (h : n < 18446744073709551616) : (IntKind.u64.wrap (48 + (Int.tmod (n : Int) 10))) % 256 = ((48 + n % 10 : Nat) : Int) := by
  rw [Int.tmod_eq_emod_of_nonneg (by omega), wu]; omega
theorem word_next {n : Nat} (h : n < 18446744073709551616) : IntKind.u64.wrap (Int.tdiv (n : Int) 10) = ((n / 10 : Nat) : Int) := by
  rw [Int.tdiv_eq_ediv_of_nonneg (by omega), wu]; omega
theorem word_l2 (W : Nat) : ∀ (m n : Nat) (out : List Int), n < 10 ^ m → n < 18446744073709551616 → out.length + m ≤ 1000 → DI out → dv out + 10 ^ out.length * n = W → Ev (fun k => vinculumref01_Word.l2 k (n : Int) out) (dec W) := by
  intro m
  induction m with
  | zero =>
    intro n out hn hw hl hD hv
    have : n = 0 := by rw [Nat.pow_zero] at hn; omega
    subst this
    rw [Nat.mul_zero, Nat.add_zero] at hv
    rw [← hv]
    exact Ev.step (fun k => vinculumref01_Word.l2_eq ..) (Ev.neg (by decide) (out_ev hD (by clear hv hn; omega)))
  | succ m ih =>
    intro n out hn hw hl hD hv
    by_cases h0 : n = 0
    · subst h0
      rw [Nat.mul_zero, Nat.add_zero] at hv
      rw [← hv]
      exact Ev.step (fun k => vinculumref01_Word.l2_eq ..) (Ev.neg (by decide) (out_ev hD (by clear hv hn; omega)))
    · have hlt : n % 10 < 10 := Nat.mod_lt _ (by decide)
      have hn' : n / 10 < 10 ^ m := Nat.div_lt_of_lt_mul (by rw [Nat.pow_succ, Nat.mul_comm] at hn; exact hn)
      have hv' : dv (out ++ [((48 + n % 10 : Nat) : Int)]) + 10 ^ (out ++ [((48 + n % 10 : Nat) : Int)]).length * (n / 10) = W := by
        rw [dv_step rfl _ hlt, List.length_append, List.length_singleton, Nat.pow_succ, Nat.add_assoc, carry_dec, hv]
      have ol : out.length + 1 ≤ 140737488355328 := by clear hv hv' hn hn'; omega
      have g := ih (n / 10) _ hn' (by clear hv hv' hn hn'; omega) (by rw [List.length_append, List.length_singleton]; clear hv hv' hn hn'; omega) (hD.step hlt) hv'
      refine Ev.step (fun k => vinculumref01_Word.l2_eq ..) ?_
      rw [word_byte hw, word_next hw]
      exact Ev.pos (by clear hv hv' hn hn'; omega) (Ev.pos ol g)
theorem ref_word {n : Nat} (h : n < 18446744073709551616) : Ev (fun k => vinculumref01_Word.f k (n : Int)) (dec n) :=
  Ev.congr (fun k => vinculumref01_Word.f_eq ..) (word_l2 n 20 n [] (Nat.lt_of_lt_of_le h (by decide)) h (by decide) (fun x h => by cases h) (by simp [dv]))

/-! ### Of -/
theorem ds_length_limbs {x : List Int} (hw : WF x) : (ds (nv x)).length ≤ 20 * x.length + 1 := by
  refine ds_length_le (Nat.lt_of_lt_of_le (nv_lt hw) ?_) (Nat.succ_pos _)
  rw [Nat.pow_succ, Nat.pow_mul]
  have h1 : 18446744073709551616 ^ x.length ≤ (10 ^ 20) ^ x.length := Nat.pow_le_pow_left (by decide) _
  exact Nat.le_trans h1 (Nat.le_mul_of_pos_right _ (by decide))
theorem dec_B : (ByteArray.mk (Array.mk [49, 56, 52, 52, 54, 55, 52, 52, 48, 55, 51, 55, 48, 57, 53, 53, 49, 54, 49, 54]) : ByteArray) = dec 18446744073709551616 := by
  have : [49, 56, 52, 52, 54, 55, 52, 52, 48, 55, 51, 55, 48, 57, 53, 53, 49, 54, 49, 54] = ds (sv [49, 56, 52, 52, 54, 55, 52, 52, 48, 55, 51, 55, 48, 57, 53, 53, 49, 54, 49, 54]) :=
    ds_of (by decide) (by decide) (.inr (by decide))
  have e : sv [49, 56, 52, 52, 54, 55, 52, 52, 48, 55, 51, 55, 48, 57, 53, 53, 49, 54, 49, 54] = 18446744073709551616 := by decide
  rw [e] at this
  rw [dec, ← this]; rfl
theorem of_l3 (x : List Int) (hw : WF x) (hl : x.length ≤ 1000) : ∀ n : Nat, n ≤ x.length → Ev (fun k => vinculumref01_Of.l3 k x (dec (nv (x.drop n))) ((n : Int) - 1)) (dec (nv x)) := by
  intro n
  induction n with
  | zero =>
    intro _
    rw [List.drop_zero]
    exact Ev.step (fun k => vinculumref01_Of.l3_eq ..) (Ev.neg (by decide) (Ev.now _))
  | succ n ih =>
    intro hn
    have hn0 : n < x.length := hn
    have e0 : ((n + 1 : Nat) : Int) - 1 = (n : Int) := by omega
    have e1 : wrap64 ((n : Int) - 1) = (n : Int) - 1 := w64_dec (by omega)
    have hr : rd x (n : Int) = x[n] := rd_of rfl hn0
    have hu := hw.get hn0
    have hd := nv_drop x n hn0
    have h1 : (ds (nv (x.drop (n + 1)))).length ≤ 10000000 := by
      have := ds_length_limbs (hw.drop (n + 1))
      rw [List.length_drop] at this
      clear hd e1 hu; omega
    have h2 : (ds (18446744073709551616 * nv (x.drop (n + 1)))).length ≤ 1000000000 := by
      have g := ds_length_limbs (hw.drop n)
      have := ds_length_mono (show 18446744073709551616 * nv (x.drop (n + 1)) ≤ nv (x.drop n) by rw [hd]; exact Nat.le_add_left _ _)
      rw [List.length_drop] at g
      clear hd e1 hu; omega
    have h3 : (ds (x[n]).toNat).length ≤ 1000000000 := by
      refine Nat.le_trans (ds_length_le (m := 20) (Nat.lt_of_lt_of_le (show (x[n]).toNat < 18446744073709551616 by have := hu.1; have := hu.2; clear hd e1; omega) (by decide)) (by decide)) (by decide)
    have hB : (ds 18446744073709551616).length ≤ 10000000 := Nat.le_trans (ds_length_le (m := 20) (by decide) (by decide)) (by decide)
    have gm := ref_mul h1 hB
    have gw := ref_word (n := (x[n]).toNat) (by have := hu.1; have := hu.2; clear hd e1; omega)
    rw [Int.toNat_of_nonneg hu.1] at gw
    rw [Nat.mul_comm] at gm
    have ga := ref_add h2 h3
    have e3 : 18446744073709551616 * nv (x.drop (n + 1)) + (x[n]).toNat = nv (x.drop n) := by rw [hd]; exact Nat.add_comm _ _
    rw [e3] at ga
    refine Ev.step (fun k => vinculumref01_Of.l3_eq ..) ?_
    rw [e0, hr, e1, dec_B]
    exact Ev.pos (Int.natCast_nonneg n) (Ev.bind gm (Ev.pos (Int.natCast_nonneg n) (Ev.pos (Int.ofNat_lt.2 hn0) (Ev.bind gw (Ev.bind ga (ih (Nat.le_of_lt hn0)))))))
theorem ref_of {x : List Int} (hw : WF x) (hl : x.length ≤ 1000) : Ev (fun k => vinculumref01_Of.f k x) (dec (nv x)) := by
  have g := of_l3 x hw hl x.length (Nat.le_refl _)
  rw [List.drop_length] at g
  refine Ev.congr (fun k => vinculumref01_Of.f_eq ..) ?_
  rw [w64_dec (by omega), mk_48, ← dec_zero]
  exact g
end Go.Proofs.YtbofacjgofgkpaaDoor.Pure
end
section
/-
  What the reference's Bits, Parse and Gcd compute on decimal digits. Condition: texts of up to a million bytes.
-/
namespace Go.Proofs.YtbofacjgofgkpaaDoor.Pure
open Go.RowKit Go.Proofs.YtbofacjgofgkpaaDoor.F Go.Proofs.YtbofacjgofgkpaaDoorW.PrintWords Go.Proofs.YtbofacjgofgkpaaDoorW.PrintLast Go.Proofs.YtbofacjgofgkpaaDoorW.PrintMore
open Go.Proofs.YtbofacjgofgkpaaDoor.E (tEq tLt tApp tCut)
set_option linter.unusedVariables false
set_option linter.unusedSimpArgs false
/-! ### Bits -/
theorem dec_one : dec 1 = (⟨#[49]⟩ : ByteArray) := by rw [dec, ds_small (by decide)]; rfl
theorem ds_pow2 (n : Nat) : (ds (2 ^ n)).length ≤ n + 1 := by
  refine ds_length_le ?_ (Nat.succ_pos _)
  have h1 : 2 ^ n ≤ 10 ^ n := Nat.pow_le_pow_left (by decide) _
  have h2 : 10 ^ n < 10 ^ (n + 1) := Nat.pow_lt_pow_right (by decide) (Nat.lt_succ_self n)
  exact Nat.lt_of_le_of_lt h1 h2
theorem bits_l3 (a : Nat) (ha : bits a ≤ 100000) : ∀ (d i : Nat), bits a - i = d → i ≤ bits a → Ev (fun k => vinculumref01_Bits.l3 k (dec a) (i : Int) (dec (2 ^ i))) (bits a : Int) := by
  intro d
  induction d with
  | zero =>
    intro i hd hi
    have : i = bits a := by omega
    exact Ev.step (fun k => vinculumref01_Bits.l3_eq ..) (Ev.bind (ref_cmp _ _) (Ev.neg (cmpI_neg.2 (by rw [this]; exact lt_bits a)) (Ev.ret (by rw [this]))))
  | succ d ih =>
    intro i hd hi
    have hi0 : i < bits a := by omega
    have hge : 2 ^ i ≤ a := Nat.le_trans (Nat.pow_le_pow_right (by decide) (by omega)) (bits_le (by omega))
    have hl := ds_pow2 i
    have ga := ref_add (a := 2 ^ i) (b := 2 ^ i) (by omega) (by omega)
    have e : 2 ^ i + 2 ^ i = 2 ^ (i + 1) := by rw [Nat.pow_succ, Nat.mul_two]
    rw [e] at ga
    have gi := ih (i + 1) (by omega) hi0
    rw [← w64_succ (a := i) (by omega)] at gi
    exact Ev.step (fun k => vinculumref01_Bits.l3_eq ..) (Ev.bind (ref_cmp _ _) (Ev.pos (Decidable.not_not.1 fun h => by have := cmpI_neg.1 h; omega) (Ev.bind ga gi)))
theorem ref_bits {a : Nat} (ha : bits a ≤ 100000) : Ev (fun k => vinculumref01_Bits.f k (dec a)) (bits a : Int) := by
  have g := bits_l3 a ha _ 0 rfl (Nat.zero_le _)
  rw [Nat.pow_zero, dec_one] at g
  exact Ev.congr (fun k => vinculumref01_Bits.f_eq ..) g

/-! ### Parse -/
/-- What is wrong with a text. -/
def code (l : List UInt8) : Int := if l = [] ∨ (1 < l.length ∧ l.head? = some 48) ∨ ¬ DS l then 16 else if 20000 < l.length then 13 else 0
theorem rparse_l4 (l : List UInt8) (hl : l.length ≤ 1000000) : ∀ (d i : Nat), l.length - i = d → i ≤ l.length → (∀ b ∈ l.take i, 48 ≤ b.toNat ∧ b.toNat ≤ 57) → Ev (fun k => vinculumref01_Parse.l4 k (tx l) (i : Int)) (if ¬ DS l then 16 else if 20000 < l.length then 13 else 0) := by
  intro d
  induction d with
  | zero =>
    intro i hd hi hp
    have : i = l.length := by omega
    subst this
    rw [List.take_length] at hp
    rw [if_neg (not_not_intro (show DS l from hp))]
    by_cases h : 20000 < l.length
    · rw [if_pos h]
      refine Ev.step (fun k => vinculumref01_Parse.l4_eq ..) ?_
      rw [tx_size]
      exact Ev.neg (Int.lt_irrefl _) (Ev.pos (by omega) (Ev.now _))
    · rw [if_neg h]
      refine Ev.step (fun k => vinculumref01_Parse.l4_eq ..) ?_
      rw [tx_size]
      exact Ev.neg (Int.lt_irrefl _) (Ev.neg (by omega) (Ev.now _))
  | succ d ih =>
    intro i hd hi hp
    have hi0 : i < l.length := by omega
    have hb := tx_bt l i hi0
    by_cases h1 : 48 ≤ (l[i]).toNat ∧ (l[i]).toNat ≤ 57
    · have g := ih (i + 1) (by omega) hi0 (fun b h => by
        rw [List.take_succ_eq_append_getElem hi0] at h
        rcases List.mem_append.1 h with h | h
        · exact hp b h
        · rw [List.mem_singleton.1 h]; exact h1)
      rw [← w64_succ (a := i) (by omega)] at g
      refine Ev.step (fun k => vinculumref01_Parse.l4_eq ..) ?_
      rw [tx_size, hb]
      exact Ev.pos (Int.ofNat_lt.2 hi0) (Ev.pos (Int.natCast_nonneg i) (Ev.pos (Int.ofNat_lt.2 hi0) (Ev.neg (by omega) (Ev.pos (Int.natCast_nonneg i) (Ev.pos (Int.ofNat_lt.2 hi0) (Ev.neg (by omega) g))))))
    · have : ¬ DS l := fun h => h1 (h _ (List.getElem_mem hi0))
      rw [if_pos this]
      refine Ev.step (fun k => vinculumref01_Parse.l4_eq ..) ?_
      rw [tx_size, hb]
      refine Ev.pos (Int.ofNat_lt.2 hi0) (Ev.pos (Int.natCast_nonneg i) (Ev.pos (Int.ofNat_lt.2 hi0) ?_))
      by_cases h2 : ((l[i]).toNat : Int) < 48
      · exact Ev.pos h2 (Ev.now _)
      · exact Ev.neg h2 (Ev.pos (Int.natCast_nonneg i) (Ev.pos (Int.ofNat_lt.2 hi0) (Ev.pos (by omega) (Ev.now _))))
theorem ref_parse {l : List UInt8} (hl : l.length ≤ 1000000) : Ev (fun k => vinculumref01_Parse.f k (tx l)) (code l) := by
  have fine : l ≠ [] → ¬ (1 < l.length ∧ l.head? = some 48) → Ev (fun k => vinculumref01_Parse.l4 k (tx l) 0) (code l) := fun h1 h2 => by
    have e : code l = (if ¬ DS l then 16 else if 20000 < l.length then 13 else 0) := by
      unfold code
      by_cases h3 : DS l
      · rw [if_neg (fun h => h.elim h1 fun h => h.elim h2 fun h => h h3), if_neg (not_not_intro h3)]
      · rw [if_pos (.inr (.inr h3)), if_pos h3]
    rw [e]
    exact rparse_l4 l hl _ 0 rfl (Nat.zero_le _) (fun b h => by rw [List.take_zero] at h; cases h)
  refine Ev.congr (fun k => vinculumref01_Parse.f_eq ..) ?_
  rw [mk_nil, tx_size]
  by_cases h1 : l = []
  · exact Ev.pos (tEq_yes h1) (Ev.ret (if_pos (.inl h1)).symm)
  · refine Ev.neg (tEq_no h1) ?_
    have hpos : 0 < l.length := List.length_pos_iff.2 h1
    have hb : bt (tx l) 0 = ((l[0]).toNat : Int) := tx_bt l 0 hpos
    have hh := head_first h1
    by_cases h2 : (l.length : Int) > 1
    · refine Ev.pos h2 (Ev.pos (Int.ofNat_lt.2 hpos) ?_)
      rw [hb]
      by_cases h3 : l[0] = 48
      · exact Ev.pos (by rw [h3]; rfl) (Ev.ret (if_pos (.inr (.inl ⟨by omega, by rw [hh, h3]⟩))).symm)
      · exact Ev.neg (fun h4 => h3 (UInt8.toNat.inj (by have : (48 : UInt8).toNat = 48 := rfl; omega))) (fine h1 (fun h => h3 (by have := h.2; rw [hh] at this; exact Option.some.inj this)))
    · exact Ev.neg h2 (fine h1 (fun h => h2 (by have := h.1; omega)))
/-! ### Gcd -/
theorem rgcd_l1 : ∀ (b a : Nat), (ds a).length ≤ 100000000 → (ds b).length ≤ 100000000 → Ev (fun k => vinculumref01_Gcd.l1 k (dec a) (dec b)) (dec (Nat.gcd b a)) := by
  intro b
  induction b using Nat.strongRecOn with
  | _ b ih =>
    intro a la lb
    refine Ev.step (fun k => vinculumref01_Gcd.l1_eq ..) ?_
    rw [mk_48]
    by_cases h : b = 0
    · subst h
      rw [Nat.gcd_zero_left]
      exact Ev.pos (by rw [dec_zero]; exact tEq_yes rfl) (Ev.now _)
    · have hb : 0 < b := Nat.pos_of_ne_zero h
      have hm := Nat.mod_lt a hb
      have g := ih (a % b) hm b lb (Nat.le_trans (ds_length_mono (Nat.le_of_lt hm)) lb)
      rw [← Nat.gcd_rec] at g
      exact Ev.neg (tEq_no fun h2 => h (ds_inj (h2.trans ds_zero.symm))) (Ev.bind (ref_divmod hb la lb) g)
theorem ref_gcd {a b : Nat} (la : (ds a).length ≤ 100000000) (lb : (ds b).length ≤ 100000000) : Ev (fun k => vinculumref01_Gcd.f k (dec a) (dec b)) (dec (Nat.gcd b a)) := Ev.congr (fun k => vinculumref01_Gcd.f_eq ..) (rgcd_l1 b a la lb)
end Go.Proofs.YtbofacjgofgkpaaDoor.Pure
end
section
/-
  Whole numbers: what package bigint's methods compute. Condition: no number has more than 1000 words.
-/
namespace Go.Proofs.YtbofacjgofgkpaaDoor.Pure
open Go.RowKit Go.Proofs.YtbofacjgofgkpaaDoor.F Go.Proofs.YtbofacjgofgkpaaDoorW.PrintWords Go.Proofs.YtbofacjgofgkpaaDoorW.PrintLast Go.Proofs.YtbofacjgofgkpaaDoorW.PrintMore
open Go.Proofs.YtbofacjgofgkpaaDoor.E (tEq tLt tApp tCut)
set_option linter.unusedVariables false
set_option linter.unusedSimpArgs false
/-- Below 0? -/
def ng (z : Int) : Bool := decide (z < 0)
/-- A number with a sign. -/
def sg (b : Bool) (n : Nat) : Int := if b then -(n : Int) else (n : Int)
theorem sg_abs (b : Bool) (n : Nat) : (sg b n).natAbs = n := by cases b <;> simp [sg]
theorem sg_ng (z : Int) : sg (ng z) z.natAbs = z := by
  unfold sg ng
  by_cases h : z < 0
  · simp [h]; omega
  · simp [h]; omega
theorem ng_sg (b : Bool) (n : Nat) : ng (sg b n) = (b && decide (0 < n)) := by
  unfold sg ng
  cases b <;> simp
theorem ng_true {z : Int} : ng z = true ↔ z < 0 := decide_eq_true_iff
theorem ng_false {z : Int} : ng z = false ↔ 0 ≤ z := by unfold ng; rw [decide_eq_false_iff_not]; omega
theorem sg_false (n : Nat) : sg false n = (n : Int) := rfl
theorem ng_nat (n : Nat) : ng (n : Int) = false := ng_false.2 (Int.natCast_nonneg n)
/-- So many words at most. -/
def Sz (p : Nat) (z : Int) : Prop := (limbs z.natAbs).length ≤ p
theorem Sz.lt {p : Nat} {z : Int} (h : Sz p z) : z.natAbs < 18446744073709551616 ^ p := pow_up (lt_pow_limbs _) h
theorem Sz.of {p : Nat} {z : Int} (h : z.natAbs < 18446744073709551616 ^ p) : Sz p z := limbs_length_le h
theorem Sz.up {p q : Nat} {z : Int} (h : Sz p z) (hpq : p ≤ q) : Sz q z := Nat.le_trans h hpq
theorem Sz.neg {p : Nat} {z : Int} (h : Sz p z) : Sz p (-z) := by unfold Sz at *; rwa [Int.natAbs_neg]
theorem Sz.add {p : Nat} {x y : Int} (hx : Sz p x) (hy : Sz p y) : Sz (p + 1) (x + y) :=
  Sz.of (Nat.lt_of_le_of_lt (Int.natAbs_add_le x y) (lt_add hx.lt hy.lt))
theorem Sz.sub {p : Nat} {x y : Int} (hx : Sz p x) (hy : Sz p y) : Sz (p + 1) (x - y) := by
  rw [Int.sub_eq_add_neg]; exact hx.add hy.neg
theorem Sz.mul {p q : Nat} {x y : Int} (hx : Sz p x) (hy : Sz q y) : Sz (p + q) (x * y) := Sz.of (by rw [Int.natAbs_mul]; exact lt_mul hx.lt hy.lt)
theorem Sz.mono {p : Nat} {x y : Int} (hy : Sz p y) (h : x.natAbs ≤ y.natAbs) : Sz p x := Nat.le_trans (limbs_length_mono h) hy
theorem made_ev (b : Bool) (n : Nat) : Ev (fun k => bigint_made.f k b (limbs n)) (ng (sg b n), limbs n) := by
  refine Ev.congr (fun k => bigint_made.f_eq ..) ?_
  rw [ng_sg]
  cases b with
  | false => exact Ev.neg (by decide) (Ev.now _)
  | true =>
    refine Ev.pos rfl (Ev.ret ?_)
    rw [Bool.true_and]
    congr 1
    apply decide_eq_decide.2
    by_cases h : n = 0
    · subst h; rw [limbs_zero]; simp
    · have := limbs_length_pos h
      omega
/-- The same, the number told. -/
theorem made_of {b : Bool} {n : Nat} {z : Int} (h : sg b n = z) : Ev (fun k => bigint_made.f k b (limbs n)) (ng z, limbs z.natAbs) := by
  have e : n = z.natAbs := by rw [← h, sg_abs]
  subst e
  have := made_ev b z.natAbs
  rwa [h] at this
theorem iof_ev {n : Int} (h1 : -9223372036854775808 ≤ n) (h2 : n ≤ 9223372036854775807) : Ev (fun k => bigint_Of.f k n) (ng n, limbs n.natAbs) := by
  have one : ∀ m : Nat, m ≠ 0 → m < 18446744073709551616 → limbs m = [(m : Int)] := fun m h0 h => by
    rw [limbs_pos h0, Nat.div_eq_of_lt h, limbs_zero, Nat.mod_eq_of_lt h]
  refine Ev.congr (fun k => bigint_Of.f_eq ..) ?_
  unfold ng
  by_cases h : n < 0
  · refine Ev.pos h (Ev.ret ?_)
    rw [decide_eq_true h, one n.natAbs (by omega) (by omega)]
    congr 2
    rw [wu, wu]; omega
  · refine Ev.neg h ?_
    rw [decide_eq_false h]
    by_cases h0 : n = 0
    · refine Ev.pos h0 (Ev.ret ?_)
      rw [h0, show (0 : Int).natAbs = 0 from rfl, limbs_zero]
    · refine Ev.neg h0 (Ev.ret ?_)
      rw [one n.natAbs (by omega) (by omega)]
      congr 2
      rw [wu]; omega
theorem sg_not (z : Int) : sg (!ng z) z.natAbs = -z := by
  have := sg_ng z
  cases e : ng z with
  | true => rw [e] at this; simp only [sg] at this ⊢; simp at this ⊢; omega
  | false => rw [e] at this; simp only [sg] at this ⊢; simp at this ⊢; omega
theorem ineg_ev (z : Int) : Ev (fun k => bigint_Int_Neg.f k (ng z) (limbs z.natAbs)) (ng (-z), limbs (-z).natAbs) :=
  Ev.congr (fun k => bigint_Int_Neg.f_eq ..) (Ev.bind (made_of (sg_not z)) (Ev.now _))
theorem isign_ev (z : Int) : Ev (fun k => bigint_Int_Sign.f k (ng z) (limbs z.natAbs)) z.sign := by
  refine Ev.congr (fun k => bigint_Int_Sign.f_eq ..) ?_
  by_cases h : z < 0
  · exact Ev.pos (ng_true.2 h) (Ev.ret (Int.sign_eq_neg_one_of_neg h).symm)
  · refine Ev.neg (fun h2 => h (ng_true.1 h2)) ?_
    by_cases h0 : z = 0
    · subst h0
      rw [show (0 : Int).natAbs = 0 from rfl, limbs_zero]
      exact Ev.neg (by decide) (Ev.now _)
    · have hp := limbs_length_pos (show z.natAbs ≠ 0 by omega)
      exact Ev.pos (by omega) (Ev.ret (Int.sign_eq_one_of_pos (by omega)).symm)
theorem same_ng {x y : Int} : ng x = ng y ↔ (x < 0 ↔ y < 0) := by
  unfold ng
  rw [decide_eq_decide]
theorem sg_same {x y : Int} (h : ng x = ng y) : sg (ng x) (x.natAbs + y.natAbs) = x + y := by
  have h1 := same_ng.1 h
  unfold sg
  by_cases hx : x < 0
  · rw [if_pos (ng_true.2 hx)]; omega
  · rw [if_neg (fun e => hx (ng_true.1 e))]; omega
theorem sg_diff {x y : Int} (h : ng x ≠ ng y) (hle : y.natAbs ≤ x.natAbs) : sg (ng x) (x.natAbs - y.natAbs) = x + y := by
  have h1 : ¬ (x < 0 ↔ y < 0) := fun e => h (same_ng.2 e)
  unfold sg
  by_cases hx : x < 0
  · rw [if_pos (ng_true.2 hx)]; omega
  · rw [if_neg (fun e => hx (ng_true.1 e))]; omega
theorem iadd_ev {x y : Int} (lx : Sz 1000 x) (ly : Sz 1000 y) : Ev (fun k => bigint_Int_Add.f k (ng x) (limbs x.natAbs) (ng y) (limbs y.natAbs)) (ng (x + y), limbs (x + y).natAbs) := by
  refine Ev.congr (fun k => bigint_Int_Add.f_eq ..) ?_
  by_cases h : ng x = ng y
  · exact Ev.pos h (Ev.bind (addL lx ly) (Ev.bind (made_of (sg_same h)) (Ev.now _)))
  · have gc := cmp_ev (limbs_WF x.natAbs) (limbs_WF y.natAbs) (Nat.le_trans lx (by decide)) (Nat.le_trans ly (by decide))
    rw [nv_limbs, nv_limbs] at gc
    refine Ev.neg h (Ev.bind gc ?_)
    by_cases hlt : x.natAbs < y.natAbs
    · have gs := sub_ev (limbs_WF y.natAbs) (limbs_WF x.natAbs) ly lx
      rw [nv_limbs, nv_limbs, if_neg (by omega)] at gs
      have e := sg_diff (x := y) (y := x) (fun e => h e.symm) (by omega)
      rw [Int.add_comm] at e
      exact Ev.pos (cmpI_lt.2 hlt) (Ev.bind gs (Ev.bind (made_of e) (Ev.now _)))
    · have gs := sub_ev (limbs_WF x.natAbs) (limbs_WF y.natAbs) lx ly
      rw [nv_limbs, nv_limbs, if_neg (by omega)] at gs
      exact Ev.neg (fun e => hlt (cmpI_lt.1 e)) (Ev.bind gs (Ev.bind (made_of (sg_diff h (by omega))) (Ev.now _)))
theorem isub_ev {x y : Int} (lx : Sz 1000 x) (ly : Sz 1000 y) : Ev (fun k => bigint_Int_Sub.f k (ng x) (limbs x.natAbs) (ng y) (limbs y.natAbs)) (ng (x - y), limbs (x - y).natAbs) := by
  have g := iadd_ev lx ly.neg
  rw [← Int.sub_eq_add_neg] at g
  exact Ev.congr (fun k => bigint_Int_Sub.f_eq ..) (Ev.bind (ineg_ev y) (Ev.bind g (Ev.now _)))
/-- The sign of a product. -/
theorem sg_mul (x y : Int) : sg (!decide (ng x = ng y)) (x.natAbs * y.natAbs) = x * y := by
  have hx := sg_ng x; have hy := sg_ng y
  generalize x.natAbs = a at *
  generalize y.natAbs = b at *
  generalize ng x = p at *
  generalize ng y = q at *
  subst hx; subst hy
  cases p <;> cases q <;> simp [sg, Int.neg_mul, Int.mul_neg]
theorem imul_ev {x y : Int} (lx : Sz 1000 x) (ly : Sz 1000 y) : Ev (fun k => bigint_Int_Mul.f k (ng x) (limbs x.natAbs) (ng y) (limbs y.natAbs)) (ng (x * y), limbs (x * y).natAbs) :=
  Ev.congr (fun k => bigint_Int_Mul.f_eq ..) (Ev.bind (mulL lx ly) (Ev.bind (made_of (sg_mul x y)) (Ev.now _)))
/-- -1, 0 or 1. -/
def cmpZ (x y : Int) : Int := if x < y then -1 else if x = y then 0 else 1
theorem cmpZ_sub (x y : Int) : cmpZ x y = (x - y).sign := by
  unfold cmpZ
  by_cases h : x < y
  · rw [if_pos h, Int.sign_eq_neg_one_of_neg (by omega)]
  · rw [if_neg h]
    by_cases h2 : x = y
    · rw [if_pos h2, h2, Int.sub_self]; rfl
    · rw [if_neg h2, Int.sign_eq_one_of_pos (by omega)]
theorem cmpZ_same (x : Int) : cmpZ x x = 0 := by unfold cmpZ; rw [if_neg (by omega), if_pos rfl]
theorem cmp_pos {x y : Int} (hx : ¬ x < 0) (hy : ¬ y < 0) : cmpI x.natAbs y.natAbs = cmpZ x y := by
  unfold cmpI cmpZ
  by_cases h1 : x < y
  · rw [if_pos h1, if_pos (by omega)]
  · rw [if_neg h1, if_neg (by omega)]
    by_cases h2 : x = y
    · rw [if_pos h2, if_pos (by omega)]
    · rw [if_neg h2, if_neg (by omega)]
theorem cmp_neg {x y : Int} (hx : x < 0) (hy : y < 0) : cmpI y.natAbs x.natAbs = cmpZ x y := by
  unfold cmpI cmpZ
  by_cases h1 : x < y
  · rw [if_pos h1, if_pos (by omega)]
  · rw [if_neg h1, if_neg (by omega)]
    by_cases h2 : x = y
    · rw [if_pos h2, if_pos (by omega)]
    · rw [if_neg h2, if_neg (by omega)]
theorem icmp_ev {x y : Int} (lx : Sz 1000 x) (ly : Sz 1000 y) : Ev (fun k => bigint_Int_Cmp.f k (ng x) (limbs x.natAbs) (ng y) (limbs y.natAbs)) (cmpZ x y) := by
  have g1 := cmp_ev (limbs_WF x.natAbs) (limbs_WF y.natAbs) (Nat.le_trans lx (by decide)) (Nat.le_trans ly (by decide))
  have g2 := cmp_ev (limbs_WF y.natAbs) (limbs_WF x.natAbs) (Nat.le_trans ly (by decide)) (Nat.le_trans lx (by decide))
  rw [nv_limbs, nv_limbs] at g1 g2
  refine Ev.congr (fun k => bigint_Int_Cmp.f_eq ..) ?_
  by_cases hx : x < 0
  · have nx := ng_true.2 hx
    refine Ev.pos nx ?_
    by_cases hy : y < 0
    · rw [cmp_neg hx hy] at g2
      exact Ev.pos (ng_true.2 hy) (Ev.bind g2 (Ev.now _))
    · have ny : ¬ ng y = true := fun e => hy (ng_true.1 e)
      exact Ev.neg ny (Ev.pos nx (Ev.ret (if_pos (by omega)).symm))
  · have nx : ¬ ng x = true := fun e => hx (ng_true.1 e)
    refine Ev.neg nx (Ev.neg nx ?_)
    by_cases hy : y < 0
    · refine Ev.pos (ng_true.2 hy) (Ev.ret ?_)
      rw [cmpZ, if_neg (by omega), if_neg (by omega)]
    · have ny : ¬ ng y = true := fun e => hy (ng_true.1 e)
      rw [cmp_pos hx hy] at g1
      exact Ev.neg ny (Ev.bind g1 (Ev.now _))
theorem ifrom_ev {b : Bool} {l : List Int} (hw : WF l) (hl : l.length ≤ 1000) : Ev (fun k => bigint_From.f k b l) (ng (sg b (nv l)), limbs (sg b (nv l)).natAbs) :=
  Ev.congr (fun k => bigint_From.f_eq ..) (Ev.bind (norm_ev hw (Nat.le_trans hl (by decide))) (Ev.bind (made_of rfl) (Ev.now _)))
theorem inat_ev {z : Int} (h : Sz 1000 z) : Ev (fun k => bigint_Int_Nat.f k (ng z) (limbs z.natAbs)) (limbs z.natAbs) := by
  have g := norm_ev (limbs_WF z.natAbs) (Nat.le_trans h (by decide))
  rw [nv_limbs] at g
  exact Ev.congr (fun k => bigint_Int_Nat.f_eq ..) (Ev.bind g (Ev.now _))
theorem ibits_ev {z : Int} (h : Sz 1000 z) : Ev (fun k => bigint_Int_Bits.f k (ng z) (limbs z.natAbs)) ((bits z.natAbs : Nat) : Int) := by
  have g := natbits_ev (limbs_WF z.natAbs) (Nat.le_trans h (by decide))
  rw [nv_limbs] at g
  exact Ev.congr (fun k => bigint_Int_Bits.f_eq ..) (Ev.bind g (Ev.now _))
/-! ### quotients -/
theorem natAbs_tdiv (x y : Int) : sg (!decide (ng x = ng y)) (x.natAbs / y.natAbs) = Int.tdiv x y := by
  have hx := sg_ng x; have hy := sg_ng y
  generalize x.natAbs = a at *
  generalize y.natAbs = b at *
  generalize ng x = p at *
  generalize ng y = q at *
  subst hx; subst hy
  have e : Int.tdiv (a : Int) (b : Int) = ((a / b : Nat) : Int) := rfl
  cases p <;> cases q <;> simp [sg, Int.neg_tdiv, Int.tdiv_neg, e]
theorem natAbs_tmod (x y : Int) : sg (ng x) (x.natAbs % y.natAbs) = Int.tmod x y := by
  have hx := sg_ng x; have hy := sg_ng y
  generalize x.natAbs = a at *
  generalize y.natAbs = b at *
  generalize ng x = p at *
  generalize ng y = q at *
  subst hx; subst hy
  have e : Int.tmod (a : Int) (b : Int) = ((a % b : Nat) : Int) := rfl
  cases p <;> cases q <;> simp [sg, Int.neg_tmod, Int.tmod_neg, e]
theorem iqr_zero {x y : Int} (lx : Sz 1000 x) (ly : Sz 1000 y) (h : y = 0) : Ev (fun k => bigint_Int_QuoRem.f k (ng x) (limbs x.natAbs) (ng y) (limbs y.natAbs)) (false, [], false, [], 10) := by
  have g := dm_zero (limbs_WF x.natAbs) (limbs_WF y.natAbs) (Nat.le_trans lx (by decide)) (Nat.le_trans ly (by decide)) (by rw [nv_limbs, h]; rfl)
  exact Ev.congr (fun k => bigint_Int_QuoRem.f_eq ..) (Ev.bind g (Ev.neg (by decide) (Ev.now _)))
theorem iqr_ev {x y : Int} (lx : Sz 1000 x) (ly : Sz 1000 y) (h : y ≠ 0) : Ev (fun k => bigint_Int_QuoRem.f k (ng x) (limbs x.natAbs) (ng y) (limbs y.natAbs)) (ng (Int.tdiv x y), limbs (Int.tdiv x y).natAbs, ng (Int.tmod x y), limbs (Int.tmod x y).natAbs, 0) := by
  have g := dm_ev (limbs_WF x.natAbs) (limbs_WF y.natAbs) (Nat.le_trans lx (by decide)) (Nat.le_trans ly (by decide)) (by rw [nv_limbs]; omega)
  rw [nv_limbs, nv_limbs] at g
  exact Ev.congr (fun k => bigint_Int_QuoRem.f_eq ..) (Ev.bind g (Ev.pos rfl (Ev.bind (made_of (natAbs_tdiv x y)) (Ev.bind (made_of (natAbs_tmod x y)) (Ev.now _)))))
theorem Sz.tdiv {p : Nat} {x : Int} (y : Int) (h : Sz p x) : Sz p (Int.tdiv x y) := h.mono (by
  rw [← natAbs_tdiv, sg_abs]; exact Nat.div_le_self _ _)
theorem Sz.tmod {p : Nat} {x y : Int} (hy : Sz p y) (h : y ≠ 0) : Sz p (Int.tmod x y) := hy.mono (by
  rw [← natAbs_tmod, sg_abs]; exact Nat.le_of_lt (Nat.mod_lt _ (by omega)))
/-- Downwards: what is taken off the quotient towards 0. -/
def adj (x y : Int) : Int := if (Int.tmod x y).sign * y.sign < 0 then 1 else 0
def qd (x y : Int) : Int := Int.tdiv x y - adj x y
def rd' (x y : Int) : Int := Int.tmod x y + adj x y * y
theorem qd_eq (x y : Int) : qd x y * y + rd' x y = x := by
  unfold qd rd'
  have := Int.tdiv_mul_add_tmod x y
  generalize Int.tdiv x y = q at *
  generalize Int.tmod x y = r at *
  generalize adj x y = t
  grind
theorem sign_prod (r y : Int) : wrap64 (r.sign * y.sign) = r.sign * y.sign := by
  have : r.sign = -1 ∨ r.sign = 0 ∨ r.sign = 1 := by rcases Int.lt_trichotomy r 0 with h | h | h <;> simp [Int.sign_eq_neg_one_of_neg, Int.sign_eq_one_of_pos, h]
  have : y.sign = -1 ∨ y.sign = 0 ∨ y.sign = 1 := by rcases Int.lt_trichotomy y 0 with h | h | h <;> simp [Int.sign_eq_neg_one_of_neg, Int.sign_eq_one_of_pos, h]
  rcases ‹r.sign = -1 ∨ _› with h | h | h <;> rcases ‹y.sign = -1 ∨ _› with h2 | h2 | h2 <;> rw [h, h2] <;> exact w64_of (by decide) (by decide)
theorem Sz.one {p : Nat} (hp : 1 ≤ p) : Sz p 1 := Sz.of (by
  have : 18446744073709551616 ^ 1 ≤ 18446744073709551616 ^ p := Nat.pow_le_pow_right (by decide) hp
  have : (1 : Int).natAbs = 1 := rfl
  omega)
theorem idm_zero {x y : Int} (lx : Sz 1000 x) (ly : Sz 1000 y) (h : y = 0) : Ev (fun k => bigint_Int_DivMod.f k (ng x) (limbs x.natAbs) (ng y) (limbs y.natAbs)) (false, [], false, [], 10) := by
  have s0 : Ev (fun k => bigint_Int_Sign.f k false []) 0 := by
    have := isign_ev 0
    rwa [show ng 0 = false from rfl, show (0 : Int).natAbs = 0 from rfl, limbs_zero] at this
  have s1 := isign_ev y
  refine Ev.congr (fun k => bigint_Int_DivMod.f_eq ..) (Ev.bind (iqr_zero lx ly h) (Ev.bind s0 (Ev.bind s1 ?_)))
  rw [h]
  exact Ev.neg (by rw [Int.zero_mul, w64_of (by decide) (by decide)]; decide) (Ev.now _)
theorem idm_ev {x y : Int} (lx : Sz 990 x) (ly : Sz 990 y) (h : y ≠ 0) : Ev (fun k => bigint_Int_DivMod.f k (ng x) (limbs x.natAbs) (ng y) (limbs y.natAbs)) (ng (qd x y), limbs (qd x y).natAbs, ng (rd' x y), limbs (rd' x y).natAbs, 0) := by
  have lx' := lx.up (show 990 ≤ 1000 by decide)
  have ly' := ly.up (show 990 ≤ 1000 by decide)
  refine Ev.congr (fun k => bigint_Int_DivMod.f_eq ..) (Ev.bind (iqr_ev lx' ly' h) (Ev.bind (isign_ev _) (Ev.bind (isign_ev _) ?_)))
  rw [sign_prod]
  by_cases hs : (Int.tmod x y).sign * y.sign < 0
  · have e : adj x y = 1 := if_pos hs
    have g1 := isub_ev (lx'.tdiv y) (Sz.one (p := 1000) (by decide))
    have g2 := iadd_ev ((ly'.tmod (x := x) h)) ly'
    have e1 : qd x y = Int.tdiv x y - 1 := by unfold qd; rw [e]
    have e2 : rd' x y = Int.tmod x y + y := by unfold rd'; rw [e, Int.one_mul]
    rw [e1, e2]
    exact Ev.pos hs (Ev.bind (iof_ev (by decide) (by decide)) (Ev.bind g1 (Ev.bind g2 (Ev.now _))))
  · have e : adj x y = 0 := if_neg hs
    have e1 : qd x y = Int.tdiv x y := by unfold qd; rw [e, Int.sub_zero]
    have e2 : rd' x y = Int.tmod x y := by unfold rd'; rw [e, Int.zero_mul, Int.add_zero]
    rw [e1, e2]
    exact Ev.neg hs (Ev.now _)
theorem iexact_zero {x y : Int} (lx : Sz 1000 x) (ly : Sz 1000 y) (h : y = 0) : Ev (fun k => bigint_Int_Exact.f k (ng x) (limbs x.natAbs) (ng y) (limbs y.natAbs)) (false, [], 10) :=
  Ev.congr (fun k => bigint_Int_Exact.f_eq ..) (Ev.bind (iqr_zero lx ly h) (Ev.neg (by decide) (Ev.now _)))
theorem iexact_ev {x y : Int} (lx : Sz 1000 x) (ly : Sz 1000 y) (h : y ≠ 0) : Ev (fun k => bigint_Int_Exact.f k (ng x) (limbs x.natAbs) (ng y) (limbs y.natAbs)) (if Int.tmod x y = 0 then (ng (Int.tdiv x y), limbs (Int.tdiv x y).natAbs, 0) else (false, [], 11)) := by
  refine Ev.congr (fun k => bigint_Int_Exact.f_eq ..) (Ev.bind (iqr_ev lx ly h) (Ev.pos rfl (Ev.bind (isign_ev _) ?_)))
  by_cases h0 : Int.tmod x y = 0
  · rw [if_pos h0]; exact Ev.pos (Int.sign_eq_zero_iff_zero.2 h0) (Ev.now _)
  · rw [if_neg h0]; exact Ev.neg (fun e => h0 (Int.sign_eq_zero_iff_zero.1 e)) (Ev.now _)
theorem igcd_ev {x y : Int} (lx : Sz 1000 x) (ly : Sz 1000 y) : Ev (fun k => bigint_Int_Gcd.f k (ng x) (limbs x.natAbs) (ng y) (limbs y.natAbs)) (false, limbs (Nat.gcd y.natAbs x.natAbs)) := by
  have g := gcd_ev (limbs_WF x.natAbs) (limbs_WF y.natAbs) (Nat.le_trans lx (by decide)) (Nat.le_trans ly (by decide))
  rw [nv_limbs, nv_limbs] at g
  have gm := made_ev false (Nat.gcd y.natAbs x.natAbs)
  rw [sg_false, ng_nat] at gm
  exact Ev.congr (fun k => bigint_Int_Gcd.f_eq ..) (Ev.bind g (Ev.bind gm (Ev.now _)))
theorem imod_zero {z : Int} : Ev (fun k => bigint_Int_Mod.f k (ng z) (limbs z.natAbs) 0) (0, 10) := by
  refine Ev.congr (fun k => bigint_Int_Mod.f_eq ..) (Ev.bind (divw_zero _) ?_)
  by_cases h : ng z = true
  · exact Ev.pos h (Ev.neg (by decide) (Ev.now _))
  · exact Ev.neg h (Ev.now _)
theorem imod_ev {z : Int} {w : Nat} (lz : Sz 1000 z) (h0 : 0 < w) (hw : w < 18446744073709551616) : Ev (fun k => bigint_Int_Mod.f k (ng z) (limbs z.natAbs) (w : Int)) (z % (w : Int), 0) := by
  have g := divw_ev (limbs_WF z.natAbs) (Nat.le_trans lz (by decide)) h0 hw
  rw [nv_limbs] at g
  have hm := Nat.mod_lt z.natAbs h0
  refine Ev.congr (fun k => bigint_Int_Mod.f_eq ..) (Ev.bind g ?_)
  dsimp only
  by_cases h : z < 0
  · have hz : z = -(z.natAbs : Int) := by omega
    have e1 := Int.mul_ediv_add_emod z (w : Int)
    have e2 := Int.emod_nonneg z (show (w : Int) ≠ 0 by omega)
    have e3 := Int.emod_lt_of_pos z (show (0 : Int) < (w : Int) by omega)
    have e4 := Nat.div_add_mod z.natAbs w
    have e5 : z % (w : Int) = (-((z.natAbs % w : Nat) : Int)) % (w : Int) := by
      have : z = -((z.natAbs % w : Nat) : Int) + (w : Int) * (-((z.natAbs / w : Nat) : Int)) := by
        have e6 : (z.natAbs : Int) = (w : Int) * ((z.natAbs / w : Nat) : Int) + ((z.natAbs % w : Nat) : Int) := by rw [← Int.natCast_mul, ← Int.natCast_add, e4]
        rw [Int.mul_neg]; omega
      rw [this, Int.add_mul_emod_self_left]
      congr 1
      rw [← this]
    refine Ev.pos (ng_true.2 h) ?_
    by_cases hl : ((z.natAbs % w : Nat) : Int) > 0
    · refine Ev.pos hl (Ev.ret ?_)
      have e7 : IntKind.u64.wrap ((w : Int) - ((z.natAbs % w : Nat) : Int)) = (w : Int) - ((z.natAbs % w : Nat) : Int) := wu_of ⟨by omega, by omega⟩
      rw [e7, e5]
      congr 1
      rw [← Int.add_emod_right, Int.emod_eq_of_lt (by omega) (by omega)]; omega
    · refine Ev.neg hl (Ev.ret ?_)
      rw [e5, show ((z.natAbs % w : Nat) : Int) = 0 by omega]; simp
  · have hz : z = (z.natAbs : Int) := by omega
    refine Ev.neg (fun e => h (ng_true.1 e)) (Ev.ret ?_)
    have e5 : z % (w : Int) = ((z.natAbs % w : Nat) : Int) := by rw [Int.natCast_emod, ← hz]
    rw [e5]
end Go.Proofs.YtbofacjgofgkpaaDoor.Pure
end
section
/-
  The reference's whole numbers (vinculumref02): a sign and decimal digits. Condition: no number has more than 1000 words.
-/
namespace Go.Proofs.YtbofacjgofgkpaaDoor.Pure
open Go.RowKit Go.Proofs.YtbofacjgofgkpaaDoor.F Go.Proofs.YtbofacjgofgkpaaDoorW.PrintWords Go.Proofs.YtbofacjgofgkpaaDoorW.PrintLast Go.Proofs.YtbofacjgofgkpaaDoorW.PrintMore
open Go.Proofs.YtbofacjgofgkpaaDoor.E (tEq tLt tApp tCut)
set_option linter.unusedVariables false
set_option linter.unusedSimpArgs false
theorem Sz.ds {p : Nat} {z : Int} (h : Sz p z) : (ds z.natAbs).length ≤ 20 * p + 1 := by
  have := ds_length_limbs (limbs_WF z.natAbs)
  rw [nv_limbs] at this
  unfold Sz at h
  omega
theorem tEq_dec (n m : Nat) : tEq (dec n) (dec m) = true ↔ n = m := by
  unfold dec
  rw [tEq_tx, decide_eq_true_iff]
  exact ⟨fun h => ds_inj h, fun h => by rw [h]⟩
theorem zmade_of {b : Bool} {n : Nat} {z : Int} (h : sg b n = z) : Ev (fun k => vinculumref02_made.f k b (dec n)) (ng z, dec z.natAbs) := by
  refine Ev.congr (fun k => vinculumref02_made.f_eq ..) ?_
  rw [mk_48, ← dec_zero, show z.natAbs = n by rw [← h, sg_abs], ← h, ng_sg]
  cases b with
  | false => exact Ev.neg (by decide) (Ev.now _)
  | true =>
    refine Ev.pos rfl (Ev.ret ?_)
    rw [Bool.true_and]
    congr 1
    by_cases h0 : n = 0
    · rw [decide_eq_true ((tEq_dec _ _).2 h0), decide_eq_false (by omega)]; rfl
    · rw [decide_eq_false (fun e => h0 ((tEq_dec _ _).1 e)), decide_eq_true (by omega)]; rfl
theorem zof_ev {b : Bool} {l : List Int} (hw : WF l) (hl : l.length ≤ 1000) : Ev (fun k => vinculumref02_Of.f k b l) (ng (sg b (nv l)), dec (sg b (nv l)).natAbs) :=
  Ev.congr (fun k => vinculumref02_Of.f_eq ..) (Ev.bind (ref_of hw hl) (Ev.bind (zmade_of rfl) (Ev.now _)))
theorem zneg_ev (z : Int) : Ev (fun k => vinculumref02_Neg.f k (ng z) (dec z.natAbs)) (ng (-z), dec (-z).natAbs) :=
  Ev.congr (fun k => vinculumref02_Neg.f_eq ..) (Ev.bind (zmade_of (sg_not z)) (Ev.now _))
theorem cmpI_ge {a b : Nat} : cmpI a b ≥ 0 ↔ b ≤ a := by
  constructor
  · intro h; exact Nat.le_of_not_lt fun h2 => (cmpI_neg.2 h2) h
  · intro h; exact Decidable.not_not.1 fun h2 => by have := cmpI_neg.1 h2; omega
theorem zadd_ev {x y : Int} (lx : Sz 1000 x) (ly : Sz 1000 y) : Ev (fun k => vinculumref02_Add.f k (ng x) (dec x.natAbs) (ng y) (dec y.natAbs)) (ng (x + y), dec (x + y).natAbs) := by
  have dx := lx.ds; have dy := ly.ds
  refine Ev.congr (fun k => vinculumref02_Add.f_eq ..) ?_
  by_cases h : ng x = ng y
  · exact Ev.pos h (Ev.bind (ref_add (by omega) (by omega)) (Ev.bind (zmade_of (sg_same h)) (Ev.now _)))
  · refine Ev.neg h (Ev.bind (ref_cmp _ _) ?_)
    by_cases hge : y.natAbs ≤ x.natAbs
    · exact Ev.pos (cmpI_ge.2 hge) (Ev.bind (ref_sub hge (by omega)) (Ev.bind (zmade_of (sg_diff h hge)) (Ev.now _)))
    · have e := sg_diff (x := y) (y := x) (fun e => h e.symm) (by omega)
      rw [Int.add_comm] at e
      exact Ev.neg (fun e => hge (cmpI_ge.1 e)) (Ev.bind (ref_sub (by omega) (by omega)) (Ev.bind (zmade_of e) (Ev.now _)))
theorem zsub_ev {x y : Int} (lx : Sz 1000 x) (ly : Sz 1000 y) : Ev (fun k => vinculumref02_Sub.f k (ng x) (dec x.natAbs) (ng y) (dec y.natAbs)) (ng (x - y), dec (x - y).natAbs) := by
  have g := zadd_ev lx ly.neg
  rw [← Int.sub_eq_add_neg] at g
  exact Ev.congr (fun k => vinculumref02_Sub.f_eq ..) (Ev.bind (zneg_ev y) (Ev.bind g (Ev.now _)))
theorem zmul_ev {x y : Int} (lx : Sz 1000 x) (ly : Sz 1000 y) : Ev (fun k => vinculumref02_Mul.f k (ng x) (dec x.natAbs) (ng y) (dec y.natAbs)) (ng (x * y), dec (x * y).natAbs) := by
  have dx := lx.ds; have dy := ly.ds
  exact Ev.congr (fun k => vinculumref02_Mul.f_eq ..) (Ev.bind (ref_mul (by omega) (by omega)) (Ev.bind (zmade_of (sg_mul x y)) (Ev.now _)))
theorem zsign_ev (z : Int) : Ev (fun k => vinculumref02_Sign.f k (ng z) (dec z.natAbs)) z.sign := by
  refine Ev.congr (fun k => vinculumref02_Sign.f_eq ..) ?_
  rw [mk_48, ← dec_zero]
  by_cases h0 : z = 0
  · subst h0
    exact Ev.pos ((tEq_dec _ _).2 rfl) (Ev.now _)
  · refine Ev.neg (fun e => h0 (by have := (tEq_dec _ _).1 e; omega)) ?_
    by_cases h : z < 0
    · exact Ev.pos (ng_true.2 h) (Ev.ret (Int.sign_eq_neg_one_of_neg h).symm)
    · exact Ev.neg (fun e => h (ng_true.1 e)) (Ev.ret (Int.sign_eq_one_of_pos (by omega)).symm)
theorem zcmp_ev {x y : Int} (lx : Sz 1000 x) (ly : Sz 1000 y) : Ev (fun k => vinculumref02_Cmp.f k (ng x) (dec x.natAbs) (ng y) (dec y.natAbs)) (cmpZ x y) := by
  rw [cmpZ_sub]
  exact Ev.congr (fun k => vinculumref02_Cmp.f_eq ..) (Ev.bind (zsub_ev lx ly) (Ev.bind (zsign_ev _) (Ev.now _)))
theorem zqr_ev {x y : Int} (lx : Sz 1000 x) (ly : Sz 1000 y) (h : y ≠ 0) : Ev (fun k => vinculumref02_QuoRem.f k (ng x) (dec x.natAbs) (ng y) (dec y.natAbs)) (ng (Int.tdiv x y), dec (Int.tdiv x y).natAbs, ng (Int.tmod x y), dec (Int.tmod x y).natAbs) := by
  have dx := lx.ds; have dy := ly.ds
  exact Ev.congr (fun k => vinculumref02_QuoRem.f_eq ..) (Ev.bind (ref_divmod (by omega) (by omega) (by omega)) (Ev.bind (zmade_of (natAbs_tdiv x y)) (Ev.bind (zmade_of (natAbs_tmod x y)) (Ev.now _))))
theorem sign3 (z : Int) : z.sign = -1 ∨ z.sign = 0 ∨ z.sign = 1 := by
  rcases Int.lt_trichotomy z 0 with h | h | h <;> simp [Int.sign_eq_neg_one_of_neg, Int.sign_eq_one_of_pos, h]
theorem zdm_ev {x y : Int} (lx : Sz 990 x) (ly : Sz 990 y) (h : y ≠ 0) : Ev (fun k => vinculumref02_DivMod.f k (ng x) (dec x.natAbs) (ng y) (dec y.natAbs)) (ng (qd x y), dec (qd x y).natAbs, ng (rd' x y), dec (rd' x y).natAbs) := by
  have lx' := lx.up (show 990 ≤ 1000 by decide)
  have ly' := ly.up (show 990 ≤ 1000 by decide)
  refine Ev.congr (fun k => vinculumref02_DivMod.f_eq ..) (Ev.bind (zqr_ev lx' ly' h) (Ev.bind (zsign_ev _) ?_))
  have hy : y.sign = -1 ∨ y.sign = 1 := by
    rcases sign3 y with e | e | e
    · exact .inl e
    · exact absurd (Int.sign_eq_zero_iff_zero.1 e) h
    · exact .inr e
  have keep : ¬ (Int.tmod x y).sign * y.sign < 0 → qd x y = Int.tdiv x y ∧ rd' x y = Int.tmod x y := fun hs => by
    have e : adj x y = 0 := if_neg hs
    unfold qd rd'
    rw [e, Int.sub_zero, Int.zero_mul, Int.add_zero]
    exact ⟨rfl, rfl⟩
  by_cases h0 : (Int.tmod x y).sign = 0
  · obtain ⟨e1, e2⟩ := keep (by rw [h0, Int.zero_mul]; decide)
    rw [e1, e2]
    exact Ev.pos h0 (Ev.now _)
  · refine Ev.neg h0 (Ev.bind (zsign_ev _) (Ev.bind (zsign_ev _) ?_))
    by_cases hs : (Int.tmod x y).sign = y.sign
    · obtain ⟨e1, e2⟩ := keep (by rw [hs]; rcases hy with e | e <;> rw [e] <;> decide)
      rw [e1, e2]
      exact Ev.pos hs (Ev.now _)
    · have hlt : (Int.tmod x y).sign * y.sign < 0 := by
        rcases sign3 (Int.tmod x y) with e | e | e <;> rcases hy with e2 | e2 <;> rw [e, e2] <;> first | decide | exact absurd e h0 | (rw [e, e2] at hs; exact absurd rfl hs)
      have e : adj x y = 1 := if_pos hlt
      have g1 := zsub_ev (lx'.tdiv y) (Sz.one (p := 1000) (by decide))
      have g2 := zadd_ev (ly'.tmod (x := x) h) ly'
      have e1 : qd x y = Int.tdiv x y - 1 := by unfold qd; rw [e]
      have e2 : rd' x y = Int.tmod x y + y := by unfold rd'; rw [e, Int.one_mul]
      rw [e1, e2]
      rw [show ng 1 = false from rfl, show (1 : Int).natAbs = 1 from rfl, dec_one] at g1
      exact Ev.neg hs (Ev.bind g1 (Ev.bind g2 (Ev.now _)))
/-! ### texts -/
/-- A number's text. -/
def ztx (z : Int) : ByteArray := if z < 0 then tx (45 :: ds z.natAbs) else dec z.natAbs
theorem neg_text {z : Int} (h : z < 0) : tApp (tx [45]) (dec z.natAbs) = ztx z := by
  unfold ztx dec
  rw [if_pos h, tApp_tx]; rfl
theorem iprint_ev {z : Int} (h : Sz 1000 z) : Ev (fun k => bigint_Int_Print.f k (ng z) (limbs z.natAbs)) (ztx z) := by
  have g := print_ev (limbs_WF z.natAbs) h
  rw [nv_limbs] at g
  have hd := h.ds
  refine Ev.congr (fun k => bigint_Int_Print.f_eq ..) (Ev.bind g ?_)
  by_cases hz : z < 0
  · refine Ev.pos (ng_true.2 hz) (Ev.pos ?_ (Ev.ret ?_))
    · rw [dec_size, mk_45, tx_size]; simp; omega
    · rw [mk_45]; exact neg_text hz
  · refine Ev.neg (fun e => hz (ng_true.1 e)) (Ev.ret ?_)
    unfold ztx; rw [if_neg hz]
theorem zprint_ev {z : Int} (h : Sz 1000 z) : Ev (fun k => vinculumref02_Print.f k (ng z) (dec z.natAbs)) (ztx z) := by
  have hd := h.ds
  refine Ev.congr (fun k => vinculumref02_Print.f_eq ..) ?_
  by_cases hz : z < 0
  · refine Ev.pos (ng_true.2 hz) (Ev.pos ?_ (Ev.ret ?_))
    · rw [dec_size, mk_45, tx_size]; simp; omega
    · rw [mk_45]; exact neg_text hz
  · refine Ev.neg (fun e => hz (ng_true.1 e)) (Ev.ret ?_)
    unfold ztx; rw [if_neg hz]
theorem tEq_same (b : ByteArray) : tEq b b = true := by rw [← tx_eta b]; exact tEq_yes rfl
/-! ### texts parsed -/
theorem cutp_ev {l : List UInt8} (hl : l.length ≤ 1000000) : Ev (fun k => strings_CutPrefix.f k (tx l) (ByteArray.mk (Array.mk [45]))) (if l.head? = some 45 then (tx l.tail, true) else (tx l, false)) := by
  have gp : Ev (fun k => stringslite_HasPrefix.f k (tx l) (tx [45])) (decide (l.head? = some 45)) := by
    refine Ev.congr (fun k => stringslite_HasPrefix.f_eq ..) ?_
    rw [tx_size, tx_size]
    cases l with
    | nil => exact Ev.neg (by decide) (Ev.ret rfl)
    | cons x xs =>
      have e : tCut (tx (x :: xs)) 0 ((([45] : List UInt8).length : Int)).toNat = tx [x] := by rw [tCut_tx]; rfl
      rw [e]
      refine Ev.pos (by simp; omega) (Ev.pos (by simp) (Ev.pos (by simp; omega) (Ev.ret ?_)))
      rw [tEq_tx, List.head?_cons]
      by_cases hx : x = 45 <;> simp [hx]
  have gc : Ev (fun k => stringslite_CutPrefix.f k (tx l) (ByteArray.mk (Array.mk [45]))) (if l.head? = some 45 then (tx l.tail, true) else (tx l, false)) := by
    refine Ev.congr (fun k => stringslite_CutPrefix.f_eq ..) ?_
    rw [mk_45]
    refine Ev.bind gp ?_
    by_cases hx : l.head? = some 45
    · rw [if_pos hx, decide_eq_true hx, tx_size, tx_size]
      have hp : 0 < l.length := by cases l with
        | nil => cases hx
        | cons x xs => simp
      refine Ev.neg (by decide) (Ev.pos (by simp) (Ev.pos (by simp; omega) (Ev.ret ?_)))
      rw [tCut_tx]
      cases l with
      | nil => cases hx
      | cons x xs => simp
    · rw [if_neg hx, decide_eq_false hx]
      exact Ev.pos rfl (Ev.now _)
  by_cases hx : l.head? = some 45
  · rw [if_pos hx] at gc ⊢
    exact Ev.congr (fun k => strings_CutPrefix.f_eq ..) (Ev.bind gc (Ev.now _))
  · rw [if_neg hx] at gc ⊢
    exact Ev.congr (fun k => strings_CutPrefix.f_eq ..) (Ev.bind gc (Ev.now _))
instance (l : List UInt8) : Decidable (Fine l) := by unfold Fine; infer_instance
theorem code_fine {l : List UInt8} (hl : l.length ≤ 20000) : code l = if Fine l then 0 else 16 := by
  unfold code
  by_cases h : Fine l
  · rw [if_pos h, if_neg, if_neg (by omega)]
    rintro (h1 | h1 | h1)
    · exact h.1 h1
    · rcases h.2.2 with h2 | h2
      · rw [h2] at h1; simp at h1
      · exact h2 h1.2
    · exact h1 h.2.1
  · rw [if_neg h, if_pos]
    by_cases h0 : l = []
    · exact .inl h0
    · by_cases hd : DS l
      · refine .inr (.inl ⟨?_, Decidable.not_not.1 fun h2 => h ⟨h0, hd, .inr h2⟩⟩)
        have hp : 0 < l.length := List.length_pos_iff.2 h0
        by_cases h1 : l.length = 1
        · exfalso
          have h2 : l.head? = some 48 := Decidable.not_not.1 fun h2 => h ⟨h0, hd, .inr h2⟩
          match l, h1, h2 with
          | [x], _, h2 =>
            rw [List.head?_cons] at h2
            exact h ⟨h0, hd, .inl (by rw [Option.some.inj h2])⟩
        · omega
      · exact .inr (.inr hd)
theorem parse_both {l : List UInt8} (hl : l.length ≤ 900) : ∃ (e z : Int), Ev (fun k => bigint_Parse.f k (tx l)) (ng z, limbs z.natAbs, e) ∧ Ev (fun k => vinculumref02_Parse.f k (tx l)) (ng z, dec z.natAbs, e) ∧ (e = 0 → ztx z = tx l) ∧ Sz 1000 z := by
  have z0 : (ng 0, limbs (0 : Int).natAbs, (16 : Int)) = (false, [], 16) := by rw [show (0 : Int).natAbs = 0 from rfl, limbs_zero]; rfl
  have d0 : (ng 0, dec (0 : Int).natAbs, (16 : Int)) = (false, ByteArray.mk (Array.mk [48]), 16) := by rw [show (0 : Int).natAbs = 0 from rfl, dec_zero]; rfl
  have s0 : Sz 1000 0 := by unfold Sz; rw [show (0 : Int).natAbs = 0 from rfl, limbs_zero]; decide
  have szs : ∀ (b : Bool) (t : List UInt8), DS t → t.length ≤ 900 → Sz 1000 (sg b (sv t)) := fun b t ht hlt => by
    unfold Sz
    rw [sg_abs]
    exact Nat.le_trans (short_limbs (sv_lt ht) (by omega)) (by decide)
  -- the text without its sign
  have nat : ∀ t : List UInt8, t.length ≤ 900 → Ev (fun k => nat_Parse.f k (tx t)) (if Fine t then (limbs (sv t), 0) else ([], 16)) := fun t ht => by
    by_cases hf : Fine t
    · rw [if_pos hf]; exact parse_fine (by omega) hf
    · rw [if_neg hf]; exact parse_bad (by omega) hf
  have ref : ∀ t : List UInt8, t.length ≤ 900 → Ev (fun k => vinculumref01_Parse.f k (tx t)) (if Fine t then 0 else 16) := fun t ht => by
    rw [← code_fine (by omega)]; exact ref_parse (by omega)
  have gc := cutp_ev (l := l) (by omega)
  by_cases hx : l.head? = some 45
  · obtain ⟨xs, rfl⟩ : ∃ xs, l = 45 :: xs := by
      cases l with
      | nil => cases hx
      | cons x xs => exact ⟨xs, by rw [List.head?_cons] at hx; rw [Option.some.inj hx]⟩
    rw [if_pos hx] at gc
    have hls : xs.length ≤ 900 := by simp at hl; omega
    have hb : bt (tx (45 :: xs)) 0 = 45 := tx_bt (45 :: xs) 0 (by simp)
    have ht : tCut (tx (45 :: xs)) (1 : Int).toNat (tx (45 :: xs)).size = tx xs := by
      rw [tCut_tx, tx_size]
      show tx ((List.drop 1 (45 :: xs)).take ((45 :: xs).length - 1)) = tx xs
      simp
    have gn := nat xs hls
    have gr := ref xs hls
    have start : ∀ R, Ev (fun k => (vinculumref01_Parse.f k (tx xs)).bind fun t0 => (if t0 = 0 then (if (45 : Int) = 45 then (if tEq (tx xs) (ByteArray.mk (Array.mk [48])) = true then some (false, (ByteArray.mk (Array.mk [48])), 16) else ((vinculumref02_made.f k (decide ((45 : Int) = 45)) (tx xs)).bind fun t1 => some (t1.1, t1.2, 0))) else ((vinculumref02_made.f k (decide ((45 : Int) = 45)) (tx xs)).bind fun t1 => some (t1.1, t1.2, 0))) else some (false, (ByteArray.mk (Array.mk [48])), t0))) R → Ev (fun k => vinculumref02_Parse.f k (tx (45 :: xs))) R := fun R hR => by
      refine Ev.congr (fun k => vinculumref02_Parse.f_eq ..) ?_
      rw [mk_nil, hb, ht]
      refine Ev.neg (tEq_no (by simp)) (Ev.pos (by rw [tx_size]; simp) (Ev.pos rfl (Ev.pos (by rw [tx_size]; simp; omega) hR)))
    by_cases hf : Fine xs
    · rw [if_pos hf] at gn gr
      have hes := ds_of_fine hf
      by_cases hz : sv xs = 0
      · have h48 : xs = [48] := by rw [hes, hz, ds_zero]
        refine ⟨16, 0, ?_, ?_, fun h => absurd h (by decide), s0⟩
        · rw [z0]
          refine Ev.congr (fun k => bigint_Parse.f_eq ..) (Ev.bind gc (Ev.bind gn (Ev.pos rfl (Ev.pos rfl (Ev.pos ?_ (Ev.now _))))))
          rw [hz, limbs_zero]; rfl
        · rw [d0]
          exact start _ (Ev.bind gr (Ev.pos rfl (Ev.pos rfl (Ev.pos (by rw [mk_48]; exact tEq_yes h48) (Ev.now _)))))
      · have h48 : xs ≠ [48] := fun e => hz (by rw [e]; rfl)
        have hlz : 0 < (limbs (sv xs)).length := limbs_length_pos hz
        have hneg : sg true (sv xs) < 0 := by unfold sg; simp; omega
        refine ⟨0, sg true (sv xs), ?_, ?_, fun _ => ?_, szs true xs hf.2.1 hls⟩
        · exact Ev.congr (fun k => bigint_Parse.f_eq ..) (Ev.bind gc (Ev.bind gn (Ev.pos rfl (Ev.pos rfl (Ev.neg (by dsimp only; omega) (Ev.bind (made_of rfl) (Ev.now _)))))))
        · have gm := zmade_of (b := true) (n := sv xs) (z := sg true (sv xs)) rfl
          rw [show dec (sv xs) = tx xs by unfold dec; rw [← hes]] at gm
          exact start _ (Ev.bind gr (Ev.pos rfl (Ev.pos rfl (Ev.neg (by rw [mk_48]; exact tEq_no h48) (Ev.bind gm (Ev.now _))))))
        · unfold ztx
          rw [if_pos hneg, sg_abs, ← hes]
    · rw [if_neg hf] at gn gr
      refine ⟨16, 0, ?_, ?_, fun h => absurd h (by decide), s0⟩
      · rw [z0]
        exact Ev.congr (fun k => bigint_Parse.f_eq ..) (Ev.bind gc (Ev.bind gn (Ev.neg (by decide) (Ev.now _))))
      · rw [d0]
        exact start _ (Ev.bind gr (Ev.neg (by decide) (Ev.now _)))
  · rw [if_neg hx] at gc
    have gn := nat l hl
    have gr := ref l hl
    have start : ∀ (z : Int), (Fine l → sg false (sv l) = z) → (¬ Fine l → z = 0) → Ev (fun k => vinculumref02_Parse.f k (tx l)) (ng z, dec z.natAbs, if Fine l then 0 else 16) := fun z hz1 hz2 => by
      have mid : Ev (fun k => (vinculumref01_Parse.f k (tx l)).bind fun t0 => (if t0 = 0 then ((vinculumref02_made.f k false (tx l)).bind fun t1 => some (t1.1, t1.2, 0)) else some (false, (ByteArray.mk (Array.mk [48])), t0))) (ng z, dec z.natAbs, if Fine l then 0 else 16) := by
        refine Ev.bind gr ?_
        by_cases hf : Fine l
        · rw [if_pos hf]
          have gm := zmade_of (hz1 hf)
          rw [show dec (sv l) = tx l by unfold dec; rw [← ds_of_fine hf]] at gm
          exact Ev.pos rfl (Ev.bind gm (Ev.now _))
        · rw [if_neg hf, hz2 hf]
          refine Ev.neg (by decide) (Ev.ret d0.symm)
      refine Ev.congr (fun k => vinculumref02_Parse.f_eq ..) ?_
      rw [mk_nil]
      by_cases h0 : l = []
      · exact Ev.pos (tEq_yes h0) mid
      · have hp : 0 < l.length := List.length_pos_iff.2 h0
        have hb : bt (tx l) 0 = ((l[0]).toNat : Int) := tx_bt l 0 hp
        have hne : ¬ ((l[0]).toNat : Int) = 45 := fun e => hx (by
          rw [head_first h0]
          congr 1
          exact UInt8.toNat.inj (by have : (45 : UInt8).toNat = 45 := rfl; omega))
        rw [hb]
        refine Ev.neg (tEq_no h0) (Ev.pos (by rw [tx_size]; omega) (Ev.neg hne ?_))
        refine Ev.bind gr ?_
        by_cases hf : Fine l
        · rw [if_pos hf]
          have gm := zmade_of (hz1 hf)
          rw [show dec (sv l) = tx l by unfold dec; rw [← ds_of_fine hf]] at gm
          refine Ev.pos rfl (Ev.neg hne ?_)
          rw [decide_eq_false hne]
          exact Ev.bind gm (Ev.now _)
        · rw [if_neg hf, hz2 hf]
          exact Ev.neg (by decide) (Ev.ret d0.symm)
    by_cases hf : Fine l
    · have g2 := start (sg false (sv l)) (fun _ => rfl) (fun h => absurd hf h)
      rw [if_pos hf] at gn g2
      refine ⟨0, sg false (sv l), ?_, g2, fun _ => ?_, szs false l hf.2.1 hl⟩
      · exact Ev.congr (fun k => bigint_Parse.f_eq ..) (Ev.bind gc (Ev.bind gn (Ev.pos rfl (Ev.neg Bool.false_ne_true (Ev.bind (made_of rfl) (Ev.now _))))))
      · unfold ztx
        rw [if_neg (by rw [sg_false]; omega), sg_abs, dec, ← ds_of_fine hf]
    · have g2 := start 0 (fun h => absurd h hf) (fun _ => rfl)
      rw [if_neg hf] at gn g2
      refine ⟨16, 0, ?_, g2, fun h => absurd h (by decide), s0⟩
      rw [z0]
      exact Ev.congr (fun k => bigint_Parse.f_eq ..) (Ev.bind gc (Ev.bind gn (Ev.neg (by decide) (Ev.now _))))
end Go.Proofs.YtbofacjgofgkpaaDoor.Pure
end
section
/-
  Powers and small numbers: what bigint's Pow and Small, and the reference's Pow, compute. Condition: no number on the way has more than 400 words.
-/
namespace Go.Proofs.YtbofacjgofgkpaaDoor.Pure
open Go.RowKit Go.Proofs.YtbofacjgofgkpaaDoor.F Go.Proofs.YtbofacjgofgkpaaDoorW.PrintWords Go.Proofs.YtbofacjgofgkpaaDoorW.PrintLast Go.Proofs.YtbofacjgofgkpaaDoorW.PrintMore
set_option linter.unusedVariables false
set_option linter.unusedSimpArgs false
theorem and_one_i64 {n : Nat} (h : n < 9223372036854775808) : Go.bits .and .i64 (n : Int) 1 = ((n % 2 : Nat) : Int) := by
  have h1 : (BitVec.ofInt 64 (n : Int)).toNat = n := by
    rw [BitVec.ofInt_natCast, BitVec.toNat_ofNat]; exact Nat.mod_eq_of_lt (by omega)
  have h2 : (BitVec.ofInt 64 (1 : Int)).toNat = 1 := rfl
  show IntKind.i64.wrap ((BitVec.ofInt 64 (n : Int) &&& BitVec.ofInt 64 (1 : Int)).toNat : Int) = _
  rw [BitVec.toNat_and, h1, h2, Nat.and_one_is_mod, i64_w]
  exact w64_nat (by omega)
theorem shr_one_i64 (n : Nat) : shr .i64 (n : Int) 1 = ((n / 2 : Nat) : Int) := by
  unfold shr
  have e : min ((1 : Int).toNat) (IntKind.bits .i64) = 1 := rfl
  rw [e]; omega
theorem ipow_l6 {a b : Bool} {c : List Int} : ∀ (n : Nat) (x out : Int), n < 9223372036854775808 → (∀ j, j ≤ n → Sz 400 (x ^ j)) → (∀ j, j ≤ n → Sz 400 (out * x ^ j)) →
    Ev (fun k => bigint_Int_Pow.l6 k (n : Int) (ng x) (limbs x.natAbs) b c (ng out) (limbs out.natAbs)) (ng (out * x ^ n), limbs (out * x ^ n).natAbs, 0) := by
  intro n
  induction n using Nat.strongRecOn with
  | _ n ih =>
    intro x out hn hx ho
    refine Ev.step (fun k => bigint_Int_Pow.l6_eq ..) ?_
    by_cases h0 : n = 0
    · subst h0
      rw [Int.pow_zero, Int.mul_one]
      exact Ev.neg (by omega) (Ev.now _)
    · rw [and_one_i64 hn, shr_one_i64]
      have s1 : Sz 1000 x := (by have := hx 1 (by omega); rwa [Int.pow_succ, Int.pow_zero, Int.one_mul] at this : Sz 400 x).up (by decide)
      have s2 : Sz 1000 out := (by have := ho 0 (by omega); rwa [Int.pow_zero, Int.mul_one] at this : Sz 400 out).up (by decide)
      have hlt : n / 2 < n := by omega
      have hdm : n = 2 * (n / 2) + n % 2 := by omega
      -- the rest, whatever was multiplied in
      have rest : ∀ (o : Int), (∀ j, j ≤ n / 2 → Sz 400 (o * (x * x) ^ j)) → (n = 1 → True) → o * (x * x) ^ (n / 2) = out * x ^ n →
          Ev (fun k => if (n : Int) > 1 then ((bigint_Int_Mul.f k (ng x) (limbs x.natAbs) (ng x) (limbs x.natAbs)).bind fun t1 => bigint_Int_Pow.l6 k ((n / 2 : Nat) : Int) t1.1 t1.2 b c (ng o) (limbs o.natAbs)) else bigint_Int_Pow.l6 k ((n / 2 : Nat) : Int) (ng x) (limbs x.natAbs) b c (ng o) (limbs o.natAbs)) (ng (out * x ^ n), limbs (out * x ^ n).natAbs, 0) := fun o hos _ he => by
        by_cases h1 : n = 1
        · subst h1
          refine Ev.neg (by omega) ?_
          have e : o = out * x ^ 1 := by rw [← he]; show o = o * (x * x) ^ 0; rw [Int.pow_zero, Int.mul_one]
          refine Ev.step (fun k => bigint_Int_Pow.l6_eq ..) (Ev.neg (by decide) ?_)
          rw [e]
          exact Ev.now _
        · have g := ih (n / 2) hlt (x * x) o (by omega) (fun j hj => by
            have := hx (2 * j) (by omega)
            rwa [show (x * x) ^ j = x ^ (2 * j) by rw [Int.pow_mul, show x ^ 2 = x * x by rw [Int.pow_succ, Int.pow_succ, Int.pow_zero, Int.one_mul]]]) hos
          rw [he] at g
          exact Ev.pos (by omega) (Ev.bind (imul_ev s1 s1) g)
      have esq : ∀ j, (x * x) ^ j = x ^ (2 * j) := fun j => by rw [Int.pow_mul, show x ^ 2 = x * x by rw [Int.pow_succ, Int.pow_succ, Int.pow_zero, Int.one_mul]]
      by_cases hodd : n % 2 = 1
      · refine Ev.pos (by omega) (Ev.pos (by omega) (Ev.bind (imul_ev s2 s1) ?_))
        have key : ∀ j, out * x * (x * x) ^ j = out * x ^ (2 * j + 1) := fun j => by
          rw [esq, Int.pow_succ, Int.mul_assoc, Int.mul_comm x]
        refine rest (out * x) (fun j hj => ?_) (fun _ => trivial) ?_
        · rw [key]; exact ho (2 * j + 1) (by omega)
        · rw [key]; congr 2; omega
      · refine Ev.pos (by omega) (Ev.neg (by omega) ?_)
        refine rest out (fun j hj => ?_) (fun _ => trivial) ?_
        · rw [esq]; exact ho (2 * j) (by omega)
        · rw [esq]; congr 2; omega
theorem ipow_neg {x n : Int} (h : n < 0) : Ev (fun k => bigint_Int_Pow.f k (ng x) (limbs x.natAbs) n) (false, [], 1) := Ev.congr (fun k => bigint_Int_Pow.f_eq ..) (Ev.pos h (Ev.now _))
theorem ipow_far {x : Int} {n : Int} (lx : Sz 1000 x) (hn : n > 300000) (hn2 : n ≤ 9223372036854775807) (h : x ≠ 0) : Ev (fun k => bigint_Int_Pow.f k (ng x) (limbs x.natAbs) n) (false, [], 13) := by
  have hb : 0 < bits x.natAbs := by
    have := le_bits (n := x.natAbs) (i := 0) (by rw [Nat.pow_zero]; omega)
    omega
  have e : wrap64 (Int.tdiv 262144 n) = 0 := by
    rw [Int.tdiv_eq_ediv_of_nonneg (by decide), Int.ediv_eq_zero_of_lt (by decide) (by omega)]; exact w64_of (by decide) (by decide)
  refine Ev.congr (fun k => bigint_Int_Pow.f_eq ..) ?_
  rw [e]
  exact Ev.neg (by omega) (Ev.pos (by omega) (Ev.bind (ibits_ev lx) (Ev.neg (by omega) (Ev.pos (by omega) (Ev.now _)))))
theorem ipow_ev {x : Int} {n : Nat} (hn : n < 9223372036854775808) (lx : Sz 1000 x) (hb : 0 < n → bits x.natAbs ≤ 262144 / n) (hx : ∀ j, j ≤ n → Sz 400 (x ^ j)) : Ev (fun k => bigint_Int_Pow.f k (ng x) (limbs x.natAbs) (n : Int)) (ng (x ^ n), limbs (x ^ n).natAbs, 0) := by
  have g := ipow_l6 (a := false) (b := false) (c := []) n x 1 hn hx (fun j hj => by rw [Int.one_mul]; exact hx j hj)
  rw [Int.one_mul] at g
  refine Ev.congr (fun k => bigint_Int_Pow.f_eq ..) (Ev.neg (by omega) ?_)
  by_cases h0 : n = 0
  · exact Ev.neg (by omega) (Ev.bind (iof_ev (by decide) (by decide)) g)
  · have e : wrap64 (Int.tdiv 262144 (n : Int)) = ((262144 / n : Nat) : Int) := by
      have e1 : Int.tdiv 262144 (n : Int) = ((262144 / n : Nat) : Int) := tdivN 262144 n
      have e2 : 262144 / n ≤ 262144 := Nat.div_le_self _ _
      rw [e1, w64_nat (by omega)]
    have hbn := hb (by omega)
    rw [e]
    exact Ev.pos (by omega) (Ev.bind (ibits_ev lx) (Ev.neg (by omega) (Ev.neg (by omega) (Ev.bind (iof_ev (by decide) (by decide)) g))))
theorem zpow_l3 {x : Int} {n : Nat} {b : Bool} {c : ByteArray} (hn : n ≤ 1000000) (lx : Sz 1000 x) (hx : ∀ j, j ≤ n → Sz 400 (x ^ j)) : ∀ (d i : Nat), n - i = d → i ≤ n →
    Ev (fun k => vinculumref02_Pow.l3 k (n : Int) (ng x) (dec x.natAbs) b c (ng (x ^ i)) (dec (x ^ i).natAbs) (i : Int)) (ng (x ^ n), dec (x ^ n).natAbs)
  | 0, i, hd, hi => by
    have : i = n := by omega
    subst this
    exact Ev.step (fun k => vinculumref02_Pow.l3_eq ..) (Ev.neg (by omega) (Ev.now _))
  | d + 1, i, hd, hi => by
    have g := zpow_l3 (b := b) (c := c) hn lx hx d (i + 1) (by omega) (by omega)
    rw [Int.pow_succ, ← w64_succ (a := i) (by omega)] at g
    exact Ev.step (fun k => vinculumref02_Pow.l3_eq ..) (Ev.pos (by omega) (Ev.bind (zmul_ev ((hx i (by omega)).up (by decide)) lx) g))
theorem zpow_ev {x : Int} {n : Nat} (hn : n ≤ 1000000) (lx : Sz 1000 x) (hx : ∀ j, j ≤ n → Sz 400 (x ^ j)) : Ev (fun k => vinculumref02_Pow.f k (ng x) (dec x.natAbs) (n : Int)) (ng (x ^ n), dec (x ^ n).natAbs) := by
  have g := zpow_l3 (b := false) (c := ByteArray.mk (Array.mk [])) hn lx hx n 0 rfl (Nat.zero_le _)
  rw [Int.pow_zero, show ng 1 = false from rfl, show (1 : Int).natAbs = 1 from rfl, dec_one] at g
  exact Ev.congr (fun k => vinculumref02_Pow.f_eq ..) g
theorem Sz.pow {p : Nat} {x : Int} (h : Sz p x) : ∀ j : Nat, Sz (p * j + 1) (x ^ j)
  | 0 => by rw [Int.pow_zero]; exact Sz.one (by omega)
  | j + 1 => by
    rw [Int.pow_succ]
    exact ((Sz.pow h j).mul h).up (by rw [Nat.mul_succ]; omega)
/-! ### Small -/
theorem ismall_no {z : Int} (lz : Sz 1000 z) (h : z < -9223372036854775808 ∨ z > 9223372036854775807) : Ev (fun k => bigint_Int_Small.f k (ng z) (limbs z.natAbs)) (0, false) := by
  have s : ∀ y : Int, -9223372036854775808 ≤ y → y ≤ 9223372036854775807 → Sz 1000 y := fun y h1 h2 => Sz.up (p := 1) (Sz.of (by rw [Nat.pow_one]; omega)) (by decide)
  refine Ev.congr (fun k => bigint_Int_Small.f_eq ..) (Ev.bind (iof_ev (n := -9223372036854775808) (by decide) (by decide)) (Ev.bind (icmp_ev lz (s (-9223372036854775808) (by decide) (by decide))) ?_))
  by_cases h1 : z < -9223372036854775808
  · refine Ev.pos ?_ (Ev.now _)
    unfold cmpZ; rw [if_pos h1]; decide
  · have h2 := h.resolve_left h1
    refine Ev.neg ?_ (Ev.bind (iof_ev (n := 9223372036854775807) (by decide) (by decide)) (Ev.bind (icmp_ev lz (s (9223372036854775807) (by decide) (by decide))) (Ev.pos ?_ (Ev.now _))))
    · unfold cmpZ
      rw [if_neg h1]
      by_cases h3 : z = -9223372036854775808
      · rw [if_pos h3]; decide
      · rw [if_neg h3]; decide
    · unfold cmpZ
      rw [if_neg (by omega), if_neg (by omega)]; decide
theorem ismall_yes {z : Int} (h1 : -9223372036854775808 ≤ z) (h2 : z ≤ 9223372036854775807) : Ev (fun k => bigint_Int_Small.f k (ng z) (limbs z.natAbs)) (z, true) := by
  have s : ∀ y : Int, -9223372036854775808 ≤ y → y ≤ 9223372036854775807 → Sz 1000 y := fun y h1 h2 => Sz.up (p := 1) (Sz.of (by rw [Nat.pow_one]; omega)) (by decide)
  have lz := s z h1 h2
  refine Ev.congr (fun k => bigint_Int_Small.f_eq ..) (Ev.bind (iof_ev (n := -9223372036854775808) (by decide) (by decide)) (Ev.bind (icmp_ev lz (s (-9223372036854775808) (by decide) (by decide))) (Ev.neg ?_ (Ev.bind (iof_ev (n := 9223372036854775807) (by decide) (by decide)) (Ev.bind (icmp_ev lz (s (9223372036854775807) (by decide) (by decide))) (Ev.neg ?_ ?_))))))
  · unfold cmpZ
    rw [if_neg (by omega)]
    by_cases h3 : z = -9223372036854775808
    · rw [if_pos h3]; decide
    · rw [if_neg h3]; decide
  · unfold cmpZ
    by_cases h3 : z < 9223372036854775807
    · rw [if_pos h3]; decide
    · rw [if_neg h3, if_pos (by omega)]; decide
  · by_cases h0 : z = 0
    · subst h0
      rw [show (0 : Int).natAbs = 0 from rfl, limbs_zero]
      exact Ev.step (fun k => bigint_Int_Small.l5_eq ..) (Ev.neg (by decide) (Ev.neg (by decide) (Ev.now _)))
    · have hl : limbs z.natAbs = [(z.natAbs : Int)] := by
        rw [limbs_pos (by omega), Nat.div_eq_of_lt (by omega), limbs_zero, Nat.mod_eq_of_lt (by omega)]
      rw [hl]
      refine Ev.step (fun k => bigint_Int_Small.l5_eq ..) (Ev.pos (by simp) (Ev.pos (by simp) (Ev.pos (by simp) ?_)))
      have er : rd [(z.natAbs : Int)] 0 = (z.natAbs : Int) := rfl
      rw [er, show wrap64 (0 + 1) = 1 from w64_of (by decide) (by decide)]
      refine Ev.step (fun k => bigint_Int_Small.l5_eq ..) (Ev.neg (by simp) ?_)
      by_cases hz : z < 0
      · refine Ev.pos (ng_true.2 hz) (Ev.ret ?_)
        have e : wrap64 (-(wrap64 (z.natAbs : Int))) = z := by unfold wrap64; omega
        rw [e]
      · refine Ev.neg (fun e => hz (ng_true.1 e)) (Ev.ret ?_)
        rw [w64_of (by omega) (by omega)]
        congr 1; omega
end Go.Proofs.YtbofacjgofgkpaaDoor.Pure
end
section
/-
  The laws of chapter 02, first part: the examples, texts, common divisors, the ring.
-/
namespace Go.Proofs.YtbofacjgofgkpaaDoor.Pure
open Go.RowKit Go.Proofs.YtbofacjgofgkpaaDoor.F Go.Proofs.YtbofacjgofgkpaaDoorW.PrintWords Go.Proofs.YtbofacjgofgkpaaDoorW.PrintLast Go.Proofs.YtbofacjgofgkpaaDoorW.PrintMore
open Go.Proofs.YtbofacjgofgkpaaDoor.E (tEq tLt tApp tCut)
set_option linter.unusedVariables false
set_option linter.unusedSimpArgs false
theorem sz_small {z : Int} (h1 : -9223372036854775808 ≤ z) (h2 : z ≤ 9223372036854775807) : Sz 1 z := Sz.of (by rw [Nat.pow_one]; omega)
theorem ztx_nat (n : Nat) : ztx (n : Int) = dec n := by
  unfold ztx
  rw [if_neg (by omega), Int.natAbs_natCast]
theorem ztx_neg1 {n : Nat} (h0 : 0 < n) (h : n < 10) : ztx (-(n : Int)) = tx [45, dg n] := by
  unfold ztx
  rw [if_pos (by omega), Int.natAbs_neg, Int.natAbs_natCast, ds_small h]
theorem parse_neg0 : Ev (fun k => bigint_Parse.f k (ByteArray.mk (Array.mk [45, 48]))) (false, [], 16) := by
  have gc := cutp_ev (l := [45, 48]) (by decide)
  rw [if_pos (by rfl)] at gc
  have gn := parse_fine (l := [48]) (by decide) (by decide)
  have e : sv [48] = 0 := by decide
  rw [e, limbs_zero] at gn
  exact Ev.congr (fun k => bigint_Parse.f_eq ..) (Ev.bind gc (Ev.bind gn (Ev.pos rfl (Ev.pos rfl (Ev.pos rfl (Ev.now _))))))
theorem qd_m7 : qd (-7) 2 = -4 ∧ rd' (-7) 2 = 1 ∧ Int.tdiv (-7) 2 = -3 ∧ Int.tmod (-7) 2 = -1 := by decide
theorem awake_ev : Ev (fun k => vinculumlaw02_awake.f k) true := by
  have s7 := sz_small (z := -7) (by decide) (by decide)
  have s2 := sz_small (z := 2) (by decide) (by decide)
  obtain ⟨e1, e2, e3, e4⟩ := qd_m7
  have gd := idm_ev (x := -7) (y := 2) (s7.up (by decide)) (s2.up (by decide)) (by decide)
  have gq := iqr_ev (x := -7) (y := 2) (s7.up (by decide)) (s2.up (by decide)) (by decide)
  rw [e1, e2] at gd
  rw [e3, e4] at gq
  have p1 := iprint_ev (z := -4) ((sz_small (by decide) (by decide)).up (by decide))
  have p2 := iprint_ev (z := 1) ((sz_small (by decide) (by decide)).up (by decide))
  have p3 := iprint_ev (z := -3) ((sz_small (by decide) (by decide)).up (by decide))
  have p4 := iprint_ev (z := -1) ((sz_small (by decide) (by decide)).up (by decide))
  have t1 : ztx (-4) = tx [45, 52] := ztx_neg1 (n := 4) (by decide) (by decide)
  have t2 : ztx 1 = tx [49] := (ztx_nat 1).trans (by rw [dec, ds_small (by decide)]; rfl)
  have t3 : ztx (-3) = tx [45, 51] := ztx_neg1 (n := 3) (by decide) (by decide)
  have t4 : ztx (-1) = tx [45, 49] := ztx_neg1 (n := 1) (by decide) (by decide)
  rw [t1] at p1
  rw [t2] at p2
  rw [t3] at p3
  rw [t4] at p4
  refine Ev.congr (fun k => vinculumlaw02_awake.f_eq ..) (Ev.bind (iof_ev (n := -7) (by decide) (by decide)) (Ev.bind (iof_ev (n := 2) (by decide) (by decide)) (Ev.bind gd (Ev.bind (iof_ev (n := 2) (by decide) (by decide)) (Ev.bind gq (Ev.bind parse_neg0 ?_))))))
  exact Ev.bind p1 (Ev.pos (tEq_yes rfl) (Ev.bind p2 (Ev.pos (tEq_yes rfl) (Ev.pos rfl (Ev.bind p3 (Ev.pos (tEq_yes rfl) (Ev.bind p4 (Ev.pos (tEq_yes rfl) (Ev.pos rfl (Ev.ret rfl))))))))))
theorem awake_some : Ev (fun k => (vinculumlaw02_awake.f k).bind fun t0 => some t0) true := Ev.bind awake_ev (Ev.now _)
/-! ### helpers -/
theorem few_yes {b : Bool} {l : List Int} (h : l.length ≤ 8) : Ev (fun k => vinculumlaw02_Few.f k b l) true := Ev.congr (fun k => vinculumlaw02_Few.f_eq ..) (Ev.ret (decide_eq_true (by omega)))
theorem few_no {b : Bool} {l : List Int} (h : ¬ l.length ≤ 8) : Ev (fun k => vinculumlaw02_Few.f k b l) false := Ev.congr (fun k => vinculumlaw02_Few.f_eq ..) (Ev.ret (decide_eq_false (by omega)))
theorem sz_of {b : Bool} {l : List Int} {p : Nat} (hw : WF l) (h : l.length ≤ p) : Sz p (sg b (nv l)) := Sz.of (by rw [sg_abs]; exact pow_up (nv_lt hw) h)
theorem of_ev {b : Bool} {l : List Int} (hw : WF l) (hl : l.length ≤ 1000) : Ev (fun k => vinculumlaw02_Of.f k b l) (ng (sg b (nv l)), limbs (sg b (nv l)).natAbs) := Ev.congr (fun k => vinculumlaw02_Of.f_eq ..) (Ev.bind (ifrom_ev hw hl) (Ev.now _))
theorem plain_ev {b : Bool} {l : List Int} (hw : WF l) (hl : l.length ≤ 1000) : Ev (fun k => vinculumlaw02_Plain.f k b l) (ng (sg b (nv l)), dec (sg b (nv l)).natAbs) := Ev.congr (fun k => vinculumlaw02_Plain.f_eq ..) (Ev.bind (zof_ev hw hl) (Ev.now _))
theorem is_ev {z : Int} (h : Sz 1000 z) : Ev (fun k => vinculumlaw02_Is.f k (ng z) (limbs z.natAbs) (ng z) (dec z.natAbs)) true := Ev.congr (fun k => vinculumlaw02_Is.f_eq ..) (Ev.bind (iprint_ev h) (Ev.bind (zprint_ev h) (Ev.ret (decide_eq_true (tEq_same _)))))
theorem icmp_eq {x y : Int} (h : x = y) (lx : Sz 1000 x) : Ev (fun k => bigint_Int_Cmp.f k (ng x) (limbs x.natAbs) (ng y) (limbs y.natAbs)) 0 := by
  subst h
  have := icmp_ev lx lx
  rwa [cmpZ_same] at this
theorem iparse_ztx {z : Int} (h : Sz 45 z) : Ev (fun k => bigint_Parse.f k (ztx z)) (ng z, limbs z.natAbs, 0) := by
  have hd := h.ds
  have gn := parse_fine (l := ds z.natAbs) (by omega) (fine_ds _)
  rw [sv_ds] at gn
  by_cases hz : z < 0
  · have gc := cutp_ev (l := 45 :: ds z.natAbs) (by rw [List.length_cons]; omega)
    rw [if_pos (by rfl)] at gc
    have gm := made_of (b := true) (n := z.natAbs) (z := z) (by unfold sg; simp; omega)
    have hp := limbs_length_pos (show z.natAbs ≠ 0 by omega)
    unfold ztx
    rw [if_pos hz]
    exact Ev.congr (fun k => bigint_Parse.f_eq ..) (Ev.bind gc (Ev.bind gn (Ev.pos rfl (Ev.pos rfl (Ev.neg (by dsimp only; omega) (Ev.bind gm (Ev.now _)))))))
  · have gc := cutp_ev (l := ds z.natAbs) (by omega)
    have hne : ¬ (ds z.natAbs).head? = some 45 := fun e => by
      rw [List.head?_eq_some_head (ds_ne _)] at e
      have h1 := ds_DS z.natAbs _ (List.head_mem (ds_ne z.natAbs))
      rw [Option.some.inj e] at h1
      exact absurd h1.1 (by decide)
    rw [if_neg hne] at gc
    have gm := made_of (b := false) (n := z.natAbs) (z := z) (by rw [sg_false]; omega)
    unfold ztx
    rw [if_neg hz]
    exact Ev.congr (fun k => bigint_Parse.f_eq ..) (Ev.bind gc (Ev.bind gn (Ev.pos rfl (Ev.neg Bool.false_ne_true (Ev.bind gm (Ev.now _))))))
/-! ### laws -/
theorem BigintTexts {s : ByteArray} : Ev (fun k => vinculumlaw02_BigintTexts.f k s) true := by
  by_cases h : (s.size : Int) > 200
  · exact Ev.congr (fun k => vinculumlaw02_BigintTexts.f_eq ..) (Ev.pos h awake_some)
  have es := tx_eta s
  generalize s.data.toList = l at es
  subst es
  rw [tx_size] at h
  obtain ⟨e, z, g1, g2, he, hz⟩ := parse_both (l := l) (by omega)
  refine Ev.congr (fun k => vinculumlaw02_BigintTexts.f_eq ..) (Ev.neg (by rw [tx_size]; exact h) (Ev.bind g1 (Ev.bind g2 (Ev.pos rfl (Ev.bind (is_ev hz) (Ev.pos rfl ?_))))))
  by_cases h0 : e = 0
  · refine Ev.pos h0 (Ev.bind (iprint_ev hz) (Ev.pos ?_ awake_some))
    rw [he h0]; exact tEq_same _
  · exact Ev.neg h0 awake_some
theorem BigintGcds {b : Bool} {l : List Int} {c : Bool} {m : List Int} (hl : WF l) (hm : WF m) : Ev (fun k => vinculumlaw02_BigintGcds.f k b l c m) true := by
  by_cases h1 : (l.length : Int) > 4
  · exact Ev.congr (fun k => vinculumlaw02_BigintGcds.f_eq ..) (Ev.pos h1 awake_some)
  by_cases h2 : (m.length : Int) > 4
  · exact Ev.congr (fun k => vinculumlaw02_BigintGcds.f_eq ..) (Ev.neg h1 (Ev.pos h2 awake_some))
  have sx := sz_of (b := b) (p := 4) hl (by omega)
  have sy := sz_of (b := c) (p := 4) hm (by omega)
  have ox := of_ev (b := b) hl (by omega)
  have oy := of_ev (b := c) hm (by omega)
  have px := plain_ev (b := b) hl (by omega)
  have py := plain_ev (b := c) hm (by omega)
  generalize sg b (nv l) = x at *
  generalize sg c (nv m) = y at *
  have dx := sx.ds
  have dy := sy.ds
  have sg : Sz 1000 ((Nat.gcd y.natAbs x.natAbs : Nat) : Int) := by
    unfold Sz
    rw [Int.natAbs_natCast]
    by_cases hx : x.natAbs = 0
    · rw [hx, Nat.gcd_zero_right]; exact Nat.le_trans sy (by decide)
    · exact Nat.le_trans (limbs_length_mono (Nat.le_of_dvd (Nat.pos_of_ne_zero hx) (Nat.gcd_dvd_right _ _))) (Nat.le_trans sx (by decide))
  have gp := iprint_ev sg
  rw [ng_nat, Int.natAbs_natCast, ztx_nat] at gp
  exact Ev.congr (fun k => vinculumlaw02_BigintGcds.f_eq ..) (Ev.neg h1 (Ev.neg h2 (Ev.bind ox (Ev.bind oy (Ev.bind (igcd_ev (sx.up (by decide)) (sy.up (by decide))) (Ev.bind gp (Ev.bind px (Ev.bind py (Ev.bind (ref_gcd (by omega) (by omega)) (Ev.pos (tEq_same _) awake_some))))))))))
theorem BigintRing {b : Bool} {l : List Int} {c : Bool} {m : List Int} {d : Bool} {n : List Int} (hl : WF l) (hm : WF m) (hn : WF n) : Ev (fun k => vinculumlaw02_BigintRing.f k b l c m d n) true := by
  by_cases h1 : l.length ≤ 8
  case neg => exact Ev.congr (fun k => vinculumlaw02_BigintRing.f_eq ..) (Ev.bind (few_no h1) (Ev.pos rfl awake_some))
  by_cases h2 : m.length ≤ 8
  case neg => exact Ev.congr (fun k => vinculumlaw02_BigintRing.f_eq ..) (Ev.bind (few_yes h1) (Ev.neg Bool.false_ne_true (Ev.bind (few_no h2) (Ev.pos rfl awake_some))))
  by_cases h3 : n.length ≤ 8
  case neg => exact Ev.congr (fun k => vinculumlaw02_BigintRing.f_eq ..) (Ev.bind (few_yes h1) (Ev.neg Bool.false_ne_true (Ev.bind (few_yes h2) (Ev.neg Bool.false_ne_true (Ev.bind (few_no h3) (Ev.pos rfl awake_some))))))
  have sx := sz_of (b := b) (p := 8) hl h1
  have sy := sz_of (b := c) (p := 8) hm h2
  have sz := sz_of (b := d) (p := 8) hn h3
  have ox := of_ev (b := b) hl (by omega)
  have oy := of_ev (b := c) hm (by omega)
  have oz := of_ev (b := d) hn (by omega)
  generalize sg b (nv l) = x at *
  generalize sg c (nv m) = y at *
  generalize sg d (nv n) = z at *
  have X : Sz 1000 x := sx.up (by decide)
  have Y : Sz 1000 y := sy.up (by decide)
  have Z : Sz 1000 z := sz.up (by decide)
  have XY : Sz 1000 (x + y) := (sx.add sy).up (by decide)
  have YZ : Sz 1000 (y + z) := (sy.add sz).up (by decide)
  have MXY : Sz 1000 (x * y) := (sx.mul sy).up (by decide)
  have MXZ : Sz 1000 (x * z) := (sx.mul sz).up (by decide)
  have MYZ : Sz 1000 (y * z) := (sy.mul sz).up (by decide)
  have YX : Sz 1000 (y - x) := (sy.sub sx).up (by decide)
  refine Ev.congr (fun k => vinculumlaw02_BigintRing.f_eq ..) (Ev.bind (few_yes h1) (Ev.neg Bool.false_ne_true (Ev.bind (few_yes h2) (Ev.neg Bool.false_ne_true (Ev.bind (few_yes h3) (Ev.neg Bool.false_ne_true (Ev.bind ox (Ev.bind oy (Ev.bind oz ?_)))))))))
  refine Ev.bind (iadd_ev X Y) (Ev.bind (iadd_ev Y X) (Ev.bind (icmp_eq (Int.add_comm x y) XY) (Ev.pos rfl ?_)))
  refine Ev.bind (imul_ev X Y) (Ev.bind (imul_ev Y X) (Ev.bind (icmp_eq (Int.mul_comm x y) MXY) (Ev.pos rfl ?_)))
  refine Ev.bind (iadd_ev X Y) (Ev.bind (iadd_ev XY Z) (Ev.bind (iadd_ev Y Z) (Ev.bind (iadd_ev X YZ) (Ev.bind (icmp_eq (Int.add_assoc x y z) (Sz.up (p := 10) ((sx.add sy).add (sz.up (by decide))) (by decide))) (Ev.pos rfl ?_)))))
  refine Ev.bind (imul_ev X Y) (Ev.bind (imul_ev MXY Z) (Ev.bind (imul_ev Y Z) (Ev.bind (imul_ev X MYZ) (Ev.bind (icmp_eq (Int.mul_assoc x y z) (Sz.up ((sx.mul sy).mul sz) (by decide))) (Ev.pos rfl ?_)))))
  refine Ev.bind (iadd_ev Y Z) (Ev.bind (imul_ev X YZ) (Ev.bind (imul_ev X Y) (Ev.bind (imul_ev X Z) (Ev.bind (iadd_ev MXY MXZ) (Ev.bind (icmp_eq (Int.mul_add x y z) (Sz.up (sx.mul (sy.add sz)) (by decide))) (Ev.pos rfl ?_))))))
  refine Ev.bind (isub_ev X X) (Ev.bind (isign_ev _) (Ev.pos (by rw [Int.sub_self]; rfl) ?_))
  refine Ev.bind (isub_ev X Y) (Ev.bind (isub_ev Y X) (Ev.bind (ineg_ev _) (Ev.bind (icmp_eq (show x - y = -(y - x) by omega) (Sz.up (sx.sub sy) (by decide))) (Ev.pos rfl ?_))))
  exact Ev.bind (ineg_ev x) (Ev.bind (ineg_ev _) (Ev.bind (icmp_eq (Int.neg_neg x) (by rw [Int.neg_neg]; exact X)) (Ev.pos rfl awake_some)))
end Go.Proofs.YtbofacjgofgkpaaDoor.Pure
end
section
/-
  The laws of chapter 02, second part: quotients.
-/
namespace Go.Proofs.YtbofacjgofgkpaaDoor.Pure
open Go.RowKit Go.Proofs.YtbofacjgofgkpaaDoor.F Go.Proofs.YtbofacjgofgkpaaDoorW.PrintWords Go.Proofs.YtbofacjgofgkpaaDoorW.PrintLast Go.Proofs.YtbofacjgofgkpaaDoorW.PrintMore
open Go.Proofs.YtbofacjgofgkpaaDoor.E (tEq tLt tApp tCut)
set_option linter.unusedVariables false
set_option linter.unusedSimpArgs false
theorem tmod_sign {x y : Int} (h : Int.tmod x y ≠ 0) : (Int.tmod x y).sign = x.sign := by
  have e := natAbs_tmod x y
  unfold sg at e
  by_cases hx : x < 0
  · rw [if_pos (ng_true.2 hx)] at e
    rw [Int.sign_eq_neg_one_of_neg hx, Int.sign_eq_neg_one_of_neg (by omega)]
  · rw [if_neg (fun e => hx (ng_true.1 e))] at e
    have hx0 : x ≠ 0 := fun e => h (by rw [e, Int.zero_tmod])
    rw [Int.sign_eq_one_of_pos (by omega), Int.sign_eq_one_of_pos (by omega)]
theorem tmod_lt' {x y : Int} (h : y ≠ 0) : (Int.tmod x y).natAbs < y.natAbs := by
  rw [← natAbs_tmod, sg_abs]
  exact Nat.mod_lt _ (by omega)
theorem rd'_props {x y : Int} (h : y ≠ 0) : (rd' x y).natAbs < y.natAbs ∧ ((rd' x y).sign ≠ 0 → (rd' x y).sign = y.sign) := by
  have hlt := tmod_lt' (x := x) h
  unfold rd' adj
  generalize Int.tmod x y = r at *
  have sn : ∀ z : Int, z < 0 → z.sign = -1 := fun z h => Int.sign_eq_neg_one_of_neg h
  have sp : ∀ z : Int, 0 < z → z.sign = 1 := fun z h => Int.sign_eq_one_of_pos h
  rcases Int.lt_trichotomy r 0 with hr | hr | hr <;> rcases Int.lt_trichotomy y 0 with hy | hy | hy
  · rw [sn r hr, sn y hy, if_neg (by decide), Int.zero_mul, Int.add_zero]; exact ⟨hlt, fun _ => sn r hr⟩
  · exact absurd hy h
  · rw [sn r hr, sp y hy, if_pos (by decide), Int.one_mul]; exact ⟨by omega, fun _ => sp _ (by omega)⟩
  · subst hr; rw [Int.sign_zero, Int.zero_mul, if_neg (by decide), Int.zero_mul, Int.add_zero]; exact ⟨hlt, fun h => absurd rfl h⟩
  · exact absurd hy h
  · subst hr; rw [Int.sign_zero, Int.zero_mul, if_neg (by decide), Int.zero_mul, Int.add_zero]; exact ⟨hlt, fun h => absurd rfl h⟩
  · rw [sp r hr, sn y hy, if_pos (by decide), Int.one_mul]; exact ⟨by omega, fun _ => sn _ (by omega)⟩
  · exact absurd hy h
  · rw [sp r hr, sp y hy, if_neg (by decide), Int.zero_mul, Int.add_zero]; exact ⟨hlt, fun _ => sp r hr⟩
theorem rd'_word {x : Int} {w : Nat} (h : 0 < w) : rd' x (w : Int) = x % (w : Int) := by
  obtain ⟨h1, h2⟩ := rd'_props (x := x) (y := (w : Int)) (by omega)
  have h3 := qd_eq x (w : Int)
  have h4 : 0 ≤ rd' x (w : Int) := by
    apply Classical.byContradiction
    intro hn
    have e : (rd' x (w : Int)).sign = -1 := Int.sign_eq_neg_one_of_neg (by omega)
    have := h2 (by rw [e]; decide)
    rw [e, Int.sign_eq_one_of_pos (by omega)] at this
    exact absurd this (by decide)
  generalize rd' x (w : Int) = r at *
  generalize qd x (w : Int) = q at *
  rw [← h3, Int.add_comm, Int.mul_comm, Int.add_mul_emod_self_left]
  exact (Int.emod_eq_of_lt h4 (by omega)).symm
theorem ng_zero : ng 0 = false := rfl
theorem isign_zero : Ev (fun k => bigint_Int_Sign.f k false []) 0 := by
  have := isign_ev 0
  rwa [ng_zero, show (0 : Int).natAbs = 0 from rfl, limbs_zero] at this
theorem zword_ev {x : Int} {w : Nat} (lx : Sz 990 x) (h0 : 0 < w) (hw : w < 18446744073709551616) : Ev (fun k => vinculumref02_DivMod.f k (ng x) (dec x.natAbs) false (dec w)) (ng (qd x w), dec (qd x w).natAbs, ng (x % (w : Int)), dec (x % (w : Int)).natAbs) := by
  have := zdm_ev (x := x) (y := (w : Int)) lx (Sz.up (p := 1) (Sz.of (by rw [Nat.pow_one, Int.natAbs_natCast]; exact hw)) (by decide)) (by omega)
  rwa [ng_nat, Int.natAbs_natCast, rd'_word h0] at this
theorem word_left {x : Int} {w : Nat} (h0 : 0 < w) (hw : w < 18446744073709551616) : Ev (fun k => vinculumref01_Word.f k (x % (w : Int))) (dec (x % (w : Int)).natAbs) := by
  have h1 := Int.emod_nonneg x (show (w : Int) ≠ 0 by omega)
  have h2 := Int.emod_lt_of_pos x (show (0 : Int) < (w : Int) by omega)
  have := ref_word (n := (x % (w : Int)).natAbs) (by omega)
  rwa [show (((x % (w : Int)).natAbs : Nat) : Int) = x % (w : Int) by omega] at this
theorem BigintDivides {b : Bool} {l : List Int} {c : Bool} {m : List Int} {w : Int} (hl : WF l) (hm : WF m) (hw : U w) : Ev (fun k => vinculumlaw02_BigintDivides.f k b l c m w) true := by
  by_cases h1 : l.length ≤ 8
  case neg => exact Ev.congr (fun k => vinculumlaw02_BigintDivides.f_eq ..) (Ev.bind (few_no h1) (Ev.pos rfl awake_some))
  by_cases h2 : m.length ≤ 8
  case neg => exact Ev.congr (fun k => vinculumlaw02_BigintDivides.f_eq ..) (Ev.bind (few_yes h1) (Ev.neg Bool.false_ne_true (Ev.bind (few_no h2) (Ev.pos rfl awake_some))))
  have sx := sz_of (b := b) (p := 8) hl h1
  have sy := sz_of (b := c) (p := 8) hm h2
  have ox := of_ev (b := b) hl (by omega)
  have oy := of_ev (b := c) hm (by omega)
  have px := plain_ev (b := b) hl (by omega)
  have py := plain_ev (b := c) hm (by omega)
  generalize sg b (nv l) = x at *
  generalize sg c (nv m) = y at *
  have X : Sz 1000 x := sx.up (by decide)
  have Y : Sz 1000 y := sy.up (by decide)
  have X9 : Sz 990 x := sx.up (by decide)
  have Y9 : Sz 990 y := sy.up (by decide)
  obtain ⟨W, rfl⟩ := Int.eq_ofNat_of_zero_le hw.1
  have hW : W < 18446744073709551616 := by have := hw.2; omega
  have gm0 : W = 0 → Ev (fun k => bigint_Int_Mod.f k (ng x) (limbs x.natAbs) (W : Int)) (0, 10) := fun e => by subst e; exact imod_zero
  by_cases hy : y = 0
  · refine Ev.congr (fun k => vinculumlaw02_BigintDivides.f_eq ..) (Ev.bind (few_yes h1) (Ev.neg Bool.false_ne_true (Ev.bind (few_yes h2) (Ev.neg Bool.false_ne_true (Ev.bind ox (Ev.bind oy (Ev.bind (iqr_zero X Y hy) (Ev.bind (idm_zero X Y hy) (Ev.bind (iexact_zero X Y hy) ?_)))))))))
    refine (if h0 : W = 0 then Ev.bind (gm0 h0) (Ev.pos (by omega) (Ev.pos rfl (Ev.pos rfl (Ev.neg (by omega) ?_)))) else Ev.bind (imod_ev X (Nat.pos_of_ne_zero h0) hW) (Ev.neg (by omega) (Ev.pos (by omega) (Ev.bind px (Ev.bind (ref_word hW) (Ev.bind (zword_ev X9 (Nat.pos_of_ne_zero h0) hW) (Ev.pos rfl (Ev.bind (word_left (Nat.pos_of_ne_zero h0) hW) (Ev.pos (tEq_same _) ?_)))))))))
    all_goals exact Ev.bind py (Ev.bind (zsign_ev y) (Ev.pos (by rw [hy]; rfl) (Ev.pos rfl (Ev.pos rfl (Ev.pos rfl (Ev.bind isign_zero (Ev.pos rfl (Ev.bind isign_zero (Ev.pos rfl (Ev.bind isign_zero (Ev.pos rfl (Ev.bind isign_zero (Ev.pos rfl (Ev.bind isign_zero (Ev.pos rfl awake_some)))))))))))))))
  have hs : ¬ y.sign = 0 := fun e => hy (Int.sign_eq_zero_iff_zero.1 e)
  obtain ⟨hlt, _⟩ := rd'_props (x := x) hy
  have sq : Sz 1000 (Int.tdiv x y) := (sx.tdiv y).up (by decide)
  have sr : Sz 1000 (Int.tmod x y) := (sy.tmod hy).up (by decide)
  have sr' : Sz 1000 (rd' x y) := Y.mono (Nat.le_of_lt hlt)
  have sq' : Sz 1000 (qd x y) := by
    unfold qd adj
    split
    · exact (Sz.sub (sx.tdiv y) (Sz.one (by decide))).up (by decide)
    · rw [Int.sub_zero]; exact sq
  have gx := iexact_ev X Y hy
  have gx1 : Int.tmod x y = 0 → Ev (fun k => bigint_Int_Exact.f k (ng x) (limbs x.natAbs) (ng y) (limbs y.natAbs)) (ng (Int.tdiv x y), limbs (Int.tdiv x y).natAbs, 0) := fun e => by rwa [if_pos e] at gx
  have gx2 : ¬ Int.tmod x y = 0 → Ev (fun k => bigint_Int_Exact.f k (ng x) (limbs x.natAbs) (ng y) (limbs y.natAbs)) (false, [], 11) := fun e => by rwa [if_neg e] at gx
  refine Ev.congr (fun k => vinculumlaw02_BigintDivides.f_eq ..) (Ev.bind (few_yes h1) (Ev.neg Bool.false_ne_true (Ev.bind (few_yes h2) (Ev.neg Bool.false_ne_true (Ev.bind ox (Ev.bind oy (Ev.bind (iqr_ev X Y hy) (Ev.bind (idm_ev X9 Y9 hy) ?_))))))))
  refine (if hr : Int.tmod x y = 0 then Ev.bind (gx1 hr) ?_ else Ev.bind (gx2 hr) ?_)
  all_goals refine (if h0 : W = 0 then Ev.bind (gm0 h0) (Ev.pos (by omega) (Ev.pos rfl (Ev.pos rfl (Ev.neg (by omega) ?_)))) else Ev.bind (imod_ev X (Nat.pos_of_ne_zero h0) hW) (Ev.neg (by omega) (Ev.pos (by omega) (Ev.bind px (Ev.bind (ref_word hW) (Ev.bind (zword_ev X9 (Nat.pos_of_ne_zero h0) hW) (Ev.pos rfl (Ev.bind (word_left (Nat.pos_of_ne_zero h0) hW) (Ev.pos (tEq_same _) ?_)))))))))
  all_goals refine Ev.bind py (Ev.bind (zsign_ev y) (Ev.neg hs (Ev.bind px (Ev.bind py (Ev.bind (zqr_ev X Y hy) (Ev.pos rfl (Ev.pos rfl (Ev.bind (is_ev sq) (Ev.neg Bool.false_ne_true (Ev.bind (is_ev sr) (Ev.neg Bool.false_ne_true (Ev.bind (zsign_ev _) ?_))))))))))))
  all_goals first
    | refine Ev.pos (by rw [hr]; rfl) (Ev.pos rfl (Ev.bind (is_ev sq) (Ev.neg Bool.false_ne_true ?_)))
    | refine Ev.neg (fun e => hr (Int.sign_eq_zero_iff_zero.1 e)) (Ev.pos rfl (Ev.bind isign_zero (Ev.pos rfl ?_)))
  all_goals exact Ev.bind px (Ev.bind py (Ev.bind (zdm_ev X9 Y9 hy) (Ev.bind (is_ev sq') (Ev.pos rfl (Ev.bind (is_ev sr') (Ev.pos rfl awake_some))))))
theorem BigintBack {b : Bool} {l : List Int} {c : Bool} {m : List Int} (hl : WF l) (hm : WF m) : Ev (fun k => vinculumlaw02_BigintBack.f k b l c m) true := by
  by_cases h1 : l.length ≤ 8
  case neg => exact Ev.congr (fun k => vinculumlaw02_BigintBack.f_eq ..) (Ev.bind (few_no h1) (Ev.pos rfl awake_some))
  by_cases h2 : m.length ≤ 8
  case neg => exact Ev.congr (fun k => vinculumlaw02_BigintBack.f_eq ..) (Ev.bind (few_yes h1) (Ev.neg Bool.false_ne_true (Ev.bind (few_no h2) (Ev.pos rfl awake_some))))
  have sx := sz_of (b := b) (p := 8) hl h1
  have sy := sz_of (b := c) (p := 8) hm h2
  have ox := of_ev (b := b) hl (by omega)
  have oy := of_ev (b := c) hm (by omega)
  generalize sg b (nv l) = x at *
  generalize sg c (nv m) = y at *
  have X : Sz 1000 x := sx.up (by decide)
  have Y : Sz 1000 y := sy.up (by decide)
  refine Ev.congr (fun k => vinculumlaw02_BigintBack.f_eq ..) (Ev.bind (few_yes h1) (Ev.neg Bool.false_ne_true (Ev.bind (few_yes h2) (Ev.neg Bool.false_ne_true (Ev.bind ox (Ev.bind oy (Ev.bind (iprint_ev X) (Ev.bind (iparse_ztx (sx.up (by decide))) (Ev.pos rfl (Ev.bind (icmp_eq rfl X) (Ev.pos rfl (Ev.bind (isign_ev y) ?_))))))))))))
  by_cases hy : y = 0
  · exact Ev.pos (by rw [hy]; rfl) awake_some
  have hs : ¬ y.sign = 0 := fun e => hy (Int.sign_eq_zero_iff_zero.1 e)
  obtain ⟨hlt, hsg⟩ := rd'_props (x := x) hy
  have hlt2 := tmod_lt' (x := x) hy
  have sq0 : Sz 8 (Int.tdiv x y) := sx.tdiv y
  have sq : Sz 1000 (Int.tdiv x y) := sq0.up (by decide)
  have sr : Sz 1000 (Int.tmod x y) := (sy.tmod hy).up (by decide)
  have sr' : Sz 1000 (rd' x y) := Y.mono (Nat.le_of_lt hlt)
  have sq1 : Sz 9 (qd x y) := by
    unfold qd adj
    split
    · exact (Sz.sub (sx.tdiv y) (Sz.one (by decide))).up (by decide)
    · rw [Int.sub_zero]; exact sq0.up (by decide)
  have sq' : Sz 1000 (qd x y) := sq1.up (by decide)
  have e1 : Int.tdiv x y * y + Int.tmod x y = x := Int.tdiv_mul_add_tmod x y
  have e2 := qd_eq x y
  have m1 : Sz 1000 (Int.tdiv x y * y) := (sq0.mul sy).up (by decide)
  have m2 : Sz 1000 (qd x y * y) := (sq1.mul sy).up (by decide)
  have m3 : Sz 1000 (x * y) := (sx.mul sy).up (by decide)
  refine Ev.neg hs (Ev.bind (iqr_ev X Y hy) (Ev.bind (idm_ev (sx.up (by decide)) (sy.up (by decide)) hy) (Ev.pos rfl (Ev.pos rfl ?_))))
  refine Ev.bind (imul_ev sq Y) (Ev.bind (iadd_ev m1 sr) (Ev.bind (icmp_eq e1 (by rw [e1]; exact X)) (Ev.pos rfl ?_)))
  refine Ev.bind (imul_ev sq' Y) (Ev.bind (iadd_ev m2 sr') (Ev.bind (icmp_eq e2 (by rw [e2]; exact X)) (Ev.pos rfl (Ev.bind (isign_ev _) ?_))))
  have c1 := cmp_ev (limbs_WF (Int.tmod x y).natAbs) (limbs_WF y.natAbs) (Nat.le_trans sr (by decide)) (Nat.le_trans Y (by decide))
  have c2 := cmp_ev (limbs_WF (rd' x y).natAbs) (limbs_WF y.natAbs) (Nat.le_trans sr' (by decide)) (Nat.le_trans Y (by decide))
  rw [nv_limbs, nv_limbs] at c1 c2
  have gx := iexact_ev m3 Y hy
  rw [if_pos (Int.mul_tmod_left x y), Int.mul_tdiv_cancel x hy] at gx
  refine (if hr : (Int.tmod x y).sign = 0 then Ev.pos hr ?_ else Ev.neg hr (Ev.bind (isign_ev _) (Ev.bind (isign_ev x) (Ev.pos (tmod_sign (fun e => hr (by rw [e]; rfl))) ?_))))
  all_goals refine Ev.bind (isign_ev _) (if ht : (rd' x y).sign = 0 then Ev.pos ht ?_ else Ev.neg ht (Ev.bind (isign_ev _) (Ev.bind (isign_ev y) (Ev.pos (hsg ht) ?_))))
  all_goals exact Ev.bind (inat_ev sr) (Ev.bind (inat_ev Y) (Ev.bind c1 (Ev.neg (fun e => absurd (cmpI_ge.1 e) (Nat.not_le.2 hlt2)) (Ev.bind (inat_ev sr') (Ev.bind (inat_ev Y) (Ev.bind c2 (Ev.neg (fun e => absurd (cmpI_ge.1 e) (Nat.not_le.2 hlt)) (Ev.bind (imul_ev X Y) (Ev.bind gx (Ev.pos rfl (Ev.bind (icmp_eq rfl X) (Ev.pos rfl awake_some))))))))))))
end Go.Proofs.YtbofacjgofgkpaaDoor.Pure
end
section
/-
  The laws of chapter 02, third part: sums, signs, powers, ints.
-/
namespace Go.Proofs.YtbofacjgofgkpaaDoor.Pure
open Go.RowKit Go.Proofs.YtbofacjgofgkpaaDoor.F Go.Proofs.YtbofacjgofgkpaaDoorW.PrintWords Go.Proofs.YtbofacjgofgkpaaDoorW.PrintLast Go.Proofs.YtbofacjgofgkpaaDoorW.PrintMore
open Go.Proofs.YtbofacjgofgkpaaDoor.E (tEq tLt tApp tCut)
set_option linter.unusedVariables false
set_option linter.unusedSimpArgs false
theorem BigintAdds {b : Bool} {l : List Int} {c : Bool} {m : List Int} {n : Int} (hl : WF l) (hm : WF m) (hn : -9223372036854775808 ≤ n ∧ n ≤ 9223372036854775807) : Ev (fun k => vinculumlaw02_BigintAdds.f k b l c m n) true := by
  by_cases h1 : l.length ≤ 8
  case neg => exact Ev.congr (fun k => vinculumlaw02_BigintAdds.f_eq ..) (Ev.bind (few_no h1) (Ev.pos rfl awake_some))
  by_cases h2 : m.length ≤ 8
  case neg => exact Ev.congr (fun k => vinculumlaw02_BigintAdds.f_eq ..) (Ev.bind (few_yes h1) (Ev.neg Bool.false_ne_true (Ev.bind (few_no h2) (Ev.pos rfl awake_some))))
  have sx := sz_of (b := b) (p := 8) hl h1
  have sy := sz_of (b := c) (p := 8) hm h2
  have ox := of_ev (b := b) hl (by omega)
  have oy := of_ev (b := c) hm (by omega)
  have px := plain_ev (b := b) hl (by omega)
  have py := plain_ev (b := c) hm (by omega)
  generalize sg b (nv l) = x at *
  generalize sg c (nv m) = y at *
  have X : Sz 1000 x := sx.up (by decide)
  have Y : Sz 1000 y := sy.up (by decide)
  have XY : Sz 1000 (x + y) := (sx.add sy).up (by decide)
  have DXY : Sz 1000 (x - y) := (sx.sub sy).up (by decide)
  have MXY : Sz 1000 (x * y) := (sx.mul sy).up (by decide)
  have go := ref_of (limbs_WF x.natAbs) (Nat.le_trans sx (by decide))
  rw [nv_limbs] at go
  have hb : bits x.natAbs ≤ 100000 := Nat.le_trans (bits_le_words sx.lt) (by decide)
  refine Ev.congr (fun k => vinculumlaw02_BigintAdds.f_eq ..) (Ev.bind (few_yes h1) (Ev.neg Bool.false_ne_true (Ev.bind (few_yes h2) (Ev.neg Bool.false_ne_true (Ev.bind ox (Ev.bind oy (Ev.bind px (Ev.bind py ?_))))))))
  refine Ev.bind (is_ev X) (Ev.neg Bool.false_ne_true (Ev.bind (isign_ev x) (Ev.bind (zsign_ev x) (Ev.pos rfl (Ev.bind (icmp_ev X Y) (Ev.bind (zcmp_ev X Y) (Ev.pos rfl ?_)))))))
  refine Ev.bind (inat_ev X) (Ev.bind go (Ev.pos (tEq_same _) (Ev.bind (ibits_ev X) (Ev.bind (ref_bits hb) (Ev.pos rfl ?_)))))
  refine Ev.bind (ineg_ev x) (Ev.bind (zneg_ev x) (Ev.bind (is_ev X.neg) (Ev.neg Bool.false_ne_true ?_)))
  refine Ev.bind (iadd_ev X Y) (Ev.bind (zadd_ev X Y) (Ev.bind (is_ev XY) (Ev.neg Bool.false_ne_true ?_)))
  refine Ev.bind (isub_ev X Y) (Ev.bind (zsub_ev X Y) (Ev.bind (is_ev DXY) (Ev.neg Bool.false_ne_true ?_)))
  refine Ev.bind (imul_ev X Y) (Ev.bind (zmul_ev X Y) (Ev.bind (is_ev MXY) (Ev.neg Bool.false_ne_true ?_)))
  exact Ev.bind (iof_ev hn.1 hn.2) (Ev.bind (ismall_yes hn.1 hn.2) (Ev.pos rfl (Ev.pos rfl awake_some)))
theorem dec_low : (ByteArray.mk (Array.mk [57, 50, 50, 51, 51, 55, 50, 48, 51, 54, 56, 53, 52, 55, 55, 53, 56, 48, 56]) : ByteArray) = dec 9223372036854775808 := by
  have : [57, 50, 50, 51, 51, 55, 50, 48, 51, 54, 56, 53, 52, 55, 55, 53, 56, 48, 56] = ds (sv [57, 50, 50, 51, 51, 55, 50, 48, 51, 54, 56, 53, 52, 55, 55, 53, 56, 48, 56]) :=
    ds_of (by decide) (by decide) (.inr (by decide))
  have e : sv [57, 50, 50, 51, 51, 55, 50, 48, 51, 54, 56, 53, 52, 55, 55, 53, 56, 48, 56] = 9223372036854775808 := by decide
  rw [e] at this
  rw [dec, ← this]; rfl
theorem dec_high : (ByteArray.mk (Array.mk [57, 50, 50, 51, 51, 55, 50, 48, 51, 54, 56, 53, 52, 55, 55, 53, 56, 48, 55]) : ByteArray) = dec 9223372036854775807 := by
  have : [57, 50, 50, 51, 51, 55, 50, 48, 51, 54, 56, 53, 52, 55, 55, 53, 56, 48, 55] = ds (sv [57, 50, 50, 51, 51, 55, 50, 48, 51, 54, 56, 53, 52, 55, 55, 53, 56, 48, 55]) :=
    ds_of (by decide) (by decide) (.inr (by decide))
  have e : sv [57, 50, 50, 51, 51, 55, 50, 48, 51, 54, 56, 53, 52, 55, 55, 53, 56, 48, 55] = 9223372036854775807 := by decide
  rw [e] at this
  rw [dec, ← this]; rfl
theorem cmpZ_le {x y : Int} : cmpZ x y ≤ 0 ↔ x ≤ y := by
  unfold cmpZ
  by_cases h : x < y
  · rw [if_pos h]; exact ⟨fun _ => by omega, fun _ => by decide⟩
  · rw [if_neg h]
    by_cases h2 : x = y
    · rw [if_pos h2]; exact ⟨fun _ => by omega, fun _ => by decide⟩
    · rw [if_neg h2]; exact ⟨fun h3 => absurd h3 (by decide), fun h3 => by omega⟩
/-- What Pow answers, in the cases that the law asks for. -/
theorem pow_cases {x n : Int} (sx : Sz 2 x) (hn : n ≤ 12 ∨ 300000 < n) (hn2 : n ≤ 9223372036854775807) : ∃ (z e : Int), Ev (fun k => bigint_Int_Pow.f k (ng x) (limbs x.natAbs) n) (ng z, limbs z.natAbs, e) ∧ (n < 0 → z = 0 ∧ e = 1) ∧ (300000 < n → z = 0 ∧ (x = 0 → e = 0) ∧ (x ≠ 0 → e = 13)) ∧ (0 ≤ n → n ≤ 12 → z = x ^ n.toNat ∧ e = 0) := by
  have z0 : ∀ e : Int, (ng 0, limbs (0 : Int).natAbs, e) = (false, [], e) := fun e => by rw [show (0 : Int).natAbs = 0 from rfl, limbs_zero]; rfl
  have X : Sz 1000 x := sx.up (by decide)
  by_cases h0 : n < 0
  · exact ⟨0, 1, by rw [z0]; exact ipow_neg h0, fun _ => ⟨rfl, rfl⟩, fun h => by omega, fun h => by omega⟩
  obtain ⟨N, rfl⟩ := Int.eq_ofNat_of_zero_le (show 0 ≤ n by omega)
  by_cases h1 : N ≤ 12
  · refine ⟨x ^ N, 0, ?_, fun h => by omega, fun h => by omega, fun _ _ => ⟨rfl, rfl⟩⟩
    refine ipow_ev (by omega) X (fun h => ?_) (fun j hj => ?_)
    · have h3 : bits x.natAbs ≤ 128 := bits_le_words sx.lt
      have h4 : 262144 / 12 ≤ 262144 / N := Nat.div_le_div_left h1 h
      exact Nat.le_trans h3 (Nat.le_trans (by decide) h4)
    · exact (Sz.pow sx j).up (by omega)
  · by_cases hx : x = 0
    · subst hx
      refine ⟨0, 0, ?_, fun h => by omega, fun h => ⟨rfl, fun _ => rfl, fun h => absurd rfl h⟩, fun h => by omega⟩
      have pz : ∀ j : Nat, (0 : Int) ^ j = if j = 0 then 1 else 0 := fun j => by
        cases j with
        | zero => rfl
        | succ j => rw [Int.pow_succ, Int.mul_zero, if_neg (by omega)]
      have g := ipow_ev (x := 0) (n := N) (by omega) X (fun h => by
        exact Nat.le_trans (bits_le_pow (n := 0) (by decide)) (Nat.zero_le _)) (fun j hj => by
        rw [pz]
        split
        · exact Sz.one (by decide)
        · exact Sz.up (sz_small (by decide) (by decide)) (by decide))
      rwa [pz, if_neg (by omega)] at g
    · exact ⟨0, 13, by rw [z0]; exact ipow_far X (by omega) hn2 hx, fun h => by omega, fun h => ⟨rfl, fun h => absurd h hx, fun _ => rfl⟩, fun h => by omega⟩
theorem BigintPowers {b : Bool} {l : List Int} {n : Int} (hl : WF l) (hn : -9223372036854775808 ≤ n ∧ n ≤ 9223372036854775807) : Ev (fun k => vinculumlaw02_BigintPowers.f k b l n) true := by
  by_cases h1 : (l.length : Int) > 2
  · exact Ev.congr (fun k => vinculumlaw02_BigintPowers.f_eq ..) (Ev.pos h1 awake_some)
  by_cases h2 : n > 12 ∧ n ≤ 300000
  · exact Ev.congr (fun k => vinculumlaw02_BigintPowers.f_eq ..) (Ev.neg h1 (Ev.pos h2.1 (Ev.pos h2.2 awake_some)))
  have sx := sz_of (b := b) (p := 2) hl (by omega)
  have ox := of_ev (b := b) hl (by omega)
  have px := plain_ev (b := b) hl (by omega)
  generalize sg b (nv l) = x at *
  have X : Sz 1000 x := sx.up (by decide)
  obtain ⟨z, e, gp, p1, p2, p3⟩ := pow_cases (n := n) sx (by omega) hn.2
  have sl : Sz 1000 (-9223372036854775808) := (sz_small (by decide) (by decide)).up (by decide)
  have sh : Sz 1000 9223372036854775807 := (sz_small (by decide) (by decide)).up (by decide)
  have cl := zcmp_ev sl X
  have ch := zcmp_ev X sh
  rw [show ng (-9223372036854775808) = true from rfl, show (-9223372036854775808 : Int).natAbs = 9223372036854775808 from rfl, ← dec_low] at cl
  rw [show ng 9223372036854775807 = false from rfl, show (9223372036854775807 : Int).natAbs = 9223372036854775807 from rfl, ← dec_high] at ch
  refine Ev.congr (fun k => vinculumlaw02_BigintPowers.f_eq ..) (Ev.neg h1 ?_)
  refine (if h3 : n > 12 then Ev.pos h3 (Ev.neg (by omega) (Ev.bind ox (Ev.bind gp ?_))) else Ev.neg h3 (Ev.bind ox (Ev.bind gp ?_)))
  all_goals refine (if hlow : x < -9223372036854775808 then Ev.bind (ismall_no X (.inl hlow)) (Ev.bind px (Ev.bind cl (Ev.neg (fun e => by have := cmpZ_le.1 e; omega) (Ev.pos rfl (Ev.pos rfl ?_))))) else if hhigh : x > 9223372036854775807 then Ev.bind (ismall_no X (.inr hhigh)) (Ev.bind px (Ev.bind cl (Ev.pos (cmpZ_le.2 (by omega)) (Ev.bind px (Ev.bind ch (Ev.pos (decide_eq_false (fun e => by have := cmpZ_le.1 e; omega)).symm (Ev.neg (fun e => by have := cmpZ_le.1 e; omega) (Ev.pos rfl (Ev.neg (fun e => by have := cmpZ_le.1 e; omega) ?_))))))))) else Ev.bind (ismall_yes (z := x) (by omega) (by omega)) (Ev.bind px (Ev.bind cl (Ev.pos (cmpZ_le.2 (by omega)) (Ev.bind px (Ev.bind ch (Ev.pos (decide_eq_true (cmpZ_le.2 (by omega))).symm (Ev.pos (cmpZ_le.2 (by omega)) (Ev.pos (cmpZ_le.2 (by omega)) (Ev.bind (iof_ev (n := x) (by omega) (by omega)) (Ev.bind (icmp_eq rfl X) (Ev.pos rfl ?_))))))))))))
  all_goals refine (if h4 : n < 0 then Ev.pos h4 (Ev.pos (p1 h4).2 (Ev.bind (isign_ev z) (Ev.pos (by rw [(p1 h4).1]; rfl) awake_some))) else Ev.neg h4 ?_)
  all_goals refine (if h5 : n > 300000 then Ev.pos h5 (Ev.bind px (Ev.bind (zsign_ev x) ?_)) else Ev.neg h5 (Ev.pos (p3 (by omega) (by omega)).2 (Ev.bind px ?_)))
  all_goals first
    | exact (if h6 : x.sign = 0 then Ev.pos h6 (Ev.pos ((p2 h5).2.1 (Int.sign_eq_zero_iff_zero.1 h6)) (Ev.bind (isign_ev z) (Ev.pos (by rw [(p2 h5).1]; rfl) awake_some))) else Ev.neg h6 (Ev.pos ((p2 h5).2.2 (fun e => h6 (by rw [e]; rfl))) (Ev.bind (isign_ev z) (Ev.pos (by rw [(p2 h5).1]; rfl) awake_some))))
    | (obtain ⟨N, rfl⟩ := Int.eq_ofNat_of_zero_le (show 0 ≤ n by omega)
       have ez := (p3 (by omega) (by omega)).1
       rw [Int.toNat_natCast] at ez
       have sp : ∀ j, j ≤ N → Sz 400 (x ^ j) := fun j hj => (Sz.pow sx j).up (by omega)
       have gz := zpow_ev (n := N) (by omega) X sp
       rw [← ez] at gz
       exact Ev.bind gz (Ev.bind (is_ev (by rw [ez]; exact (sp N (Nat.le_refl _)).up (by decide))) (Ev.pos rfl awake_some)))
end Go.Proofs.YtbofacjgofgkpaaDoor.Pure
end
section
/-
  A law's run from what it computes: whoever calls it gets true, and the blocks that stood stand. Condition: the given rows are words.
-/
namespace Go.Proofs.YtbofacjgofgkpaaDoor.Pure
open Go.RowKit Go.Proofs.YtbofacjgofgkpaaDoor.F Go.Proofs.YtbofacjgofgkpaaDoorW.PrintWords Go.Proofs.YtbofacjgofgkpaaDoorW.PrintLast Go.Proofs.YtbofacjgofgkpaaDoorW.PrintMore
set_option linter.unusedVariables false
set_option linter.unusedSimpArgs false
theorem I_of_wf {x : Int} (h : (Lit.int .i64 x).wf = true) : -9223372036854775808 ≤ x ∧ x ≤ 9223372036854775807 := by
  simp [Lit.wf, IntKind.min, IntKind.max, IntKind.signed, IntKind.bits] at h
  exact ⟨by omega, by omega⟩
/-- A row as it is handed in. -/
def IsRow (k : IntKind) (w : World) (a : Option Addr) (len cap : Nat) (zs : List Int) : Prop :=
  (a = none ∧ len = 0 ∧ cap = 0 ∧ zs = []) ∨
  ∃ x, a = some x ∧ len ≤ cap ∧ cap ≤ maxLen ∧ zs.length = cap ∧ (∀ i, i < zs.length → w.cell? (x.add i) = some (.int k (zs.getD i 0))) ∧ ∀ n ∈ zs, (Lit.int k n).wf = true
theorem IsRow.words {w : World} {a : Option Addr} {len cap : Nat} {zs : List Int} (h : IsRow .u64 w a len cap zs) : WF (zs.take len) := by
  rcases h with ⟨_, _, _, rfl⟩ | ⟨x, _, _, _, _, _, h⟩
  · intro y hy; simp at hy
  · exact fun y hy => U_of_wf (h y (List.mem_of_mem_take hy))
theorem cell_lt {w : World} {p : Addr} {v : Value} (h : w.cell? p = some v) : p.block < w.heap.size := by
  apply Classical.byContradiction
  intro hn
  unfold World.cell? at h
  rw [Array.getElem?_eq_none (by omega)] at h
  simp at h
theorem IsRow.held {w : World} {a : Option Addr} {len cap : Nat} {zs : List Int} {k : IntKind} (h : IsRow k w a len cap zs) : E.HeldF w (fun _ => True) (.row k (zs.take len)) (.slice a len cap) := by
  intro W' hW
  unfold E.Den
  rcases h with ⟨rfl, rfl, rfl, rfl⟩ | ⟨x, rfl, hl, hm, hz, hc, _⟩
  · exact ⟨none, 0, rfl, Nat.le_refl _, fun h => by simp at h⟩
  · have hlen : (zs.take len).length = len := by rw [List.length_take]; omega
    refine ⟨some x, cap, by rw [hlen], by rw [hlen]; exact hl, fun _ => ⟨x, rfl, fun i hi => ?_⟩⟩
    rw [hlen] at hi
    have h1 := hc i (by omega)
    have h2 := cell_lt h1
    have e : (zs.take len).getD i 0 = zs.getD i 0 := by
      rw [List.getD_eq_getElem?_getD, List.getD_eq_getElem?_getD, List.getElem?_take_of_lt hi]
    rw [e, ← h1]
    exact E.cell_same (hW _ trivial h2)
theorem held_int {w : World} {ok : Nat → Prop} (k : IntKind) (n : Int) : E.HeldF w ok (.lit (.int k n)) (.int k n) := E.held_lit _
/-- The law's run. -/
theorem runs {P : Program} {f : FuncId} {A : E.AK} {g : Nat → A.T → Option Bool} (hd : ∀ k, E.Does P f A (.p .bool .nil) (g k) fun b => ((b, ()), [])) {x : A.T} (he : Ev (fun k => g k x) true) {w : World} {us : List Value} (hg : E.GOk w fun _ => True) (hx : E.XAll w (fun _ => True) none (A.put x) us) :
    Calls P f us.toArray w fun e w' => e = .returned (.bool true) ∧ Below w.heap.size w w' := by
  obtain ⟨k, hk⟩ := he
  refine ((hd k x true (hk k (Nat.le_refl _))).2 (fun _ => True) none w us hg hx).mono fun e w' ⟨G, vs, h1, h2, h3, _⟩ => ?_
  refine ⟨?_, (show E.Fr (fun _ => False) w w' from ⟨h3.os, h3.tape, h3.output, h3.size, fun k hk _ => h3.block k hk (fun h => by cases h)⟩).below⟩
  rw [h1]
  match vs, h2 with
  | [v], h2 => exact congrArg _ (E.lit_of h2.1)
end Go.Proofs.YtbofacjgofgkpaaDoor.Pure
end
