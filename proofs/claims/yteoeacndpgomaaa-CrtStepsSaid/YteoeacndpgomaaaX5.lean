/-
  Texts of this proof, one behind the other: RRefA, RText, RRefB, RRefC, RRefD, RRefE, RInt, RRef2, RNum, RFieldW, RCrtM, RCrtA, RCrtB, RShl, RDbl, RCrtC, RCrtD, RCrtI, RLaw, RArr. No condition of their own.
-/
import Derived.Test.YteoeacndpgomaaaX4
import Derived.OpenShut
import Derived.Lib.SmallJoins
section
/-
  What the reference computes on decimal digits: strip, turned, digit, Add, Cmp. Conditions: no text is longer than 2 to the 30th.
-/
namespace Go.Proofs.Yteoeacndpgomaaa.Pure
open Go.RowKit Go.Proofs.Yteoeacndpgomaaa.F Go.Proofs.YteoeacndpgomaaaW.PrintWords Go.Proofs.YteoeacndpgomaaaW.PrintLast Go.Proofs.YteoeacndpgomaaaW.PrintMore
open Go.Proofs.Yteoeacndpgomaaa.E (tEq tLt tApp tCut tEq_eq tLt_eq tApp_eq tCut_eq tEq0 tLt0)
set_option linter.unusedVariables false
set_option linter.unusedSimpArgs false
/-! ### texts -/
theorem tEq_tx (a b : List UInt8) : tEq (tx a) (tx b) = decide (a = b) := by rw [tEq_eq]; unfold tEq0; rw [tx_toList, tx_toList]
theorem tEq_yes {a b : List UInt8} (h : a = b) : tEq (tx a) (tx b) = true := by rw [tEq_tx]; exact decide_eq_true h
theorem tEq_no {a b : List UInt8} (h : a ≠ b) : ¬ tEq (tx a) (tx b) = true := by rw [tEq_tx, decide_eq_true_iff]; exact h
theorem tLt_tx (a b : List UInt8) : tLt (tx a) (tx b) = Op.bytesLess a b := by rw [tLt_eq]; unfold tLt0; rw [tx_toList, tx_toList]
theorem tCut_tx (l : List UInt8) (a b : Nat) : tCut (tx l) a b = tx ((l.drop a).take (b - a)) := by rw [tCut_eq, tx_extract]
theorem tApp_tx (a b : List UInt8) : tApp (tx a) (tx b) = tx (a ++ b) := by rw [tApp_eq, tx_append]
theorem mk_nil : (ByteArray.mk (Array.mk []) : ByteArray) = tx [] := rfl
theorem mk_48 : (ByteArray.mk (Array.mk [48]) : ByteArray) = tx [48] := rfl
theorem mk_49 : (ByteArray.mk (Array.mk [49]) : ByteArray) = tx [49] := rfl
theorem mk_45 : (ByteArray.mk (Array.mk [45]) : ByteArray) = tx [45] := rfl
theorem tx_48 : (⟨#[48]⟩ : ByteArray) = tx [48] := rfl
theorem ds_zero : ds 0 = [48] := by rw [ds_small (by decide)]; rfl
theorem dec_zero : dec 0 = tx [48] := by rw [dec, ds_zero]
theorem strip_end {l : List UInt8} (h : l = [] ∨ l = ds (sv l)) : Ev (fun k => if tEq (tx l) (tx []) = true then some (tx [48]) else some (tx l)) (dec (sv l)) := by
  by_cases h0 : l = []
  · subst h0
    exact Ev.pos (tEq_yes rfl) (Ev.ret (by rw [sv_nil, dec_zero]))
  · refine Ev.neg (tEq_no h0) (Ev.ret ?_)
    rw [dec, ← h.resolve_left h0]
theorem strip_l1 : ∀ (l : List UInt8), DS l → Ev (fun k => vinculumref01_strip.l1 k (tx l)) (dec (sv l))
  | [], hd => by
    refine Ev.step (fun k => vinculumref01_strip.l1_eq ..) ?_
    rw [tx_size, mk_nil, mk_48]
    exact Ev.neg (by simp) (strip_end (.inl rfl))
  | x :: xs, hd => by
    have g := strip_l1 xs hd.tail
    refine Ev.step (fun k => vinculumref01_strip.l1_eq ..) ?_
    rw [tx_size, mk_nil, mk_48]
    by_cases h1 : ((x :: xs).length : Int) > 1
    · have hb : bt (tx (x :: xs)) 0 = ((x.toNat : Nat) : Int) := tx_bt (x :: xs) 0 (by simp)
      rw [hb, tCut_tx]
      refine Ev.pos h1 (Ev.pos (by omega) ?_)
      by_cases h2 : ((x.toNat : Nat) : Int) = 48
      · refine Ev.pos h2 (Ev.pos (by omega) ?_)
        have e1 : (List.drop (1 : Int).toNat (x :: xs)).take ((x :: xs).length - (1 : Int).toNat) = xs := by
          show (List.drop 1 (x :: xs)).take ((x :: xs).length - 1) = xs
          simp
        have e2 : x.toNat - 48 = 0 := by omega
        rw [e1, sv_cons, e2, Nat.zero_mul, Nat.zero_add]
        exact g
      · exact Ev.neg h2 (strip_end (.inr (ds_of hd (by simp) (.inr fun _ h3 => by rw [List.head_cons] at h3; subst h3; exact h2 rfl))))
    · have hx : xs = [] := List.length_eq_zero_iff.1 (by simp at h1; omega)
      subst hx
      exact Ev.neg h1 (strip_end (.inr (ds_of hd (by simp) (.inl rfl))))
theorem strip_ev {l : List UInt8} (hd : DS l) : Ev (fun k => vinculumref01_strip.f k (tx l)) (dec (sv l)) := Ev.congr (fun k => vinculumref01_strip.f_eq ..) (strip_l1 l hd)
/-- Digits as numbers, the lowest one first. -/
def DI (l : List Int) : Prop := ∀ x ∈ l, 48 ≤ x ∧ x ≤ 57
def by8 (l : List Int) : List UInt8 := l.map fun n => UInt8.ofNat n.toNat
theorem strOf_tx (l : List Int) : strOfNums l = tx (by8 l) := rfl
theorem turned_l3 (l : List Int) (hl : l.length ≤ 1099511627776) : ∀ (n : Nat) (acc : List Int), n ≤ l.length → acc.length + n ≤ 1099511627776 → Ev (fun k => vinculumref01_turned.l3 k l acc ((n : Int) - 1)) (strOfNums (acc ++ (l.take n).reverse))
  | 0, acc, _, ha => Ev.step (fun k => vinculumref01_turned.l3_eq ..) (Ev.neg (by omega) (Ev.pos (by omega) (Ev.ret (by simp))))
  | n + 1, acc, hn, ha => by
    have g := turned_l3 l hl n (acc ++ [rd l (n : Int)]) (by omega) (by simp; omega)
    have e0 : ((n + 1 : Nat) : Int) - 1 = (n : Int) := by omega
    have e := List.take_succ_eq_append_getElem (l := l) (i := n) (by omega)
    rw [← w64_dec (a := n) (by omega)] at g
    refine Ev.step (fun k => vinculumref01_turned.l3_eq ..) ?_
    rw [e0, e, List.reverse_append]
    refine Ev.pos (by omega) (Ev.pos (by omega) (Ev.pos (by omega) (Ev.pos (by simp; omega) ?_)))
    rw [rd_of rfl (show n < l.length by omega)] at g ⊢
    simpa using g
theorem turned_ev {l : List Int} (hl : l.length ≤ 1099511627776) : Ev (fun k => vinculumref01_turned.f k l) (strOfNums l.reverse) := by
  have g := turned_l3 l hl l.length [] (Nat.le_refl _) (by simpa using hl)
  rw [List.take_length, List.nil_append, ← w64_dec (by omega)] at g
  exact Ev.congr (fun k => vinculumref01_turned.f_eq ..) g
/-- The number of digits, the lowest one first. -/
def dv : List Int → Nat
  | [] => 0
  | x :: xs => (x.toNat - 48) + 10 * dv xs
theorem DI.tail {x : Int} {l : List Int} (h : DI (x :: l)) : DI l := fun b hb => h b (by simp [hb])
theorem DI.snoc {l : List Int} {x : Int} (h : DI l) (hx : 48 ≤ x ∧ x ≤ 57) : DI (l ++ [x]) := fun b hb => by
  rcases List.mem_append.1 hb with h' | h'
  · exact h b h'
  · rw [List.mem_singleton.1 h']; exact hx
theorem dv_snoc (l : List Int) (x : Int) : dv (l ++ [x]) = dv l + 10 ^ l.length * (x.toNat - 48) := by
  induction l with
  | nil => simp [dv]
  | cons y ys ih => simp only [List.cons_append, dv, ih, List.length_cons, Nat.pow_succ]; grind
theorem dv_lt {l : List Int} (h : DI l) : dv l < 10 ^ l.length := by
  induction l with
  | nil => simp [dv]
  | cons x xs ih =>
    have h1 := ih h.tail
    have h2 := h x (by simp)
    simp only [dv, List.length_cons, Nat.pow_succ]
    generalize 10 ^ xs.length = P at *
    omega
theorem by8_DS {l : List Int} (h : DI l) : DS (by8 l) := fun b hb => by
  obtain ⟨x, hx, rfl⟩ := List.mem_map.1 hb
  have := h x hx
  rw [UInt8.toNat_ofNat']; omega
theorem by8_reverse (l : List Int) : by8 l.reverse = (by8 l).reverse := by simp [by8]
theorem sv_by8_reverse {l : List Int} (h : DI l) : sv (by8 l.reverse) = dv l := by
  induction l with
  | nil => rfl
  | cons x xs ih =>
    have h2 := h x (by simp)
    have : by8 (x :: xs).reverse = by8 xs.reverse ++ [UInt8.ofNat x.toNat] := by simp [by8]
    rw [this, sv_snoc, ih h.tail, UInt8.toNat_ofNat', dv]
    omega
/-- What is printed out of digits, the lowest one first. -/
theorem out_ev {l : List Int} (h : DI l) (hl : l.length ≤ 1099511627776) : Ev (fun k => (vinculumref01_turned.f k l).bind fun t => (vinculumref01_strip.f k t).bind fun u => some u) (dec (dv l)) := by
  refine Ev.bind (turned_ev hl) ?_
  rw [strOf_tx]
  have hd : DS (by8 l.reverse) := by8_DS (fun x hx => h x (by simpa using hx))
  refine Ev.bind (strip_ev hd) ?_
  rw [sv_by8_reverse h]
  exact Ev.now _

/-! ### digit -/
theorem dec_size (n : Nat) : (dec n).size = (ds n).length := tx_size _
theorem digit_ev (n i : Nat) (hl : (ds n).length ≤ 1099511627776) : Ev (fun k => vinculumref01_digit.f k (dec n) (i : Int)) ((n / 10 ^ i % 10 : Nat) : Int) := by
  refine Ev.congr (fun k => vinculumref01_digit.f_eq ..) ?_
  rw [dec_size]
  by_cases h : (i : Int) ≥ ((ds n).length : Int)
  · refine Ev.pos h (Ev.ret ?_)
    have h1 : n < 10 ^ i := Nat.lt_of_lt_of_le (lt_pow_ds n) (Nat.pow_le_pow_right (by decide) (by omega))
    rw [Nat.div_eq_of_lt h1]; rfl
  · have hb := tx_bt (ds n) ((ds n).length - 1 - i) (by omega)
    have hg := ds_get n i (by omega)
    have hm : n / 10 ^ i % 10 < 10 := Nat.mod_lt _ (by decide)
    have e : wrap64 ((wrap64 (((ds n).length : Int) - 1)) - (i : Int)) = (((ds n).length - 1 - i : Nat) : Int) := by
      rw [w64_dec (by omega), w64_of (by omega) (by omega)]; omega
    rw [e, show dec n = tx (ds n) from rfl, hb, hg]
    clear e hb hg
    refine Ev.neg h (Ev.pos (by omega) (Ev.pos (by omega) (Ev.ret ?_)))
    generalize n / 10 ^ i % 10 = m at *
    have e2 : (((48 + m : Nat) : Int) - 48) % 256 = (m : Int) := by omega
    rw [e2, w64_nat (by omega)]

/-! ### Add -/
theorem mod_pow_step (a i : Nat) : a % 10 ^ (i + 1) = a % 10 ^ i + 10 ^ i * (a / 10 ^ i % 10) := by
  rw [Nat.pow_succ, Nat.mod_mul]
theorem mod_all {a i : Nat} (h : (ds a).length ≤ i) : a % 10 ^ i = a := Nat.mod_eq_of_lt (Nat.lt_of_lt_of_le (lt_pow_ds a) (Nat.pow_le_pow_right (by decide) h))
theorem div_all {a i : Nat} (h : (ds a).length ≤ i) : a / 10 ^ i = 0 := Nat.div_eq_of_lt (Nat.lt_of_lt_of_le (lt_pow_ds a) (Nat.pow_le_pow_right (by decide) h))
theorem digit_byte {n : Nat} (h : n < 1000000000000000000) : (wrap64 (48 + (Int.tmod (n : Int) 10))) % 256 = ((48 + n % 10 : Nat) : Int) := by
  rw [Int.tmod_eq_emod_of_nonneg (by omega), w64_of (by omega) (by omega)]; omega
theorem digit_carry {n : Nat} (h : n < 1000000000000000000) : wrap64 (Int.tdiv (n : Int) 10) = ((n / 10 : Nat) : Int) := by
  rw [Int.tdiv_eq_ediv_of_nonneg (by omega), w64_of (by omega) (by omega)]; omega
theorem w64_sum {x y : Nat} (h : x + y < 1000000000000000000) : wrap64 ((x : Int) + (y : Int)) = ((x + y : Nat) : Int) := by
  rw [w64_of (by omega) (by omega)]; omega
/-- One more digit behind those laid. -/
theorem dv_step {out : List Int} {i : Nat} (ho : out.length = i) (m : Nat) (hm : m < 10) : dv (out ++ [((48 + m : Nat) : Int)]) = dv out + 10 ^ i * m := by
  rw [dv_snoc, ho]
  have : ((48 + m : Nat) : Int).toNat - 48 = m := by omega
  rw [this]
theorem DI.step {out : List Int} (h : DI out) {m : Nat} (hm : m < 10) : DI (out ++ [((48 + m : Nat) : Int)]) := h.snoc ⟨by omega, by omega⟩
theorem carry_dec (P n : Nat) : P * (n % 10) + P * 10 * (n / 10) = P * n := by
  have := Nat.mod_add_div n 10
  calc P * (n % 10) + P * 10 * (n / 10) = P * (n % 10 + 10 * (n / 10)) := by grind
    _ = P * n := by rw [this]
theorem add_inv (a b i c : Nat) (v : Nat) (hv : v + 10 ^ i * c = a % 10 ^ i + b % 10 ^ i) :
    v + 10 ^ i * ((a / 10 ^ i % 10 + b / 10 ^ i % 10 + c) % 10) + 10 ^ (i + 1) * ((a / 10 ^ i % 10 + b / 10 ^ i % 10 + c) / 10) = a % 10 ^ (i + 1) + b % 10 ^ (i + 1) := by
  rw [mod_pow_step a i, mod_pow_step b i, Nat.pow_succ]
  have h := carry_dec (10 ^ i) (a / 10 ^ i % 10 + b / 10 ^ i % 10 + c)
  have e : 10 ^ i * (a / 10 ^ i % 10 + b / 10 ^ i % 10 + c) = 10 ^ i * (a / 10 ^ i % 10) + 10 ^ i * (b / 10 ^ i % 10) + 10 ^ i * c := by rw [Nat.mul_add, Nat.mul_add]
  rw [e] at h
  generalize 10 ^ i * ((a / 10 ^ i % 10 + b / 10 ^ i % 10 + c) % 10) = A at *
  generalize 10 ^ i * 10 * ((a / 10 ^ i % 10 + b / 10 ^ i % 10 + c) / 10) = D at *
  generalize 10 ^ i * (a / 10 ^ i % 10) = E at *
  generalize 10 ^ i * (b / 10 ^ i % 10) = F at *
  generalize 10 ^ i * c = G at *
  generalize a % 10 ^ i = H at *
  generalize b % 10 ^ i = I at *
  omega
theorem sum3 {x y c : Nat} (hx : x < 10) (hy : y < 10) (hc : c ≤ 1) : wrap64 ((x : Int) + (y : Int)) = ((x + y : Nat) : Int) ∧ wrap64 (((x + y : Nat) : Int) + (c : Int)) = ((x + y + c : Nat) : Int) ∧ x + y + c < 1000000000000000000 ∧ (x + y + c) / 10 ≤ 1 := ⟨w64_sum (by omega), w64_sum (by omega), by omega, by omega⟩
theorem add_ref_l4 (a b M : Nat) (la : (ds a).length ≤ M) (lb : (ds b).length ≤ M) (hM : M = (ds a).length ∨ M = (ds b).length) (hMs : M ≤ 1000000000) : ∀ (d i : Nat) (out : List Int) (c : Nat), M + 2 - i = d → out.length = i → i ≤ M + 1 → DI out → c ≤ 1 → dv out + 10 ^ i * c = a % 10 ^ i + b % 10 ^ i → (M < i → c = 0) →
    Ev (fun k => vinculumref01_Add.l4 k (dec a) (dec b) out (c : Int) (i : Int)) (dec (a + b)) := by
  intro d
  induction d with
  | zero => intro i out c hd ho hi; omega
  | succ d ih =>
    intro i out c hd ho hi hD hc hv hlast
    have go : i ≤ M → Ev (fun k => (vinculumref01_digit.f k (dec a) (i : Int)).bind fun t0 => ((vinculumref01_digit.f k (dec b) (i : Int)).bind fun t1 => (if (out.length + ([((wrap64 (48 + (Int.tmod (wrap64 ((wrap64 (t0 + t1)) + (c : Int))) 10))) % 256)] : List Int).length) ≤ 140737488355328 then vinculumref01_Add.l4 k (dec a) (dec b) (out ++ ([((wrap64 (48 + (Int.tmod (wrap64 ((wrap64 (t0 + t1)) + (c : Int))) 10))) % 256)] : List Int)) (wrap64 (Int.tdiv (wrap64 ((wrap64 (t0 + t1)) + (c : Int))) 10)) (wrap64 ((i : Int) + 1)) else none))) (dec (a + b)) := by
      intro hiM
      have hx : a / 10 ^ i % 10 < 10 := Nat.mod_lt _ (by decide)
      have hy : b / 10 ^ i % 10 < 10 := Nat.mod_lt _ (by decide)
      have hv' := add_inv a b i c (dv out) hv
      have h3 := sum3 hx hy hc
      have h0 : i = M → (a / 10 ^ i % 10 + b / 10 ^ i % 10 + c) / 10 = 0 := fun h => by
        rw [div_all (a := a) (by rw [h]; exact la), div_all (a := b) (by rw [h]; exact lb)]; exact Nat.div_eq_of_lt (by clear hv hv' hx hy h3; omega)
      have e1 : wrap64 ((i : Int) + 1) = ((i + 1 : Nat) : Int) := w64_succ (by clear hv hv' hx hy h0 h3; omega)
      have ol : out.length + 1 ≤ 140737488355328 := by clear hv hv' hx hy h0 h3; omega
      have da : (ds a).length ≤ 1099511627776 := by clear hv hv' hx hy h0 h3; omega
      have db : (ds b).length ≤ 1099511627776 := by clear hv hv' hx hy h0 h3; omega
      have hi' : M + 2 - (i + 1) = d := by clear hv hv' hx hy h0 h3; omega
      have hl' : (out ++ [((48 + (a / 10 ^ i % 10 + b / 10 ^ i % 10 + c) % 10 : Nat) : Int)]).length = i + 1 := by rw [List.length_append, ho]; rfl
      have hlt : (a / 10 ^ i % 10 + b / 10 ^ i % 10 + c) % 10 < 10 := Nat.mod_lt _ (by decide)
      have g := ih (i + 1) (out ++ [((48 + (a / 10 ^ i % 10 + b / 10 ^ i % 10 + c) % 10 : Nat) : Int)]) ((a / 10 ^ i % 10 + b / 10 ^ i % 10 + c) / 10) hi' hl' (Nat.succ_le_succ hiM) (hD.step hlt) h3.2.2.2 (by rw [dv_step ho _ hlt]; exact hv') (fun h => h0 (by clear hv hv' hx hy h0 h3; omega))
      obtain ⟨es, es2, hn, -⟩ := h3
      refine Ev.bind (digit_ev a i da) (Ev.bind (digit_ev b i db) ?_)
      rw [es, es2, digit_byte hn, digit_carry hn, e1]
      exact Ev.pos ol g
    have stop : M ≤ i → c = 0 → Ev (fun k => (vinculumref01_turned.f k out).bind fun t => (vinculumref01_strip.f k t).bind fun u => some u) (dec (a + b)) := by
      intro h1 h2
      have e : dv out = a + b := by rw [h2, Nat.mul_zero, Nat.add_zero, mod_all (Nat.le_trans la h1), mod_all (Nat.le_trans lb h1)] at hv; exact hv
      rw [← e]
      exact out_ev hD (by clear hv e; omega)
    refine Ev.step (fun k => vinculumref01_Add.l4_eq ..) ?_
    rw [dec_size, dec_size]
    by_cases h1 : (i : Int) < ((ds a).length : Int)
    · exact Ev.pos h1 (go (by clear hv; omega))
    · refine Ev.neg h1 ?_
      by_cases h2 : (i : Int) < ((ds b).length : Int)
      · exact Ev.pos h2 (go (by clear hv; omega))
      · refine Ev.neg h2 ?_
        by_cases h3 : (c : Int) > 0
        · exact Ev.pos h3 (go (by clear hv; omega))
        · exact Ev.neg h3 (stop (by clear hv; omega) (by clear hv; omega))
theorem ref_add {a b : Nat} (la : (ds a).length ≤ 1000000000) (lb : (ds b).length ≤ 1000000000) : Ev (fun k => vinculumref01_Add.f k (dec a) (dec b)) (dec (a + b)) := by
  have g := add_ref_l4 a b (max (ds a).length (ds b).length) (Nat.le_max_left _ _) (Nat.le_max_right _ _) (by omega) (by omega) _ 0 [] 0 rfl rfl (by omega) (fun x h => by cases h) (by omega) (by simp [dv, Nat.mod_one]) (fun _ => rfl)
  exact Ev.congr (fun k => vinculumref01_Add.f_eq ..) g

/-! ### Cmp -/
theorem bytes_lt : ∀ (x y : List UInt8), DS x → DS y → x.length = y.length → Op.bytesLess x y = decide (sv x < sv y)
  | [], [], _, _, _ => by simp [Op.bytesLess]
  | a :: x, [], _, _, h => by simp at h
  | [], b :: y, _, _, h => by simp at h
  | a :: x, b :: y, hx, hy, h => by
    have ih := bytes_lt x y hx.tail hy.tail (by simpa using h)
    have h1 := hx.head; have h2 := hy.head
    have l1 := sv_lt hx.tail; have l2 := sv_lt hy.tail
    have hl : x.length = y.length := by simpa using h
    rw [sv_cons, sv_cons, hl]
    rw [hl] at l1
    rw [Op.bytesLess, ih]
    generalize 10 ^ y.length = P at *
    rcases Nat.lt_trichotomy a.toNat b.toNat with h3 | h3 | h3
    · have e1 : decide (a < b) = true := decide_eq_true (UInt8.lt_iff_toNat_lt.2 h3)
      have h4 := Nat.mul_le_mul_right P (show a.toNat - 48 + 1 ≤ b.toNat - 48 by omega)
      rw [Nat.add_mul, Nat.one_mul] at h4
      have e2 : (a.toNat - 48) * P + sv x < (b.toNat - 48) * P + sv y := by omega
      simp [e1, e2, UInt8.lt_iff_toNat_lt.2 h3]
    · have e0 : a = b := UInt8.toNat.inj h3
      subst e0
      simp
    · have e1 : ¬ a < b := fun h5 => by have := UInt8.lt_iff_toNat_lt.1 h5; omega
      have h4 := Nat.mul_le_mul_right P (show b.toNat - 48 + 1 ≤ a.toNat - 48 by omega)
      rw [Nat.add_mul, Nat.one_mul] at h4
      have e2 : ¬ (a.toNat - 48) * P + sv x < (b.toNat - 48) * P + sv y := by omega
      have e3 : a ≠ b := fun h5 => by subst h5; omega
      simp [e1, e2, e3]
theorem cmpI_neg {a b : Nat} : ¬ (cmpI a b ≥ 0) ↔ a < b := by
  unfold cmpI
  by_cases h : a < b
  · rw [if_pos h]; exact ⟨fun _ => h, fun _ => by decide⟩
  · rw [if_neg h]
    by_cases h2 : a = b
    · rw [if_pos h2]; exact ⟨fun h3 => absurd (by decide) h3, fun h3 => absurd h3 h⟩
    · rw [if_neg h2]; exact ⟨fun h3 => absurd (by decide) h3, fun h3 => absurd h3 h⟩
theorem ref_cmp (a b : Nat) : Ev (fun k => vinculumref01_Cmp.f k (dec a) (dec b)) (cmpI a b) := by
  refine Ev.congr (fun k => vinculumref01_Cmp.f_eq ..) ?_
  rw [dec_size, dec_size, show dec a = tx (ds a) from rfl, show dec b = tx (ds b) from rfl, tLt_tx, tEq_tx]
  by_cases h : ((ds a).length : Int) = ((ds b).length : Int)
  · refine Ev.pos h ?_
    rw [bytes_lt _ _ (ds_DS a) (ds_DS b) (by omega), sv_ds, sv_ds]
    unfold cmpI
    by_cases h1 : a < b
    · exact Ev.pos (decide_eq_true h1) (Ev.ret (if_pos h1).symm)
    · refine Ev.neg (by simp [h1]) ?_
      rw [decide_eq_false h1, if_neg h1]
      by_cases h2 : a = b
      · exact Ev.pos (decide_eq_true (by rw [h2])) (Ev.ret (if_pos h2).symm)
      · exact Ev.neg (by rw [decide_eq_true_iff]; exact fun h3 => h2 (ds_inj h3)) (Ev.ret (if_neg h2).symm)
  · refine Ev.neg h ?_
    unfold cmpI
    by_cases h1 : ((ds a).length : Int) < ((ds b).length : Int)
    · have : a < b := Nat.lt_of_not_le fun h2 => by have := ds_length_mono h2; omega
      exact Ev.pos h1 (Ev.ret (if_pos this).symm)
    · have h4 : b < a := Nat.lt_of_not_le fun h2 => by have := ds_length_mono h2; omega
      refine Ev.neg h1 (Ev.ret ?_)
      rw [if_neg (by omega), if_neg (by omega)]
end Go.Proofs.Yteoeacndpgomaaa.Pure
end
section
/-
  Numbers and texts: what nat.Print, nat.right and nat.Parse compute. Conditions: no list is longer than 1000 words, no text longer than a million bytes.
-/
namespace Go.Proofs.Yteoeacndpgomaaa.Pure
open Go.RowKit Go.Proofs.Yteoeacndpgomaaa.F Go.Proofs.YteoeacndpgomaaaW.PrintWords Go.Proofs.YteoeacndpgomaaaW.PrintLast Go.Proofs.YteoeacndpgomaaaW.PrintMore
open Go.Proofs.Yteoeacndpgomaaa.E (tEq tLt tApp tCut)
set_option linter.unusedVariables false
set_option linter.unusedSimpArgs false
/-! ### a list turned, in place -/
theorem rd_get (l : List Int) (p : Nat) : rd l (p : Int) = l[p]?.getD 0 := by simp [rd, List.getD_eq_getElem?_getD]
theorem turn_l14 (l : List Int) (hl : l.length ≤ 1000000) : ∀ (d i : Nat) (c : List Int), l.length - i = d → c.length = l.length →
    (∀ p, p < l.length → c[p]? = if p < i ∨ l.length - 1 - i < p then l[l.length - 1 - p]? else l[p]?) → 2 * i ≤ l.length →
    Ev (fun k => nat_Print.l14 k c (i : Int) ((l.length : Int) - 1 - (i : Int))) (strOfNums l.reverse) := by
  intro d
  induction d with
  | zero =>
    intro i c hd hc hp h2
    have h0 : l.length = 0 := by omega
    have hl0 : l = [] := List.length_eq_zero_iff.1 h0
    have hc0 : c = [] := List.length_eq_zero_iff.1 (by rw [hc, h0])
    subst hl0; subst hc0
    exact Ev.step (fun k => nat_Print.l14_eq ..) (Ev.neg (by simp; omega) (Ev.pos (by decide) (Ev.now _)))
  | succ d ih =>
    intro i c hd hc hp h2
    by_cases h : (i : Int) < (l.length : Int) - 1 - (i : Int)
    · have hk : (l.length : Int) - 1 - (i : Int) = ((l.length - 1 - i : Nat) : Int) := by omega
      have hki : l.length - 1 - i < c.length := by omega
      have hii : i < c.length := by omega
      have hp1 := hp i (by omega)
      have hp2 := hp (l.length - 1 - i) (by omega)
      rw [if_neg (by omega)] at hp1 hp2
      have r1 : rd c (i : Int) = rd l (i : Int) := by rw [rd_get, rd_get, hp1]
      have r2 : rd c ((l.length - 1 - i : Nat) : Int) = rd l ((l.length - 1 - i : Nat) : Int) := by rw [rd_get, rd_get, hp2]
      have g1 : l[i]? = some (rd l (i : Int)) := by rw [rd_get, List.getElem?_eq_getElem (by omega)]; rfl
      have g2 : l[l.length - 1 - i]? = some (rd l ((l.length - 1 - i : Nat) : Int)) := by rw [rd_get, List.getElem?_eq_getElem (by omega)]; rfl
      have g := ih (i + 1) ((c.set i (rd l ((l.length - 1 - i : Nat) : Int))).set (l.length - 1 - i) (rd l (i : Int))) (by omega) (by rw [List.length_set, List.length_set]; exact hc) (fun p hpl => by
        rw [List.getElem?_set, List.length_set]
        by_cases e1 : l.length - 1 - i = p
        · rw [if_pos e1, if_pos hki, if_pos (by omega)]
          have : l.length - 1 - p = i := by omega
          rw [this, g1]
        · rw [if_neg e1, List.getElem?_set]
          by_cases e2 : i = p
          · rw [if_pos e2, if_pos hii, if_pos (by omega), ← e2, g2]
          · rw [if_neg e2, hp p hpl]
            by_cases e3 : p < i ∨ l.length - 1 - i < p
            · rw [if_pos e3, if_pos (by omega)]
            · rw [if_neg e3, if_neg (by omega)]) (by omega)
      have w1 : wrap64 ((i : Int) + 1) = ((i + 1 : Nat) : Int) := w64_succ (by omega)
      have w2 : wrap64 (((l.length - 1 - i : Nat) : Int) - 1) = (l.length : Int) - 1 - ((i + 1 : Nat) : Int) := by
        rw [w64_dec (by clear w1; omega)]; clear w1; omega
      have q1 : (i : Int) < ((l.length - 1 - i : Nat) : Int) := by rw [← hk]; exact h
      refine Ev.step (fun k => nat_Print.l14_eq ..) ?_
      rw [hk, w1, w2, r1, r2, Int.toNat_natCast, Int.toNat_natCast]
      refine Ev.pos q1 (Ev.pos (Int.natCast_nonneg _) (Ev.pos (Int.ofNat_lt.2 hki) (Ev.pos (Int.natCast_nonneg _) (Ev.pos (Int.ofNat_lt.2 hii) (Ev.pos (Int.natCast_nonneg _) (Ev.pos (Int.ofNat_lt.2 hii) (Ev.pos (Int.natCast_nonneg _) (Ev.pos ?_ g))))))))
      rw [List.length_set]; exact Int.ofNat_lt.2 hki
    · have e : c = l.reverse := by
        apply List.ext_getElem?
        intro p
        by_cases hpl : p < l.length
        · rw [hp p hpl, List.getElem?_reverse hpl]
          by_cases e3 : p < i ∨ l.length - 1 - i < p
          · rw [if_pos e3]
          · rw [if_neg e3]
            have : l.length - 1 - p = p := by omega
            rw [this]
        · rw [List.getElem?_eq_none (by omega), List.getElem?_eq_none (by simp; omega)]
      subst e
      exact Ev.step (fun k => nat_Print.l14_eq ..) (Ev.neg h (Ev.pos (by rw [List.length_reverse]; omega) (Ev.now _)))
theorem turn_ev {l : List Int} (hl : l.length ≤ 1000000) : Ev (fun k => nat_Print.l14 k l 0 (wrap64 ((l.length : Int) - 1))) (strOfNums l.reverse) := by
  have g := turn_l14 l hl _ 0 l rfl rfl (fun p hp => by rw [if_neg (by omega)]) (Nat.zero_le _)
  have e : (l.length : Int) - 1 - ((0 : Nat) : Int) = wrap64 ((l.length : Int) - 1) := by rw [w64_dec (by omega)]; omega
  rw [e] at g
  exact g

/-! ### Print -/
/-- Digits so far, the lowest one first: the highest is not 0. -/
def Lead (out : List Int) : Prop := out = [] ∨ 10 ^ (out.length - 1) ≤ dv out
theorem dig_int {n : Nat} (h : n < 18446744073709551616) : (IntKind.u64.wrap (48 + (Int.tmod (n : Int) 10))) % 256 = ((48 + n % 10 : Nat) : Int) := by
  rw [Int.tmod_eq_emod_of_nonneg (by omega), wu]; omega
theorem dig_next {n : Nat} (h : n < 18446744073709551616) : IntKind.u64.wrap (Int.tdiv (n : Int) 10) = ((n / 10 : Nat) : Int) := by
  rw [Int.tdiv_eq_ediv_of_nonneg (by omega), wu]; omega
theorem lt_digits {L T W D x : Nat} (h : x + 10 ^ L * T = W) (hT : T ≠ 0) (hW : W < 10 ^ D) : L < D := by
  have h1 : 10 ^ L ≤ 10 ^ L * T := Nat.le_mul_of_pos_right _ (Nat.pos_of_ne_zero hT)
  exact (Nat.pow_lt_pow_iff_right (by decide)).1 (Nat.lt_of_le_of_lt (show 10 ^ L ≤ W by omega) hW)
theorem split10 {a p m : Nat} : (a * 10 ^ (m + 1) + p) = 10 * (a * 10 ^ m + p / 10) + p % 10 := by
  rw [Nat.pow_succ]
  have := Nat.div_add_mod p 10
  have e : a * (10 ^ m * 10) = 10 * (a * 10 ^ m) := by grind
  rw [e, Nat.mul_add]; omega
theorem push_dv {x L T' d T W : Nat} (h : x + 10 ^ L * T = W) (hT : T = 10 * T' + d) : x + 10 ^ L * d + 10 ^ (L + 1) * T' = W := by
  rw [← h, hT, Nat.pow_succ]; grind
theorem print_l9 (a W D : Nat) (R : ByteArray) (hW : W < 10 ^ D) (hD : D ≤ 1000000) (H : ∀ out : List Int, DI out → dv out + 10 ^ out.length * a = W → (a ≠ 0 ∨ Lead out) → Ev (fun k => nat_Print.l5 k (limbs a) out) R) :
    ∀ (m i part : Nat) (out : List Int), 19 - i = m → i ≤ 19 → part < 10 ^ m → part < 18446744073709551616 → DI out → dv out + 10 ^ out.length * (a * 10 ^ m + part) = W → (a * 10 ^ m + part ≠ 0 ∨ Lead out) →
    Ev (fun k => nat_Print.l9 k (limbs a) out (part : Int) (i : Int)) R := by
  intro m
  induction m with
  | zero =>
    intro i part out hm hi hp hp64 hDI hv hz
    have hi19 : i = 19 := by clear hv hp; omega
    have hp0 : part = 0 := by rw [Nat.pow_zero] at hp; clear hv; omega
    subst hi19; subst hp0
    rw [Nat.pow_zero, Nat.mul_one, Nat.add_zero] at hv hz
    exact Ev.step (fun k => nat_Print.l9_eq ..) (Ev.neg (by decide) (H out hDI hv hz))
  | succ m ih =>
    intro i part out hm hi hp hp64 hDI hv hz
    have hi19 : i < 19 := by clear hv hp; omega
    have hi19' : (i : Int) < 19 := by clear hv hp; omega
    have hm' : 19 - (i + 1) = m := by clear hv hp; omega
    have w1 : wrap64 ((i : Int) + 1) = ((i + 1 : Nat) : Int) := w64_succ (by clear hv hp; omega)
    by_cases hT : a * 10 ^ (m + 1) + part = 0
    · have hp0 : part = 0 := by clear w1 hp; omega
      have ha0 : a = 0 := by
        have h1 : a * 10 ^ (m + 1) = 0 := by clear w1 hp; omega
        rcases Nat.mul_eq_zero.1 h1 with h | h
        · exact h
        · exact absurd h (Nat.ne_of_gt (Nat.pow_pos (by decide)))
      rw [hT, Nat.mul_zero, Nat.add_zero] at hv
      have hl := hz.resolve_left (fun h => h hT)
      have g := H out hDI (by rw [ha0, Nat.mul_zero, Nat.add_zero]; exact hv) (.inr hl)
      subst ha0; subst hp0
      rw [limbs_zero] at g ⊢
      exact Ev.step (fun k => nat_Print.l9_eq ..) (Ev.pos hi19' (Ev.neg (by decide) (Ev.neg (by decide) g)))
    · have hL := lt_digits hv hT hW
      have hol : out.length + 1 ≤ 140737488355328 := by clear w1 hv hp hW; omega
      have hp' : part / 10 < 10 ^ m := Nat.div_lt_of_lt_mul (by rw [Nat.pow_succ, Nat.mul_comm] at hp; exact hp)
      have hd : part % 10 < 10 := Nat.mod_lt _ (by decide)
      have hD1 : DI (out ++ [((48 + part % 10 : Nat) : Int)]) := hDI.snoc (by clear w1 hv hp hW; omega)
      have edv : dv (out ++ [((48 + part % 10 : Nat) : Int)]) = dv out + 10 ^ out.length * (part % 10) := by
        rw [dv_snoc, Int.toNat_natCast, Nat.add_sub_cancel_left]
      have hsp := split10 (a := a) (p := part) (m := m)
      have hv' : dv (out ++ [((48 + part % 10 : Nat) : Int)]) + 10 ^ (out ++ [((48 + part % 10 : Nat) : Int)]).length * (a * 10 ^ m + part / 10) = W := by
        rw [edv, List.length_append, List.length_singleton]
        exact push_dv hv hsp
      have hz' : a * 10 ^ m + part / 10 ≠ 0 ∨ Lead (out ++ [((48 + part % 10 : Nat) : Int)]) := by
        by_cases h : a * 10 ^ m + part / 10 = 0
        · refine .inr (.inr ?_)
          rw [edv, List.length_append, List.length_singleton, Nat.add_sub_cancel]
          rw [h, Nat.mul_zero, Nat.zero_add] at hsp
          have h1 : 0 < part % 10 := Nat.pos_of_ne_zero fun h2 => hT (by rw [hsp, h2])
          exact Nat.le_trans (Nat.le_mul_of_pos_right _ h1) (Nat.le_add_left _ _)
        · exact .inl h
      have g := ih (i + 1) (part / 10) (out ++ [((48 + part % 10 : Nat) : Int)]) hm' hi19 hp' (Nat.lt_of_le_of_lt (Nat.div_le_self _ _) hp64) hD1 hv' hz'
      refine Ev.step (fun k => nat_Print.l9_eq ..) (Ev.pos hi19' ?_)
      rw [dig_int hp64, dig_next hp64, w1]
      by_cases hp0 : (part : Int) > 0
      · exact Ev.pos hp0 (Ev.pos hol g)
      · have ha0 : a ≠ 0 := fun h => hT (by
          rw [h, Nat.zero_mul, Nat.zero_add]; clear w1 hv hv' hp hW hsp edv; omega)
        have hlp := limbs_length_pos ha0
        exact Ev.neg hp0 (Ev.pos (by clear w1 hv hv' hp hW hsp edv; omega) (Ev.pos hol g))
theorem lead_ds {out : List Int} (hDI : DI out) (h : Lead out) (hne : out ≠ []) : tx (by8 out.reverse) = dec (dv out) := by
  have hd : DS (by8 out.reverse) := by8_DS (fun x hx => hDI x (by simpa using hx))
  have hl : (by8 out.reverse).length = out.length := by simp [by8]
  have hne' : by8 out.reverse ≠ [] := fun h1 => hne (List.length_eq_zero_iff.1 (by rw [← hl, h1]; rfl))
  have hs := sv_by8_reverse hDI
  have hge := h.resolve_left hne
  have e := ds_of hd hne' (by
    by_cases h1 : (by8 out.reverse).length = 1
    · exact .inl h1
    · refine .inr fun h2 h3 => ?_
      generalize by8 out.reverse = l at *
      cases l with
      | nil => exact h2 rfl
      | cons x xs =>
        rw [List.head_cons] at h3
        have h4 := sv_lt hd.tail
        rw [sv_cons, h3] at hs
        have h5 : ((48 : UInt8).toNat - 48) * 10 ^ xs.length = 0 := by
          have : (48 : UInt8).toNat - 48 = 0 := rfl
          rw [this, Nat.zero_mul]
        rw [h5, Nat.zero_add] at hs
        have h6 : xs.length = out.length - 1 := by rw [← hl]; rfl
        rw [h6, hs] at h4
        exact absurd hge (Nat.not_le.2 h4))
  rw [hs] at e
  rw [e]; rfl
theorem print_l5 (W D : Nat) (hW : W < 10 ^ D) (hD : D ≤ 1000000) (hW0 : W ≠ 0) : ∀ (a : Nat) (out : List Int), (limbs a).length ≤ 1000 → DI out → dv out + 10 ^ out.length * a = W → (a ≠ 0 ∨ Lead out) → Ev (fun k => nat_Print.l5 k (limbs a) out) (dec W) := by
  intro a
  induction a using Nat.strongRecOn with
  | _ a ih =>
    intro out hl hDI hv hz
    by_cases h : a = 0
    · have hlead := hz.resolve_left (fun h1 => h1 h)
      rw [h, Nat.mul_zero, Nat.add_zero] at hv
      have hne : out ≠ [] := fun h1 => hW0 (by rw [← hv, h1]; rfl)
      have hge := hlead.resolve_left hne
      have hlen : out.length ≤ 1000000 := by
        have h1 : out.length - 1 < D := (Nat.pow_lt_pow_iff_right (by decide)).1 (Nat.lt_of_le_of_lt hge (by rw [hv]; exact hW))
        clear hv hge hW; omega
      have g := turn_ev hlen
      rw [strOf_tx, lead_ds hDI hlead hne, hv] at g
      subst h
      rw [limbs_zero]
      exact Ev.step (fun k => nat_Print.l5_eq ..) (Ev.neg (by decide) g)
    · have hp := limbs_length_pos h
      have gd := divw_ev (limbs_WF a) (Nat.le_trans hl (by decide)) (show 0 < 10000000000000000000 by decide) (by decide)
      rw [nv_limbs] at gd
      have hlt : a / 10000000000000000000 < a := Nat.div_lt_self (Nat.pos_of_ne_zero h) (by decide)
      have hdm := Nat.div_add_mod a 10000000000000000000
      have hml := Nat.mod_lt a (show 10000000000000000000 > 0 by decide)
      have g := print_l9 (a / 10000000000000000000) W D (dec W) hW hD (fun out' h1 h2 h3 => ih _ hlt out' (Nat.le_trans (limbs_length_mono (Nat.le_of_lt hlt)) hl) h1 h2 h3) 19 0 (a % 10000000000000000000) out rfl (by decide) hml (Nat.lt_trans hml (by decide)) hDI (by
        rw [show (10 : Nat) ^ 19 = 10000000000000000000 from rfl, Nat.mul_comm (a / _), hdm]; exact hv) (by
        rw [show (10 : Nat) ^ 19 = 10000000000000000000 from rfl, Nat.mul_comm (a / _), hdm]; exact hz)
      exact Ev.step (fun k => nat_Print.l5_eq ..) (Ev.pos (by clear hv hdm hml g; omega) (Ev.bind gd g))
theorem print_ev {x : List Int} (hx : WF x) (hl : x.length ≤ 1000) : Ev (fun k => nat_Print.f k x) (dec (nv x)) := by
  refine Ev.congr (fun k => nat_Print.f_eq ..) (Ev.bind (norm_ev hx (Nat.le_trans hl (by decide))) ?_)
  have hla := Nat.le_trans (limbs_length_le (nv_lt hx)) hl
  by_cases h : nv x = 0
  · rw [h, limbs_zero]
    refine Ev.congr (fun k => if_pos rfl) ?_
    rw [dec_zero]
    exact Ev.now _
  · have hp := limbs_length_pos h
    refine Ev.congr (fun k => if_neg (by omega)) ?_
    have hD : (20 * x.length + 1) ≤ 1000000 := by omega
    have hW : nv x < 10 ^ (20 * x.length + 1) := by
      refine Nat.lt_of_lt_of_le (nv_lt hx) ?_
      rw [Nat.pow_succ, Nat.pow_mul]
      exact Nat.le_trans (Nat.pow_le_pow_left (by decide) _) (Nat.le_mul_of_pos_right _ (by decide))
    exact print_l5 (nv x) _ hW hD h (nv x) [] hla (fun x hx => by cases hx) (by simp [dv]) (.inl h)

/-! ### right, Parse -/
/-- A text that is a number's. -/
def Fine (l : List UInt8) : Prop := l ≠ [] ∧ DS l ∧ (l = [48] ∨ l.head? ≠ some 48)
theorem head_first {l : List UInt8} (h : l ≠ []) : l.head? = some (l[0]'(List.length_pos_iff.2 h)) := by
  cases l with
  | nil => exact absurd rfl h
  | cons x xs => rfl
theorem dig_byte {b : UInt8} (h : 48 ≤ b.toNat ∧ b.toNat ≤ 57) : (((b.toNat : Nat) : Int) - 48) % 256 = ((b.toNat - 48 : Nat) : Int) := by omega
theorem sv_take_succ (l : List UInt8) (i : Nat) (h : i < l.length) : sv (l.take (i + 1)) = sv (l.take i) * 10 + ((l[i]).toNat - 48) := by
  rw [List.take_succ_eq_append_getElem h, sv_snoc, Nat.mul_comm]
theorem short_limbs {n i : Nat} (h : n < 10 ^ i) (hi : i ≤ 990) : (limbs n).length ≤ 990 :=
  Nat.le_trans (limbs_length_le (Nat.lt_of_lt_of_le h (Nat.pow_le_pow_left (by decide) i))) hi
theorem fine_ds (n : Nat) : Fine (ds n) := by
  refine ⟨ds_ne n, ds_DS n, ?_⟩
  by_cases h : n < 10
  · by_cases h0 : n = 0
    · exact .inl (by rw [h0, ds_zero])
    · refine .inr fun h1 => ?_
      rw [ds_small h, List.head?_cons] at h1
      have h2 := congrArg UInt8.toNat (Option.some.inj h1)
      rw [dg_toNat] at h2
      have : (48 : UInt8).toNat = 48 := rfl
      omega
  · refine .inr fun h1 => ?_
    rw [List.head?_eq_some_head (ds_ne n)] at h1
    exact ds_head (Nat.le_of_not_lt h) (ds_ne n) (Option.some.inj h1)
theorem ds_of_fine {l : List UInt8} (h : Fine l) : l = ds (sv l) :=
  ds_of h.2.1 h.1 (by
    rcases h.2.2 with h1 | h1
    · exact .inl (by rw [h1]; rfl)
    · refine .inr fun h2 h3 => h1 ?_
      rw [List.head?_eq_some_head h2, h3])
end Go.Proofs.Yteoeacndpgomaaa.Pure
end
section
/-
  Products of decimal digits: what the reference's Mul computes. Condition: no text is longer than ten million bytes.
-/
namespace Go.Proofs.Yteoeacndpgomaaa.Pure
open Go.RowKit Go.Proofs.Yteoeacndpgomaaa.F Go.Proofs.YteoeacndpgomaaaW.PrintWords Go.Proofs.YteoeacndpgomaaaW.PrintLast Go.Proofs.YteoeacndpgomaaaW.PrintMore
open Go.Proofs.Yteoeacndpgomaaa.E (tEq tLt tApp tCut)
set_option linter.unusedVariables false
set_option linter.unusedSimpArgs false
/-! ### Mul -/
/-- The number of sums at their places. -/
def wv : List Int → Nat
  | [] => 0
  | x :: xs => x.toNat + 10 * wv xs
theorem wv_set (l : List Int) (n : Nat) (v : Int) (hn : n < l.length) : wv (l.set n v) + l[n].toNat * 10 ^ n = wv l + v.toNat * 10 ^ n := by
  induction l generalizing n with
  | nil => simp at hn
  | cons x xs ih =>
    cases n with
    | zero => simp [wv]; omega
    | succ n =>
      have h1 := ih n (by simpa using hn)
      simp only [List.set_cons_succ, wv, List.getElem_cons_succ, Nat.pow_succ]
      grind
theorem wv_zeros (n : Nat) : wv (List.replicate n 0) = 0 := by
  induction n with
  | zero => rfl
  | succ n ih => simp [List.replicate_succ, wv, ih]
theorem wv_drop (l : List Int) (n : Nat) (hn : n < l.length) : wv (l.drop n) = l[n].toNat + 10 * wv (l.drop (n + 1)) := by
  rw [List.drop_eq_getElem_cons hn]; rfl
/-- All lie from 0 to a bound. -/
def BD (S : Nat) (l : List Int) : Prop := ∀ x ∈ l, 0 ≤ x ∧ x ≤ (S : Int)
theorem BD.get {S : Nat} {l : List Int} (h : BD S l) {n : Nat} (hn : n < l.length) : 0 ≤ l[n] ∧ l[n] ≤ (S : Int) := h _ (List.getElem_mem hn)
theorem BD.set {S : Nat} {l : List Int} (h : BD S l) (n : Nat) {v : Int} (hv : 0 ≤ v ∧ v ≤ ((S + 81 : Nat) : Int)) : BD (S + 81) (l.set n v) := fun x hx => by
  rcases List.mem_or_eq_of_mem_set hx with hx | rfl
  · have := h x hx; omega
  · exact hv
theorem BD.mono {S T : Nat} {l : List Int} (h : BD S l) (hST : S ≤ T) : BD T l := fun x hx => by have := h x hx; omega
theorem out_inv {P v x c W T : Nat} (hv : v + P * c + P * (x + 10 * W) = T) : v + P * ((x + c) % 10) + P * 10 * ((x + c) / 10) + P * 10 * W = T := by
  have h4 := carry_dec P (x + c)
  rw [← hv, Nat.mul_add P x, Nat.mul_assoc P 10 W]
  rw [Nat.mul_add] at h4
  generalize P * (10 * W) = Q at *
  generalize P * ((x + c) % 10) = Q1 at *
  generalize P * 10 * ((x + c) / 10) = Q2 at *
  generalize P * x = Q3 at *
  generalize P * c = Q4 at *
  clear hv
  omega
theorem out_end {P v c T : Nat} (hv : v + P * c = T) (hT : T < P) : v = T := by
  rcases Nat.eq_zero_or_pos c with h2 | h2
  · subst h2; rw [Nat.mul_zero] at hv; exact hv
  · have h3 := Nat.mul_le_mul_left P h2
    generalize P * c = Q at *
    omega
theorem out_word {x c S : Nat} (hx : (x : Int) ≤ (S : Int)) (hc : c ≤ S) (hS : S ≤ 10000000000000000) : wrap64 ((x : Int) + (c : Int)) = ((x + c : Nat) : Int) ∧ x + c < 1000000000000000000 ∧ (x + c) / 10 ≤ S :=
  ⟨w64_sum (by omega), by omega, by omega⟩
theorem mul_out (s : List Int) (S : Nat) (hS : S ≤ 10000000000000000) (hB : BD S s) (hl : s.length ≤ 1000000000) (T : Nat) (hT : T < 10 ^ s.length) : ∀ (d i : Nat) (out : List Int) (c : Nat), s.length - i = d → out.length = i → i ≤ s.length → DI out → c ≤ S → dv out + 10 ^ i * c + 10 ^ i * wv (s.drop i) = T →
    Ev (fun k => vinculumref01_Mul.l12 k s out (c : Int) (i : Int)) (dec T) := by
  intro d
  induction d with
  | zero =>
    intro i out c hd ho hi hD hc hv
    have hi2 : i = s.length := by clear hv hT; omega
    have e : dv out = T := by
      rw [hi2, List.drop_length, ← hi2] at hv
      rw [← hi2] at hT
      exact out_end hv hT
    have ol : out.length ≤ 1099511627776 := by clear hv hT e; omega
    rw [← e]
    exact Ev.step (fun k => vinculumref01_Mul.l12_eq ..) (Ev.neg (by rw [hi2]; exact Int.lt_irrefl _) (out_ev hD ol))
  | succ d ih =>
    intro i out c hd ho hi hD hc hv
    have hi0 : i < s.length := by clear hv hT; omega
    have ol : out.length + 1 ≤ 140737488355328 := by clear hv hT; omega
    have e1 : wrap64 ((i : Int) + 1) = ((i + 1 : Nat) : Int) := w64_succ (by clear hv hT; omega)
    have hd' : s.length - (i + 1) = d := by clear hv hT; omega
    obtain ⟨b0, b1⟩ := hB.get hi0
    rw [wv_drop s i hi0] at hv
    have hr : rd s (i : Int) = s[i] := rd_of rfl hi0
    generalize s[i] = x at *
    obtain ⟨x, rfl⟩ := Int.eq_ofNat_of_zero_le b0
    obtain ⟨hsum, hn, hc'⟩ := out_word b1 hc hS
    have hlt : (x + c) % 10 < 10 := Nat.mod_lt _ (by decide)
    have hv' : dv (out ++ [((48 + (x + c) % 10 : Nat) : Int)]) + 10 ^ (i + 1) * ((x + c) / 10) + 10 ^ (i + 1) * wv (s.drop (i + 1)) = T := by
      rw [dv_step ho _ hlt, Nat.pow_succ]
      exact out_inv hv
    have g := ih (i + 1) _ _ hd' (by rw [List.length_append, ho]; rfl) hi0 (hD.step hlt) hc' hv'
    refine Ev.step (fun k => vinculumref01_Mul.l12_eq ..) ?_
    rw [hr, hsum, digit_byte hn, digit_carry hn, e1]
    exact Ev.pos (Int.ofNat_lt.2 hi0) (Ev.pos (Int.natCast_nonneg i) (Ev.pos (Int.ofNat_lt.2 hi0) (Ev.pos ol g)))
theorem mul_set {w' w x A B i j : Nat} (h : w' + x * 10 ^ (i + j) = w + (x + A * B) * 10 ^ (i + j)) : w' = w + 10 ^ i * A * (10 ^ j * B) := by
  rw [Nat.add_mul] at h
  have e : A * B * 10 ^ (i + j) = 10 ^ i * A * (10 ^ j * B) := by rw [Nat.pow_add]; grind
  rw [e] at h
  omega
theorem mul_word {x A B S : Nat} (hx : (x : Int) ≤ (S : Int)) (hA : A < 10) (hB : B < 10) (hS : S ≤ 10000000000000000) : wrap64 ((x : Int) + (wrap64 ((A : Int) * (B : Int)))) = ((x + A * B : Nat) : Int) ∧ x + A * B ≤ S + 81 := by
  have h1 : A * B ≤ 9 * 9 := Nat.mul_le_mul (by omega) (by omega)
  have e : (A : Int) * (B : Int) = ((A * B : Nat) : Int) := by simp
  rw [e]
  generalize A * B = m at *
  rw [w64_of (x := (m : Int)) (by omega) (by omega), w64_sum (by omega)]
  exact ⟨rfl, by omega⟩
theorem rmul_l6 (a b i L : Nat) (la : (ds a).length ≤ 10000000) (lb : (ds b).length ≤ 10000000) (hi : i < (ds a).length) (hL : L = (ds a).length + (ds b).length + 1) (R : ByteArray)
    (H : ∀ s', s'.length = L → BD (81 * ((i + 1) * (ds b).length)) s' → wv s' = a % 10 ^ (i + 1) * b → Ev (fun k => vinculumref01_Mul.l3 k (dec a) (dec b) s' ((i + 1 : Nat) : Int)) R) :
    ∀ (d j : Nat) (s : List Int), (ds b).length - j = d → j ≤ (ds b).length → s.length = L → BD (81 * (i * (ds b).length + j)) s → wv s = a % 10 ^ i * b + 10 ^ i * (a / 10 ^ i % 10) * (b % 10 ^ j) →
    Ev (fun k => vinculumref01_Mul.l6 k (dec a) (dec b) s (i : Int) (j : Int)) R := by
  intro d
  induction d with
  | zero =>
    intro j s hd hj hs hB hv
    have hj2 : j = (ds b).length := by clear hv hB H; omega
    have hv2 : wv s = a % 10 ^ (i + 1) * b := by
      rw [hv, mod_all (a := b) (by rw [hj2]; exact Nat.le_refl _), mod_pow_step a i, Nat.add_mul]
    have hB2 : BD (81 * ((i + 1) * (ds b).length)) s := by rw [Nat.add_mul, Nat.one_mul]; rw [hj2] at hB; exact hB
    have e1 : wrap64 ((i : Int) + 1) = ((i + 1 : Nat) : Int) := w64_succ (by clear hv hB H hv2 hB2; omega)
    refine Ev.step (fun k => vinculumref01_Mul.l6_eq ..) ?_
    rw [dec_size, e1]
    exact Ev.neg (by rw [hj2]; exact Int.lt_irrefl _) (H s hs hB2 hv2)
  | succ d ih =>
    intro j s hd hj hs hB hv
    have hA : a / 10 ^ i % 10 < 10 := Nat.mod_lt _ (by decide)
    have hBd : b / 10 ^ j % 10 < 10 := Nat.mod_lt _ (by decide)
    have sb := mod_pow_step b j
    have hj0 : j < (ds b).length := by clear hv hB H hA hBd sb; omega
    have hd' : (ds b).length - (j + 1) = d := by clear hv hB H hA hBd sb; omega
    have hij : i + j < s.length := by clear hv hB H hA hBd sb; omega
    have da : (ds a).length ≤ 1099511627776 := by clear hv hB H hA hBd sb; omega
    have db : (ds b).length ≤ 1099511627776 := by clear hv hB H hA hBd sb; omega
    have e1 : wrap64 ((j : Int) + 1) = ((j + 1 : Nat) : Int) := w64_succ (by clear hv hB H hA hBd sb; omega)
    have e2 : wrap64 ((i : Int) + (j : Int)) = ((i + j : Nat) : Int) := w64_sum (by clear hv hB H hA hBd sb e1; omega)
    have hS : 81 * (i * (ds b).length + j) ≤ 10000000000000000 := by
      have h1 : i * (ds b).length ≤ 10000000 * 10000000 := Nat.mul_le_mul (by clear hv hB H hA hBd sb e1 e2; omega) lb
      clear hv hB H hA hBd sb e1 e2
      generalize i * (ds b).length = m at *
      omega
    have dx := digit_ev a i da
    have dy := digit_ev b j db
    obtain ⟨b0, b1⟩ := hB.get hij
    have hr : rd s ((i + j : Nat) : Int) = s[i + j] := rd_of rfl hij
    have hset := wv_set s (i + j) (((s[i + j]).toNat + (a / 10 ^ i % 10) * (b / 10 ^ j % 10) : Nat) : Int) hij
    generalize s[i + j] = x at *
    obtain ⟨x, rfl⟩ := Int.eq_ofNat_of_zero_le b0
    obtain ⟨hsum, hbd⟩ := mul_word b1 hA hBd hS
    have hx : ((x : Nat) : Int).toNat = x := Int.toNat_natCast x
    rw [hx] at hset
    have hw := mul_set hset
    rw [hv, Nat.add_assoc, ← Nat.mul_add, ← sb] at hw
    have hB' := hB.set (i + j) (v := ((x + (a / 10 ^ i % 10) * (b / 10 ^ j % 10) : Nat) : Int)) ⟨Int.natCast_nonneg _, Int.ofNat_le.2 hbd⟩
    have e3 : 81 * (i * (ds b).length + j) + 81 = 81 * (i * (ds b).length + (j + 1)) := by rw [← Nat.add_assoc, Nat.mul_add 81 _ 1]
    rw [e3] at hB'
    have g := ih (j + 1) _ hd' hj0 (by rw [List.length_set]; exact hs) hB' hw
    refine Ev.step (fun k => vinculumref01_Mul.l6_eq ..) ?_
    rw [dec_size, e2]
    refine Ev.pos (Int.ofNat_lt.2 hj0) (Ev.pos (Int.natCast_nonneg (i + j)) (Ev.pos (Int.ofNat_lt.2 hij) (Ev.bind dx (Ev.bind dy (Ev.pos (Int.natCast_nonneg (i + j)) (Ev.pos (Int.ofNat_lt.2 hij) ?_))))))
    rw [hr, hsum, e1, Int.toNat_natCast]
    exact g
theorem rmul_l3 (a b L : Nat) (la : (ds a).length ≤ 10000000) (lb : (ds b).length ≤ 10000000) (hL : L = (ds a).length + (ds b).length + 1) :
    ∀ (d i : Nat) (s : List Int), (ds a).length - i = d → i ≤ (ds a).length → s.length = L → BD (81 * (i * (ds b).length)) s → wv s = a % 10 ^ i * b →
    Ev (fun k => vinculumref01_Mul.l3 k (dec a) (dec b) s (i : Int)) (dec (a * b)) := by
  intro d
  induction d with
  | zero =>
    intro i s hd hi hs hB hv
    have hi2 : i = (ds a).length := by clear hv hB; omega
    rw [mod_all (a := a) (by rw [hi2]; exact Nat.le_refl _)] at hv
    have hS : 81 * (i * (ds b).length) ≤ 10000000000000000 := by
      have h1 : i * (ds b).length ≤ 10000000 * 10000000 := Nat.mul_le_mul (by clear hv hB; omega) lb
      clear hv hB
      generalize i * (ds b).length = m at *
      omega
    have hT : a * b < 10 ^ s.length := by
      rw [hs, hL, Nat.pow_succ, Nat.pow_add]
      have h1 := Nat.mul_lt_mul'' (lt_pow_ds a) (lt_pow_ds b)
      generalize 10 ^ (ds a).length * 10 ^ (ds b).length = P at *
      generalize a * b = Q at *
      clear hv hB
      omega
    have ol : s.length ≤ 1000000000 := by clear hv hB hT hS; omega
    have hin : ¬ ((i : Int) < ((ds a).length : Int)) := by rw [hi2]; exact Int.lt_irrefl _
    have g := mul_out s _ hS hB ol _ hT _ 0 [] 0 rfl rfl (Nat.zero_le _) (fun x h => by cases h) (Nat.zero_le _) (by
        rw [List.drop_zero, hv, Nat.pow_zero]; simp [dv])
    refine Ev.step (fun k => vinculumref01_Mul.l3_eq ..) ?_
    rw [dec_size]
    exact Ev.neg hin g
  | succ d ih =>
    intro i s hd hi hs hB hv
    have hi0 : i < (ds a).length := by clear hv hB; omega
    have g := rmul_l6 a b i L la lb hi0 hL _ (fun s' h1 h2 h3 => ih (i + 1) s' (by clear hv hB h2 h3; omega) hi0 h1 h2 h3) _ 0 s rfl (Nat.zero_le _) hs (by rw [Nat.add_zero]; exact hB) (by rw [hv, Nat.pow_zero, Nat.mod_one, Nat.mul_zero, Nat.add_zero])
    refine Ev.step (fun k => vinculumref01_Mul.l3_eq ..) ?_
    rw [dec_size]
    exact Ev.pos (Int.ofNat_lt.2 hi0) g
theorem ref_mul {a b : Nat} (la : (ds a).length ≤ 10000000) (lb : (ds b).length ≤ 10000000) : Ev (fun k => vinculumref01_Mul.f k (dec a) (dec b)) (dec (a * b)) := by
  have e : wrap64 ((wrap64 (((ds a).length : Int) + ((ds b).length : Int))) + 1) = (((ds a).length + (ds b).length + 1 : Nat) : Int) := by
    rw [w64_sum (by omega), w64_succ (by omega)]
  have g := rmul_l3 a b ((ds a).length + (ds b).length + 1) la lb rfl _ 0 (List.replicate ((ds a).length + (ds b).length + 1) 0) rfl (Nat.zero_le _) (List.length_replicate ..) (fun x hx => by
    have := List.eq_of_mem_replicate hx
    subst this; exact ⟨by omega, by omega⟩) (by rw [wv_zeros, Nat.pow_zero, Nat.mod_one, Nat.zero_mul])
  refine Ev.congr (fun k => vinculumref01_Mul.f_eq ..) ?_
  rw [dec_size, dec_size, e, Int.toNat_natCast]
  exact Ev.pos (Int.natCast_nonneg _) (Ev.pos (by omega) g)
end Go.Proofs.Yteoeacndpgomaaa.Pure
end
section
/-
  Differences and quotients of decimal digits: what the reference's Sub and DivMod compute. Condition: no text is longer than a hundred million bytes.
-/
namespace Go.Proofs.Yteoeacndpgomaaa.Pure
open Go.RowKit Go.Proofs.Yteoeacndpgomaaa.F Go.Proofs.YteoeacndpgomaaaW.PrintWords Go.Proofs.YteoeacndpgomaaaW.PrintLast Go.Proofs.YteoeacndpgomaaaW.PrintMore
open Go.Proofs.Yteoeacndpgomaaa.E (tEq tLt tApp tCut)
set_option linter.unusedVariables false
set_option linter.unusedSimpArgs false
/-! ### Sub -/
theorem sub_digit {x y l : Nat} (hx : x < 10) (hy : y < 10) (hl : l ≤ 1) : wrap64 ((wrap64 ((x : Int) - (y : Int))) - (l : Int)) = (x : Int) - (y : Int) - (l : Int) := by
  rw [w64_of (x := (x : Int) - y) (by omega) (by omega), w64_of (by omega) (by omega)]
theorem sub_neg {x y l : Nat} (hx : x < 10) (hy : y < 10) (hl : l ≤ 1) (h : (x : Int) - (y : Int) - (l : Int) < 0) : wrap64 (48 + (wrap64 (((x : Int) - (y : Int) - (l : Int)) + 10))) % 256 = ((48 + (x + 10 - y - l) : Nat) : Int) ∧ x + 10 - y - l < 10 := by
  rw [w64_of (x := (x : Int) - y - l + 10) (by omega) (by omega), w64_of (by omega) (by omega)]; omega
theorem sub_pos {x y l : Nat} (hx : x < 10) (hy : y < 10) (hl : l ≤ 1) (h : ¬ (x : Int) - (y : Int) - (l : Int) < 0) : wrap64 (48 + ((x : Int) - (y : Int) - (l : Int))) % 256 = ((48 + (x - y - l) : Nat) : Int) ∧ x - y - l < 10 := by
  rw [w64_of (by omega) (by omega)]; omega
theorem sub_inv {A B P x y l v m l' : Nat} (hv : A + P * l = v + B) (h : x + 10 * l' = y + l + m) : A + P * x + P * 10 * l' = v + P * m + (B + P * y) := by
  have e : P * (x + 10 * l') = P * (y + l + m) := by rw [h]
  rw [Nat.mul_add, Nat.mul_add, Nat.mul_add] at e
  have e2 : P * (10 * l') = P * 10 * l' := by rw [Nat.mul_assoc]
  rw [e2] at e
  generalize P * 10 * l' = Q at *
  generalize P * x = X at *
  generalize P * y = Y at *
  generalize P * l = L at *
  generalize P * m = M at *
  omega
theorem sub_ref_l4 (a b : Nat) (hab : b ≤ a) (la : (ds a).length ≤ 1000000000) : ∀ (d i : Nat) (out : List Int) (c : Nat), (ds a).length - i = d → out.length = i → i ≤ (ds a).length → DI out → c ≤ 1 → a % 10 ^ i + 10 ^ i * c = dv out + b % 10 ^ i →
    Ev (fun k => vinculumref01_Sub.l4 k (dec a) (dec b) out (c : Int) (i : Int)) (dec (a - b)) := by
  intro d
  have lb := ds_length_mono hab
  induction d with
  | zero =>
    intro i out c hd ho hi hD hc hv
    have hi2 : i = (ds a).length := by clear hv; omega
    have e : dv out = a - b := by
      rw [mod_all (a := a) (by rw [hi2]; exact Nat.le_refl _), mod_all (a := b) (by rw [hi2]; exact lb)] at hv
      have h1 := dv_lt hD
      rw [ho] at h1
      rcases Nat.eq_zero_or_pos c with h2 | h2
      · subst h2; rw [Nat.mul_zero] at hv; omega
      · have h3 : c = 1 := by omega
        subst h3; rw [Nat.mul_one] at hv
        generalize 10 ^ i = P at *
        omega
    rw [← e]
    refine Ev.step (fun k => vinculumref01_Sub.l4_eq ..) ?_
    rw [dec_size]
    exact Ev.neg (by clear hv e; omega) (out_ev hD (by clear hv e; omega))
  | succ d ih =>
    intro i out c hd ho hi hD hc hv
    have hx : a / 10 ^ i % 10 < 10 := Nat.mod_lt _ (by decide)
    have hy : b / 10 ^ i % 10 < 10 := Nat.mod_lt _ (by decide)
    have s1 := mod_pow_step a i
    have s2 := mod_pow_step b i
    have ol : out.length + 1 ≤ 140737488355328 := by clear hv hx hy s1 s2; omega
    have da : (ds a).length ≤ 1099511627776 := by clear hv hx hy s1 s2; omega
    have db : (ds b).length ≤ 1099511627776 := by clear hv hx hy s1 s2; omega
    have e1 : wrap64 ((i : Int) + 1) = ((i + 1 : Nat) : Int) := w64_succ (by clear hv hx hy s1 s2; omega)
    have hi0 : (i : Int) < ((ds a).length : Int) := by clear hv hx hy s1 s2; omega
    have hd' : (ds a).length - (i + 1) = d := by clear hv hx hy s1 s2; omega
    have hi' : i + 1 ≤ (ds a).length := by clear hv hx hy s1 s2; omega
    have round : ∀ (m l' : Nat), m < 10 → l' ≤ 1 → a / 10 ^ i % 10 + 10 * l' = b / 10 ^ i % 10 + c + m → Ev (fun k => vinculumref01_Sub.l4 k (dec a) (dec b) (out ++ [((48 + m : Nat) : Int)]) (l' : Int) ((i + 1 : Nat) : Int)) (dec (a - b)) := by
      intro m l' hm hl' he
      refine ih (i + 1) _ l' hd' (by rw [List.length_append, ho]; rfl) hi' (hD.step hm) hl' ?_
      rw [dv_step ho _ hm, s1, s2]
      exact sub_inv hv he
    clear ih hv s1 s2
    have hsd := sub_digit hx hy hc
    generalize hgx : a / 10 ^ i % 10 = x at *
    generalize hgy : b / 10 ^ i % 10 = y at *
    have dx := digit_ev a i da
    have dy := digit_ev b i db
    rw [hgx] at dx; rw [hgy] at dy
    by_cases h : (x : Int) - (y : Int) - (c : Int) < 0
    · obtain ⟨e2, h2⟩ := sub_neg hx hy hc h
      refine Ev.step (fun k => vinculumref01_Sub.l4_eq ..) ?_
      rw [dec_size]
      refine Ev.pos hi0 (Ev.bind dx (Ev.bind dy ?_))
      rw [hsd, e2, e1]
      exact Ev.pos h (Ev.pos ol (round _ 1 h2 (Nat.le_refl _) (by clear hsd e2 e1; omega)))
    · obtain ⟨e2, h2⟩ := sub_pos hx hy hc h
      refine Ev.step (fun k => vinculumref01_Sub.l4_eq ..) ?_
      rw [dec_size]
      refine Ev.pos hi0 (Ev.bind dx (Ev.bind dy ?_))
      rw [hsd, e2, e1]
      exact Ev.neg h (Ev.pos ol (round _ 0 h2 (by omega) (by clear hsd e2 e1; omega)))
theorem ref_sub {a b : Nat} (hab : b ≤ a) (la : (ds a).length ≤ 1000000000) : Ev (fun k => vinculumref01_Sub.f k (dec a) (dec b)) (dec (a - b)) :=
  Ev.congr (fun k => vinculumref01_Sub.f_eq ..) (sub_ref_l4 a b hab la _ 0 [] 0 rfl rfl (by omega) (fun x h => by cases h) (by omega) (by simp [dv, Nat.mod_one]))

/-! ### DivMod -/
theorem by8_snoc (l : List Int) (m : Nat) (hm : m < 10) : by8 (l ++ [((48 + m : Nat) : Int)]) = by8 l ++ [dg m] := by
  unfold by8
  rw [List.map_append]
  have : ((48 + m : Nat) : Int).toNat = 48 + m % 10 := by omega
  simp only [List.map_cons, List.map_nil, this, dg]
theorem sv_by8_snoc (l : List Int) (m : Nat) (hm : m < 10) : sv (by8 (l ++ [((48 + m : Nat) : Int)])) = 10 * sv (by8 l) + m := by
  rw [by8_snoc l m hm, sv_snoc, dg_toNat]; omega
theorem div_word {n : Nat} (h : n < 10) : (wrap64 (48 + (n : Int))) % 256 = ((48 + n : Nat) : Int) := by
  rw [w64_of (by omega) (by omega)]; omega
theorem w64_up {n : Nat} (h : n < 1000) : wrap64 ((n : Int) + 1) = ((n + 1 : Nat) : Int) := w64_succ (by omega)
/-- The inner loop: y is taken off as often as it goes. -/
theorem div_l8 (x : ByteArray) (b : Nat) (hb : 0 < b) (i : Nat) (out : List Int) (lb : (ds b).length ≤ 100000000) (ho : out.length + 1 ≤ 140737488355328) (hi : i < 1000000000) (R : ByteArray × ByteArray) (N : Nat) (hN : N < 10 * b)
    (H : Ev (fun k => vinculumref01_DivMod.l4 k x (dec b) (out ++ [((48 + N / b : Nat) : Int)]) (dec (N % b)) ((i + 1 : Nat) : Int)) R) :
    ∀ (d n : Nat), N / b - n = d → n ≤ N / b → Ev (fun k => vinculumref01_DivMod.l8 k x (dec b) out (dec (N - n * b)) (i : Int) (n : Int)) R := by
  have hq : N / b < 10 := Nat.div_lt_of_lt_mul (by rw [Nat.mul_comm]; exact hN)
  intro d
  induction d with
  | zero =>
    intro n hd hn
    have e : n = N / b := by clear H; omega
    subst e
    have e2 : N - N / b * b = N % b := by have := Nat.div_add_mod N b; rw [Nat.mul_comm] at this; generalize N / b * b = m at *; omega
    rw [e2]
    refine Ev.step (fun k => vinculumref01_DivMod.l8_eq ..) (Ev.bind (ref_cmp _ _) ?_)
    rw [div_word hq, w64_succ (a := i) (by clear H hN e2; omega)]
    exact Ev.neg (cmpI_neg.2 (Nat.mod_lt N hb)) (Ev.pos ho H)
  | succ d ih =>
    intro n hd hn
    have h1 : n + 1 ≤ N / b := by clear H ih; omega
    have h2 := Nat.mul_le_of_le_div b (n + 1) N h1
    rw [Nat.add_mul, Nat.one_mul] at h2
    have hge : b ≤ N - n * b := by generalize n * b = m at *; clear H ih hd hn hq h1; omega
    have e2 : N - n * b - b = N - (n + 1) * b := by rw [Nat.add_mul, Nat.one_mul, Nat.sub_sub]
    have hlen : (ds (N - n * b)).length ≤ 1000000000 := by
      have h3 : N - n * b < 10 ^ ((ds b).length + 1) := by
        rw [Nat.pow_succ]
        have h4 := lt_pow_ds b
        generalize 10 ^ (ds b).length = P at *
        generalize n * b = m at *
        clear H ih hd hn hq h1
        omega
      have := ds_length_le h3 (Nat.succ_pos _)
      clear H ih hd hn hq h1 h2
      omega
    have hs := ref_sub hge hlen
    rw [e2] at hs
    have hn2 : n < 1000 := by clear H ih; omega
    have gi := ih (n + 1) (by clear H ih; omega) h1
    rw [← w64_up hn2] at gi
    exact Ev.step (fun k => vinculumref01_DivMod.l8_eq ..) (Ev.bind (ref_cmp _ _) (Ev.pos (Decidable.not_not.1 fun h => by have := cmpI_neg.1 h; omega) (Ev.bind hs gi)))
/-- The number of the first digits. -/
theorem sv_take_ds (a i : Nat) (h : i < (ds a).length) : sv ((ds a).take (i + 1)) = 10 * sv ((ds a).take i) + (((ds a)[i]).toNat - 48) := by
  rw [List.take_succ_eq_append_getElem h, sv_snoc]
theorem div_bound {p b d : Nat} (hb : 0 < b) (hd : d < 10) : 10 * (p % b) + d < 10 * b := by
  have := Nat.mod_lt p hb; omega
theorem div_next (p b d : Nat) (hb : 0 < b) : (10 * p + d) / b = 10 * (p / b) + (10 * (p % b) + d) / b ∧ (10 * p + d) % b = (10 * (p % b) + d) % b := by
  have e : 10 * p + d = (10 * (p % b) + d) + b * (10 * (p / b)) := by
    have := Nat.mod_add_div p b
    calc 10 * p + d = 10 * (p % b + b * (p / b)) + d := by rw [this]
      _ = _ := by grind
  rw [e, Nat.add_mul_div_left _ _ hb, Nat.add_mul_mod_self_left]
  exact ⟨Nat.add_comm _ _, rfl⟩
theorem extract_one (l : List UInt8) (i : Nat) (h : i < l.length) : (tx l).extract i (i + 1) = tx [l[i]] := by
  rw [tx_extract]
  congr 1
  rw [List.drop_eq_getElem_cons h]
  have : i + 1 - i = 1 := by omega
  rw [this]; rfl
theorem div_l4 (a b : Nat) (hb : 0 < b) (la : (ds a).length ≤ 100000000) (lb : (ds b).length ≤ 100000000) :
    ∀ (d i : Nat) (out : List Int), (ds a).length - i = d → i ≤ (ds a).length → out.length = i → DI out → sv (by8 out) = sv ((ds a).take i) / b →
    Ev (fun k => vinculumref01_DivMod.l4 k (dec a) (dec b) out (dec (sv ((ds a).take i) % b)) (i : Int)) (dec (a / b), dec (a % b)) := by
  intro d
  induction d with
  | zero =>
    intro i out hd hi ho hD hv
    have e : i = (ds a).length := by clear hv; omega
    rw [e, List.take_length, sv_ds] at hv ⊢
    have g := strip_ev (by8_DS hD)
    rw [hv] at g
    refine Ev.step (fun k => vinculumref01_DivMod.l4_eq ..) ?_
    rw [dec_size, strOf_tx]
    exact Ev.neg (Int.lt_irrefl _) (Ev.pos (by clear hv g; omega) (Ev.bind g (Ev.now _)))
  | succ d ih =>
    intro i out hd hi ho hD hv
    have hi0 : i < (ds a).length := by clear hv; omega
    have hi1 : i < 1000000000 := by clear hv; omega
    have ol : out.length + 1 ≤ 140737488355328 := by clear hv; omega
    have hd1 := ds_DS a _ (List.getElem_mem hi0)
    have ht := sv_take_ds a i hi0
    have hx := extract_one (ds a) i hi0
    have hlt : ((ds a)[i]).toNat - 48 < 10 := by clear hv ht; omega
    generalize (ds a)[i] = g at *
    have hN := div_bound (p := sv ((ds a).take i)) hb hlt
    have hnx := div_next (sv ((ds a).take i)) b (g.toNat - 48) hb
    rw [← ht] at hnx
    have hq : (10 * (sv ((ds a).take i) % b) + (g.toNat - 48)) / b < 10 := Nat.div_lt_of_lt_mul (by rw [Nat.mul_comm b 10]; exact hN)
    have hl0 : (ds (sv ((ds a).take i) % b)).length ≤ 100000000 := Nat.le_trans (ds_length_mono (Nat.le_of_lt (Nat.mod_lt _ hb))) lb
    have hstrip : Ev (fun k => vinculumref01_strip.f k (tx (ds (sv ((ds a).take i) % b) ++ [g]))) (dec (10 * (sv ((ds a).take i) % b) + (g.toNat - 48))) := by
      have := strip_ev (l := ds (sv ((ds a).take i) % b) ++ [g]) ((ds_DS _).append (fun x hx => by rw [List.mem_singleton.1 hx]; exact hd1))
      rwa [sv_snoc, sv_ds] at this
    have H := ih (i + 1) (out ++ [((48 + (10 * (sv ((ds a).take i) % b) + (g.toNat - 48)) / b : Nat) : Int)]) (by clear hv hnx hq hN ht hx; omega) hi0 (by rw [List.length_append, ho]; rfl) (hD.step hq) (by rw [sv_by8_snoc _ _ hq, hv, hnx.1])
    rw [hnx.2] at H
    have g1 := div_l8 (dec a) b hb i out lb ol hi1 _ _ hN H _ 0 rfl (Nat.zero_le _)
    rw [Nat.zero_mul, Nat.sub_zero] at g1
    have e1 : wrap64 ((i : Int) + 1) = ((i + 1 : Nat) : Int) := w64_succ (by clear hv hnx hq hN ht hx; omega)
    have es : tCut (dec a) i (i + 1) = tx [g] := by rw [E.tCut_eq]; exact hx
    have ea : tApp (dec (sv ((ds a).take i) % b)) (tx [g]) = tx (ds (sv ((ds a).take i) % b) ++ [g]) := tApp_tx _ _
    refine Ev.step (fun k => vinculumref01_DivMod.l4_eq ..) ?_
    rw [dec_size, e1, Int.toNat_natCast, Int.toNat_natCast, es, ea, dec_size]
    refine Ev.pos (Int.ofNat_lt.2 hi0) (Ev.pos (Int.natCast_nonneg (i + 1)) (Ev.pos (Int.ofNat_le.2 hi0) (Ev.pos (Int.natCast_nonneg i) (Ev.pos (Int.ofNat_le.2 (Nat.le_succ i)) (Ev.pos ?_ (Ev.bind hstrip g1))))))
    rw [tx_size, List.length_singleton]; clear hv hnx hq hN ht hx e1 es ea; omega
theorem ref_divmod {a b : Nat} (hb : 0 < b) (la : (ds a).length ≤ 100000000) (lb : (ds b).length ≤ 100000000) : Ev (fun k => vinculumref01_DivMod.f k (dec a) (dec b)) (dec (a / b), dec (a % b)) := by
  have g := div_l4 a b hb la lb _ 0 [] rfl (Nat.zero_le _) rfl (fun x h => by cases h) (by rw [List.take_zero, sv_nil, Nat.zero_div]; rfl)
  rw [List.take_zero, sv_nil, Nat.zero_mod, dec_zero] at g
  exact Ev.congr (fun k => vinculumref01_DivMod.f_eq ..) g
end Go.Proofs.Yteoeacndpgomaaa.Pure
end
section
/-
  Words and numbers as decimal digits: what the reference's Word and Of compute. Condition: no list is longer than 1000 words.
-/
namespace Go.Proofs.Yteoeacndpgomaaa.Pure
open Go.RowKit Go.Proofs.Yteoeacndpgomaaa.F Go.Proofs.YteoeacndpgomaaaW.PrintWords Go.Proofs.YteoeacndpgomaaaW.PrintLast Go.Proofs.YteoeacndpgomaaaW.PrintMore
open Go.Proofs.Yteoeacndpgomaaa.E (tEq tLt tApp tCut)
set_option linter.unusedVariables false
set_option linter.unusedSimpArgs false
instance (l : List UInt8) : Decidable (DS l) := by unfold DS; infer_instance
/-! ### Word -/
theorem word_byte {n : Nat} (h : n < 18446744073709551616) : (IntKind.u64.wrap (48 + (Int.tmod (n : Int) 10))) % 256 = ((48 + n % 10 : Nat) : Int) := by
  rw [Int.tmod_eq_emod_of_nonneg (by omega), wu]; omega
theorem word_next {n : Nat} (h : n < 18446744073709551616) : IntKind.u64.wrap (Int.tdiv (n : Int) 10) = ((n / 10 : Nat) : Int) := by
  rw [Int.tdiv_eq_ediv_of_nonneg (by omega), wu]; omega
theorem word_l2 (W : Nat) : ∀ (m n : Nat) (out : List Int), n < 10 ^ m → n < 18446744073709551616 → out.length + m ≤ 1000 → DI out → dv out + 10 ^ out.length * n = W → Ev (fun k => vinculumref01_Word.l2 k (n : Int) out) (dec W) := by
  intro m
  induction m with
  | zero =>
    intro n out hn hw hl hD hv
    have : n = 0 := by rw [Nat.pow_zero] at hn; omega
    subst this
    rw [Nat.mul_zero, Nat.add_zero] at hv
    rw [← hv]
    exact Ev.step (fun k => vinculumref01_Word.l2_eq ..) (Ev.neg (by decide) (out_ev hD (by clear hv hn; omega)))
  | succ m ih =>
    intro n out hn hw hl hD hv
    by_cases h0 : n = 0
    · subst h0
      rw [Nat.mul_zero, Nat.add_zero] at hv
      rw [← hv]
      exact Ev.step (fun k => vinculumref01_Word.l2_eq ..) (Ev.neg (by decide) (out_ev hD (by clear hv hn; omega)))
    · have hlt : n % 10 < 10 := Nat.mod_lt _ (by decide)
      have hn' : n / 10 < 10 ^ m := Nat.div_lt_of_lt_mul (by rw [Nat.pow_succ, Nat.mul_comm] at hn; exact hn)
      have hv' : dv (out ++ [((48 + n % 10 : Nat) : Int)]) + 10 ^ (out ++ [((48 + n % 10 : Nat) : Int)]).length * (n / 10) = W := by
        rw [dv_step rfl _ hlt, List.length_append, List.length_singleton, Nat.pow_succ, Nat.add_assoc, carry_dec, hv]
      have ol : out.length + 1 ≤ 140737488355328 := by clear hv hv' hn hn'; omega
      have g := ih (n / 10) _ hn' (by clear hv hv' hn hn'; omega) (by rw [List.length_append, List.length_singleton]; clear hv hv' hn hn'; omega) (hD.step hlt) hv'
      refine Ev.step (fun k => vinculumref01_Word.l2_eq ..) ?_
      rw [word_byte hw, word_next hw]
      exact Ev.pos (by clear hv hv' hn hn'; omega) (Ev.pos ol g)
theorem ref_word {n : Nat} (h : n < 18446744073709551616) : Ev (fun k => vinculumref01_Word.f k (n : Int)) (dec n) :=
  Ev.congr (fun k => vinculumref01_Word.f_eq ..) (word_l2 n 20 n [] (Nat.lt_of_lt_of_le h (by decide)) h (by decide) (fun x h => by cases h) (by simp [dv]))

/-! ### Of -/
theorem ds_length_limbs {x : List Int} (hw : WF x) : (ds (nv x)).length ≤ 20 * x.length + 1 := by
  refine ds_length_le (Nat.lt_of_lt_of_le (nv_lt hw) ?_) (Nat.succ_pos _)
  rw [Nat.pow_succ, Nat.pow_mul]
  have h1 : 18446744073709551616 ^ x.length ≤ (10 ^ 20) ^ x.length := Nat.pow_le_pow_left (by decide) _
  exact Nat.le_trans h1 (Nat.le_mul_of_pos_right _ (by decide))
theorem dec_B : (ByteArray.mk (Array.mk [49, 56, 52, 52, 54, 55, 52, 52, 48, 55, 51, 55, 48, 57, 53, 53, 49, 54, 49, 54]) : ByteArray) = dec 18446744073709551616 := by
  have : [49, 56, 52, 52, 54, 55, 52, 52, 48, 55, 51, 55, 48, 57, 53, 53, 49, 54, 49, 54] = ds (sv [49, 56, 52, 52, 54, 55, 52, 52, 48, 55, 51, 55, 48, 57, 53, 53, 49, 54, 49, 54]) :=
    ds_of (by decide) (by decide) (.inr (by decide))
  have e : sv [49, 56, 52, 52, 54, 55, 52, 52, 48, 55, 51, 55, 48, 57, 53, 53, 49, 54, 49, 54] = 18446744073709551616 := by decide
  rw [e] at this
  rw [dec, ← this]; rfl
theorem of_l3 (x : List Int) (hw : WF x) (hl : x.length ≤ 1000) : ∀ n : Nat, n ≤ x.length → Ev (fun k => vinculumref01_Of.l3 k x (dec (nv (x.drop n))) ((n : Int) - 1)) (dec (nv x)) := by
  intro n
  induction n with
  | zero =>
    intro _
    rw [List.drop_zero]
    exact Ev.step (fun k => vinculumref01_Of.l3_eq ..) (Ev.neg (by decide) (Ev.now _))
  | succ n ih =>
    intro hn
    have hn0 : n < x.length := hn
    have e0 : ((n + 1 : Nat) : Int) - 1 = (n : Int) := by omega
    have e1 : wrap64 ((n : Int) - 1) = (n : Int) - 1 := w64_dec (by omega)
    have hr : rd x (n : Int) = x[n] := rd_of rfl hn0
    have hu := hw.get hn0
    have hd := nv_drop x n hn0
    have h1 : (ds (nv (x.drop (n + 1)))).length ≤ 10000000 := by
      have := ds_length_limbs (hw.drop (n + 1))
      rw [List.length_drop] at this
      clear hd e1 hu; omega
    have h2 : (ds (18446744073709551616 * nv (x.drop (n + 1)))).length ≤ 1000000000 := by
      have g := ds_length_limbs (hw.drop n)
      have := ds_length_mono (show 18446744073709551616 * nv (x.drop (n + 1)) ≤ nv (x.drop n) by rw [hd]; exact Nat.le_add_left _ _)
      rw [List.length_drop] at g
      clear hd e1 hu; omega
    have h3 : (ds (x[n]).toNat).length ≤ 1000000000 := by
      refine Nat.le_trans (ds_length_le (m := 20) (Nat.lt_of_lt_of_le (show (x[n]).toNat < 18446744073709551616 by have := hu.1; have := hu.2; clear hd e1; omega) (by decide)) (by decide)) (by decide)
    have hB : (ds 18446744073709551616).length ≤ 10000000 := Nat.le_trans (ds_length_le (m := 20) (by decide) (by decide)) (by decide)
    have gm := ref_mul h1 hB
    have gw := ref_word (n := (x[n]).toNat) (by have := hu.1; have := hu.2; clear hd e1; omega)
    rw [Int.toNat_of_nonneg hu.1] at gw
    rw [Nat.mul_comm] at gm
    have ga := ref_add h2 h3
    have e3 : 18446744073709551616 * nv (x.drop (n + 1)) + (x[n]).toNat = nv (x.drop n) := by rw [hd]; exact Nat.add_comm _ _
    rw [e3] at ga
    refine Ev.step (fun k => vinculumref01_Of.l3_eq ..) ?_
    rw [e0, hr, e1, dec_B]
    exact Ev.pos (Int.natCast_nonneg n) (Ev.bind gm (Ev.pos (Int.natCast_nonneg n) (Ev.pos (Int.ofNat_lt.2 hn0) (Ev.bind gw (Ev.bind ga (ih (Nat.le_of_lt hn0)))))))
theorem ref_of {x : List Int} (hw : WF x) (hl : x.length ≤ 1000) : Ev (fun k => vinculumref01_Of.f k x) (dec (nv x)) := by
  have g := of_l3 x hw hl x.length (Nat.le_refl _)
  rw [List.drop_length] at g
  refine Ev.congr (fun k => vinculumref01_Of.f_eq ..) ?_
  rw [w64_dec (by omega), mk_48, ← dec_zero]
  exact g
end Go.Proofs.Yteoeacndpgomaaa.Pure
end
section
/-
  What the reference's Bits, Parse and Gcd compute on decimal digits. Condition: texts of up to a million bytes.
-/
namespace Go.Proofs.Yteoeacndpgomaaa.Pure
open Go.RowKit Go.Proofs.Yteoeacndpgomaaa.F Go.Proofs.YteoeacndpgomaaaW.PrintWords Go.Proofs.YteoeacndpgomaaaW.PrintLast Go.Proofs.YteoeacndpgomaaaW.PrintMore
open Go.Proofs.Yteoeacndpgomaaa.E (tEq tLt tApp tCut)
set_option linter.unusedVariables false
set_option linter.unusedSimpArgs false
/-! ### Bits -/
theorem dec_one : dec 1 = (⟨#[49]⟩ : ByteArray) := by rw [dec, ds_small (by decide)]; rfl
theorem ds_pow2 (n : Nat) : (ds (2 ^ n)).length ≤ n + 1 := by
  refine ds_length_le ?_ (Nat.succ_pos _)
  have h1 : 2 ^ n ≤ 10 ^ n := Nat.pow_le_pow_left (by decide) _
  have h2 : 10 ^ n < 10 ^ (n + 1) := Nat.pow_lt_pow_right (by decide) (Nat.lt_succ_self n)
  exact Nat.lt_of_le_of_lt h1 h2
/-! ### Parse -/
/-- What is wrong with a text. -/
def code (l : List UInt8) : Int := if l = [] ∨ (1 < l.length ∧ l.head? = some 48) ∨ ¬ DS l then 16 else if 20000 < l.length then 13 else 0
theorem rparse_l4 (l : List UInt8) (hl : l.length ≤ 1000000) : ∀ (d i : Nat), l.length - i = d → i ≤ l.length → (∀ b ∈ l.take i, 48 ≤ b.toNat ∧ b.toNat ≤ 57) → Ev (fun k => vinculumref01_Parse.l4 k (tx l) (i : Int)) (if ¬ DS l then 16 else if 20000 < l.length then 13 else 0) := by
  intro d
  induction d with
  | zero =>
    intro i hd hi hp
    have : i = l.length := by omega
    subst this
    rw [List.take_length] at hp
    rw [if_neg (not_not_intro (show DS l from hp))]
    by_cases h : 20000 < l.length
    · rw [if_pos h]
      refine Ev.step (fun k => vinculumref01_Parse.l4_eq ..) ?_
      rw [tx_size]
      exact Ev.neg (Int.lt_irrefl _) (Ev.pos (by omega) (Ev.now _))
    · rw [if_neg h]
      refine Ev.step (fun k => vinculumref01_Parse.l4_eq ..) ?_
      rw [tx_size]
      exact Ev.neg (Int.lt_irrefl _) (Ev.neg (by omega) (Ev.now _))
  | succ d ih =>
    intro i hd hi hp
    have hi0 : i < l.length := by omega
    have hb := tx_bt l i hi0
    by_cases h1 : 48 ≤ (l[i]).toNat ∧ (l[i]).toNat ≤ 57
    · have g := ih (i + 1) (by omega) hi0 (fun b h => by
        rw [List.take_succ_eq_append_getElem hi0] at h
        rcases List.mem_append.1 h with h | h
        · exact hp b h
        · rw [List.mem_singleton.1 h]; exact h1)
      rw [← w64_succ (a := i) (by omega)] at g
      refine Ev.step (fun k => vinculumref01_Parse.l4_eq ..) ?_
      rw [tx_size, hb]
      exact Ev.pos (Int.ofNat_lt.2 hi0) (Ev.pos (Int.natCast_nonneg i) (Ev.pos (Int.ofNat_lt.2 hi0) (Ev.neg (by omega) (Ev.pos (Int.natCast_nonneg i) (Ev.pos (Int.ofNat_lt.2 hi0) (Ev.neg (by omega) g))))))
    · have : ¬ DS l := fun h => h1 (h _ (List.getElem_mem hi0))
      rw [if_pos this]
      refine Ev.step (fun k => vinculumref01_Parse.l4_eq ..) ?_
      rw [tx_size, hb]
      refine Ev.pos (Int.ofNat_lt.2 hi0) (Ev.pos (Int.natCast_nonneg i) (Ev.pos (Int.ofNat_lt.2 hi0) ?_))
      by_cases h2 : ((l[i]).toNat : Int) < 48
      · exact Ev.pos h2 (Ev.now _)
      · exact Ev.neg h2 (Ev.pos (Int.natCast_nonneg i) (Ev.pos (Int.ofNat_lt.2 hi0) (Ev.pos (by omega) (Ev.now _))))
theorem ref_parse {l : List UInt8} (hl : l.length ≤ 1000000) : Ev (fun k => vinculumref01_Parse.f k (tx l)) (code l) := by
  have fine : l ≠ [] → ¬ (1 < l.length ∧ l.head? = some 48) → Ev (fun k => vinculumref01_Parse.l4 k (tx l) 0) (code l) := fun h1 h2 => by
    have e : code l = (if ¬ DS l then 16 else if 20000 < l.length then 13 else 0) := by
      unfold code
      by_cases h3 : DS l
      · rw [if_neg (fun h => h.elim h1 fun h => h.elim h2 fun h => h h3), if_neg (not_not_intro h3)]
      · rw [if_pos (.inr (.inr h3)), if_pos h3]
    rw [e]
    exact rparse_l4 l hl _ 0 rfl (Nat.zero_le _) (fun b h => by rw [List.take_zero] at h; cases h)
  refine Ev.congr (fun k => vinculumref01_Parse.f_eq ..) ?_
  rw [mk_nil, tx_size]
  by_cases h1 : l = []
  · exact Ev.pos (tEq_yes h1) (Ev.ret (if_pos (.inl h1)).symm)
  · refine Ev.neg (tEq_no h1) ?_
    have hpos : 0 < l.length := List.length_pos_iff.2 h1
    have hb : bt (tx l) 0 = ((l[0]).toNat : Int) := tx_bt l 0 hpos
    have hh := head_first h1
    by_cases h2 : (l.length : Int) > 1
    · refine Ev.pos h2 (Ev.pos (Int.ofNat_lt.2 hpos) ?_)
      rw [hb]
      by_cases h3 : l[0] = 48
      · exact Ev.pos (by rw [h3]; rfl) (Ev.ret (if_pos (.inr (.inl ⟨by omega, by rw [hh, h3]⟩))).symm)
      · exact Ev.neg (fun h4 => h3 (UInt8.toNat.inj (by have : (48 : UInt8).toNat = 48 := rfl; omega))) (fine h1 (fun h => h3 (by have := h.2; rw [hh] at this; exact Option.some.inj this)))
    · exact Ev.neg h2 (fine h1 (fun h => h2 (by have := h.1; omega)))
/-! ### Gcd -/
end Go.Proofs.Yteoeacndpgomaaa.Pure
end
section
/-
  Whole numbers: what package bigint's methods compute. Condition: no number has more than 1000 words.
-/
namespace Go.Proofs.Yteoeacndpgomaaa.Pure
open Go.RowKit Go.Proofs.Yteoeacndpgomaaa.F Go.Proofs.YteoeacndpgomaaaW.PrintWords Go.Proofs.YteoeacndpgomaaaW.PrintLast Go.Proofs.YteoeacndpgomaaaW.PrintMore
open Go.Proofs.Yteoeacndpgomaaa.E (tEq tLt tApp tCut)
set_option linter.unusedVariables false
set_option linter.unusedSimpArgs false
/-- Below 0? -/
def ng (z : Int) : Bool := decide (z < 0)
/-- A number with a sign. -/
def sg (b : Bool) (n : Nat) : Int := if b then -(n : Int) else (n : Int)
theorem sg_abs (b : Bool) (n : Nat) : (sg b n).natAbs = n := by cases b <;> simp [sg]
theorem sg_ng (z : Int) : sg (ng z) z.natAbs = z := by
  unfold sg ng
  by_cases h : z < 0
  · simp [h]; omega
  · simp [h]; omega
theorem ng_sg (b : Bool) (n : Nat) : ng (sg b n) = (b && decide (0 < n)) := by
  unfold sg ng
  cases b <;> simp
theorem ng_true {z : Int} : ng z = true ↔ z < 0 := decide_eq_true_iff
theorem ng_false {z : Int} : ng z = false ↔ 0 ≤ z := by unfold ng; rw [decide_eq_false_iff_not]; omega
theorem sg_false (n : Nat) : sg false n = (n : Int) := rfl
theorem ng_nat (n : Nat) : ng (n : Int) = false := ng_false.2 (Int.natCast_nonneg n)
/-- So many words at most. -/
def Sz (p : Nat) (z : Int) : Prop := (limbs z.natAbs).length ≤ p
theorem Sz.lt {p : Nat} {z : Int} (h : Sz p z) : z.natAbs < 18446744073709551616 ^ p := pow_up (lt_pow_limbs _) h
theorem Sz.of {p : Nat} {z : Int} (h : z.natAbs < 18446744073709551616 ^ p) : Sz p z := limbs_length_le h
theorem Sz.up {p q : Nat} {z : Int} (h : Sz p z) (hpq : p ≤ q) : Sz q z := Nat.le_trans h hpq
theorem Sz.neg {p : Nat} {z : Int} (h : Sz p z) : Sz p (-z) := by unfold Sz at *; rwa [Int.natAbs_neg]
theorem Sz.add {p : Nat} {x y : Int} (hx : Sz p x) (hy : Sz p y) : Sz (p + 1) (x + y) :=
  Sz.of (Nat.lt_of_le_of_lt (Int.natAbs_add_le x y) (lt_add hx.lt hy.lt))
theorem Sz.sub {p : Nat} {x y : Int} (hx : Sz p x) (hy : Sz p y) : Sz (p + 1) (x - y) := by
  rw [Int.sub_eq_add_neg]; exact hx.add hy.neg
theorem Sz.mul {p q : Nat} {x y : Int} (hx : Sz p x) (hy : Sz q y) : Sz (p + q) (x * y) := Sz.of (by rw [Int.natAbs_mul]; exact lt_mul hx.lt hy.lt)
theorem Sz.mono {p : Nat} {x y : Int} (hy : Sz p y) (h : x.natAbs ≤ y.natAbs) : Sz p x := Nat.le_trans (limbs_length_mono h) hy
theorem made_ev (b : Bool) (n : Nat) : Ev (fun k => bigint_made.f k b (limbs n)) (ng (sg b n), limbs n) := by
  refine Ev.congr (fun k => bigint_made.f_eq ..) ?_
  rw [ng_sg]
  cases b with
  | false => exact Ev.neg (by decide) (Ev.now _)
  | true =>
    refine Ev.pos rfl (Ev.ret ?_)
    rw [Bool.true_and]
    congr 1
    apply decide_eq_decide.2
    by_cases h : n = 0
    · subst h; rw [limbs_zero]; simp
    · have := limbs_length_pos h
      omega
/-- The same, the number told. -/
theorem made_of {b : Bool} {n : Nat} {z : Int} (h : sg b n = z) : Ev (fun k => bigint_made.f k b (limbs n)) (ng z, limbs z.natAbs) := by
  have e : n = z.natAbs := by rw [← h, sg_abs]
  subst e
  have := made_ev b z.natAbs
  rwa [h] at this
theorem iof_ev {n : Int} (h1 : -9223372036854775808 ≤ n) (h2 : n ≤ 9223372036854775807) : Ev (fun k => bigint_Of.f k n) (ng n, limbs n.natAbs) := by
  have one : ∀ m : Nat, m ≠ 0 → m < 18446744073709551616 → limbs m = [(m : Int)] := fun m h0 h => by
    rw [limbs_pos h0, Nat.div_eq_of_lt h, limbs_zero, Nat.mod_eq_of_lt h]
  refine Ev.congr (fun k => bigint_Of.f_eq ..) ?_
  unfold ng
  by_cases h : n < 0
  · refine Ev.pos h (Ev.ret ?_)
    rw [decide_eq_true h, one n.natAbs (by omega) (by omega)]
    congr 2
    rw [wu, wu]; omega
  · refine Ev.neg h ?_
    rw [decide_eq_false h]
    by_cases h0 : n = 0
    · refine Ev.pos h0 (Ev.ret ?_)
      rw [h0, show (0 : Int).natAbs = 0 from rfl, limbs_zero]
    · refine Ev.neg h0 (Ev.ret ?_)
      rw [one n.natAbs (by omega) (by omega)]
      congr 2
      rw [wu]; omega
theorem sg_not (z : Int) : sg (!ng z) z.natAbs = -z := by
  have := sg_ng z
  cases e : ng z with
  | true => rw [e] at this; simp only [sg] at this ⊢; simp at this ⊢; omega
  | false => rw [e] at this; simp only [sg] at this ⊢; simp at this ⊢; omega
theorem ineg_ev (z : Int) : Ev (fun k => bigint_Int_Neg.f k (ng z) (limbs z.natAbs)) (ng (-z), limbs (-z).natAbs) :=
  Ev.congr (fun k => bigint_Int_Neg.f_eq ..) (Ev.bind (made_of (sg_not z)) (Ev.now _))
theorem isign_ev (z : Int) : Ev (fun k => bigint_Int_Sign.f k (ng z) (limbs z.natAbs)) z.sign := by
  refine Ev.congr (fun k => bigint_Int_Sign.f_eq ..) ?_
  by_cases h : z < 0
  · exact Ev.pos (ng_true.2 h) (Ev.ret (Int.sign_eq_neg_one_of_neg h).symm)
  · refine Ev.neg (fun h2 => h (ng_true.1 h2)) ?_
    by_cases h0 : z = 0
    · subst h0
      rw [show (0 : Int).natAbs = 0 from rfl, limbs_zero]
      exact Ev.neg (by decide) (Ev.now _)
    · have hp := limbs_length_pos (show z.natAbs ≠ 0 by omega)
      exact Ev.pos (by omega) (Ev.ret (Int.sign_eq_one_of_pos (by omega)).symm)
theorem same_ng {x y : Int} : ng x = ng y ↔ (x < 0 ↔ y < 0) := by
  unfold ng
  rw [decide_eq_decide]
theorem sg_same {x y : Int} (h : ng x = ng y) : sg (ng x) (x.natAbs + y.natAbs) = x + y := by
  have h1 := same_ng.1 h
  unfold sg
  by_cases hx : x < 0
  · rw [if_pos (ng_true.2 hx)]; omega
  · rw [if_neg (fun e => hx (ng_true.1 e))]; omega
theorem sg_diff {x y : Int} (h : ng x ≠ ng y) (hle : y.natAbs ≤ x.natAbs) : sg (ng x) (x.natAbs - y.natAbs) = x + y := by
  have h1 : ¬ (x < 0 ↔ y < 0) := fun e => h (same_ng.2 e)
  unfold sg
  by_cases hx : x < 0
  · rw [if_pos (ng_true.2 hx)]; omega
  · rw [if_neg (fun e => hx (ng_true.1 e))]; omega
theorem iadd_ev {x y : Int} (lx : Sz 1000 x) (ly : Sz 1000 y) : Ev (fun k => bigint_Int_Add.f k (ng x) (limbs x.natAbs) (ng y) (limbs y.natAbs)) (ng (x + y), limbs (x + y).natAbs) := by
  refine Ev.congr (fun k => bigint_Int_Add.f_eq ..) ?_
  by_cases h : ng x = ng y
  · exact Ev.pos h (Ev.bind (addL lx ly) (Ev.bind (made_of (sg_same h)) (Ev.now _)))
  · have gc := cmp_ev (limbs_WF x.natAbs) (limbs_WF y.natAbs) (Nat.le_trans lx (by decide)) (Nat.le_trans ly (by decide))
    rw [nv_limbs, nv_limbs] at gc
    refine Ev.neg h (Ev.bind gc ?_)
    by_cases hlt : x.natAbs < y.natAbs
    · have gs := sub_ev (limbs_WF y.natAbs) (limbs_WF x.natAbs) ly lx
      rw [nv_limbs, nv_limbs, if_neg (by omega)] at gs
      have e := sg_diff (x := y) (y := x) (fun e => h e.symm) (by omega)
      rw [Int.add_comm] at e
      exact Ev.pos (cmpI_lt.2 hlt) (Ev.bind gs (Ev.bind (made_of e) (Ev.now _)))
    · have gs := sub_ev (limbs_WF x.natAbs) (limbs_WF y.natAbs) lx ly
      rw [nv_limbs, nv_limbs, if_neg (by omega)] at gs
      exact Ev.neg (fun e => hlt (cmpI_lt.1 e)) (Ev.bind gs (Ev.bind (made_of (sg_diff h (by omega))) (Ev.now _)))
theorem isub_ev {x y : Int} (lx : Sz 1000 x) (ly : Sz 1000 y) : Ev (fun k => bigint_Int_Sub.f k (ng x) (limbs x.natAbs) (ng y) (limbs y.natAbs)) (ng (x - y), limbs (x - y).natAbs) := by
  have g := iadd_ev lx ly.neg
  rw [← Int.sub_eq_add_neg] at g
  exact Ev.congr (fun k => bigint_Int_Sub.f_eq ..) (Ev.bind (ineg_ev y) (Ev.bind g (Ev.now _)))
/-- The sign of a product. -/
theorem sg_mul (x y : Int) : sg (!decide (ng x = ng y)) (x.natAbs * y.natAbs) = x * y := by
  have hx := sg_ng x; have hy := sg_ng y
  generalize x.natAbs = a at *
  generalize y.natAbs = b at *
  generalize ng x = p at *
  generalize ng y = q at *
  subst hx; subst hy
  cases p <;> cases q <;> simp [sg, Int.neg_mul, Int.mul_neg]
theorem imul_ev {x y : Int} (lx : Sz 1000 x) (ly : Sz 1000 y) : Ev (fun k => bigint_Int_Mul.f k (ng x) (limbs x.natAbs) (ng y) (limbs y.natAbs)) (ng (x * y), limbs (x * y).natAbs) :=
  Ev.congr (fun k => bigint_Int_Mul.f_eq ..) (Ev.bind (mulL lx ly) (Ev.bind (made_of (sg_mul x y)) (Ev.now _)))
/-- -1, 0 or 1. -/
def cmpZ (x y : Int) : Int := if x < y then -1 else if x = y then 0 else 1
theorem cmpZ_sub (x y : Int) : cmpZ x y = (x - y).sign := by
  unfold cmpZ
  by_cases h : x < y
  · rw [if_pos h, Int.sign_eq_neg_one_of_neg (by omega)]
  · rw [if_neg h]
    by_cases h2 : x = y
    · rw [if_pos h2, h2, Int.sub_self]; rfl
    · rw [if_neg h2, Int.sign_eq_one_of_pos (by omega)]
theorem cmpZ_same (x : Int) : cmpZ x x = 0 := by unfold cmpZ; rw [if_neg (by omega), if_pos rfl]
theorem cmp_pos {x y : Int} (hx : ¬ x < 0) (hy : ¬ y < 0) : cmpI x.natAbs y.natAbs = cmpZ x y := by
  unfold cmpI cmpZ
  by_cases h1 : x < y
  · rw [if_pos h1, if_pos (by omega)]
  · rw [if_neg h1, if_neg (by omega)]
    by_cases h2 : x = y
    · rw [if_pos h2, if_pos (by omega)]
    · rw [if_neg h2, if_neg (by omega)]
theorem cmp_neg {x y : Int} (hx : x < 0) (hy : y < 0) : cmpI y.natAbs x.natAbs = cmpZ x y := by
  unfold cmpI cmpZ
  by_cases h1 : x < y
  · rw [if_pos h1, if_pos (by omega)]
  · rw [if_neg h1, if_neg (by omega)]
    by_cases h2 : x = y
    · rw [if_pos h2, if_pos (by omega)]
    · rw [if_neg h2, if_neg (by omega)]
theorem icmp_ev {x y : Int} (lx : Sz 1000 x) (ly : Sz 1000 y) : Ev (fun k => bigint_Int_Cmp.f k (ng x) (limbs x.natAbs) (ng y) (limbs y.natAbs)) (cmpZ x y) := by
  have g1 := cmp_ev (limbs_WF x.natAbs) (limbs_WF y.natAbs) (Nat.le_trans lx (by decide)) (Nat.le_trans ly (by decide))
  have g2 := cmp_ev (limbs_WF y.natAbs) (limbs_WF x.natAbs) (Nat.le_trans ly (by decide)) (Nat.le_trans lx (by decide))
  rw [nv_limbs, nv_limbs] at g1 g2
  refine Ev.congr (fun k => bigint_Int_Cmp.f_eq ..) ?_
  by_cases hx : x < 0
  · have nx := ng_true.2 hx
    refine Ev.pos nx ?_
    by_cases hy : y < 0
    · rw [cmp_neg hx hy] at g2
      exact Ev.pos (ng_true.2 hy) (Ev.bind g2 (Ev.now _))
    · have ny : ¬ ng y = true := fun e => hy (ng_true.1 e)
      exact Ev.neg ny (Ev.pos nx (Ev.ret (if_pos (by omega)).symm))
  · have nx : ¬ ng x = true := fun e => hx (ng_true.1 e)
    refine Ev.neg nx (Ev.neg nx ?_)
    by_cases hy : y < 0
    · refine Ev.pos (ng_true.2 hy) (Ev.ret ?_)
      rw [cmpZ, if_neg (by omega), if_neg (by omega)]
    · have ny : ¬ ng y = true := fun e => hy (ng_true.1 e)
      rw [cmp_pos hx hy] at g1
      exact Ev.neg ny (Ev.bind g1 (Ev.now _))
theorem ifrom_ev {b : Bool} {l : List Int} (hw : WF l) (hl : l.length ≤ 1000) : Ev (fun k => bigint_From.f k b l) (ng (sg b (nv l)), limbs (sg b (nv l)).natAbs) :=
  Ev.congr (fun k => bigint_From.f_eq ..) (Ev.bind (norm_ev hw (Nat.le_trans hl (by decide))) (Ev.bind (made_of rfl) (Ev.now _)))
theorem inat_ev {z : Int} (h : Sz 1000 z) : Ev (fun k => bigint_Int_Nat.f k (ng z) (limbs z.natAbs)) (limbs z.natAbs) := by
  have g := norm_ev (limbs_WF z.natAbs) (Nat.le_trans h (by decide))
  rw [nv_limbs] at g
  exact Ev.congr (fun k => bigint_Int_Nat.f_eq ..) (Ev.bind g (Ev.now _))
theorem ibits_ev {z : Int} (h : Sz 1000 z) : Ev (fun k => bigint_Int_Bits.f k (ng z) (limbs z.natAbs)) ((bits z.natAbs : Nat) : Int) := by
  have g := natbits_ev (limbs_WF z.natAbs) (Nat.le_trans h (by decide))
  rw [nv_limbs] at g
  exact Ev.congr (fun k => bigint_Int_Bits.f_eq ..) (Ev.bind g (Ev.now _))
/-! ### quotients -/
theorem natAbs_tdiv (x y : Int) : sg (!decide (ng x = ng y)) (x.natAbs / y.natAbs) = Int.tdiv x y := by
  have hx := sg_ng x; have hy := sg_ng y
  generalize x.natAbs = a at *
  generalize y.natAbs = b at *
  generalize ng x = p at *
  generalize ng y = q at *
  subst hx; subst hy
  have e : Int.tdiv (a : Int) (b : Int) = ((a / b : Nat) : Int) := rfl
  cases p <;> cases q <;> simp [sg, Int.neg_tdiv, Int.tdiv_neg, e]
theorem natAbs_tmod (x y : Int) : sg (ng x) (x.natAbs % y.natAbs) = Int.tmod x y := by
  have hx := sg_ng x; have hy := sg_ng y
  generalize x.natAbs = a at *
  generalize y.natAbs = b at *
  generalize ng x = p at *
  generalize ng y = q at *
  subst hx; subst hy
  have e : Int.tmod (a : Int) (b : Int) = ((a % b : Nat) : Int) := rfl
  cases p <;> cases q <;> simp [sg, Int.neg_tmod, Int.tmod_neg, e]
theorem iqr_zero {x y : Int} (lx : Sz 1000 x) (ly : Sz 1000 y) (h : y = 0) : Ev (fun k => bigint_Int_QuoRem.f k (ng x) (limbs x.natAbs) (ng y) (limbs y.natAbs)) (false, [], false, [], 10) := by
  have g := dm_zero (limbs_WF x.natAbs) (limbs_WF y.natAbs) (Nat.le_trans lx (by decide)) (Nat.le_trans ly (by decide)) (by rw [nv_limbs, h]; rfl)
  exact Ev.congr (fun k => bigint_Int_QuoRem.f_eq ..) (Ev.bind g (Ev.neg (by decide) (Ev.now _)))
theorem iqr_ev {x y : Int} (lx : Sz 1000 x) (ly : Sz 1000 y) (h : y ≠ 0) : Ev (fun k => bigint_Int_QuoRem.f k (ng x) (limbs x.natAbs) (ng y) (limbs y.natAbs)) (ng (Int.tdiv x y), limbs (Int.tdiv x y).natAbs, ng (Int.tmod x y), limbs (Int.tmod x y).natAbs, 0) := by
  have g := dm_ev (limbs_WF x.natAbs) (limbs_WF y.natAbs) (Nat.le_trans lx (by decide)) (Nat.le_trans ly (by decide)) (by rw [nv_limbs]; omega)
  rw [nv_limbs, nv_limbs] at g
  exact Ev.congr (fun k => bigint_Int_QuoRem.f_eq ..) (Ev.bind g (Ev.pos rfl (Ev.bind (made_of (natAbs_tdiv x y)) (Ev.bind (made_of (natAbs_tmod x y)) (Ev.now _)))))
theorem Sz.tdiv {p : Nat} {x : Int} (y : Int) (h : Sz p x) : Sz p (Int.tdiv x y) := h.mono (by
  rw [← natAbs_tdiv, sg_abs]; exact Nat.div_le_self _ _)
theorem Sz.tmod {p : Nat} {x y : Int} (hy : Sz p y) (h : y ≠ 0) : Sz p (Int.tmod x y) := hy.mono (by
  rw [← natAbs_tmod, sg_abs]; exact Nat.le_of_lt (Nat.mod_lt _ (by omega)))
/-- Downwards: what is taken off the quotient towards 0. -/
def adj (x y : Int) : Int := if (Int.tmod x y).sign * y.sign < 0 then 1 else 0
def qd (x y : Int) : Int := Int.tdiv x y - adj x y
def rd' (x y : Int) : Int := Int.tmod x y + adj x y * y
theorem qd_eq (x y : Int) : qd x y * y + rd' x y = x := by
  unfold qd rd'
  have := Int.tdiv_mul_add_tmod x y
  generalize Int.tdiv x y = q at *
  generalize Int.tmod x y = r at *
  generalize adj x y = t
  grind
theorem sign_prod (r y : Int) : wrap64 (r.sign * y.sign) = r.sign * y.sign := by
  have : r.sign = -1 ∨ r.sign = 0 ∨ r.sign = 1 := by rcases Int.lt_trichotomy r 0 with h | h | h <;> simp [Int.sign_eq_neg_one_of_neg, Int.sign_eq_one_of_pos, h]
  have : y.sign = -1 ∨ y.sign = 0 ∨ y.sign = 1 := by rcases Int.lt_trichotomy y 0 with h | h | h <;> simp [Int.sign_eq_neg_one_of_neg, Int.sign_eq_one_of_pos, h]
  rcases ‹r.sign = -1 ∨ _› with h | h | h <;> rcases ‹y.sign = -1 ∨ _› with h2 | h2 | h2 <;> rw [h, h2] <;> exact w64_of (by decide) (by decide)
theorem Sz.one {p : Nat} (hp : 1 ≤ p) : Sz p 1 := Sz.of (by
  have : 18446744073709551616 ^ 1 ≤ 18446744073709551616 ^ p := Nat.pow_le_pow_right (by decide) hp
  have : (1 : Int).natAbs = 1 := rfl
  omega)
theorem idm_zero {x y : Int} (lx : Sz 1000 x) (ly : Sz 1000 y) (h : y = 0) : Ev (fun k => bigint_Int_DivMod.f k (ng x) (limbs x.natAbs) (ng y) (limbs y.natAbs)) (false, [], false, [], 10) := by
  have s0 : Ev (fun k => bigint_Int_Sign.f k false []) 0 := by
    have := isign_ev 0
    rwa [show ng 0 = false from rfl, show (0 : Int).natAbs = 0 from rfl, limbs_zero] at this
  have s1 := isign_ev y
  refine Ev.congr (fun k => bigint_Int_DivMod.f_eq ..) (Ev.bind (iqr_zero lx ly h) (Ev.bind s0 (Ev.bind s1 ?_)))
  rw [h]
  exact Ev.neg (by rw [Int.zero_mul, w64_of (by decide) (by decide)]; decide) (Ev.now _)
theorem idm_ev {x y : Int} (lx : Sz 990 x) (ly : Sz 990 y) (h : y ≠ 0) : Ev (fun k => bigint_Int_DivMod.f k (ng x) (limbs x.natAbs) (ng y) (limbs y.natAbs)) (ng (qd x y), limbs (qd x y).natAbs, ng (rd' x y), limbs (rd' x y).natAbs, 0) := by
  have lx' := lx.up (show 990 ≤ 1000 by decide)
  have ly' := ly.up (show 990 ≤ 1000 by decide)
  refine Ev.congr (fun k => bigint_Int_DivMod.f_eq ..) (Ev.bind (iqr_ev lx' ly' h) (Ev.bind (isign_ev _) (Ev.bind (isign_ev _) ?_)))
  rw [sign_prod]
  by_cases hs : (Int.tmod x y).sign * y.sign < 0
  · have e : adj x y = 1 := if_pos hs
    have g1 := isub_ev (lx'.tdiv y) (Sz.one (p := 1000) (by decide))
    have g2 := iadd_ev ((ly'.tmod (x := x) h)) ly'
    have e1 : qd x y = Int.tdiv x y - 1 := by unfold qd; rw [e]
    have e2 : rd' x y = Int.tmod x y + y := by unfold rd'; rw [e, Int.one_mul]
    rw [e1, e2]
    exact Ev.pos hs (Ev.bind (iof_ev (by decide) (by decide)) (Ev.bind g1 (Ev.bind g2 (Ev.now _))))
  · have e : adj x y = 0 := if_neg hs
    have e1 : qd x y = Int.tdiv x y := by unfold qd; rw [e, Int.sub_zero]
    have e2 : rd' x y = Int.tmod x y := by unfold rd'; rw [e, Int.zero_mul, Int.add_zero]
    rw [e1, e2]
    exact Ev.neg hs (Ev.now _)
theorem iexact_zero {x y : Int} (lx : Sz 1000 x) (ly : Sz 1000 y) (h : y = 0) : Ev (fun k => bigint_Int_Exact.f k (ng x) (limbs x.natAbs) (ng y) (limbs y.natAbs)) (false, [], 10) :=
  Ev.congr (fun k => bigint_Int_Exact.f_eq ..) (Ev.bind (iqr_zero lx ly h) (Ev.neg (by decide) (Ev.now _)))
theorem iexact_ev {x y : Int} (lx : Sz 1000 x) (ly : Sz 1000 y) (h : y ≠ 0) : Ev (fun k => bigint_Int_Exact.f k (ng x) (limbs x.natAbs) (ng y) (limbs y.natAbs)) (if Int.tmod x y = 0 then (ng (Int.tdiv x y), limbs (Int.tdiv x y).natAbs, 0) else (false, [], 11)) := by
  refine Ev.congr (fun k => bigint_Int_Exact.f_eq ..) (Ev.bind (iqr_ev lx ly h) (Ev.pos rfl (Ev.bind (isign_ev _) ?_)))
  by_cases h0 : Int.tmod x y = 0
  · rw [if_pos h0]; exact Ev.pos (Int.sign_eq_zero_iff_zero.2 h0) (Ev.now _)
  · rw [if_neg h0]; exact Ev.neg (fun e => h0 (Int.sign_eq_zero_iff_zero.1 e)) (Ev.now _)
theorem imod_zero {z : Int} : Ev (fun k => bigint_Int_Mod.f k (ng z) (limbs z.natAbs) 0) (0, 10) := by
  refine Ev.congr (fun k => bigint_Int_Mod.f_eq ..) (Ev.bind (divw_zero _) ?_)
  by_cases h : ng z = true
  · exact Ev.pos h (Ev.neg (by decide) (Ev.now _))
  · exact Ev.neg h (Ev.now _)
theorem imod_ev {z : Int} {w : Nat} (lz : Sz 1000 z) (h0 : 0 < w) (hw : w < 18446744073709551616) : Ev (fun k => bigint_Int_Mod.f k (ng z) (limbs z.natAbs) (w : Int)) (z % (w : Int), 0) := by
  have g := divw_ev (limbs_WF z.natAbs) (Nat.le_trans lz (by decide)) h0 hw
  rw [nv_limbs] at g
  have hm := Nat.mod_lt z.natAbs h0
  refine Ev.congr (fun k => bigint_Int_Mod.f_eq ..) (Ev.bind g ?_)
  dsimp only
  by_cases h : z < 0
  · have hz : z = -(z.natAbs : Int) := by omega
    have e1 := Int.mul_ediv_add_emod z (w : Int)
    have e2 := Int.emod_nonneg z (show (w : Int) ≠ 0 by omega)
    have e3 := Int.emod_lt_of_pos z (show (0 : Int) < (w : Int) by omega)
    have e4 := Nat.div_add_mod z.natAbs w
    have e5 : z % (w : Int) = (-((z.natAbs % w : Nat) : Int)) % (w : Int) := by
      have : z = -((z.natAbs % w : Nat) : Int) + (w : Int) * (-((z.natAbs / w : Nat) : Int)) := by
        have e6 : (z.natAbs : Int) = (w : Int) * ((z.natAbs / w : Nat) : Int) + ((z.natAbs % w : Nat) : Int) := by rw [← Int.natCast_mul, ← Int.natCast_add, e4]
        rw [Int.mul_neg]; omega
      rw [this, Int.add_mul_emod_self_left]
      congr 1
      rw [← this]
    refine Ev.pos (ng_true.2 h) ?_
    by_cases hl : ((z.natAbs % w : Nat) : Int) > 0
    · refine Ev.pos hl (Ev.ret ?_)
      have e7 : IntKind.u64.wrap ((w : Int) - ((z.natAbs % w : Nat) : Int)) = (w : Int) - ((z.natAbs % w : Nat) : Int) := wu_of ⟨by omega, by omega⟩
      rw [e7, e5]
      congr 1
      rw [← Int.add_emod_right, Int.emod_eq_of_lt (by omega) (by omega)]; omega
    · refine Ev.neg hl (Ev.ret ?_)
      rw [e5, show ((z.natAbs % w : Nat) : Int) = 0 by omega]; simp
  · have hz : z = (z.natAbs : Int) := by omega
    refine Ev.neg (fun e => h (ng_true.1 e)) (Ev.ret ?_)
    have e5 : z % (w : Int) = ((z.natAbs % w : Nat) : Int) := by rw [Int.natCast_emod, ← hz]
    rw [e5]
end Go.Proofs.Yteoeacndpgomaaa.Pure
end
section
/-
  The reference's whole numbers (vinculumref02): a sign and decimal digits. Condition: no number has more than 1000 words.
-/
namespace Go.Proofs.Yteoeacndpgomaaa.Pure
open Go.RowKit Go.Proofs.Yteoeacndpgomaaa.F Go.Proofs.YteoeacndpgomaaaW.PrintWords Go.Proofs.YteoeacndpgomaaaW.PrintLast Go.Proofs.YteoeacndpgomaaaW.PrintMore
open Go.Proofs.Yteoeacndpgomaaa.E (tEq tLt tApp tCut)
set_option linter.unusedVariables false
set_option linter.unusedSimpArgs false
theorem Sz.ds {p : Nat} {z : Int} (h : Sz p z) : (ds z.natAbs).length ≤ 20 * p + 1 := by
  have := ds_length_limbs (limbs_WF z.natAbs)
  rw [nv_limbs] at this
  unfold Sz at h
  omega
theorem tEq_dec (n m : Nat) : tEq (dec n) (dec m) = true ↔ n = m := by
  unfold dec
  rw [tEq_tx, decide_eq_true_iff]
  exact ⟨fun h => ds_inj h, fun h => by rw [h]⟩
theorem zmade_of {b : Bool} {n : Nat} {z : Int} (h : sg b n = z) : Ev (fun k => vinculumref02_made.f k b (dec n)) (ng z, dec z.natAbs) := by
  refine Ev.congr (fun k => vinculumref02_made.f_eq ..) ?_
  rw [mk_48, ← dec_zero, show z.natAbs = n by rw [← h, sg_abs], ← h, ng_sg]
  cases b with
  | false => exact Ev.neg (by decide) (Ev.now _)
  | true =>
    refine Ev.pos rfl (Ev.ret ?_)
    rw [Bool.true_and]
    congr 1
    by_cases h0 : n = 0
    · rw [decide_eq_true ((tEq_dec _ _).2 h0), decide_eq_false (by omega)]; rfl
    · rw [decide_eq_false (fun e => h0 ((tEq_dec _ _).1 e)), decide_eq_true (by omega)]; rfl
theorem zof_ev {b : Bool} {l : List Int} (hw : WF l) (hl : l.length ≤ 1000) : Ev (fun k => vinculumref02_Of.f k b l) (ng (sg b (nv l)), dec (sg b (nv l)).natAbs) :=
  Ev.congr (fun k => vinculumref02_Of.f_eq ..) (Ev.bind (ref_of hw hl) (Ev.bind (zmade_of rfl) (Ev.now _)))
theorem zneg_ev (z : Int) : Ev (fun k => vinculumref02_Neg.f k (ng z) (dec z.natAbs)) (ng (-z), dec (-z).natAbs) :=
  Ev.congr (fun k => vinculumref02_Neg.f_eq ..) (Ev.bind (zmade_of (sg_not z)) (Ev.now _))
theorem cmpI_ge {a b : Nat} : cmpI a b ≥ 0 ↔ b ≤ a := by
  constructor
  · intro h; exact Nat.le_of_not_lt fun h2 => (cmpI_neg.2 h2) h
  · intro h; exact Decidable.not_not.1 fun h2 => by have := cmpI_neg.1 h2; omega
theorem zadd_ev {x y : Int} (lx : Sz 1000 x) (ly : Sz 1000 y) : Ev (fun k => vinculumref02_Add.f k (ng x) (dec x.natAbs) (ng y) (dec y.natAbs)) (ng (x + y), dec (x + y).natAbs) := by
  have dx := lx.ds; have dy := ly.ds
  refine Ev.congr (fun k => vinculumref02_Add.f_eq ..) ?_
  by_cases h : ng x = ng y
  · exact Ev.pos h (Ev.bind (ref_add (by omega) (by omega)) (Ev.bind (zmade_of (sg_same h)) (Ev.now _)))
  · refine Ev.neg h (Ev.bind (ref_cmp _ _) ?_)
    by_cases hge : y.natAbs ≤ x.natAbs
    · exact Ev.pos (cmpI_ge.2 hge) (Ev.bind (ref_sub hge (by omega)) (Ev.bind (zmade_of (sg_diff h hge)) (Ev.now _)))
    · have e := sg_diff (x := y) (y := x) (fun e => h e.symm) (by omega)
      rw [Int.add_comm] at e
      exact Ev.neg (fun e => hge (cmpI_ge.1 e)) (Ev.bind (ref_sub (by omega) (by omega)) (Ev.bind (zmade_of e) (Ev.now _)))
theorem zsub_ev {x y : Int} (lx : Sz 1000 x) (ly : Sz 1000 y) : Ev (fun k => vinculumref02_Sub.f k (ng x) (dec x.natAbs) (ng y) (dec y.natAbs)) (ng (x - y), dec (x - y).natAbs) := by
  have g := zadd_ev lx ly.neg
  rw [← Int.sub_eq_add_neg] at g
  exact Ev.congr (fun k => vinculumref02_Sub.f_eq ..) (Ev.bind (zneg_ev y) (Ev.bind g (Ev.now _)))
theorem zmul_ev {x y : Int} (lx : Sz 1000 x) (ly : Sz 1000 y) : Ev (fun k => vinculumref02_Mul.f k (ng x) (dec x.natAbs) (ng y) (dec y.natAbs)) (ng (x * y), dec (x * y).natAbs) := by
  have dx := lx.ds; have dy := ly.ds
  exact Ev.congr (fun k => vinculumref02_Mul.f_eq ..) (Ev.bind (ref_mul (by omega) (by omega)) (Ev.bind (zmade_of (sg_mul x y)) (Ev.now _)))
theorem zsign_ev (z : Int) : Ev (fun k => vinculumref02_Sign.f k (ng z) (dec z.natAbs)) z.sign := by
  refine Ev.congr (fun k => vinculumref02_Sign.f_eq ..) ?_
  rw [mk_48, ← dec_zero]
  by_cases h0 : z = 0
  · subst h0
    exact Ev.pos ((tEq_dec _ _).2 rfl) (Ev.now _)
  · refine Ev.neg (fun e => h0 (by have := (tEq_dec _ _).1 e; omega)) ?_
    by_cases h : z < 0
    · exact Ev.pos (ng_true.2 h) (Ev.ret (Int.sign_eq_neg_one_of_neg h).symm)
    · exact Ev.neg (fun e => h (ng_true.1 e)) (Ev.ret (Int.sign_eq_one_of_pos (by omega)).symm)
theorem zcmp_ev {x y : Int} (lx : Sz 1000 x) (ly : Sz 1000 y) : Ev (fun k => vinculumref02_Cmp.f k (ng x) (dec x.natAbs) (ng y) (dec y.natAbs)) (cmpZ x y) := by
  rw [cmpZ_sub]
  exact Ev.congr (fun k => vinculumref02_Cmp.f_eq ..) (Ev.bind (zsub_ev lx ly) (Ev.bind (zsign_ev _) (Ev.now _)))
theorem zqr_ev {x y : Int} (lx : Sz 1000 x) (ly : Sz 1000 y) (h : y ≠ 0) : Ev (fun k => vinculumref02_QuoRem.f k (ng x) (dec x.natAbs) (ng y) (dec y.natAbs)) (ng (Int.tdiv x y), dec (Int.tdiv x y).natAbs, ng (Int.tmod x y), dec (Int.tmod x y).natAbs) := by
  have dx := lx.ds; have dy := ly.ds
  exact Ev.congr (fun k => vinculumref02_QuoRem.f_eq ..) (Ev.bind (ref_divmod (by omega) (by omega) (by omega)) (Ev.bind (zmade_of (natAbs_tdiv x y)) (Ev.bind (zmade_of (natAbs_tmod x y)) (Ev.now _))))
theorem sign3 (z : Int) : z.sign = -1 ∨ z.sign = 0 ∨ z.sign = 1 := by
  rcases Int.lt_trichotomy z 0 with h | h | h <;> simp [Int.sign_eq_neg_one_of_neg, Int.sign_eq_one_of_pos, h]
theorem zdm_ev {x y : Int} (lx : Sz 990 x) (ly : Sz 990 y) (h : y ≠ 0) : Ev (fun k => vinculumref02_DivMod.f k (ng x) (dec x.natAbs) (ng y) (dec y.natAbs)) (ng (qd x y), dec (qd x y).natAbs, ng (rd' x y), dec (rd' x y).natAbs) := by
  have lx' := lx.up (show 990 ≤ 1000 by decide)
  have ly' := ly.up (show 990 ≤ 1000 by decide)
  refine Ev.congr (fun k => vinculumref02_DivMod.f_eq ..) (Ev.bind (zqr_ev lx' ly' h) (Ev.bind (zsign_ev _) ?_))
  have hy : y.sign = -1 ∨ y.sign = 1 := by
    rcases sign3 y with e | e | e
    · exact .inl e
    · exact absurd (Int.sign_eq_zero_iff_zero.1 e) h
    · exact .inr e
  have keep : ¬ (Int.tmod x y).sign * y.sign < 0 → qd x y = Int.tdiv x y ∧ rd' x y = Int.tmod x y := fun hs => by
    have e : adj x y = 0 := if_neg hs
    unfold qd rd'
    rw [e, Int.sub_zero, Int.zero_mul, Int.add_zero]
    exact ⟨rfl, rfl⟩
  by_cases h0 : (Int.tmod x y).sign = 0
  · obtain ⟨e1, e2⟩ := keep (by rw [h0, Int.zero_mul]; decide)
    rw [e1, e2]
    exact Ev.pos h0 (Ev.now _)
  · refine Ev.neg h0 (Ev.bind (zsign_ev _) (Ev.bind (zsign_ev _) ?_))
    by_cases hs : (Int.tmod x y).sign = y.sign
    · obtain ⟨e1, e2⟩ := keep (by rw [hs]; rcases hy with e | e <;> rw [e] <;> decide)
      rw [e1, e2]
      exact Ev.pos hs (Ev.now _)
    · have hlt : (Int.tmod x y).sign * y.sign < 0 := by
        rcases sign3 (Int.tmod x y) with e | e | e <;> rcases hy with e2 | e2 <;> rw [e, e2] <;> first | decide | exact absurd e h0 | (rw [e, e2] at hs; exact absurd rfl hs)
      have e : adj x y = 1 := if_pos hlt
      have g1 := zsub_ev (lx'.tdiv y) (Sz.one (p := 1000) (by decide))
      have g2 := zadd_ev (ly'.tmod (x := x) h) ly'
      have e1 : qd x y = Int.tdiv x y - 1 := by unfold qd; rw [e]
      have e2 : rd' x y = Int.tmod x y + y := by unfold rd'; rw [e, Int.one_mul]
      rw [e1, e2]
      rw [show ng 1 = false from rfl, show (1 : Int).natAbs = 1 from rfl, dec_one] at g1
      exact Ev.neg hs (Ev.bind g1 (Ev.bind g2 (Ev.now _)))
/-! ### texts -/
/-- A number's text. -/
def ztx (z : Int) : ByteArray := if z < 0 then tx (45 :: ds z.natAbs) else dec z.natAbs
theorem neg_text {z : Int} (h : z < 0) : tApp (tx [45]) (dec z.natAbs) = ztx z := by
  unfold ztx dec
  rw [if_pos h, tApp_tx]; rfl
theorem iprint_ev {z : Int} (h : Sz 1000 z) : Ev (fun k => bigint_Int_Print.f k (ng z) (limbs z.natAbs)) (ztx z) := by
  have g := print_ev (limbs_WF z.natAbs) h
  rw [nv_limbs] at g
  have hd := h.ds
  refine Ev.congr (fun k => bigint_Int_Print.f_eq ..) (Ev.bind g ?_)
  by_cases hz : z < 0
  · refine Ev.pos (ng_true.2 hz) (Ev.pos ?_ (Ev.ret ?_))
    · rw [dec_size, mk_45, tx_size]; simp; omega
    · rw [mk_45]; exact neg_text hz
  · refine Ev.neg (fun e => hz (ng_true.1 e)) (Ev.ret ?_)
    unfold ztx; rw [if_neg hz]
theorem zprint_ev {z : Int} (h : Sz 1000 z) : Ev (fun k => vinculumref02_Print.f k (ng z) (dec z.natAbs)) (ztx z) := by
  have hd := h.ds
  refine Ev.congr (fun k => vinculumref02_Print.f_eq ..) ?_
  by_cases hz : z < 0
  · refine Ev.pos (ng_true.2 hz) (Ev.pos ?_ (Ev.ret ?_))
    · rw [dec_size, mk_45, tx_size]; simp; omega
    · rw [mk_45]; exact neg_text hz
  · refine Ev.neg (fun e => hz (ng_true.1 e)) (Ev.ret ?_)
    unfold ztx; rw [if_neg hz]
theorem tEq_same (b : ByteArray) : tEq b b = true := by rw [← tx_eta b]; exact tEq_yes rfl
/-! ### texts parsed -/
instance (l : List UInt8) : Decidable (Fine l) := by unfold Fine; infer_instance
theorem code_fine {l : List UInt8} (hl : l.length ≤ 20000) : code l = if Fine l then 0 else 16 := by
  unfold code
  by_cases h : Fine l
  · rw [if_pos h, if_neg, if_neg (by omega)]
    rintro (h1 | h1 | h1)
    · exact h.1 h1
    · rcases h.2.2 with h2 | h2
      · rw [h2] at h1; simp at h1
      · exact h2 h1.2
    · exact h1 h.2.1
  · rw [if_neg h, if_pos]
    by_cases h0 : l = []
    · exact .inl h0
    · by_cases hd : DS l
      · refine .inr (.inl ⟨?_, Decidable.not_not.1 fun h2 => h ⟨h0, hd, .inr h2⟩⟩)
        have hp : 0 < l.length := List.length_pos_iff.2 h0
        by_cases h1 : l.length = 1
        · exfalso
          have h2 : l.head? = some 48 := Decidable.not_not.1 fun h2 => h ⟨h0, hd, .inr h2⟩
          match l, h1, h2 with
          | [x], _, h2 =>
            rw [List.head?_cons] at h2
            exact h ⟨h0, hd, .inl (by rw [Option.some.inj h2])⟩
        · omega
      · exact .inr (.inr hd)
end Go.Proofs.Yteoeacndpgomaaa.Pure
end
section
/-
  What vinculumlaw02's Few, Of, Plain, Is compute; small numbers; quotients downwards.
-/
namespace Go.Proofs.Yteoeacndpgomaaa.Pure
open Go.RowKit Go.Proofs.Yteoeacndpgomaaa.F Go.Proofs.YteoeacndpgomaaaW.PrintWords Go.Proofs.YteoeacndpgomaaaW.PrintLast Go.Proofs.YteoeacndpgomaaaW.PrintMore
open Go.Proofs.Yteoeacndpgomaaa.E (tEq tLt tApp tCut)
set_option linter.unusedVariables false
set_option linter.unusedSimpArgs false
theorem sz_small {z : Int} (h1 : -9223372036854775808 ≤ z) (h2 : z ≤ 9223372036854775807) : Sz 1 z := Sz.of (by rw [Nat.pow_one]; omega)
theorem ztx_nat (n : Nat) : ztx (n : Int) = dec n := by
  unfold ztx
  rw [if_neg (by omega), Int.natAbs_natCast]
theorem ztx_neg1 {n : Nat} (h0 : 0 < n) (h : n < 10) : ztx (-(n : Int)) = tx [45, dg n] := by
  unfold ztx
  rw [if_pos (by omega), Int.natAbs_neg, Int.natAbs_natCast, ds_small h]
/-! ### helpers -/
theorem few_yes {b : Bool} {l : List Int} (h : l.length ≤ 8) : Ev (fun k => vinculumlaw02_Few.f k b l) true := Ev.congr (fun k => vinculumlaw02_Few.f_eq ..) (Ev.ret (decide_eq_true (by omega)))
theorem few_no {b : Bool} {l : List Int} (h : ¬ l.length ≤ 8) : Ev (fun k => vinculumlaw02_Few.f k b l) false := Ev.congr (fun k => vinculumlaw02_Few.f_eq ..) (Ev.ret (decide_eq_false (by omega)))
theorem sz_of {b : Bool} {l : List Int} {p : Nat} (hw : WF l) (h : l.length ≤ p) : Sz p (sg b (nv l)) := Sz.of (by rw [sg_abs]; exact pow_up (nv_lt hw) h)
theorem of_ev {b : Bool} {l : List Int} (hw : WF l) (hl : l.length ≤ 1000) : Ev (fun k => vinculumlaw02_Of.f k b l) (ng (sg b (nv l)), limbs (sg b (nv l)).natAbs) := Ev.congr (fun k => vinculumlaw02_Of.f_eq ..) (Ev.bind (ifrom_ev hw hl) (Ev.now _))
theorem plain_ev {b : Bool} {l : List Int} (hw : WF l) (hl : l.length ≤ 1000) : Ev (fun k => vinculumlaw02_Plain.f k b l) (ng (sg b (nv l)), dec (sg b (nv l)).natAbs) := Ev.congr (fun k => vinculumlaw02_Plain.f_eq ..) (Ev.bind (zof_ev hw hl) (Ev.now _))
theorem is_ev {z : Int} (h : Sz 1000 z) : Ev (fun k => vinculumlaw02_Is.f k (ng z) (limbs z.natAbs) (ng z) (dec z.natAbs)) true := Ev.congr (fun k => vinculumlaw02_Is.f_eq ..) (Ev.bind (iprint_ev h) (Ev.bind (zprint_ev h) (Ev.ret (decide_eq_true (tEq_same _)))))
theorem icmp_eq {x y : Int} (h : x = y) (lx : Sz 1000 x) : Ev (fun k => bigint_Int_Cmp.f k (ng x) (limbs x.natAbs) (ng y) (limbs y.natAbs)) 0 := by
  subst h
  have := icmp_ev lx lx
  rwa [cmpZ_same] at this
theorem tmod_sign {x y : Int} (h : Int.tmod x y ≠ 0) : (Int.tmod x y).sign = x.sign := by
  have e := natAbs_tmod x y
  unfold sg at e
  by_cases hx : x < 0
  · rw [if_pos (ng_true.2 hx)] at e
    rw [Int.sign_eq_neg_one_of_neg hx, Int.sign_eq_neg_one_of_neg (by omega)]
  · rw [if_neg (fun e => hx (ng_true.1 e))] at e
    have hx0 : x ≠ 0 := fun e => h (by rw [e, Int.zero_tmod])
    rw [Int.sign_eq_one_of_pos (by omega), Int.sign_eq_one_of_pos (by omega)]
theorem tmod_lt' {x y : Int} (h : y ≠ 0) : (Int.tmod x y).natAbs < y.natAbs := by
  rw [← natAbs_tmod, sg_abs]
  exact Nat.mod_lt _ (by omega)
theorem rd'_props {x y : Int} (h : y ≠ 0) : (rd' x y).natAbs < y.natAbs ∧ ((rd' x y).sign ≠ 0 → (rd' x y).sign = y.sign) := by
  have hlt := tmod_lt' (x := x) h
  unfold rd' adj
  generalize Int.tmod x y = r at *
  have sn : ∀ z : Int, z < 0 → z.sign = -1 := fun z h => Int.sign_eq_neg_one_of_neg h
  have sp : ∀ z : Int, 0 < z → z.sign = 1 := fun z h => Int.sign_eq_one_of_pos h
  rcases Int.lt_trichotomy r 0 with hr | hr | hr <;> rcases Int.lt_trichotomy y 0 with hy | hy | hy
  · rw [sn r hr, sn y hy, if_neg (by decide), Int.zero_mul, Int.add_zero]; exact ⟨hlt, fun _ => sn r hr⟩
  · exact absurd hy h
  · rw [sn r hr, sp y hy, if_pos (by decide), Int.one_mul]; exact ⟨by omega, fun _ => sp _ (by omega)⟩
  · subst hr; rw [Int.sign_zero, Int.zero_mul, if_neg (by decide), Int.zero_mul, Int.add_zero]; exact ⟨hlt, fun h => absurd rfl h⟩
  · exact absurd hy h
  · subst hr; rw [Int.sign_zero, Int.zero_mul, if_neg (by decide), Int.zero_mul, Int.add_zero]; exact ⟨hlt, fun h => absurd rfl h⟩
  · rw [sp r hr, sn y hy, if_pos (by decide), Int.one_mul]; exact ⟨by omega, fun _ => sn _ (by omega)⟩
  · exact absurd hy h
  · rw [sp r hr, sp y hy, if_neg (by decide), Int.zero_mul, Int.add_zero]; exact ⟨hlt, fun _ => sp r hr⟩
theorem rd'_word {x : Int} {w : Nat} (h : 0 < w) : rd' x (w : Int) = x % (w : Int) := by
  obtain ⟨h1, h2⟩ := rd'_props (x := x) (y := (w : Int)) (by omega)
  have h3 := qd_eq x (w : Int)
  have h4 : 0 ≤ rd' x (w : Int) := by
    apply Classical.byContradiction
    intro hn
    have e : (rd' x (w : Int)).sign = -1 := Int.sign_eq_neg_one_of_neg (by omega)
    have := h2 (by rw [e]; decide)
    rw [e, Int.sign_eq_one_of_pos (by omega)] at this
    exact absurd this (by decide)
  generalize rd' x (w : Int) = r at *
  generalize qd x (w : Int) = q at *
  rw [← h3, Int.add_comm, Int.mul_comm, Int.add_mul_emod_self_left]
  exact (Int.emod_eq_of_lt h4 (by omega)).symm
theorem ng_zero : ng 0 = false := rfl
theorem isign_zero : Ev (fun k => bigint_Int_Sign.f k false []) 0 := by
  have := isign_ev 0
  rwa [ng_zero, show (0 : Int).natAbs = 0 from rfl, limbs_zero] at this
theorem zword_ev {x : Int} {w : Nat} (lx : Sz 990 x) (h0 : 0 < w) (hw : w < 18446744073709551616) : Ev (fun k => vinculumref02_DivMod.f k (ng x) (dec x.natAbs) false (dec w)) (ng (qd x w), dec (qd x w).natAbs, ng (x % (w : Int)), dec (x % (w : Int)).natAbs) := by
  have := zdm_ev (x := x) (y := (w : Int)) lx (Sz.up (p := 1) (Sz.of (by rw [Nat.pow_one, Int.natAbs_natCast]; exact hw)) (by decide)) (by omega)
  rwa [ng_nat, Int.natAbs_natCast, rd'_word h0] at this
theorem word_left {x : Int} {w : Nat} (h0 : 0 < w) (hw : w < 18446744073709551616) : Ev (fun k => vinculumref01_Word.f k (x % (w : Int))) (dec (x % (w : Int)).natAbs) := by
  have h1 := Int.emod_nonneg x (show (w : Int) ≠ 0 by omega)
  have h2 := Int.emod_lt_of_pos x (show (0 : Int) < (w : Int) by omega)
  have := ref_word (n := (x % (w : Int)).natAbs) (by omega)
  rwa [show (((x % (w : Int)).natAbs : Nat) : Int) = x % (w : Int) by omega] at this
end Go.Proofs.Yteoeacndpgomaaa.Pure
end
section
/-
  What the methods of a word's field compute: Sub, Mul, Inv, and what word.New answers; products modulo a word. Condition: the word is below 2 to the 63rd.
-/
namespace Go.Proofs.Yteoeacndpgomaaa.Pure
open Go.RowKit Go.Proofs.Yteoeacndpgomaaa.F Go.Proofs.YteoeacndpgomaaaW.PrintWords Go.Proofs.YteoeacndpgomaaaW.PrintLast Go.Proofs.YteoeacndpgomaaaW.PrintMore
set_option linter.unusedVariables false
set_option linter.unusedSimpArgs false
theorem elim_none {α β : Type} (a : β) (f : α → β) : Option.elim none a f = a := rfl
theorem elim_some {α β : Type} (x : α) (a : β) (f : α → β) : Option.elim (some x) a f = f x := rfl
theorem rem64_ev {hi lo y : Nat} (hy : 0 < y) (hy2 : y < 18446744073709551616) (hlo : lo < 18446744073709551616) : Ev (fun k => bits_Rem64.f k (hi : Int) (lo : Int) (y : Int)) (((hi * 18446744073709551616 + lo) % y : Nat) : Int) := by
  refine Ev.congr (fun k => (bits_Rem64.f_eq ..).trans (if_neg (by omega))) ?_
  rw [tmodN hi y]
  have g := d64_nat (Nat.mod_lt hi hy) hy2 hlo
  refine Ev.bind g ?_
  have e : (hi % y * 18446744073709551616 + lo) % y = (hi * 18446744073709551616 + lo) % y := by
    rw [Nat.add_mod, Nat.mod_mul_mod, ← Nat.add_mod]
  rw [e]
  exact Ev.now _
theorem prodmod_ev {α : Type} {x y n : Nat} (hx : x < 18446744073709551616) (hy : y < 18446744073709551616) (hn : 0 < n) (hn2 : n < 18446744073709551616) {f : Nat → Int → Option α} {r : α} (h : Ev (fun k => f k ((x * y % n : Nat) : Int)) r) : Ev (fun k => (bits_Mul64.f k (x : Int) (y : Int)).bind fun bt => (bits_Rem64.f k bt.1 bt.2 (n : Int)).bind (f k)) r := by
  refine Ev.bind (mul64_ev hx hy) ?_
  have g := rem64_ev (hi := x * y / 18446744073709551616) (lo := x * y % 18446744073709551616) hn hn2 (Nat.mod_lt _ (by decide))
  rw [Nat.mul_comm (x * y / _), Nat.div_add_mod] at g
  exact Ev.bind g h
theorem and_one {e : Nat} (he : e < 18446744073709551616) : Go.bits .and .u64 (e : Int) 1 = ((e % 2 : Nat) : Int) := by
  have h := bits_and_u64_nat e 1 he (by omega)
  rw [Nat.and_one_is_mod] at h
  exact h
theorem fmul_ev {p x y : Nat} {s1 s2 : Int} (h0 : 0 < p) (hp : p < 18446744073709551616) : Ev (fun k => word_Field_Mul.f k (p : Int) s1 s2 (x : Int) (y : Int)) ((x * y % p : Nat) : Int) := by
  have hx2 := Nat.mod_lt x h0
  have hy2 := Nat.mod_lt y h0
  refine Ev.congr (fun k => (word_Field_Mul.f_eq ..).trans ((if_neg (by omega)).trans (if_neg (by omega)))) ?_
  rw [tmodN, tmodN]
  have g := prodmod_ev (x := x % p) (y := y % p) (n := p) (f := fun _ v => some v) (Nat.lt_trans hx2 hp) (Nat.lt_trans hy2 hp) h0 hp (Ev.now _)
  rw [← Nat.mul_mod] at g
  exact g
/-- x less y, modulo p. -/
def subM (x y p : Nat) : Nat := (x % p + p - y % p) % p
theorem fsub_ev {p x y : Nat} {s1 s2 : Int} (h0 : 0 < p) (hp : p ≤ 9223372036854775808) : Ev (fun k => word_Field_Sub.f k (p : Int) s1 s2 (x : Int) (y : Int)) ((subM x y p : Nat) : Int) := by
  have hx2 := Nat.mod_lt x h0
  have hy2 := Nat.mod_lt y h0
  refine Ev.congr (fun k => ?_) (Ev.now _)
  rw [word_Field_Sub.f_eq, if_neg (by omega), if_neg (by omega), tmodN, tmodN]
  unfold subM
  generalize x % p = a at *
  generalize y % p = b at *
  by_cases h : a < b
  · have e1 : IntKind.u64.wrap ((a : Int) + (p : Int)) = ((a + p : Nat) : Int) := by rw [addN, wrapN _ (by omega)]
    have e2 : IntKind.u64.wrap (((a + p : Nat) : Int) - (b : Int)) = ((a + p - b : Nat) : Int) := by
      have e : ((a + p : Nat) : Int) - (b : Int) = ((a + p - b : Nat) : Int) := by clear e1; omega
      rw [e, wrapN _ (by clear e1; omega)]
    rw [if_pos (Int.ofNat_lt.2 h), e1, e2]
    congr 2
    rw [Nat.mod_eq_of_lt (by clear e1 e2; omega)]
  · have e2 : IntKind.u64.wrap ((a : Int) - (b : Int)) = ((a - b : Nat) : Int) := by
      have e : (a : Int) - (b : Int) = ((a - b : Nat) : Int) := by omega
      rw [e, wrapN _ (by omega)]
    rw [if_neg (fun h3 => h (Int.ofNat_lt.1 h3)), e2]
    congr 2
    have e3 : a + p - b = (a - b) + p := by clear e2; omega
    rw [e3, Nat.add_mod_right, Nat.mod_eq_of_lt (by clear e2 e3; omega)]
theorem subM_int (x y : Nat) {p : Nat} (h0 : 0 < p) : ∃ u : Int, ((subM x y p : Nat) : Int) = (x : Int) - (y : Int) + (p : Int) * u := by
  unfold subM
  have h1 := Nat.mod_lt x h0
  have h2 := Nat.mod_lt y h0
  have h3 := Nat.div_add_mod x p
  have h4 := Nat.div_add_mod y p
  have h5 := Nat.div_add_mod (x % p + p - y % p) p
  refine ⟨((y / p : Nat) : Int) - ((x / p : Nat) : Int) + 1 - (((x % p + p - y % p) / p : Nat) : Int), ?_⟩
  have h6 : ((x % p + p - y % p : Nat) : Int) = ((x % p : Nat) : Int) + p - ((y % p : Nat) : Int) := by omega
  have h3' : (p : Int) * ((x / p : Nat) : Int) + ((x % p : Nat) : Int) = x := by rw [← Int.natCast_mul, ← Int.natCast_add, h3]
  have h4' : (p : Int) * ((y / p : Nat) : Int) + ((y % p : Nat) : Int) = y := by rw [← Int.natCast_mul, ← Int.natCast_add, h4]
  have h5' : (p : Int) * (((x % p + p - y % p) / p : Nat) : Int) + (((x % p + p - y % p) % p : Nat) : Int) = ((x % p + p - y % p : Nat) : Int) := by
    generalize x % p + p - y % p = z at *
    rw [← Int.natCast_mul, ← Int.natCast_add, h5]
  rw [h6] at h5'
  generalize (((x % p + p - y % p) % p : Nat) : Int) = A at *
  generalize (((x % p + p - y % p) / p : Nat) : Int) = D at *
  generalize ((x / p : Nat) : Int) = X at *
  generalize ((y / p : Nat) : Int) = Y at *
  generalize ((x % p : Nat) : Int) = x' at *
  generalize ((y % p : Nat) : Int) = y' at *
  grind
theorem mod_int (x p : Nat) : ∃ u : Int, ((x % p : Nat) : Int) = (x : Int) + (p : Int) * u := by
  refine ⟨-((x / p : Nat) : Int), ?_⟩
  have h := Nat.div_add_mod x p
  have h' : (p : Int) * ((x / p : Nat) : Int) + ((x % p : Nat) : Int) = x := by rw [← Int.natCast_mul, ← Int.natCast_add, h]
  grind
theorem finv_l8 {p x : Nat} {s1 s2 : Int} (h0 : 0 < p) (hp : p ≤ 9223372036854775808) : ∀ (s r a b : Nat), s < 18446744073709551616 → r < 18446744073709551616 → a < p → b < p → (∃ u : Int, (a : Int) * x = r + p * u) → (∃ u : Int, (b : Int) * x = s + p * u) →
    (Nat.gcd s r ≠ 1 ∧ Ev (fun k => word_Field_Inv.l8 k (p : Int) s1 s2 (r : Int) (s : Int) (a : Int) (b : Int)) (0, 11)) ∨ (Nat.gcd s r = 1 ∧ ∃ c : Nat, c < p ∧ (∃ u : Int, (c : Int) * x = 1 + p * u) ∧ Ev (fun k => word_Field_Inv.l8 k (p : Int) s1 s2 (r : Int) (s : Int) (a : Int) (b : Int)) ((c : Int), 0)) := by
  intro s
  induction s using Nat.strongRecOn with
  | _ s ih =>
    intro r a b hs hr ha hb hra hsb
    by_cases hz : s = 0
    · subst hz
      rw [Nat.gcd_zero_left]
      by_cases h1 : r = 1
      · subst h1
        refine .inr ⟨rfl, a, ha, by simpa using hra, ?_⟩
        refine Ev.step (f := fun k => some ((a : Int), 0)) (fun k => ?_) (Ev.now _)
        exact (word_Field_Inv.l8_eq ..).trans ((if_neg (by decide)).trans (if_pos rfl))
      · refine .inl ⟨h1, Ev.step (f := fun k => some (0, 11)) (fun k => ?_) (Ev.now _)⟩
        exact (word_Field_Inv.l8_eq ..).trans ((if_neg (by decide)).trans (if_neg (by omega)))
    · have hq : IntKind.u64.wrap (Int.tdiv (r : Int) (s : Int)) = ((r / s : Nat) : Int) := by
        rw [tdivN]; exact wrapN _ (Nat.lt_of_le_of_lt (Nat.div_le_self _ _) hr)
      have hm := wrap_mod (p := s) hr
      have hms := Nat.mod_lt r (Nat.pos_of_ne_zero hz)
      obtain ⟨u, hu⟩ := hra
      obtain ⟨v, hv⟩ := hsb
      obtain ⟨w, hw⟩ := mod_int (r / s * b) p
      obtain ⟨t, ht⟩ := subM_int a (r / s * b % p) h0
      have hdm := Nat.div_add_mod r s
      have hdm' : (s : Int) * ((r / s : Nat) : Int) + ((r % s : Nat) : Int) = r := by rw [← Int.natCast_mul, ← Int.natCast_add, hdm]
      have hnew : ∃ u : Int, ((subM a (r / s * b % p) p : Nat) : Int) * x = ((r % s : Nat) : Int) + p * u := by
        refine ⟨u - ((r / s : Nat) : Int) * v - w * x + t * x, ?_⟩
        rw [ht, hw, Int.natCast_mul]
        generalize ((r / s : Nat) : Int) = q at *
        generalize ((r % s : Nat) : Int) = r' at *
        clear ht hw hdm hq hm hms ih
        grind
      have hsub : subM a (r / s * b % p) p < p := Nat.mod_lt _ h0
      have step : ∀ R : Int × Int, Ev (fun k => word_Field_Inv.l8 k (p : Int) s1 s2 (s : Int) ((r % s : Nat) : Int) (b : Int) ((subM a (r / s * b % p) p : Nat) : Int)) R → Ev (fun k => word_Field_Inv.l8 k (p : Int) s1 s2 (r : Int) (s : Int) (a : Int) (b : Int)) R := fun R g => by
        refine Ev.step (fun k => word_Field_Inv.l8_eq ..) ?_
        rw [hq, hm]
        clear hq hm hw ht
        refine Ev.congr (fun k => (if_pos (by omega)).trans (if_neg (by omega))) ?_
        exact Ev.bind (fmul_ev h0 (by omega)) (Ev.bind (fsub_ev h0 hp) g)
      rcases ih (r % s) hms s b (subM a (r / s * b % p) p) (Nat.lt_trans hms hs) hs hb hsub ⟨v, hv⟩ hnew with ⟨g1, g2⟩ | ⟨g1, c, g2, g3, g4⟩
      · exact .inl ⟨by rw [Nat.gcd_rec]; exact g1, step _ g2⟩
      · exact .inr ⟨by rw [Nat.gcd_rec]; exact g1, c, g2, g3, step _ g4⟩
/-- What x times is 1, if there is such a one. -/
theorem finv_ev {p x : Nat} {s1 s2 : Int} (h2 : 2 ≤ p) (hp : p ≤ 9223372036854775808) (hx : x < 18446744073709551616) :
    (x % p = 0 ∧ Ev (fun k => word_Field_Inv.f k (p : Int) s1 s2 (x : Int)) (0, 10)) ∨ (x % p ≠ 0 ∧ Nat.gcd (x % p) p ≠ 1 ∧ Ev (fun k => word_Field_Inv.f k (p : Int) s1 s2 (x : Int)) (0, 11)) ∨ (x % p ≠ 0 ∧ Nat.gcd (x % p) p = 1 ∧ ∃ c : Nat, c < p ∧ c * x % p = 1 ∧ Ev (fun k => word_Field_Inv.f k (p : Int) s1 s2 (x : Int)) ((c : Int), 0)) := by
  by_cases h : x % p = 0
  · refine .inl ⟨h, Ev.congr (fun k => ?_) (Ev.now _)⟩
    exact (word_Field_Inv.f_eq ..).trans ((if_neg (by omega)).trans (if_pos (by rw [tmodN, h]; rfl)))
  · have e : ∀ k, word_Field_Inv.f k (p : Int) s1 s2 (x : Int) = word_Field_Inv.l8 k (p : Int) s1 s2 (p : Int) ((x % p : Nat) : Int) ((0 : Nat) : Int) ((1 : Nat) : Int) := fun k => (word_Field_Inv.f_eq ..).trans ((if_neg (by omega)).trans (if_neg (by rw [tmodN]; omega)))
    have hxp := Nat.mod_lt x (show 0 < p by omega)
    obtain ⟨w, hw⟩ := mod_int x p
    rcases finv_l8 (p := p) (x := x) (s1 := s1) (s2 := s2) (by omega) hp (x % p) p 0 1 (by omega) (by omega) (by omega) (by omega) ⟨-1, by simp [Int.add_right_neg]⟩ ⟨-w, by rw [hw]; grind⟩ with ⟨g1, g2⟩ | ⟨g1, c, g2, ⟨u, g3⟩, g4⟩
    · exact .inr (.inl ⟨h, g1, Ev.congr e g2⟩)
    · refine .inr (.inr ⟨h, g1, c, g2, ?_, Ev.congr e g4⟩)
      have h3 : ((c * x % p : Nat) : Int) = 1 := by
        rw [Int.natCast_emod, Int.natCast_mul, g3, Int.add_mul_emod_self_left]
        exact Int.emod_eq_of_lt (by decide) (by omega)
      omega
theorem new_l7 {p : Nat} (h2 : 2 ≤ p) (hp : p < 9223372036854775808) (b2 b3 : Int) : ∀ (d i : Nat) (inv : Int), 5 - i = d → i ≤ 5 → ∃ s1 s2, Ev (fun k => word_New.l7 k (p : Int) inv (p : Int) b2 b3 (i : Int)) (some ((p : Int), s1, s2, ()), 0) := by
  intro d
  induction d with
  | zero =>
    intro i inv hd hi
    have : i = 5 := by omega
    subst this
    have hU : 0 ≤ IntKind.u64.wrap (-(p : Int)) ∧ IntKind.u64.wrap (-(p : Int)) < 18446744073709551616 := by rw [wu]; constructor <;> omega
    obtain ⟨w, hw⟩ := Int.eq_ofNat_of_zero_le hU.1
    have gm := fmul_ev (p := p) (s1 := IntKind.u64.wrap (-inv)) (s2 := b3) (x := w % p) (y := w % p) (by omega) (by omega)
    refine ⟨IntKind.u64.wrap (-inv), ((w % p * (w % p) % p : Nat) : Int), ?_⟩
    refine Ev.step (fun k => word_New.l7_eq ..) ?_
    rw [hw, tmodN]
    refine Ev.congr (fun k => (if_neg (by decide)).trans (if_neg (by omega))) ?_
    exact Ev.bind gm (Ev.now _)
  | succ d ih =>
    intro i inv hd hi
    obtain ⟨s1, s2, g⟩ := ih (i + 1) (IntKind.u64.wrap (inv * (IntKind.u64.wrap (2 - (IntKind.u64.wrap ((p : Int) * inv)))))) (by omega) (by omega)
    refine ⟨s1, s2, Ev.step (fun k => ?_) g⟩
    rw [word_New.l7_eq, if_pos (by omega), w64_succ (by omega)]
theorem new_ev {p : Nat} (h2 : 2 ≤ p) (hp : p < 9223372036854775808) : ∃ s1 s2, Ev (fun k => word_New.f k (p : Int)) (some ((p : Int), s1, s2, ()), 0) := by
  by_cases h : Go.bits .and .u64 (p : Int) 1 = 1
  · obtain ⟨s1, s2, g⟩ := new_l7 h2 hp 0 0 _ 0 (p : Int) rfl (Nat.zero_le _)
    refine ⟨s1, s2, Ev.congr (fun k => ?_) g⟩
    rw [word_New.f_eq, if_neg (by omega), if_neg (by omega), if_pos h]; rfl
  · refine ⟨0, 0, Ev.congr (fun k => ?_) (Ev.now _)⟩
    rw [word_New.f_eq, if_neg (by omega), if_neg (by omega), if_neg h]
theorem new_no {p : Nat} (h : p < 2 ∨ 9223372036854775808 ≤ p) : Ev (fun k => word_New.f k (p : Int)) (none, 1) := by
  refine Ev.congr (fun k => ?_) (Ev.now _)
  rw [word_New.f_eq]
  rcases h with h | h
  · rw [if_pos (by omega)]
  · rw [if_neg (by omega), if_pos (by omega)]
end Go.Proofs.Yteoeacndpgomaaa.Pure
end
section
/-
  Numbers that leave what is asked by several words: the plain law of a step, products of words with no common divisor, and that there is one such number alone. Nothing of the program.
-/
namespace Go.Proofs.Yteoeacndpgomaaa.Pure
set_option linter.unusedVariables false
set_option linter.unusedSimpArgs false
/-- The product of the first numbers. -/
def prodTo (M : Nat → Nat) : Nat → Nat
  | 0 => 1
  | i + 1 => prodTo M i * M i
theorem prodTo_pos {M : Nat → Nat} : ∀ n, (∀ i, i < n → 2 ≤ M i) → 1 ≤ prodTo M n
  | 0, _ => Nat.le_refl _
  | n + 1, h => Nat.mul_pos (prodTo_pos n fun i hi => h i (by omega)) (by have := h n (Nat.lt_succ_self n); omega)
theorem prodTo_dvd {M : Nat → Nat} : ∀ {n i : Nat}, i < n → M i ∣ prodTo M n
  | 0, _, h => absurd h (Nat.not_lt_zero _)
  | n + 1, i, h => by
    by_cases he : i = n
    · subst he; exact Nat.dvd_mul_left _ _
    · exact Nat.dvd_trans (prodTo_dvd (n := n) (by omega)) (Nat.dvd_mul_right _ _)
theorem prodTo_lt {M : Nat → Nat} {B : Nat} (hB : 0 < B) : ∀ n, (∀ i, i < n → M i < B) → prodTo M n ≤ B ^ n
  | 0, _ => Nat.le_refl _
  | n + 1, h => by
    rw [Nat.pow_succ]
    exact Nat.mul_le_mul (prodTo_lt hB n fun i hi => h i (by omega)) (Nat.le_of_lt (h n (Nat.lt_succ_self n)))
theorem prodTo_gcd {M : Nat → Nat} {m : Nat} : ∀ n, Nat.gcd (prodTo M n) m = 1 ↔ ∀ i, i < n → Nat.gcd (M i) m = 1
  | 0 => ⟨fun _ i h => absurd h (Nat.not_lt_zero _), fun _ => Nat.gcd_one_left m⟩
  | n + 1 => by
    have h1 := prodTo_gcd (M := M) (m := m) n
    have h2 : Nat.Coprime (prodTo M n * M n) m ↔ Nat.Coprime (prodTo M n) m ∧ Nat.Coprime (M n) m := Nat.coprime_mul_iff_left
    constructor
    · intro h i hi
      obtain ⟨h3, h4⟩ := h2.1 h
      by_cases he : i = n
      · subst he; exact h4
      · exact h1.1 h3 i (by omega)
    · intro h
      exact h2.2 ⟨h1.2 fun i hi => h i (by omega), h n (Nat.lt_succ_self n)⟩
/-- No two of the first numbers have a common divisor. -/
def Pair (M : Nat → Nat) (n : Nat) : Prop := ∀ i, i < n → ∀ k, k < i → Nat.gcd (M i) (M k) = 1
theorem Pair.less {M : Nat → Nat} {n m : Nat} (h : Pair M n) (hm : m ≤ n) : Pair M m := fun i hi k hk => h i (by omega) k hk
theorem Pair.succ {M : Nat → Nat} {n : Nat} (h : Pair M n) (hg : Nat.gcd (prodTo M n) (M n) = 1) : Pair M (n + 1) := fun i hi k hk => by
  by_cases he : i = n
  · subst he; rw [Nat.gcd_comm]; exact (prodTo_gcd i).1 hg k hk
  · exact h i (by omega) k hk
theorem Pair.gcd {M : Nat → Nat} {n i : Nat} (h : Pair M n) (hi : i < n) : Nat.gcd (prodTo M i) (M i) = 1 := (prodTo_gcd i).2 fun k hk => by
  rw [Nat.gcd_comm]; exact h i hi k hk
theorem Pair.dvd {M : Nat → Nat} {z : Nat} : ∀ n, Pair M n → (∀ i, i < n → M i ∣ z) → prodTo M n ∣ z
  | 0, _, _ => Nat.one_dvd z
  | n + 1, h, hd => Nat.Coprime.mul_dvd_of_dvd_of_dvd (h.gcd (Nat.lt_succ_self n)) (Pair.dvd n (h.less (Nat.le_succ n)) fun i hi => hd i (by omega)) (hd n (Nat.lt_succ_self n))
/-- What leaves the same by all words leaves the same by the product. -/
theorem crt_one {M : Nat → Nat} {n : Nat} {a b : Int} (h : Pair M n) (hd : ∀ i, i < n → a % (M i : Int) = b % (M i : Int)) : a % (prodTo M n : Int) = b % (prodTo M n : Int) := by
  have h1 : prodTo M n ∣ (a - b).natAbs := h.dvd n fun i hi => by
    have h2 : (M i : Int) ∣ a - b := Int.dvd_of_emod_eq_zero (Int.emod_eq_emod_iff_emod_sub_eq_zero.1 (hd i hi))
    exact Int.ofNat_dvd_left.1 h2
  have h3 : (prodTo M n : Int) ∣ a - b := Int.ofNat_dvd_left.2 h1
  exact Int.emod_eq_emod_iff_emod_sub_eq_zero.2 (Int.emod_eq_zero_of_dvd h3)
/-- The plain law of a step. -/
theorem step_law {x all : Int} {m r c : Nat} (h0 : 0 ≤ x) (h1 : x < all) (hm : 2 ≤ m) (hc : c * (all % (m : Int)).toNat % m = 1) :
    let t := subM r (x % (m : Int)).toNat m * c % m
    0 ≤ x + all * (t : Int) ∧ x + all * (t : Int) < all * (m : Int) ∧ (x + all * (t : Int)) % all = x ∧ (x + all * (t : Int)) % (m : Int) = (r % m : Nat) := by
  intro t
  have ht : t < m := Nat.mod_lt _ (by omega)
  have e0 : 0 ≤ all * (t : Int) := Int.mul_nonneg (by omega) (by omega)
  have e1 : all * (t : Int) + all ≤ all * (m : Int) := by
    have : all * ((t : Int) + 1) ≤ all * (m : Int) := Int.mul_le_mul_of_nonneg_left (by omega) (by omega)
    rwa [Int.mul_add, Int.mul_one] at this
  refine ⟨by omega, by omega, ?_, ?_⟩
  · rw [Int.add_mul_emod_self_left]; exact Int.emod_eq_of_lt h0 h1
  · have hX0 := Int.emod_nonneg x (show (m : Int) ≠ 0 by omega)
    have hA0 := Int.emod_nonneg all (show (m : Int) ≠ 0 by omega)
    obtain ⟨u1, hu1⟩ := subM_int r (x % (m : Int)).toNat (p := m) (by omega)
    obtain ⟨u2, hu2⟩ := mod_int (subM r (x % (m : Int)).toNat m * c) m
    have hX : (((x % (m : Int)).toNat : Nat) : Int) = x - (m : Int) * (x / (m : Int)) := by
      rw [Int.toNat_of_nonneg hX0]
      have := Int.mul_ediv_add_emod x (m : Int)
      omega
    have hA : (((all % (m : Int)).toNat : Nat) : Int) = all - (m : Int) * (all / (m : Int)) := by
      rw [Int.toNat_of_nonneg hA0]
      have := Int.mul_ediv_add_emod all (m : Int)
      omega
    have hc2 : (c : Int) * (((all % (m : Int)).toNat : Nat) : Int) = 1 + (m : Int) * ((c * (all % (m : Int)).toNat / m : Nat) : Int) := by
      have h5 := Nat.div_add_mod (c * (all % (m : Int)).toNat) m
      rw [hc] at h5
      rw [← Int.natCast_mul, ← Int.natCast_mul, ← h5]
      generalize c * (all % (m : Int)).toNat / m = q
      rw [Int.natCast_add, Int.add_comm, Int.natCast_one]
      congr 3
      rw [Nat.mul_add_div (by omega), Nat.div_eq_of_lt (by omega), Nat.add_zero]
    have htI : (t : Int) = ((subM r (x % (m : Int)).toNat m : Nat) : Int) * (c : Int) + (m : Int) * u2 := by
      show ((subM r (x % (m : Int)).toNat m * c % m : Nat) : Int) = _
      rw [hu2, Int.natCast_mul]
    have key : x + all * (t : Int) = (r : Int) + (m : Int) * (x / (m : Int) + u1 + ((subM r (x % (m : Int)).toNat m : Nat) : Int) * ((c * (all % (m : Int)).toNat / m : Nat) : Int) + (((all % (m : Int)).toNat : Nat) : Int) * u2 + (all / (m : Int)) * (t : Int)) := by
      have hAll : all = (((all % (m : Int)).toNat : Nat) : Int) + (m : Int) * (all / (m : Int)) := by omega
      generalize ((c * (all % (m : Int)).toNat / m : Nat) : Int) = u3 at *
      generalize (((all % (m : Int)).toNat : Nat) : Int) = A at *
      generalize all / (m : Int) = q2 at *
      generalize ((subM r (x % (m : Int)).toNat m : Nat) : Int) = s at *
      generalize (((x % (m : Int)).toNat : Nat) : Int) = X at *
      generalize x / (m : Int) = q at *
      generalize (t : Int) = T at *
      clear hX0 hA0 e0 e1 hu2 ht hc
      grind
    rw [key, Int.add_mul_emod_self_left, Int.natCast_emod]
/-- The number nearest to 0 that leaves the same. -/
def nearZ (x all : Int) : Int := if x % all + x % all > all then x % all - all else x % all
theorem near_law {x all : Int} {b : Nat} (hx : x.natAbs < 2 ^ b) (ha : (2 ^ (b + 1) : Nat) < all.natAbs) (h0 : 0 < all) : nearZ x all = x := by
  rw [Nat.pow_succ] at ha
  generalize 2 ^ b = P at *
  unfold nearZ
  by_cases h : 0 ≤ x
  · have e : x % all = x := Int.emod_eq_of_lt h (by omega)
    rw [e, if_neg (by omega)]
  · have e : x % all = x + all := by
      rw [← Int.add_emod_right]
      exact Int.emod_eq_of_lt (by omega) (by omega)
    rw [e, if_pos (by omega)]
    omega
end Go.Proofs.Yteoeacndpgomaaa.Pure
end
section
/-
  Package crt, and its reference, first part: which words may be, one step, what is left, products of words. Condition: no number has more than 500 words.
-/
namespace Go.Proofs.Yteoeacndpgomaaa.Pure
open Go.RowKit Go.Proofs.Yteoeacndpgomaaa.F Go.Proofs.YteoeacndpgomaaaW.PrintWords Go.Proofs.YteoeacndpgomaaaW.PrintLast Go.Proofs.YteoeacndpgomaaaW.PrintMore
open Go.Proofs.Yteoeacndpgomaaa.E (tEq tLt tApp tCut)
set_option linter.unusedVariables false
set_option linter.unusedSimpArgs false
/-- A row's number at a place. -/
def wd (l : List Int) (i : Nat) : Nat := (rd l (i : Int)).toNat
theorem wd_rd {l : List Int} (hw : WF l) (i : Nat) : rd l (i : Int) = ((wd l i : Nat) : Int) := by
  have := (hw.rdU (i : Int)).1
  unfold wd; omega
theorem wd_lt {l : List Int} (hw : WF l) (i : Nat) : wd l i < 18446744073709551616 := by
  have := (hw.rdU (i : Int)).1
  have := (hw.rdU (i : Int)).2
  unfold wd; omega
/-- May a word be? -/
def May (m : Nat) : Prop := 2 ≤ m ∧ m < 9223372036854775808
instance (m : Nat) : Decidable (May m) := by unfold May; infer_instance
theorem may_body {m : Nat} {f : Nat → Option Bool} (h : ∀ k, f k = (if (m : Int) ≥ 2 then some (decide ((m : Int) < 9223372036854775808)) else some false)) : Ev f (decide (May m)) := by
  refine Ev.congr h ?_
  by_cases h2 : 2 ≤ m
  · refine Ev.pos (by omega) (Ev.ret (decide_eq_decide.2 ?_))
    unfold May; omega
  · refine Ev.neg (by omega) (Ev.ret (decide_eq_false ?_).symm)
    unfold May; omega
theorem cmay_ev (m : Nat) : Ev (fun k => crt_may.f k (m : Int)) (decide (May m)) := may_body fun k => crt_may.f_eq ..
theorem rmay_ev (m : Nat) : Ev (fun k => vinculumref03_May.f k (m : Int)) (decide (May m)) := may_body fun k => vinculumref03_May.f_eq ..
theorem cof_ev {w : Nat} (hw : w < 18446744073709551616) : Ev (fun k => crt_of.f k (w : Int)) (ng (w : Int), limbs (w : Int).natAbs) := by
  have g := ifrom_ev (b := false) (l := [(w : Int)]) (fun y hy => by simp at hy; subst hy; exact ⟨by omega, by omega⟩) (by simp)
  rw [nv_one, sg_false] at g
  exact Ev.congr (fun k => crt_of.f_eq ..) (Ev.bind g (Ev.now _))
theorem rgcd3_l1 : ∀ (b a : Nat), Ev (fun k => vinculumref03_Gcd.l1 k (a : Int) (b : Int)) ((Nat.gcd b a : Nat) : Int) := by
  intro b
  induction b using Nat.strongRecOn with
  | _ b ih =>
    intro a
    by_cases h : b = 0
    · subst h
      rw [Nat.gcd_zero_left]
      exact Ev.step (fun k => vinculumref03_Gcd.l1_eq ..) (Ev.neg (by omega) (Ev.now _))
    · have g := ih (a % b) (Nat.mod_lt _ (Nat.pos_of_ne_zero h)) b
      rw [← Nat.gcd_rec] at g
      refine Ev.step (fun k => vinculumref03_Gcd.l1_eq ..) ?_
      rw [tmodN]
      exact Ev.pos (by omega) (Ev.neg (by omega) g)
theorem rgcd3_ev (a b : Nat) : Ev (fun k => vinculumref03_Gcd.f k (a : Int) (b : Int)) ((Nat.gcd b a : Nat) : Int) := Ev.congr (fun k => vinculumref03_Gcd.f_eq ..) (rgcd3_l1 b a)
/-! ### what is left -/
theorem sv_take_le {l : List UInt8} : ∀ (d i : Nat), l.length - i = d → i ≤ l.length → sv (l.take i) ≤ sv l
  | 0, i, hd, hi => by
    have : i = l.length := by omega
    rw [this, List.take_length]; exact Nat.le_refl _
  | d + 1, i, hd, hi => by
    have h := sv_take_le (l := l) d (i + 1) (by omega) (by omega)
    rw [sv_take_succ l i (by omega)] at h
    omega
theorem left_l4 {b : Bool} {N : Nat} (hN : N < 18446744073709551616) : ∀ (d i : Nat), (ds N).length - i = d → i ≤ (ds N).length → Ev (fun k => vinculumref05_Left.l4 k b (dec N) ((sv ((ds N).take i) : Nat) : Int) (i : Int)) (N : Int)
  | 0, i, hd, hi => by
    have : i = (ds N).length := by omega
    rw [this, List.take_length, sv_ds]
    exact Ev.step (fun k => vinculumref05_Left.l4_eq ..) (Ev.neg (by rw [dec_size]; omega) (Ev.now _))
  | d + 1, i, hd, hi => by
    have hi2 : i < (ds N).length := by omega
    have g := left_l4 (b := b) hN d (i + 1) (by omega) hi2
    have hl : (ds N).length ≤ 21 := ds_length_le (Nat.lt_of_lt_of_le hN (by decide)) (by decide)
    have hd2 := ds_DS N _ (List.getElem_mem hi2)
    have hle := sv_take_le (l := ds N) _ (i + 1) rfl hi2
    rw [sv_ds, sv_take_succ _ i hi2] at hle
    rw [sv_take_succ _ i hi2, ← w64_succ (a := i) (by omega)] at g
    refine Ev.step (fun k => vinculumref05_Left.l4_eq ..) ?_
    have hb : bt (dec N) (i : Int) = (((ds N)[i]).toNat : Int) := tx_bt _ i hi2
    have e1 : (((ds N)[i]).toNat : Int) - 48 = ((((ds N)[i]).toNat - 48 : Nat) : Int) := by omega
    have e2 : ((((ds N)[i]).toNat - 48 : Nat) : Int) % 256 = ((((ds N)[i]).toNat - 48 : Nat) : Int) := by omega
    have e3 : (10 : Int) * ((sv ((ds N).take i) : Nat) : Int) = ((sv ((ds N).take i) * 10 : Nat) : Int) := by omega
    rw [hb, e1, e2, e3, wrapN _ (by omega), wrapN _ (by omega), addN, wrapN _ (by omega)]
    exact Ev.pos (by rw [dec_size]; omega) (Ev.pos (by omega) (Ev.pos (by rw [dec_size]; omega) g))
theorem left_ev {x : Int} {m : Nat} (lx : Sz 990 x) (h0 : 0 < m) (hm : m < 18446744073709551616) : Ev (fun k => vinculumref05_Left.f k (ng x) (dec x.natAbs) (m : Int)) (x % (m : Int)) := by
  have h1 := Int.emod_nonneg x (show (m : Int) ≠ 0 by omega)
  have h2 := Int.emod_lt_of_pos x (show (0 : Int) < (m : Int) by omega)
  have g := left_l4 (b := ng (x % (m : Int))) (N := (x % (m : Int)).natAbs) (by omega) _ 0 rfl (Nat.zero_le _)
  rw [show (((x % (m : Int)).natAbs : Nat) : Int) = x % (m : Int) by omega] at g
  exact Ev.congr (fun k => vinculumref05_Left.f_eq ..) (Ev.bind (ref_word hm) (Ev.bind (zword_ev lx h0 hm) g))
/-! ### products -/
theorem all_l3 {m : List Int} (hw : WF m) (hl : m.length ≤ 500) : ∀ (d i : Nat), m.length - i = d → i ≤ m.length → Ev (fun k => vinculumref05_All.l3 k m false (ByteArray.mk (Array.mk [])) false (dec (prodTo (wd m) i)) (i : Int)) (false, dec (prodTo (wd m) m.length))
  | 0, i, hd, hi => by
    have : i = m.length := by omega
    subst this
    exact Ev.step (fun k => vinculumref05_All.l3_eq ..) (Ev.neg (by omega) (Ev.now _))
  | d + 1, i, hd, hi => by
    have g := all_l3 hw hl d (i + 1) (by omega) (by omega)
    have hp : prodTo (wd m) i ≤ 18446744073709551616 ^ i := prodTo_lt (by decide) i fun j _ => wd_lt hw j
    have s1 : Sz (i + 1) ((prodTo (wd m) i : Nat) : Int) := Sz.of (by
      rw [Int.natAbs_natCast]
      exact Nat.lt_of_le_of_lt hp (Nat.pow_lt_pow_right (by decide) (Nat.lt_succ_self i)))
    have s2 : Sz 1 ((wd m i : Nat) : Int) := Sz.of (by rw [Int.natAbs_natCast, Nat.pow_one]; exact wd_lt hw i)
    have gm := zmul_ev (s1.up (show i + 1 ≤ 1000 by omega)) (s2.up (show 1 ≤ 1000 by decide))
    rw [← Int.natCast_mul, ng_nat, ng_nat, ng_nat, Int.natAbs_natCast, Int.natAbs_natCast, Int.natAbs_natCast] at gm
    rw [← w64_succ (a := i) (by omega)] at g
    refine Ev.step (fun k => vinculumref05_All.l3_eq ..) ?_
    rw [wd_rd hw i]
    exact Ev.pos (by omega) (Ev.pos (by omega) (Ev.pos (by omega) (Ev.bind (ref_word (wd_lt hw i)) (Ev.bind gm g))))
theorem all_ev {m : List Int} (hw : WF m) (hl : m.length ≤ 500) : Ev (fun k => vinculumref05_All.f k m) (false, dec (prodTo (wd m) m.length)) := by
  have g := all_l3 hw hl _ 0 rfl (Nat.zero_le _)
  rw [show prodTo (wd m) 0 = 1 from rfl, dec_one] at g
  exact Ev.congr (fun k => vinculumref05_All.f_eq ..) g
end Go.Proofs.Yteoeacndpgomaaa.Pure
end
section
/-
  Package crt, second part: Step, which words are wrong, Near; the reference's Wrong and Near. Condition: no number has more than 400 words.
-/
namespace Go.Proofs.Yteoeacndpgomaaa.Pure
open Go.RowKit Go.Proofs.Yteoeacndpgomaaa.F Go.Proofs.YteoeacndpgomaaaW.PrintWords Go.Proofs.YteoeacndpgomaaaW.PrintLast Go.Proofs.YteoeacndpgomaaaW.PrintMore
open Go.Proofs.Yteoeacndpgomaaa.E (tEq tLt tApp tCut)
set_option linter.unusedVariables false
set_option linter.unusedSimpArgs false
theorem sign_le {z : Int} : z.sign ≤ 0 ↔ z ≤ 0 := by
  rcases Int.lt_trichotomy z 0 with h | h | h
  · rw [Int.sign_eq_neg_one_of_neg h]; exact ⟨fun _ => by omega, fun _ => by decide⟩
  · subst h; exact ⟨fun _ => by decide, fun _ => by decide⟩
  · rw [Int.sign_eq_one_of_pos h]; exact ⟨fun h2 => absurd h2 (by decide), fun h2 => by omega⟩
theorem rd'_posi {x y : Int} (h : 0 < y) : rd' x y = x % y := by
  obtain ⟨w, rfl⟩ := Int.eq_ofNat_of_zero_le (show 0 ≤ y by omega)
  exact rd'_word (by omega)
/-- What Step answers. -/
theorem step_no {x all : Int} {r m : Nat} (h : all ≤ 0 ∨ ¬ May m) : Ev (fun k => crt_Step.f k (ng x) (limbs x.natAbs) (ng all) (limbs all.natAbs) (r : Int) (m : Int)) (false, [], false, [], 1) := by
  refine Ev.congr (fun k => crt_Step.f_eq ..) (Ev.bind (isign_ev all) ?_)
  by_cases h0 : all ≤ 0
  · exact Ev.pos (sign_le.2 h0) (Ev.now _)
  · have hm := h.resolve_left h0
    have g := cmay_ev m
    rw [decide_eq_false hm] at g
    exact Ev.neg (fun e => h0 (sign_le.1 e)) (Ev.bind g (Ev.pos rfl (Ev.now _)))
theorem step_ev {x all : Int} {r m : Nat} (sx : Sz 400 x) (sa : Sz 400 all) (h0 : 0 < all) (hm : May m) (hr : r < 18446744073709551616) :
    (Nat.gcd (all % (m : Int)).toNat m ≠ 1 ∧ Ev (fun k => crt_Step.f k (ng x) (limbs x.natAbs) (ng all) (limbs all.natAbs) (r : Int) (m : Int)) (false, [], false, [], 11)) ∨
    (Nat.gcd (all % (m : Int)).toNat m = 1 ∧ ∃ y : Int, 0 ≤ y ∧ y < all * (m : Int) ∧ y % all = x % all ∧ y % (m : Int) = ((r % m : Nat) : Int) ∧
      Ev (fun k => crt_Step.f k (ng x) (limbs x.natAbs) (ng all) (limbs all.natAbs) (r : Int) (m : Int)) (ng y, limbs y.natAbs, ng (all * (m : Int)), limbs (all * (m : Int)).natAbs, 0)) := by
  obtain ⟨hm2, hm3⟩ := hm
  have hne : (m : Int) ≠ 0 := by omega
  have hx0 := Int.emod_nonneg x (show all ≠ 0 by omega)
  have hx1 := Int.emod_lt_of_pos x h0
  have hA0 := Int.emod_nonneg all hne
  have hA1 := Int.emod_lt_of_pos all (show (0 : Int) < (m : Int) by omega)
  have hX0 := Int.emod_nonneg (x % all) hne
  have sx' : Sz 400 (x % all) := sa.mono (by omega)
  have gm := cmay_ev m
  rw [decide_eq_true ⟨hm2, hm3⟩] at gm
  obtain ⟨s1, s2, gn⟩ := new_ev hm2 hm3
  have gd := idm_ev (x := x) (y := all) (sx.up (by decide)) (sa.up (by decide)) (by omega)
  rw [rd'_posi h0] at gd
  have ga := imod_ev (z := all) (w := m) (sa.up (by decide)) (by omega) (by omega)
  have gx := imod_ev (z := x % all) (w := m) (sx'.up (by decide)) (by omega) (by omega)
  have eA : all % (m : Int) = (((all % (m : Int)).toNat : Nat) : Int) := (Int.toNat_of_nonneg hA0).symm
  have eX : x % all % (m : Int) = (((x % all % (m : Int)).toNat : Nat) : Int) := (Int.toNat_of_nonneg hX0).symm
  have hAm : (all % (m : Int)).toNat < m := by omega
  have hAmod : (all % (m : Int)).toNat % m = (all % (m : Int)).toNat := Nat.mod_eq_of_lt hAm
  have law := fun c hc => step_law (x := x % all) (all := all) (m := m) (r := r) (c := c) hx0 hx1 hm2 hc
  have pre : ∀ R, Ev (fun k => (word_Field_Inv.f k (m : Int) s1 s2 (all % (m : Int))).bind fun t7 => (if t7.2 = 0 then ((word_Field_Sub.f k (m : Int) s1 s2 (r : Int) (x % all % (m : Int))).bind fun t8 => ((word_Field_Mul.f k (m : Int) s1 s2 t8 t7.1).bind fun t9 => ((crt_of.f k t9).bind fun t10 => ((bigint_Int_Mul.f k (ng all) (limbs all.natAbs) t10.1 t10.2).bind fun t11 => ((bigint_Int_Add.f k (ng (x % all)) (limbs (x % all).natAbs) t11.1 t11.2).bind fun t12 => ((crt_of.f k (m : Int)).bind fun t13 => ((bigint_Int_Mul.f k (ng all) (limbs all.natAbs) t13.1 t13.2).bind fun t14 => some (t12.1, t12.2, t14.1, t14.2, 0)))))))) else some (false, ([] : List Int), false, ([] : List Int), 11))) R →
      Ev (fun k => crt_Step.f k (ng x) (limbs x.natAbs) (ng all) (limbs all.natAbs) (r : Int) (m : Int)) R := fun R h =>
    Ev.congr (fun k => crt_Step.f_eq ..) (Ev.bind (isign_ev all) (Ev.neg (fun e => by have := sign_le.1 e; omega) (Ev.bind gm (Ev.neg Bool.false_ne_true (Ev.bind gn (Ev.congr (fun q => elim_some _ _ _) (Ev.pos rfl (Ev.bind gd (Ev.bind ga (Ev.bind gx h))))))))))
  rw [eA, eX] at pre
  generalize hXd : (x % all % (m : Int)).toNat = X at *
  generalize hAd : (all % (m : Int)).toNat = A at *
  have hA64 : A < 18446744073709551616 := by omega
  rcases finv_ev (p := m) (x := A) (s1 := s1) (s2 := s2) hm2 (by omega) hA64 with ⟨h1, h2⟩ | ⟨h1, h2, h3⟩ | ⟨h1, h2, c, h3, h4, h5⟩
  · refine .inl ⟨fun e => ?_, pre _ (Ev.bind h2 (Ev.neg (by decide) (Ev.now _)))⟩
    rw [hAmod] at h1
    rw [h1, Nat.gcd_zero_left] at e; omega
  · rw [hAmod] at h2
    exact .inl ⟨h2, pre _ (Ev.bind h3 (Ev.neg (by decide) (Ev.now _)))⟩
  · rw [hAmod] at h2
    refine .inr ⟨h2, ?_⟩
    obtain ⟨l1, l2, l3, l4⟩ := law c h4
    have ht : subM r X m * c % m < m := Nat.mod_lt _ (by omega)
    have gs := fsub_ev (p := m) (x := r) (y := X) (s1 := s1) (s2 := s2) (by omega) (by omega)
    have gt := fmul_ev (p := m) (x := subM r X m) (y := c) (s1 := s1) (s2 := s2) (by omega) (by omega)
    generalize subM r X m * c % m = t at *
    have st : Sz 1 (t : Int) := sz_small (by omega) (by omega)
    have sm : Sz 1 (m : Int) := sz_small (by omega) (by omega)
    have g1 := imul_ev (x := all) (y := (t : Int)) (sa.up (by decide)) (st.up (by decide))
    have g2 := iadd_ev (x := x % all) (y := all * (t : Int)) (sx'.up (by decide)) ((sa.mul st).up (by decide))
    have g3 := imul_ev (x := all) (y := (m : Int)) (sa.up (by decide)) (sm.up (by decide))
    exact ⟨_, l1, l2, by rw [l3], l4, pre _ (Ev.bind h5 (Ev.pos rfl (Ev.bind gs (Ev.bind gt (Ev.bind (cof_ev (by omega)) (Ev.bind g1 (Ev.bind g2 (Ev.bind (cof_ev (by omega)) (Ev.bind g3 (Ev.now _)))))))))) ⟩
/-! ### what is wrong -/
theorem cwrong_l4 {m : List Int} (hw : WF m) (hl : m.length ≤ 1000) : ∀ (d i : Nat), m.length - i = d → i ≤ m.length →
    ((∀ j, i ≤ j → j < m.length → May (wd m j)) → Ev (fun k => crt_wrong.l4 k m m (m.length : Int) (i : Int)) 0) ∧ (¬ (∀ j, i ≤ j → j < m.length → May (wd m j)) → Ev (fun k => crt_wrong.l4 k m m (m.length : Int) (i : Int)) 1)
  | 0, i, hd, hi => ⟨fun _ => Ev.step (fun k => crt_wrong.l4_eq ..) (Ev.neg (by omega) (Ev.neg (by omega) (Ev.now _))), fun h => absurd (fun j h1 h2 => by omega) h⟩
  | d + 1, i, hd, hi => by
    obtain ⟨g1, g2⟩ := cwrong_l4 hw hl d (i + 1) (by omega) (by omega)
    have gm := cmay_ev (wd m i)
    rw [← wd_rd hw i] at gm
    rw [← w64_succ (a := i) (by omega)] at g1 g2
    by_cases hm : May (wd m i)
    · rw [decide_eq_true hm] at gm
      refine ⟨fun h => ?_, fun h => ?_⟩
      · exact Ev.step (fun k => crt_wrong.l4_eq ..) (Ev.pos (by omega) (Ev.pos (by omega) (Ev.pos (by omega) (Ev.bind gm (Ev.neg Bool.false_ne_true (g1 fun j h1 h2 => h j (by omega) h2))))))
      · refine Ev.step (fun k => crt_wrong.l4_eq ..) (Ev.pos (by omega) (Ev.pos (by omega) (Ev.pos (by omega) (Ev.bind gm (Ev.neg Bool.false_ne_true (g2 fun h3 => h fun j h1 h2 => ?_))))))
        by_cases he : j = i
        · subst he; exact hm
        · exact h3 j (by omega) h2
    · rw [decide_eq_false hm] at gm
      exact ⟨fun h => absurd (h i (Nat.le_refl _) (by omega)) hm, fun h => Ev.step (fun k => crt_wrong.l4_eq ..) (Ev.pos (by omega) (Ev.pos (by omega) (Ev.pos (by omega) (Ev.bind gm (Ev.pos rfl (Ev.now _))))))⟩
def Mays (m : List Int) : Prop := ∀ j, j < m.length → May (wd m j)
theorem cwrong_ok {l m : List Int} (hw : WF m) (hl : m.length ≤ 1000) (he : l.length = m.length) (h : Mays m) : Ev (fun k => crt_wrong.f k l m) 0 :=
  Ev.congr (fun k => crt_wrong.f_eq ..) (Ev.pos (by omega) ((cwrong_l4 hw hl _ 0 rfl (Nat.zero_le _)).1 fun j _ h2 => h j h2))
theorem cwrong_no {l m : List Int} (hw : WF m) (hl : m.length ≤ 1000) (h : l.length ≠ m.length ∨ ¬ Mays m) : Ev (fun k => crt_wrong.f k l m) 1 := by
  by_cases he : l.length = m.length
  · exact Ev.congr (fun k => crt_wrong.f_eq ..) (Ev.pos (by omega) ((cwrong_l4 hw hl _ 0 rfl (Nat.zero_le _)).2 fun h2 => (h.resolve_left (fun h3 => h3 he)) fun j h3 => h2 j (Nat.zero_le _) h3))
  · exact Ev.congr (fun k => crt_wrong.f_eq ..) (Ev.neg (by omega) (Ev.now _))
theorem rwrong_l14 {m : List Int} (hw : WF m) (hl : m.length ≤ 1000) {i : Nat} (hi : i < m.length) {R : Int} (H : Ev (fun k => vinculumref05_Wrong.l11 k m ((i + 1 : Nat) : Int)) R) : ∀ (d j : Nat), i - j = d → j ≤ i →
    ((∀ q, j ≤ q → q < i → Nat.gcd (wd m i) (wd m q) = 1) → Ev (fun k => vinculumref05_Wrong.l14 k m (i : Int) (j : Int)) R) ∧ (¬ (∀ q, j ≤ q → q < i → Nat.gcd (wd m i) (wd m q) = 1) → Ev (fun k => vinculumref05_Wrong.l14 k m (i : Int) (j : Int)) 11)
  | 0, j, hd, hj => by
    rw [← w64_succ (a := i) (by omega)] at H
    exact ⟨fun _ => Ev.step (fun k => vinculumref05_Wrong.l14_eq ..) (Ev.neg (by omega) H), fun h => absurd (fun q h1 h2 => by omega) h⟩
  | d + 1, j, hd, hj => by
    obtain ⟨g1, g2⟩ := rwrong_l14 hw hl hi H d (j + 1) (by omega) (by omega)
    have gg := rgcd3_ev (wd m i) (wd m j)
    rw [← wd_rd hw i, ← wd_rd hw j, Nat.gcd_comm] at gg
    rw [← w64_succ (a := j) (by omega)] at g1 g2
    by_cases hm : Nat.gcd (wd m i) (wd m j) = 1
    · refine ⟨fun h => ?_, fun h => ?_⟩
      · exact Ev.step (fun k => vinculumref05_Wrong.l14_eq ..) (Ev.pos (by omega) (Ev.pos (by omega) (Ev.pos (by omega) (Ev.pos (by omega) (Ev.pos (by omega) (Ev.bind gg (Ev.pos (by omega) (g1 fun q h1 h2 => h q (by omega) h2))))))))
      · refine Ev.step (fun k => vinculumref05_Wrong.l14_eq ..) (Ev.pos (by omega) (Ev.pos (by omega) (Ev.pos (by omega) (Ev.pos (by omega) (Ev.pos (by omega) (Ev.bind gg (Ev.pos (by omega) (g2 fun h3 => h fun q h1 h2 => ?_))))))))
        by_cases he : q = j
        · subst he; exact hm
        · exact h3 q (by omega) h2
    · exact ⟨fun h => absurd (h j (Nat.le_refl _) (by omega)) hm, fun h => Ev.step (fun k => vinculumref05_Wrong.l14_eq ..) (Ev.pos (by omega) (Ev.pos (by omega) (Ev.pos (by omega) (Ev.pos (by omega) (Ev.pos (by omega) (Ev.bind gg (Ev.neg (by omega) (Ev.now _))))))))⟩
theorem rwrong_l11 {m : List Int} (hw : WF m) (hl : m.length ≤ 1000) : ∀ (d i : Nat), m.length - i = d → i ≤ m.length →
    ((∀ p, i ≤ p → p < m.length → ∀ q, q < p → Nat.gcd (wd m p) (wd m q) = 1) → Ev (fun k => vinculumref05_Wrong.l11 k m (i : Int)) 0) ∧ (¬ (∀ p, i ≤ p → p < m.length → ∀ q, q < p → Nat.gcd (wd m p) (wd m q) = 1) → Ev (fun k => vinculumref05_Wrong.l11 k m (i : Int)) 11)
  | 0, i, hd, hi => ⟨fun _ => Ev.step (fun k => vinculumref05_Wrong.l11_eq ..) (Ev.neg (by omega) (Ev.now _)), fun h => absurd (fun p h1 h2 => by omega) h⟩
  | d + 1, i, hd, hi => by
    obtain ⟨g1, g2⟩ := rwrong_l11 hw hl d (i + 1) (by omega) (by omega)
    have hi2 : i < m.length := by omega
    refine ⟨fun h => ?_, fun h => ?_⟩
    · have g := (rwrong_l14 hw hl hi2 (g1 fun p h1 h2 => h p (by omega) h2) _ 0 rfl (Nat.zero_le _)).1 fun q _ h2 => h i (Nat.le_refl _) hi2 q h2
      exact Ev.step (fun k => vinculumref05_Wrong.l11_eq ..) (Ev.pos (by omega) g)
    · by_cases hh : ∀ q, q < i → Nat.gcd (wd m i) (wd m q) = 1
      · have g := (rwrong_l14 hw hl hi2 (g2 fun h3 => h fun p h1 h2 => by
          by_cases he : p = i
          · subst he; exact hh
          · exact h3 p (by omega) h2) _ 0 rfl (Nat.zero_le _)).1 fun q _ h2 => hh q h2
        exact Ev.step (fun k => vinculumref05_Wrong.l11_eq ..) (Ev.pos (by omega) g)
      · by_cases hn : ∀ p, i + 1 ≤ p → p < m.length → ∀ q, q < p → Nat.gcd (wd m p) (wd m q) = 1
        · exact Ev.step (fun k => vinculumref05_Wrong.l11_eq ..) (Ev.pos (by omega) ((rwrong_l14 hw hl hi2 (g1 hn) _ 0 rfl (Nat.zero_le _)).2 fun h3 => hh fun q h2 => h3 q (Nat.zero_le _) h2))
        · exact Ev.step (fun k => vinculumref05_Wrong.l11_eq ..) (Ev.pos (by omega) ((rwrong_l14 hw hl hi2 (g2 hn) _ 0 rfl (Nat.zero_le _)).2 fun h3 => hh fun q h2 => h3 q (Nat.zero_le _) h2))
theorem rwrong_l4 {m : List Int} (hw : WF m) (hl : m.length ≤ 1000) {R : Int} (H : Ev (fun k => vinculumref05_Wrong.l11 k m 0) R) : ∀ (d i : Nat), m.length - i = d → i ≤ m.length →
    ((∀ j, i ≤ j → j < m.length → May (wd m j)) → Ev (fun k => vinculumref05_Wrong.l4 k m (i : Int)) R) ∧ (¬ (∀ j, i ≤ j → j < m.length → May (wd m j)) → Ev (fun k => vinculumref05_Wrong.l4 k m (i : Int)) 1)
  | 0, i, hd, hi => ⟨fun _ => Ev.step (fun k => vinculumref05_Wrong.l4_eq ..) (Ev.neg (by omega) (Ev.neg (by omega) H)), fun h => absurd (fun j h1 h2 => by omega) h⟩
  | d + 1, i, hd, hi => by
    obtain ⟨g1, g2⟩ := rwrong_l4 hw hl H d (i + 1) (by omega) (by omega)
    have gm := rmay_ev (wd m i)
    rw [← wd_rd hw i] at gm
    rw [← w64_succ (a := i) (by omega)] at g1 g2
    by_cases hm : May (wd m i)
    · rw [decide_eq_true hm] at gm
      refine ⟨fun h => ?_, fun h => ?_⟩
      · exact Ev.step (fun k => vinculumref05_Wrong.l4_eq ..) (Ev.pos (by omega) (Ev.pos (by omega) (Ev.pos (by omega) (Ev.bind gm (Ev.neg Bool.false_ne_true (g1 fun j h1 h2 => h j (by omega) h2))))))
      · refine Ev.step (fun k => vinculumref05_Wrong.l4_eq ..) (Ev.pos (by omega) (Ev.pos (by omega) (Ev.pos (by omega) (Ev.bind gm (Ev.neg Bool.false_ne_true (g2 fun h3 => h fun j h1 h2 => ?_))))))
        by_cases he : j = i
        · subst he; exact hm
        · exact h3 j (by omega) h2
    · rw [decide_eq_false hm] at gm
      exact ⟨fun h => absurd (h i (Nat.le_refl _) (by omega)) hm, fun h => Ev.step (fun k => vinculumref05_Wrong.l4_eq ..) (Ev.pos (by omega) (Ev.pos (by omega) (Ev.pos (by omega) (Ev.bind gm (Ev.pos rfl (Ev.now _))))))⟩
theorem rwrong_no {n : Nat} {m : List Int} (hw : WF m) (hl : m.length ≤ 1000) (h : n ≠ m.length ∨ ¬ Mays m) : Ev (fun k => vinculumref05_Wrong.f k (n : Int) m) 1 := by
  by_cases he : n = m.length
  · have ⟨g1, g2⟩ := rwrong_l11 hw hl _ 0 rfl (Nat.zero_le _)
    have go : ∀ R, Ev (fun k => vinculumref05_Wrong.l11 k m 0) R → Ev (fun k => vinculumref05_Wrong.f k (n : Int) m) 1 := fun R H => Ev.congr (fun k => vinculumref05_Wrong.f_eq ..) (Ev.pos (by omega) ((rwrong_l4 hw hl H _ 0 rfl (Nat.zero_le _)).2 fun h2 => (h.resolve_left (fun h3 => h3 he)) fun j h3 => h2 j (Nat.zero_le _) h3))
    by_cases hp : ∀ p, 0 ≤ p → p < m.length → ∀ q, q < p → Nat.gcd (wd m p) (wd m q) = 1
    · exact go _ (g1 hp)
    · exact go _ (g2 hp)
  · exact Ev.congr (fun k => vinculumref05_Wrong.f_eq ..) (Ev.neg (by omega) (Ev.now _))
theorem rwrong_ok {n : Nat} {m : List Int} (hw : WF m) (hl : m.length ≤ 1000) (he : n = m.length) (h : Mays m) (hp : Pair (wd m) m.length) : Ev (fun k => vinculumref05_Wrong.f k (n : Int) m) 0 :=
  Ev.congr (fun k => vinculumref05_Wrong.f_eq ..) (Ev.pos (by omega) ((rwrong_l4 hw hl ((rwrong_l11 hw hl _ 0 rfl (Nat.zero_le _)).1 fun p _ h2 q h3 => hp p h2 q h3) _ 0 rfl (Nat.zero_le _)).1 fun j _ h2 => h j h2))
theorem rwrong_pair {n : Nat} {m : List Int} (hw : WF m) (hl : m.length ≤ 1000) (he : n = m.length) (h : Mays m) (hp : ¬ Pair (wd m) m.length) : Ev (fun k => vinculumref05_Wrong.f k (n : Int) m) 11 :=
  Ev.congr (fun k => vinculumref05_Wrong.f_eq ..) (Ev.pos (by omega) ((rwrong_l4 hw hl ((rwrong_l11 hw hl _ 0 rfl (Nat.zero_le _)).2 fun h2 => hp fun p h3 q h4 => h2 p (Nat.zero_le _) h3 q h4) _ 0 rfl (Nat.zero_le _)).1 fun j _ h2 => h j h2))
/-! ### Near -/
theorem near_no {x all : Int} (h : all ≤ 0) : Ev (fun k => crt_Near.f k (ng x) (limbs x.natAbs) (ng all) (limbs all.natAbs)) (false, [], 1) :=
  Ev.congr (fun k => crt_Near.f_eq ..) (Ev.bind (isign_ev all) (Ev.pos (sign_le.2 h) (Ev.now _)))
theorem cmpZ_gt {x y : Int} : cmpZ x y > 0 ↔ x > y := by
  unfold cmpZ
  by_cases h : x < y
  · rw [if_pos h]; exact ⟨fun h2 => absurd h2 (by decide), fun h2 => by omega⟩
  · rw [if_neg h]
    by_cases h2 : x = y
    · rw [if_pos h2]; exact ⟨fun h3 => absurd h3 (by decide), fun h3 => by omega⟩
    · rw [if_neg h2]; exact ⟨fun _ => by omega, fun _ => by decide⟩
theorem near_ev {x all : Int} (sx : Sz 400 x) (sa : Sz 400 all) (h : 0 < all) : Ev (fun k => crt_Near.f k (ng x) (limbs x.natAbs) (ng all) (limbs all.natAbs)) (ng (nearZ x all), limbs (nearZ x all).natAbs, 0) := by
  have h0 := Int.emod_nonneg x (show all ≠ 0 by omega)
  have h1 := Int.emod_lt_of_pos x h
  have sr : Sz 400 (x % all) := sa.mono (by omega)
  have gd := idm_ev (x := x) (y := all) (sx.up (by decide)) (sa.up (by decide)) (by omega)
  rw [rd'_posi h] at gd
  have ga := iadd_ev (x := x % all) (y := x % all) (sr.up (by decide)) (sr.up (by decide))
  have gc := icmp_ev (x := x % all + x % all) (y := all) ((sr.add sr).up (by decide)) (sa.up (by decide))
  have gs := isub_ev (x := x % all) (y := all) (sr.up (by decide)) (sa.up (by decide))
  unfold nearZ
  by_cases hc : x % all + x % all > all
  · rw [if_pos hc]
    exact Ev.congr (fun k => crt_Near.f_eq ..) (Ev.bind (isign_ev all) (Ev.neg (fun e => by have := sign_le.1 e; omega) (Ev.bind gd (Ev.bind ga (Ev.bind gc (Ev.pos (cmpZ_gt.2 hc) (Ev.bind gs (Ev.now _))))))))
  · rw [if_neg hc]
    exact Ev.congr (fun k => crt_Near.f_eq ..) (Ev.bind (isign_ev all) (Ev.neg (fun e => by have := sign_le.1 e; omega) (Ev.bind gd (Ev.bind ga (Ev.bind gc (Ev.neg (fun e => hc (cmpZ_gt.1 e)) (Ev.now _)))))))
theorem rnear_ev {x all : Int} (sx : Sz 400 x) (sa : Sz 400 all) (h : 0 < all) : Ev (fun k => vinculumref05_Near.f k (ng x) (dec x.natAbs) (ng all) (dec all.natAbs)) (ng (nearZ x all), dec (nearZ x all).natAbs) := by
  have h0 := Int.emod_nonneg x (show all ≠ 0 by omega)
  have h1 := Int.emod_lt_of_pos x h
  have sr : Sz 400 (x % all) := sa.mono (by omega)
  have gd := zdm_ev (x := x) (y := all) (sx.up (by decide)) (sa.up (by decide)) (by omega)
  rw [rd'_posi h] at gd
  have ga := zadd_ev (x := x % all) (y := x % all) (sr.up (by decide)) (sr.up (by decide))
  have gc := zcmp_ev (x := x % all + x % all) (y := all) ((sr.add sr).up (by decide)) (sa.up (by decide))
  have gs := zsub_ev (x := x % all) (y := all) (sr.up (by decide)) (sa.up (by decide))
  unfold nearZ
  by_cases hc : x % all + x % all > all
  · rw [if_pos hc]
    exact Ev.congr (fun k => vinculumref05_Near.f_eq ..) (Ev.bind gd (Ev.bind ga (Ev.bind gc (Ev.pos (cmpZ_gt.2 hc) (Ev.bind gs (Ev.now _))))))
  · rw [if_neg hc]
    exact Ev.congr (fun k => vinculumref05_Near.f_eq ..) (Ev.bind gd (Ev.bind ga (Ev.bind gc (Ev.neg (fun e => hc (cmpZ_gt.1 e)) (Ev.now _)))))
end Go.Proofs.Yteoeacndpgomaaa.Pure
end
section
/-
  A number moved up by bits: what nat's up and Shl compute. Condition: no list is longer than a million words.
-/
namespace Go.Proofs.Yteoeacndpgomaaa.Pure
open Go.RowKit Go.Proofs.Yteoeacndpgomaaa.F Go.Proofs.YteoeacndpgomaaaW.PrintWords Go.Proofs.YteoeacndpgomaaaW.PrintLast Go.Proofs.YteoeacndpgomaaaW.PrintMore
open Go.Proofs.Yteoeacndpgomaaa.E (adS adC sbS sbC)
set_option linter.unusedVariables false
set_option linter.unusedSimpArgs false
theorem limbs_up (a n : Nat) (h : a ≠ 0) : List.replicate n (0 : Int) ++ limbs a = limbs (18446744073709551616 ^ n * a) := by
  have hw : WF (List.replicate n (0 : Int) ++ limbs a) := (WF.zeros n).append (limbs_WF a)
  have hne : limbs a ≠ [] := fun h' => h (limbs_eq_nil.1 h')
  have hz : Nz (List.replicate n (0 : Int) ++ limbs a) := fun h' => by
    rw [List.getLast_append_of_ne_nil _ hne]; exact limbs_Nz a hne
  have := limbs_of hw hz
  rw [this]
  congr 1
  rw [nv_append, nv_zeros, nv_limbs, List.length_replicate, Nat.zero_add]
/-! ### Shl -/
theorem up_ev {l : List Int} {n : Nat} (hl : l ≠ []) (h1 : l.length ≤ 1000001) (hn : n ≤ 1000000) : Ev (fun k => nat_up.f k l (n : Int)) (List.replicate n 0 ++ l) := by
  have hp : 0 < l.length := List.length_pos_iff.2 hl
  have e : wrap64 ((n : Int) + (l.length : Int)) = ((n + l.length : Nat) : Int) := w64_add (by omega)
  refine Ev.congr (fun k => nat_up.f_eq ..) ?_
  rw [e]
  exact Ev.neg (by clear e; omega) (Ev.pos (by clear e; omega) (Ev.pos (by clear e; omega) (Ev.pos (by rw [Int.toNat_natCast]; clear e; omega) (Ev.pos (by rw [List.length_replicate, Int.toNat_natCast]; clear e; omega) (Ev.ret (by rw [Int.toNat_natCast]))))))
theorem shl_neg {x : List Int} {n : Int} (hn : n < 0) : Ev (fun k => nat_Shl.f k x n) ([], 1) := Ev.congr (fun k => nat_Shl.f_eq ..) (Ev.pos hn (Ev.now _))
theorem shl_far {x : List Int} {n : Int} (hn : n > 262144) : Ev (fun k => nat_Shl.f k x n) ([], 13) := Ev.congr (fun k => nat_Shl.f_eq ..) (Ev.neg (by omega) (Ev.pos hn (Ev.now _)))
theorem shl_ev {x : List Int} (hx : WF x) (hl : x.length ≤ 1000000) {n : Nat} (hn : n ≤ 262144) : Ev (fun k => nat_Shl.f k x (n : Int)) (limbs (nv x * 2 ^ n), 0) := by
  have hla := limbs_length_le (nv_lt hx)
  have t1 : wrap64 (Int.tdiv (n : Int) 64) = ((n / 64 : Nat) : Int) := by
    have : Int.tdiv (n : Int) 64 = ((n / 64 : Nat) : Int) := tdivN n 64
    rw [this, w64_nat (by omega)]
  have t2 : IntKind.u64.wrap (Int.tmod (n : Int) 64) = ((n % 64 : Nat) : Int) := by
    have : Int.tmod (n : Int) 64 = ((n % 64 : Nat) : Int) := tmodN n 64
    rw [this, wrapN _ (by omega)]
  have hdm : 2 ^ n = 18446744073709551616 ^ (n / 64) * 2 ^ (n % 64) := by rw [← pow_bits, Nat.div_add_mod]
  have hn1 : n / 64 ≤ 1000000 := by clear t1 t2 hdm; omega
  have hn2 : n % 64 ≤ 63 := by clear t1 t2 hdm; omega
  have hll : (limbs (nv x)).length ≤ 1000000 := Nat.le_trans hla hl
  obtain ⟨out, o1, o2, o3, o4⟩ := shifted_ev (limbs_WF (nv x)) hll hn2
  rw [nv_limbs] at o3
  have hol : out.length ≤ 1000001 := by rw [o1]; clear t1 t2 hdm; omega
  have hon : out ≠ [] := List.length_pos_iff.1 (by rw [o1]; exact Nat.succ_pos _)
  have hup := up_ev (n := n / 64) hon hol hn1
  have hW : WF (List.replicate (n / 64) 0 ++ out) := (WF.zeros _).append o2
  have g := trim_ev hW (by rw [List.length_append, List.length_replicate]; clear t1 t2 hdm; omega)
  have e : nv (List.replicate (n / 64) 0 ++ out) = nv x * 2 ^ n := by
    rw [nv_append, nv_zeros, List.length_replicate, o3, hdm, Nat.zero_add]; grind
  rw [e] at g
  refine Ev.congr (fun k => nat_Shl.f_eq ..) (Ev.neg (by omega) (Ev.neg (by omega) (Ev.bind (trim_ev hx (Nat.le_trans hl (by decide))) ?_)))
  rw [t1, t2]
  exact Ev.bind o4 (Ev.bind hup (Ev.bind g (Ev.now _)))
end Go.Proofs.Yteoeacndpgomaaa.Pure
end
section
/-
  What the reference's Double computes. Condition: not more than 100000 bits.
-/
namespace Go.Proofs.Yteoeacndpgomaaa.Pure
open Go.RowKit Go.Proofs.Yteoeacndpgomaaa.F Go.Proofs.YteoeacndpgomaaaW.PrintWords Go.Proofs.YteoeacndpgomaaaW.PrintLast Go.Proofs.YteoeacndpgomaaaW.PrintMore
open Go.Proofs.Yteoeacndpgomaaa.E (tEq tLt tApp tCut)
set_option linter.unusedVariables false
set_option linter.unusedSimpArgs false
theorem double_l3 (n : Nat) (hn : n ≤ 100000) : ∀ (d i : Nat), n - i = d → i ≤ n → Ev (fun k => vinculumref01_Double.l3 k (n : Int) (dec (2 ^ i)) (i : Int)) (dec (2 ^ n))
  | 0, i, hd, hi => by
    have : i = n := by omega
    subst this
    exact Ev.step (fun k => vinculumref01_Double.l3_eq ..) (Ev.neg (Int.lt_irrefl _) (Ev.now _))
  | d + 1, i, hd, hi => by
    have hi0 : i < n := by omega
    have hl := ds_pow2 i
    have ga := ref_add (a := 2 ^ i) (b := 2 ^ i) (by omega) (by omega)
    have e : 2 ^ i + 2 ^ i = 2 ^ (i + 1) := by rw [Nat.pow_succ, Nat.mul_two]
    rw [e] at ga
    have g := double_l3 n hn d (i + 1) (by omega) hi0
    rw [← w64_succ (a := i) (by omega)] at g
    exact Ev.step (fun k => vinculumref01_Double.l3_eq ..) (Ev.pos (Int.ofNat_lt.2 hi0) (Ev.bind ga g))
theorem ref_double {n : Nat} (hn : n ≤ 100000) : Ev (fun k => vinculumref01_Double.f k (n : Int)) (dec (2 ^ n)) := by
  have g := double_l3 n hn _ 0 rfl (Nat.zero_le _)
  rw [Nat.pow_zero, dec_one] at g
  exact Ev.congr (fun k => vinculumref01_Double.f_eq ..) g
end Go.Proofs.Yteoeacndpgomaaa.Pure
end
section
/-
  Package crt, third part: Lift, Join, Parts, Enough; the examples. Condition: rows of up to 100 words.
-/
namespace Go.Proofs.Yteoeacndpgomaaa.Pure
open Go.RowKit Go.Proofs.Yteoeacndpgomaaa.F Go.Proofs.YteoeacndpgomaaaW.PrintWords Go.Proofs.YteoeacndpgomaaaW.PrintLast Go.Proofs.YteoeacndpgomaaaW.PrintMore
open Go.Proofs.Yteoeacndpgomaaa.E (tEq tLt tApp tCut)
set_option linter.unusedVariables false
set_option linter.unusedSimpArgs false
/-- The product of the first words, as a number. -/
def pz (m : List Int) (i : Nat) : Int := ((prodTo (wd m) i : Nat) : Int)
theorem pz_pos {m : List Int} (hm : Mays m) {i : Nat} (hi : i ≤ m.length) : 0 < pz m i := by
  have := prodTo_pos (M := wd m) i fun j hj => (hm j (by omega)).1
  unfold pz; omega
theorem pz_succ (m : List Int) (i : Nat) : pz m (i + 1) = pz m i * ((wd m i : Nat) : Int) := by unfold pz; rw [prodTo, Int.natCast_mul]
theorem pz_sz {m : List Int} (hw : WF m) (i : Nat) : Sz (i + 1) (pz m i) := Sz.of (by
  unfold pz
  rw [Int.natAbs_natCast]
  exact Nat.lt_of_le_of_lt (prodTo_lt (by decide) i fun j _ => wd_lt hw j) (Nat.pow_lt_pow_right (by decide) (Nat.lt_succ_self i)))
/-- What is asked of a number by the first words. -/
def Leaves (l m : List Int) (i : Nat) (x : Int) : Prop := 0 ≤ x ∧ x < pz m i ∧ ∀ j, j < i → x % ((wd m j : Nat) : Int) = ((wd l j % wd m j : Nat) : Int)
theorem lift_step {l m : List Int} (hl : WF l) (hm : WF m) (he : l.length = m.length) (h100 : m.length ≤ 100) (hM : Mays m) {i : Nat} (hi : i < m.length) {x : Int} (hx : Leaves l m i x) (hP : Pair (wd m) i) :
    (¬ Pair (wd m) m.length ∧ Ev (fun k => crt_Step.f k (ng x) (limbs x.natAbs) (ng (pz m i)) (limbs (pz m i).natAbs) (rd l (i : Int)) (rd m (i : Int))) (false, [], false, [], 11)) ∨
    (Pair (wd m) (i + 1) ∧ ∃ y, Leaves l m (i + 1) y ∧ Ev (fun k => crt_Step.f k (ng x) (limbs x.natAbs) (ng (pz m i)) (limbs (pz m i).natAbs) (rd l (i : Int)) (rd m (i : Int))) (ng y, limbs y.natAbs, ng (pz m (i + 1)), limbs (pz m (i + 1)).natAbs, 0)) := by
  obtain ⟨h0, h1, h2⟩ := hx
  have hp := pz_pos hM (i := i) (by omega)
  have sp := pz_sz hm i
  have sx : Sz 400 x := Sz.up (p := i + 1) (sp.mono (by omega)) (by omega)
  have hmi := hM i hi
  rw [wd_rd hl i, wd_rd hm i]
  have eg : Nat.gcd (pz m i % ((wd m i : Nat) : Int)).toNat (wd m i) = Nat.gcd (prodTo (wd m) i) (wd m i) := by
    unfold pz
    rw [← Int.natCast_emod, Int.toNat_natCast, Nat.gcd_comm (prodTo (wd m) i), Nat.gcd_rec (wd m i)]
  rcases step_ev (x := x) (all := pz m i) (r := wd l i) (m := wd m i) sx (sp.up (by omega)) hp hmi (wd_lt hl i) with ⟨g1, g2⟩ | ⟨g1, y, y0, y1, y2, y3, g2⟩
  · rw [eg] at g1
    exact .inl ⟨fun h => g1 (h.gcd hi), g2⟩
  · rw [eg] at g1
    rw [← pz_succ] at y1 g2
    refine .inr ⟨hP.succ g1, y, ⟨y0, y1, fun j hj => ?_⟩, g2⟩
    by_cases hji : j = i
    · subst hji; exact y3
    · have hd : ((wd m j : Nat) : Int) ∣ pz m i := Int.natCast_dvd_natCast.2 (prodTo_dvd (show j < i by omega))
      rw [← h2 j (by omega), ← Int.emod_emod_of_dvd y hd, y2, Int.emod_emod_of_dvd x hd]
theorem lift_l {l m : List Int} (hl : WF l) (hm : WF m) (he : l.length = m.length) (h100 : m.length ≤ 100) (hM : Mays m) : ∀ (d i : Nat) (x : Int), m.length - i = d → i ≤ m.length → Leaves l m i x → Pair (wd m) i →
    (¬ Pair (wd m) m.length ∧ Ev (fun k => crt_Lift.l1000 k l m false [] false [] (ng x) (limbs x.natAbs) (ng (pz m i)) (limbs (pz m i).natAbs) (i : Int)) (false, [], false, [], 11)) ∨
    (Pair (wd m) m.length ∧ ∃ y, Leaves l m m.length y ∧ Ev (fun k => crt_Lift.l1000 k l m false [] false [] (ng x) (limbs x.natAbs) (ng (pz m i)) (limbs (pz m i).natAbs) (i : Int)) (ng y, limbs y.natAbs, ng (pz m m.length), limbs (pz m m.length).natAbs, 0))
  | 0, i, x, hd, hi, hx, hP => by
    have : i = m.length := by omega
    subst this
    exact .inr ⟨hP, x, hx, Ev.step (fun k => crt_Lift.l1000_eq ..) (Ev.neg (by omega) (Ev.now _))⟩
  | d + 1, i, x, hd, hi, hx, hP => by
    rcases lift_step hl hm he h100 hM (by omega) hx hP with ⟨g1, g2⟩ | ⟨g1, y, g2, g3⟩
    · exact .inl ⟨g1, Ev.step (fun k => crt_Lift.l1000_eq ..) (Ev.pos (by omega) (Ev.pos (by omega) (Ev.pos (by omega) (Ev.pos (by omega) (Ev.pos (by omega) (Ev.bind g2 (Ev.neg (by decide) (Ev.now _))))))))⟩
    · have pre : ∀ R, Ev (fun k => crt_Lift.l1000 k l m false [] false [] (ng y) (limbs y.natAbs) (ng (pz m (i + 1))) (limbs (pz m (i + 1)).natAbs) ((i + 1 : Nat) : Int)) R → Ev (fun k => crt_Lift.l1000 k l m false [] false [] (ng x) (limbs x.natAbs) (ng (pz m i)) (limbs (pz m i).natAbs) (i : Int)) R := fun R g => by
        rw [← w64_succ (a := i) (by omega)] at g
        exact Ev.step (fun k => crt_Lift.l1000_eq ..) (Ev.pos (by omega) (Ev.pos (by omega) (Ev.pos (by omega) (Ev.pos (by omega) (Ev.pos (by omega) (Ev.bind g3 (Ev.pos rfl g)))))))
      rcases lift_l hl hm he h100 hM d (i + 1) y (by omega) (by omega) g2 g1 with ⟨h1, h2⟩ | ⟨h1, z, h2, h3⟩
      · exact .inl ⟨h1, pre _ h2⟩
      · exact .inr ⟨h1, z, h2, pre _ h3⟩
theorem lift_bad {l m : List Int} (hm : WF m) (h100 : m.length ≤ 100) (h : l.length ≠ m.length ∨ ¬ Mays m) : Ev (fun k => crt_Lift.f k l m) (false, [], false, [], 1) :=
  Ev.congr (fun k => crt_Lift.f_eq ..) (Ev.bind (cwrong_no hm (by omega) h) (Ev.neg (by decide) (Ev.now _)))
/-- What Lift answers where the words may be. -/
theorem lift_ev {l m : List Int} (hl : WF l) (hm : WF m) (he : l.length = m.length) (h100 : m.length ≤ 100) (hM : Mays m) :
    (¬ Pair (wd m) m.length ∧ Ev (fun k => crt_Lift.f k l m) (false, [], false, [], 11)) ∨ (Pair (wd m) m.length ∧ ∃ y, Leaves l m m.length y ∧ Ev (fun k => crt_Lift.f k l m) (ng y, limbs y.natAbs, ng (pz m m.length), limbs (pz m m.length).natAbs, 0)) := by
  have gw := cwrong_ok hm (by omega) he hM
  have go := iof_ev (n := 1) (by decide) (by decide)
  have x0 : Leaves l m 0 0 := ⟨Int.le_refl _, (show (0 : Int) < ((1 : Nat) : Int) by decide), fun j hj => absurd hj (Nat.not_lt_zero _)⟩
  have P0 : Pair (wd m) 0 := fun i hi => absurd hi (Nat.not_lt_zero _)
  have e0 : (limbs (0 : Int).natAbs) = [] := by rw [show (0 : Int).natAbs = 0 from rfl, limbs_zero]
  by_cases hn : m.length = 0
  · refine .inr ⟨by rw [hn]; exact P0, 0, by rw [hn]; exact x0, ?_⟩
    rw [hn, e0]
    exact Ev.congr (fun k => crt_Lift.f_eq ..) (Ev.bind gw (Ev.pos rfl (Ev.bind go (Ev.neg (by omega) (Ev.now _)))))
  · have hs := lift_step hl hm he h100 hM (i := 0) (by omega) x0 P0
    rw [e0] at hs
    rcases hs with ⟨g1, g2⟩ | ⟨g1, y, g2, g3⟩
    · exact .inl ⟨g1, Ev.congr (fun k => crt_Lift.f_eq ..) (Ev.bind gw (Ev.pos rfl (Ev.bind go (Ev.pos (by omega) (Ev.pos (by omega) (Ev.pos (by omega) (Ev.bind g2 (Ev.neg (by decide) (Ev.now _)))))))))⟩
    · have pre : ∀ R, Ev (fun k => crt_Lift.l1000 k l m false [] false [] (ng y) (limbs y.natAbs) (ng (pz m (0 + 1))) (limbs (pz m (0 + 1)).natAbs) ((0 + 1 : Nat) : Int)) R → Ev (fun k => crt_Lift.f k l m) R := fun R g => by
        rw [← w64_succ (a := 0) (by omega)] at g
        exact Ev.congr (fun k => crt_Lift.f_eq ..) (Ev.bind gw (Ev.pos rfl (Ev.bind go (Ev.pos (by omega) (Ev.pos (by omega) (Ev.pos (by omega) (Ev.bind g3 (Ev.pos rfl g))))))))
      rcases lift_l hl hm he h100 hM _ (0 + 1) y rfl (by omega) g2 g1 with ⟨h1, h2⟩ | ⟨h1, z, h2, h3⟩
      · exact .inl ⟨h1, pre _ h2⟩
      · exact .inr ⟨h1, z, h2, pre _ h3⟩
theorem Leaves.sz {l m : List Int} {n : Nat} {y : Int} (hm : WF m) (h : Leaves l m n y) : Sz (n + 1) y := (pz_sz hm n).mono (by have := h.1; have := h.2.1; omega)
/-! ### Join -/
theorem join_ok {l m : List Int} {y : Int} {n : Nat} (hm : WF m) (hn : n ≤ 100) (hM : Mays m) (hnl : n ≤ m.length) (h : Leaves l m n y) (g : Ev (fun k => crt_Lift.f k l m) (ng y, limbs y.natAbs, ng (pz m n), limbs (pz m n).natAbs, 0)) :
    Ev (fun k => crt_Join.f k l m) (ng (nearZ y (pz m n)), limbs (nearZ y (pz m n)).natAbs, 0) :=
  Ev.congr (fun k => crt_Join.f_eq ..) (Ev.bind g (Ev.pos rfl (Ev.bind (near_ev ((h.sz hm).up (by omega)) ((pz_sz hm n).up (by omega)) (pz_pos hM hnl)) (Ev.now _))))
theorem join_no {l m : List Int} {e : Int} (he : e ≠ 0) (g : Ev (fun k => crt_Lift.f k l m) (false, [], false, [], e)) : Ev (fun k => crt_Join.f k l m) (false, [], e) :=
  Ev.congr (fun k => crt_Join.f_eq ..) (Ev.bind g (Ev.neg he (Ev.now _)))
/-! ### the examples -/
theorem dec_two {n a b : Nat} (ha : 48 < a ∧ a < 58) (hb : 48 ≤ b ∧ b < 58) (e : n = (a - 48) * 10 + (b - 48)) : dec n = tx [UInt8.ofNat a, UInt8.ofNat b] := by
  have ea : (UInt8.ofNat a).toNat = a := by rw [UInt8.toNat_ofNat']; exact Nat.mod_eq_of_lt (by omega)
  have eb : (UInt8.ofNat b).toNat = b := by rw [UInt8.toNat_ofNat']; exact Nat.mod_eq_of_lt (by omega)
  have h := ds_of (l := [UInt8.ofNat a, UInt8.ofNat b]) (fun x hx => by
    simp at hx
    rcases hx with rfl | rfl
    · rw [ea]; omega
    · rw [eb]; omega) (by simp) (.inr fun _ h => by
      have := congrArg UInt8.toNat h
      rw [List.head_cons, ea] at this
      have h48 : (48 : UInt8).toNat = 48 := rfl
      omega)
  have hs : sv [UInt8.ofNat a, UInt8.ofNat b] = n := by
    have h1 := sv_take_succ [UInt8.ofNat a, UInt8.ofNat b] 0 (by simp)
    have h2 := sv_take_succ [UInt8.ofNat a, UInt8.ofNat b] 1 (by simp)
    simp [ea, eb] at h1 h2
    have h0 : sv ([] : List UInt8) = 0 := rfl
    omega
  rw [dec, h, hs]
end Go.Proofs.Yteoeacndpgomaaa.Pure
end
section
/-
  The laws of chapter 05, first part: the examples, Near, Lift, Parts.
-/
namespace Go.Proofs.Yteoeacndpgomaaa.Pure
open Go.RowKit Go.Proofs.Yteoeacndpgomaaa.F Go.Proofs.YteoeacndpgomaaaW.PrintWords Go.Proofs.YteoeacndpgomaaaW.PrintLast Go.Proofs.YteoeacndpgomaaaW.PrintMore
open Go.Proofs.Yteoeacndpgomaaa.E (tEq tLt tApp tCut)
set_option linter.unusedVariables false
set_option linter.unusedSimpArgs false
theorem WF_two {a b : Int} (ha : U a) (hb : U b) : WF [a, b] := fun y hy => by
  simp at hy
  rcases hy with rfl | rfl
  · exact ha
  · exact hb
theorem awake_ev : Ev (fun k => vinculumlaw05_awake.f k) true := by
  have w1 : WF [2, 3] := WF_two ⟨by decide, by decide⟩ ⟨by decide, by decide⟩
  have w2 : WF [5, 7] := WF_two ⟨by decide, by decide⟩ ⟨by decide, by decide⟩
  have w3 : WF [1, 1] := WF_two ⟨by decide, by decide⟩ ⟨by decide, by decide⟩
  have w4 : WF [4, 6] := WF_two ⟨by decide, by decide⟩ ⟨by decide, by decide⟩
  have m2 : Mays [5, 7] := fun j hj => by
    have : j = 0 ∨ j = 1 := by simp at hj; omega
    rcases this with rfl | rfl <;> exact ⟨by decide, by decide⟩
  have m4 : Mays [4, 6] := fun j hj => by
    have : j = 0 ∨ j = 1 := by simp at hj; omega
    rcases this with rfl | rfl <;> exact ⟨by decide, by decide⟩
  have g1 : Ev (fun k => crt_Lift.f k [2, 3] [5, 7]) (ng 17, limbs (17 : Int).natAbs, ng 35, limbs (35 : Int).natAbs, 0) := by
    rcases lift_ev w1 w2 rfl (by decide) m2 with ⟨h1, _⟩ | ⟨_, y, ⟨y0, y1, y2⟩, h2⟩
    · refine absurd (fun i hi q hq => ?_) h1
      have h3 : i = 1 ∧ q = 0 := by simp at hi; omega
      obtain ⟨rfl, rfl⟩ := h3
      decide
    · have e0 := y2 0 (by decide)
      have e1 := y2 1 (by decide)
      have ep : pz [5, 7] ([5, 7] : List Int).length = 35 := by decide
      rw [ep] at h2 y1
      have e0' : y % 5 = 2 := e0
      have e1' : y % 7 = 3 := e1
      have : y = 17 := by omega
      rwa [this] at h2
  have g2 : Ev (fun k => crt_Lift.f k [1, 1] [4, 6]) (false, [], false, [], 11) := by
    rcases lift_ev w3 w4 rfl (by decide) m4 with ⟨_, h1⟩ | ⟨h1, _⟩
    · exact h1
    · exact absurd (h1 1 (by decide) 0 (by decide)) (by decide)
  have sm : ∀ z : Int, -100 ≤ z → z ≤ 100 → Sz 1 z := fun z h1 h2 => sz_small (by omega) (by omega)
  have n1 := near_ev (x := 17) (all := 35) ((sm _ (by decide) (by decide)).up (by decide)) ((sm _ (by decide) (by decide)).up (by decide)) (by decide)
  have n2 := near_ev (x := 18) (all := 35) ((sm _ (by decide) (by decide)).up (by decide)) ((sm _ (by decide) (by decide)).up (by decide)) (by decide)
  rw [show nearZ 17 35 = 17 by decide] at n1
  rw [show nearZ 18 35 = -17 by decide] at n2
  have p1 := iprint_ev (z := 17) ((sm _ (by decide) (by decide)).up (by decide))
  have p2 := iprint_ev (z := 35) ((sm _ (by decide) (by decide)).up (by decide))
  have p3 := iprint_ev (z := -17) ((sm _ (by decide) (by decide)).up (by decide))
  have d17 : dec 17 = tx [49, 55] := dec_two (a := 49) (b := 55) (by decide) (by decide) (by decide)
  have d35 : dec 35 = tx [51, 53] := dec_two (a := 51) (b := 53) (by decide) (by decide) (by decide)
  have t1 : ztx 17 = tx [49, 55] := (ztx_nat 17).trans d17
  have t2 : ztx 35 = tx [51, 53] := (ztx_nat 35).trans d35
  have t3 : ztx (-17) = tx [45, 49, 55] := by
    have h := neg_text (z := -17) (by decide)
    rw [← h, show (-17 : Int).natAbs = 17 from rfl, d17, tApp_tx]
    rfl
  rw [t1] at p1
  rw [t2] at p2
  rw [t3] at p3
  refine Ev.congr (fun k => vinculumlaw05_awake.f_eq ..) (Ev.bind g1 (Ev.bind (iof_ev (n := 17) (by decide) (by decide)) (Ev.bind (iof_ev (n := 35) (by decide) (by decide)) (Ev.bind n1 (Ev.bind (iof_ev (n := 18) (by decide) (by decide)) (Ev.bind (iof_ev (n := 35) (by decide) (by decide)) (Ev.bind n2 (Ev.bind g2 ?_))))))))
  exact Ev.bind p1 (Ev.pos (tEq_yes rfl) (Ev.bind p2 (Ev.pos (tEq_yes rfl) (Ev.pos rfl (Ev.bind p1 (Ev.pos (tEq_yes rfl) (Ev.pos rfl (Ev.bind p3 (Ev.pos (tEq_yes rfl) (Ev.pos rfl (Ev.ret rfl)))))))))))
theorem awake_some : Ev (fun k => (vinculumlaw05_awake.f k).bind fun t0 => some t0) true := Ev.bind awake_ev (Ev.now _)
theorem CrtNears {b : Bool} {l : List Int} {c : Bool} {m : List Int} (hl : WF l) (hm : WF m) : Ev (fun k => vinculumlaw05_CrtNears.f k b l c m) true := by
  by_cases h1 : l.length ≤ 8
  case neg => exact Ev.congr (fun k => vinculumlaw05_CrtNears.f_eq ..) (Ev.bind (few_no h1) (Ev.pos rfl awake_some))
  by_cases h2 : m.length ≤ 8
  case neg => exact Ev.congr (fun k => vinculumlaw05_CrtNears.f_eq ..) (Ev.bind (few_yes h1) (Ev.neg Bool.false_ne_true (Ev.bind (few_no h2) (Ev.pos rfl awake_some))))
  have sx := sz_of (b := b) (p := 8) hl h1
  have sy := sz_of (b := c) (p := 8) hm h2
  have ox := of_ev (b := b) hl (by omega)
  have oy := of_ev (b := c) hm (by omega)
  have px := plain_ev (b := b) hl (by omega)
  have py := plain_ev (b := c) hm (by omega)
  generalize sg b (nv l) = x at *
  generalize sg c (nv m) = y at *
  have X : Sz 400 x := sx.up (by decide)
  have Y : Sz 400 y := sy.up (by decide)
  by_cases h0 : y ≤ 0
  · exact Ev.congr (fun k => vinculumlaw05_CrtNears.f_eq ..) (Ev.bind (few_yes h1) (Ev.neg Bool.false_ne_true (Ev.bind (few_yes h2) (Ev.neg Bool.false_ne_true (Ev.bind ox (Ev.bind oy (Ev.bind (near_no h0) (Ev.bind py (Ev.bind (zsign_ev y) (Ev.pos (sign_le.2 h0) (Ev.pos rfl (Ev.bind isign_zero (Ev.pos rfl awake_some)))))))))))))
  · have hn : Sz 1000 (nearZ x y) := by
      have e0 := Int.emod_nonneg x (show y ≠ 0 by omega)
      have e1 := Int.emod_lt_of_pos x (show 0 < y by omega)
      refine Sz.up (p := 400) (Y.mono ?_) (by decide)
      unfold nearZ
      split <;> omega
    exact Ev.congr (fun k => vinculumlaw05_CrtNears.f_eq ..) (Ev.bind (few_yes h1) (Ev.neg Bool.false_ne_true (Ev.bind (few_yes h2) (Ev.neg Bool.false_ne_true (Ev.bind ox (Ev.bind oy (Ev.bind (near_ev X Y (by omega)) (Ev.bind py (Ev.bind (zsign_ev y) (Ev.neg (fun e => h0 (sign_le.1 e)) (Ev.pos rfl (Ev.bind px (Ev.bind (rnear_ev X Y (by omega)) (Ev.bind (is_ev hn) (Ev.pos rfl awake_some)))))))))))))))
end Go.Proofs.Yteoeacndpgomaaa.Pure
end
section
/-
  The laws of chapter 05, fifth part: Steps.
-/
namespace Go.Proofs.Yteoeacndpgomaaa.Pure
open Go.RowKit Go.Proofs.Yteoeacndpgomaaa.F Go.Proofs.YteoeacndpgomaaaW.PrintWords Go.Proofs.YteoeacndpgomaaaW.PrintLast Go.Proofs.YteoeacndpgomaaaW.PrintMore
open Go.Proofs.Yteoeacndpgomaaa.E (tEq tLt tApp tCut)
set_option linter.unusedVariables false
set_option linter.unusedSimpArgs false
theorem CrtSteps {b : Bool} {l : List Int} {c : Bool} {m : List Int} {p : Int} {q : Int} (hl : WF l) (hm : WF m) (hp : U p) (hq : U q) : Ev (fun k => vinculumlaw05_CrtSteps.f k b l c m p q) true := by
  obtain ⟨r, rfl⟩ := Int.eq_ofNat_of_zero_le hp.1
  obtain ⟨w, rfl⟩ := Int.eq_ofNat_of_zero_le hq.1
  have hr : r < 18446744073709551616 := by have := hp.2; omega
  have hw : w < 18446744073709551616 := by have := hq.2; omega
  by_cases h1 : l.length ≤ 4
  case neg => exact Ev.congr (fun k => vinculumlaw05_CrtSteps.f_eq ..) (Ev.pos (by omega) awake_some)
  by_cases h2 : m.length ≤ 4
  case neg => exact Ev.congr (fun k => vinculumlaw05_CrtSteps.f_eq ..) (Ev.neg (by omega) (Ev.pos (by omega) awake_some))
  have sx := sz_of (b := b) (p := 4) hl h1
  have sy := sz_of (b := c) (p := 4) hm h2
  have ox := of_ev (b := b) hl (by omega)
  have oy := of_ev (b := c) hm (by omega)
  have py := plain_ev (b := c) hm (by omega)
  generalize sg b (nv l) = x at *
  generalize sg c (nv m) = y at *
  have X : Sz 400 x := sx.up (by decide)
  have Y : Sz 400 y := sy.up (by decide)
  by_cases h0 : y ≤ 0
  · exact Ev.congr (fun k => vinculumlaw05_CrtSteps.f_eq ..) (Ev.neg (by omega) (Ev.neg (by omega) (Ev.bind ox (Ev.bind oy (Ev.bind (step_no (.inl h0)) (Ev.bind (isign_ev y) (Ev.pos (sign_le.2 h0) (Ev.pos rfl (Ev.bind isign_zero (Ev.pos rfl (Ev.bind isign_zero (Ev.pos rfl awake_some))))))))))))
  have gm := rmay_ev w
  by_cases hM : May w
  case neg =>
    rw [decide_eq_false hM] at gm
    exact Ev.congr (fun k => vinculumlaw05_CrtSteps.f_eq ..) (Ev.neg (by omega) (Ev.neg (by omega) (Ev.bind ox (Ev.bind oy (Ev.bind (step_no (.inr hM)) (Ev.bind (isign_ev y) (Ev.neg (fun e => h0 (sign_le.1 e)) (Ev.bind gm (Ev.pos rfl (Ev.pos rfl (Ev.bind isign_zero (Ev.pos rfl (Ev.bind isign_zero (Ev.pos rfl awake_some))))))))))))))
  rw [decide_eq_true hM] at gm
  have hM' := hM
  obtain ⟨hm2, hm3⟩ := hM'
  have gl := left_ev (x := y) (m := w) (Y.up (by decide)) (by omega) hw
  have hA0 := Int.emod_nonneg y (show (w : Int) ≠ 0 by omega)
  have eA : y % (w : Int) = (((y % (w : Int)).toNat : Nat) : Int) := (Int.toNat_of_nonneg hA0).symm
  have gg := rgcd3_ev (y % (w : Int)).toNat w
  rw [← eA, Nat.gcd_comm] at gg
  have hy0 : 0 < y := by omega
  rcases step_ev (r := r) X Y hy0 hM hr with ⟨hg, gs⟩ | ⟨hg, z, z0, z1, z2, z3, gs⟩
  · exact Ev.congr (fun k => vinculumlaw05_CrtSteps.f_eq ..) (Ev.neg (by omega) (Ev.neg (by omega) (Ev.bind ox (Ev.bind oy (Ev.bind gs (Ev.bind (isign_ev y) (Ev.neg (fun e => h0 (sign_le.1 e)) (Ev.bind gm (Ev.neg Bool.false_ne_true (Ev.bind py (Ev.bind gl (Ev.bind gg (Ev.neg (fun e => hg (by omega)) (Ev.pos rfl (Ev.bind isign_zero (Ev.pos rfl (Ev.bind isign_zero (Ev.pos rfl awake_some))))))))))))))))))
  · rw [hg] at gg
    have sm : Sz 1 (w : Int) := sz_small (by omega) (by omega)
    have sp : Sz 401 (y * (w : Int)) := Y.mul sm
    have sz : Sz 401 z := sp.mono (by omega)
    have gz := isign_ev z
    have gc := icmp_ev (x := z) (y := y * (w : Int)) (sz.up (by decide)) (sp.up (by decide))
    have hc : ¬ cmpZ z (y * (w : Int)) ≥ 0 := by
      unfold cmpZ; rw [if_pos z1]; decide
    have d1 := idm_ev (x := z) (y := y) (sz.up (by decide)) (Y.up (by decide)) (by omega)
    have d2 := idm_ev (x := x) (y := y) (X.up (by decide)) (Y.up (by decide)) (by omega)
    rw [rd'_posi hy0] at d1 d2
    have sx' : Sz 400 (x % y) := Y.mono (by have := Int.emod_nonneg x (show y ≠ 0 by omega); have := Int.emod_lt_of_pos x hy0; omega)
    have gq := icmp_eq (x := z % y) (y := x % y) z2 (by rw [z2]; exact sx'.up (by decide))
    have gw := imod_ev (z := z) (w := w) (sz.up (by decide)) (by omega) hw
    rw [z3] at gw
    have ge := iexact_ev (x := y * (w : Int)) (y := y) (sp.up (by decide)) (Y.up (by decide)) (by omega)
    rw [if_pos (Int.mul_tmod_right y w), Int.mul_tdiv_cancel_left (w : Int) (show y ≠ 0 by omega)] at ge
    have gp := iprint_ev (z := (w : Int)) (sm.up (by decide))
    rw [ztx_nat] at gp
    have gf := left_ev (x := (w : Int)) (m := 4611686018427387904) (sm.up (by decide)) (by decide) (by decide)
    rw [ng_nat, Int.natAbs_natCast] at gf
    refine Ev.congr (fun k => vinculumlaw05_CrtSteps.f_eq ..) (Ev.neg (by omega) (Ev.neg (by omega) (Ev.bind ox (Ev.bind oy (Ev.bind gs (Ev.bind (isign_ev y) (Ev.neg (fun e => h0 (sign_le.1 e)) (Ev.bind gm (Ev.neg Bool.false_ne_true (Ev.bind py (Ev.bind gl (Ev.bind gg (Ev.pos rfl (Ev.pos rfl ?_))))))))))))))
    refine Ev.bind gz (Ev.neg ?_ (Ev.bind gc (Ev.neg hc (Ev.bind d1 (Ev.bind d2 (Ev.bind gw (Ev.bind ge (Ev.pos rfl (Ev.pos rfl (Ev.bind gq (Ev.pos rfl (Ev.pos rfl (Ev.neg (by omega) (Ev.pos ?_ (Ev.pos rfl (Ev.bind gp (Ev.bind gf (Ev.pos ?_ awake_some))))))))))))))))))
    · intro hs
      rcases Int.lt_trichotomy z 0 with h | h | h
      · omega
      · rw [h] at hs; exact absurd hs (by decide)
      · rw [Int.sign_eq_one_of_pos h] at hs; exact absurd hs (by decide)
    · exact (tmodN r w).symm
    · rw [show (4611686018427387904 : Int) = ((4611686018427387904 : Nat) : Int) from rfl, tmodN]; rfl
end Go.Proofs.Yteoeacndpgomaaa.Pure
end
section
/-
  A law's run from what it computes: whoever calls it gets true, and the blocks that stood stand. Condition: the given rows are words.
-/
namespace Go.Proofs.Yteoeacndpgomaaa.Pure
open Go.RowKit Go.Proofs.Yteoeacndpgomaaa.F Go.Proofs.YteoeacndpgomaaaW.PrintWords Go.Proofs.YteoeacndpgomaaaW.PrintLast Go.Proofs.YteoeacndpgomaaaW.PrintMore
set_option linter.unusedVariables false
set_option linter.unusedSimpArgs false
theorem I_of_wf {x : Int} (h : (Lit.int .i64 x).wf = true) : -9223372036854775808 ≤ x ∧ x ≤ 9223372036854775807 := by
  simp [Lit.wf, IntKind.min, IntKind.max, IntKind.signed, IntKind.bits] at h
  exact ⟨by omega, by omega⟩
/-- A row as it is handed in. -/
def IsRow (k : IntKind) (w : World) (a : Option Addr) (len cap : Nat) (zs : List Int) : Prop :=
  (a = none ∧ len = 0 ∧ cap = 0 ∧ zs = []) ∨
  ∃ x, a = some x ∧ len ≤ cap ∧ cap ≤ maxLen ∧ zs.length = cap ∧ (∀ i, i < zs.length → w.cell? (x.add i) = some (.int k (zs.getD i 0))) ∧ ∀ n ∈ zs, (Lit.int k n).wf = true
theorem IsRow.words {w : World} {a : Option Addr} {len cap : Nat} {zs : List Int} (h : IsRow .u64 w a len cap zs) : WF (zs.take len) := by
  rcases h with ⟨_, _, _, rfl⟩ | ⟨x, _, _, _, _, _, h⟩
  · intro y hy; simp at hy
  · exact fun y hy => U_of_wf (h y (List.mem_of_mem_take hy))
theorem cell_lt {w : World} {p : Addr} {v : Value} (h : w.cell? p = some v) : p.block < w.heap.size := by
  apply Classical.byContradiction
  intro hn
  unfold World.cell? at h
  rw [Array.getElem?_eq_none (by omega)] at h
  simp at h
theorem IsRow.held {w : World} {a : Option Addr} {len cap : Nat} {zs : List Int} {k : IntKind} (h : IsRow k w a len cap zs) : E.HeldF w (fun _ => True) (.row k (zs.take len)) (.slice a len cap) := by
  intro W' hW
  unfold E.Den
  rcases h with ⟨rfl, rfl, rfl, rfl⟩ | ⟨x, rfl, hl, hm, hz, hc, _⟩
  · exact ⟨none, 0, rfl, Nat.le_refl _, fun h => by simp at h⟩
  · have hlen : (zs.take len).length = len := by rw [List.length_take]; omega
    refine ⟨some x, cap, by rw [hlen], by rw [hlen]; exact hl, fun _ => ⟨x, rfl, fun i hi => ?_⟩⟩
    rw [hlen] at hi
    have h1 := hc i (by omega)
    have h2 := cell_lt h1
    have e : (zs.take len).getD i 0 = zs.getD i 0 := by
      rw [List.getD_eq_getElem?_getD, List.getD_eq_getElem?_getD, List.getElem?_take_of_lt hi]
    rw [e, ← h1]
    exact E.cell_same (hW _ trivial h2)
theorem held_int {w : World} {ok : Nat → Prop} (k : IntKind) (n : Int) : E.HeldF w ok (.lit (.int k n)) (.int k n) := E.held_lit _
/-- The law's run. -/
theorem runs {P : Program} {f : FuncId} {A : E.AK} {g : Nat → A.T → Option Bool} (hd : ∀ k, E.Does P f A (.p .bool .nil) (g k) fun b => ((b, ()), [])) {x : A.T} (he : Ev (fun k => g k x) true) {w : World} {us : List Value} (hg : E.GOk w fun _ => True) (hx : E.XAll w (fun _ => True) none (A.put x) us) :
    Calls P f us.toArray w fun e w' => e = .returned (.bool true) ∧ Below w.heap.size w w' := by
  obtain ⟨k, hk⟩ := he
  refine ((hd k x true (hk k (Nat.le_refl _))).2 (fun _ => True) none w us hg hx).mono fun e w' ⟨G, vs, h1, h2, h3, _⟩ => ?_
  refine ⟨?_, (show E.Fr (fun _ => False) w w' from ⟨h3.os, h3.tape, h3.output, h3.size, fun k hk _ => h3.block k hk (fun h => by cases h)⟩).below⟩
  rw [h1]
  match vs, h2 with
  | [v], h2 => exact congrArg _ (E.lit_of h2.1)
end Go.Proofs.Yteoeacndpgomaaa.Pure
end
section
/-
  An array of two ints, by value, opened. No condition.
-/
namespace Go.Proofs.Yteoeacndpgomaaa.Pure
open Go.ChangeShapes Go.WideShapes Go.RowKit
set_option linter.unusedVariables false
theorem open_pair {H : Type} {enc : TypeId × Value → H} {P : Program} {w : World} {base : Nat} {spare : Nat → Bool} {held : Bool} {r : Reach} {b0 : Nat} {t e : TypeId} {k : IntKind} {v : Value} {d : DataW H} {ps : List MemPlace}
    (ht : P.underlying t = some (.array 2 e)) (he : P.underlying e = some (.int k)) (hce : P.cellsOf e = 1) (hC : P.cellsOf t = 2) (hv : Value.okWide P w r b0 t v) (h : DataW.Trod enc P w base spare held t v d ps) :
    ∃ a b, v = .agg #[.int k a, .int k b] ∧ d = .agg [.lit (.int k a), .lit (.int k b)] ∧ ps = [] ∧ (Lit.int k a).wf = true ∧ (Lit.int k b).wf = true := by
  simp only [Value.okWide, ht] at hv
  obtain ⟨cs, rfl, hsz, _⟩ := hv
  obtain ⟨c0, c1, rfl⟩ := Go.Joins.array2 (hsz.trans hC)
  obtain ⟨fuel, hf⟩ := h
  obtain ⟨xs, m, _, hx, _, hl, hi⟩ := DataW.trod_array ht hf
  match xs, hl with
  | [y0, y1], _ =>
    have h0 := hi 0 (by decide)
    have h1 := hi 1 (by decide)
    rw [hce] at h0 h1
    simp [Value.cells] at h0 h1
    obtain ⟨a, e0, x0, w0⟩ := DataW.trod_int he h0
    obtain ⟨b, e1, x1, w1⟩ := DataW.trod_int he h1
    simp at e0 e1
    subst e0 e1
    simp [x0, x1] at hx
    exact ⟨a, b, rfl, hx.1, hx.2, w0, w1⟩
end Go.Proofs.Yteoeacndpgomaaa.Pure
end
