/-
  Decimal digits: bytes, the highest digit first. No condition.
-/
import Derived.Test.YtdomplmilbkaeaaDoorPBase
import Derived.Test.YtdomplmilbkaeaaDoorGNx0
namespace Go.Proofs.YtdomplmilbkaeaaDoor.Pure
open Go.RowKit Go.Proofs.YtdomplmilbkaeaaDoor.GN Go.Proofs.YtdomplmilbkaeaaDoorW.PrintWords Go.Proofs.YtdomplmilbkaeaaDoorW.PrintLast Go.Proofs.YtdomplmilbkaeaaDoorW.PrintMore
set_option linter.unusedVariables false
set_option linter.unusedSimpArgs false

/-- Bytes as a text. -/
def tx (l : List UInt8) : ByteArray := ⟨l.toArray⟩
theorem tx_toList (l : List UInt8) : (tx l).toList = l := by rw [ByteArray.toList_eq]; simp [tx]
theorem tx_size (l : List UInt8) : (tx l).size = l.length := by simp [tx, ByteArray.size]
theorem tx_eta (s : ByteArray) : tx s.data.toList = s := by cases s; simp [tx]
theorem tx_append (a b : List UInt8) : tx a ++ tx b = tx (a ++ b) := by
  have : (tx a ++ tx b).data = (tx (a ++ b)).data := by rw [ByteArray.data_append]; simp [tx]
  cases h1 : tx a ++ tx b; cases h2 : tx (a ++ b); simp_all
theorem tx_extract (l : List UInt8) (a b : Nat) : (tx l).extract a b = tx ((l.drop a).take (b - a)) := by
  have h := Lib.extract_data (tx l) a b
  have e := tx_eta ((tx l).extract a b)
  rw [h] at e
  rw [← e]; simp [tx]
theorem tx_bt (l : List UInt8) (i : Nat) (h : i < l.length) : bt (tx l) (i : Int) = ((l[i]).toNat : Int) := by
  unfold bt
  have h' : (i : Int).toNat < (tx l).size := by rw [tx_size]; simpa using h
  rw [dif_pos h']
  rfl
theorem tx_inj {a b : List UInt8} (h : tx a = tx b) : a = b := by rw [← tx_toList a, h, tx_toList]

/-- All are digits. -/
def DS (l : List UInt8) : Prop := ∀ b ∈ l, 48 ≤ b.toNat ∧ b.toNat ≤ 57
/-- The number of digits, the highest one first. -/
def sv (l : List UInt8) : Nat := l.foldl (fun a b => 10 * a + (b.toNat - 48)) 0
theorem sv_snoc (l : List UInt8) (b : UInt8) : sv (l ++ [b]) = 10 * sv l + (b.toNat - 48) := by simp [sv, List.foldl_append]
theorem sv_nil : sv [] = 0 := rfl
theorem sv_foldl (l : List UInt8) (a : Nat) : l.foldl (fun a b => 10 * a + (b.toNat - 48)) a = a * 10 ^ l.length + sv l := by
  induction l generalizing a with
  | nil => simp [sv]
  | cons x xs ih =>
    simp only [List.foldl_cons, List.length_cons, sv]
    rw [ih, ih (10 * 0 + (x.toNat - 48)), Nat.pow_succ]
    grind
theorem sv_cons (x : UInt8) (l : List UInt8) : sv (x :: l) = (x.toNat - 48) * 10 ^ l.length + sv l := by
  rw [sv, List.foldl_cons, sv_foldl]; simp
theorem sv_append (a b : List UInt8) : sv (a ++ b) = sv a * 10 ^ b.length + sv b := by rw [sv, List.foldl_append, sv_foldl]; rfl
theorem DS.nil : DS [] := fun b h => by cases h
theorem DS.tail {x : UInt8} {l : List UInt8} (h : DS (x :: l)) : DS l := fun b hb => h b (by simp [hb])
theorem DS.head {x : UInt8} {l : List UInt8} (h : DS (x :: l)) : 48 ≤ x.toNat ∧ x.toNat ≤ 57 := h x (by simp)
theorem DS.append {a b : List UInt8} (ha : DS a) (hb : DS b) : DS (a ++ b) := fun x hx => by
  rcases List.mem_append.1 hx with h | h
  · exact ha x h
  · exact hb x h
theorem sv_lt {l : List UInt8} (h : DS l) : sv l < 10 ^ l.length := by
  induction l with
  | nil => simp [sv]
  | cons x xs ih =>
    have h1 := ih h.tail
    have h2 := h.head
    rw [sv_cons, List.length_cons, Nat.pow_succ]
    have h3 : x.toNat - 48 ≤ 9 := by omega
    have h4 := Nat.mul_le_mul_right (10 ^ xs.length) h3
    generalize 10 ^ xs.length = P at *
    omega
/-- The byte of a digit. -/
def dg (n : Nat) : UInt8 := UInt8.ofNat (48 + n % 10)
theorem dg_toNat (n : Nat) : (dg n).toNat = 48 + n % 10 := by
  unfold dg
  rw [UInt8.toNat_ofNat']
  omega
theorem dg_of {b : UInt8} (h : 48 ≤ b.toNat ∧ b.toNat ≤ 57) : dg (b.toNat - 48) = b := by
  apply UInt8.toNat.inj
  rw [dg_toNat]; omega
/-- A number's digits, the highest one first. -/
def ds (n : Nat) : List UInt8 := if n < 10 then [dg n] else ds (n / 10) ++ [dg n]
termination_by n
decreasing_by omega
theorem ds_small {n : Nat} (h : n < 10) : ds n = [dg n] := by rw [ds, if_pos h]
theorem ds_big {n : Nat} (h : ¬ n < 10) : ds n = ds (n / 10) ++ [dg n] := by rw [ds, if_neg h]
theorem ds_DS (n : Nat) : DS (ds n) := by
  induction n using Nat.strongRecOn with
  | _ n ih =>
    by_cases h : n < 10
    · rw [ds_small h]
      intro b hb
      obtain rfl := List.mem_singleton.1 hb
      rw [dg_toNat]; omega
    · rw [ds_big h]
      refine (ih (n / 10) (by omega)).append ?_
      intro b hb
      obtain rfl := List.mem_singleton.1 hb
      rw [dg_toNat]; omega
theorem sv_ds (n : Nat) : sv (ds n) = n := by
  induction n using Nat.strongRecOn with
  | _ n ih =>
    by_cases h : n < 10
    · rw [ds_small h]; simp [sv, dg_toNat]; omega
    · rw [ds_big h, sv_snoc, ih (n / 10) (by omega), dg_toNat]; omega
theorem ds_ne (n : Nat) : ds n ≠ [] := by
  by_cases h : n < 10
  · rw [ds_small h]; simp
  · rw [ds_big h]; simp
theorem ds_inj {a b : Nat} (h : ds a = ds b) : a = b := by rw [← sv_ds a, h, sv_ds]
/-- A number's text. -/
def dec (n : Nat) : ByteArray := tx (ds n)
theorem dec_inj {a b : Nat} (h : dec a = dec b) : a = b := ds_inj (tx_inj h)
theorem ds_length_pos (n : Nat) : 0 < (ds n).length := List.length_pos_iff.2 (ds_ne n)
theorem lt_pow_ds (n : Nat) : n < 10 ^ (ds n).length := by have := sv_lt (ds_DS n); rwa [sv_ds] at this
theorem ds_length_le {n m : Nat} (h : n < 10 ^ m) (hm : 0 < m) : (ds n).length ≤ m := by
  induction m generalizing n with
  | zero => omega
  | succ m ih =>
    by_cases h1 : n < 10
    · rw [ds_small h1]; simp
    · rw [ds_big h1]
      have h2 : n / 10 < 10 ^ m := Nat.div_lt_of_lt_mul (by rw [Nat.pow_succ, Nat.mul_comm] at h; exact h)
      have h3 : 0 < m := by
        rcases Nat.eq_zero_or_pos m with h4 | h4
        · subst h4; simp at h; omega
        · exact h4
      have := ih h2 h3
      simp; omega
theorem ds_length_mono {a b : Nat} (h : a ≤ b) : (ds a).length ≤ (ds b).length := ds_length_le (Nat.lt_of_le_of_lt h (lt_pow_ds b)) (ds_length_pos b)
/-- Digits without 0 ahead are a number's. -/
theorem ds_of {l : List UInt8} (h : DS l) (hne : l ≠ []) (h0 : l.length = 1 ∨ ∀ h : l ≠ [], l.head h ≠ 48) : l = ds (sv l) := by
  have key : ∀ (n : Nat) (l : List UInt8), l.length = n → DS l → l ≠ [] → (l.length = 1 ∨ ∀ h : l ≠ [], l.head h ≠ 48) → l = ds (sv l) := by
    intro n
    induction n with
    | zero => intro l hl _ hne; exact absurd (List.length_eq_zero_iff.1 hl) hne
    | succ n ih =>
      intro l hl hd hne h0
      have hlast := List.dropLast_concat_getLast hne
      generalize hi : l.dropLast = i at hlast
      generalize hx : l.getLast hne = x at hlast
      subst hlast
      have hx' : 48 ≤ x.toNat ∧ x.toNat ≤ 57 := hd x (by simp)
      have hdi : DS i := fun b hb => hd b (by simp [hb])
      by_cases hi0 : i = []
      · subst hi0
        have : sv ([] ++ [x]) = x.toNat - 48 := by rw [sv_snoc, sv_nil]; omega
        rw [this, ds_small (by omega), dg_of hx']; rfl
      · have h1 : ∀ h : i ≠ [], i.head h ≠ 48 := fun h => by
          rcases h0 with h0 | h0
          · simp at h0; exact absurd h0 h
          · have := h0 (by simp)
            rwa [List.head_append_of_ne_nil h] at this
        have e := ih i (by simpa using hl) hdi hi0 (.inr h1)
        have hpos : 1 ≤ sv i := by
          cases i with
          | nil => exact absurd rfl hi0
          | cons a r =>
            have h2 := h1 (by simp)
            have h3 := (hdi.head)
            rw [sv_cons]
            have h4 : 1 ≤ a.toNat - 48 := by
              have : a.toNat ≠ 48 := fun h5 => h2 (UInt8.toNat.inj (by simpa using h5))
              omega
            have h5 := Nat.mul_le_mul h4 (Nat.pow_pos (n := r.length) (show 0 < 10 by decide))
            omega
        rw [sv_snoc, ds_big (by omega)]
        have e1 : (10 * sv i + (x.toNat - 48)) / 10 = sv i := by omega
        have e2 : dg (10 * sv i + (x.toNat - 48)) = x := by
          apply UInt8.toNat.inj
          rw [dg_toNat]; omega
        rw [e1, e2, ← e]
  exact key _ l rfl h hne h0
theorem ds_head {n : Nat} (h : 10 ≤ n) : ∀ h : ds n ≠ [], (ds n).head h ≠ 48 := by
  induction n using Nat.strongRecOn with
  | _ n ih =>
    intro hne
    have e := ds_big (show ¬ n < 10 by omega)
    by_cases h1 : n / 10 < 10
    · have e2 := ds_small h1
      have e3 : ds n = [dg (n / 10), dg n] := by rw [e, e2]; rfl
      simp only [e3, List.head_cons]
      intro h2
      have h3 := congrArg UInt8.toNat h2
      rw [dg_toNat] at h3
      have : (48 : UInt8).toNat = 48 := rfl
      omega
    · have h2 := ih (n / 10) (by omega) (by omega) (ds_ne _)
      have h3 : (ds n).head hne = (ds (n / 10)).head (ds_ne _) := by simp only [e]; rw [List.head_append_of_ne_nil (ds_ne _)]
      rw [h3]; exact h2
/-- The digit at a place from the end. -/
theorem ds_get (n i : Nat) (h : i < (ds n).length) : ((ds n)[(ds n).length - 1 - i]'(by omega)).toNat = 48 + n / 10 ^ i % 10 := by
  induction i generalizing n with
  | zero =>
    by_cases h1 : n < 10
    · have e := ds_small h1
      simp only [e]; simp [dg_toNat]
    · have e := ds_big h1
      have : (ds n)[(ds n).length - 1 - 0]'(by omega) = dg n := by
        simp only [e]; simp
      rw [this, dg_toNat]; simp
  | succ i ih =>
    by_cases h1 : n < 10
    · rw [ds_small h1] at h; simp at h
    · have e := ds_big h1
      have hl : (ds n).length = (ds (n / 10)).length + 1 := by rw [e]; simp
      have h2 : i < (ds (n / 10)).length := by omega
      have h3 := ih (n / 10) h2
      have : (ds n)[(ds n).length - 1 - (i + 1)]'(by omega) = (ds (n / 10))[(ds (n / 10)).length - 1 - i]'(by omega) := by
        simp only [e]
        rw [List.getElem_append_left (by simp; omega)]
        congr 1
        simp; omega
      rw [this, h3, Nat.pow_succ, Nat.mul_comm, Nat.div_div_eq_div_mul]
end Go.Proofs.YtdomplmilbkaeaaDoor.Pure
