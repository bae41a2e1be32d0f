/-
  Plain numbers and words for this seat's laws: words of 64 bits, the model's sums and differences with carry, numbers as lists of words. No condition.
-/
import Derived.Test.YtnlklfhgdefbaaaDoorGNx0
namespace Go.Proofs.YtnlklfhgdefbaaaDoor.Pure
open Go.RowKit Go.Proofs.YtnlklfhgdefbaaaDoor.GN Go.Proofs.YtnlklfhgdefbaaaDoorW.PrintWords Go.Proofs.YtnlklfhgdefbaaaDoorW.PrintLast Go.Proofs.YtnlklfhgdefbaaaDoorW.PrintMore
set_option linter.unusedVariables false
set_option linter.unusedSimpArgs false

/-- A word. -/
def U (x : Int) : Prop := 0 ≤ x ∧ x < 18446744073709551616
/-- All are words. -/
def WF (l : List Int) : Prop := ∀ x ∈ l, U x
theorem U_of_wf {x : Int} (h : (Lit.int .u64 x).wf = true) : U x := by
  simp [Lit.wf, IntKind.min, IntKind.max, IntKind.signed, IntKind.bits] at h
  exact ⟨by omega, by omega⟩
theorem WF_of_wf {l : List Int} (h : ∀ x ∈ l, (Lit.int .u64 x).wf = true) : WF l := fun x hx => U_of_wf (h x hx)
theorem wu (x : Int) : IntKind.u64.wrap x = x % 18446744073709551616 := by rw [IntKind.wrap_u64]
theorem wu_of {x : Int} (h : U x) : IntKind.u64.wrap x = x := by have := h.1; have := h.2; rw [wu]; omega
theorem w64_of {x : Int} (h0 : -9223372036854775808 ≤ x) (h1 : x ≤ 9223372036854775807) : wrap64 x = x := by unfold wrap64; omega
theorem w64_nat {a : Nat} (h : a ≤ 1099511627780) : wrap64 (a : Int) = (a : Int) := w64_of (by omega) (by omega)
theorem w64_add {a b : Nat} (h : a + b ≤ 1099511627780) : wrap64 ((a : Int) + (b : Int)) = ((a + b : Nat) : Int) := by rw [w64_of (by omega) (by omega)]; omega
theorem w64_succ {a : Nat} (h : a ≤ 1099511627779) : wrap64 ((a : Int) + 1) = ((a + 1 : Nat) : Int) := by rw [w64_of (by omega) (by omega)]; omega
theorem w64_pred {a : Nat} (h : a ≤ 1099511627779) : wrap64 (((a + 1 : Nat) : Int) - 1) = (a : Int) := by rw [w64_of (by omega) (by omega)]; omega
theorem w64_dec {a : Nat} (h : a ≤ 1099511627779) : wrap64 ((a : Int) - 1) = (a : Int) - 1 := w64_of (by omega) (by omega)

/-! ### numbers as lists of words, the lowest one first -/
def nv : List Int → Nat
  | [] => 0
  | x :: xs => x.toNat + 18446744073709551616 * nv xs
theorem WF.nil : WF [] := fun x hx => by cases hx
theorem WF.head {x : Int} {l : List Int} (h : WF (x :: l)) : U x := h x (by simp)
theorem WF.tail {x : Int} {l : List Int} (h : WF (x :: l)) : WF l := fun y hy => h y (by simp [hy])
theorem WF.cons {x : Int} {l : List Int} (hx : U x) (h : WF l) : WF (x :: l) := fun y hy => by
  rcases List.mem_cons.1 hy with rfl | hy
  · exact hx
  · exact h y hy
theorem WF.append {a b : List Int} (ha : WF a) (hb : WF b) : WF (a ++ b) := fun x hx => by
  rcases List.mem_append.1 hx with h | h
  · exact ha x h
  · exact hb x h
theorem WF.take {l : List Int} (h : WF l) (n : Nat) : WF (l.take n) := fun x hx => h x (List.mem_of_mem_take hx)
theorem WF.drop {l : List Int} (h : WF l) (n : Nat) : WF (l.drop n) := fun x hx => h x (List.mem_of_mem_drop hx)
theorem WF.set {l : List Int} (h : WF l) (n : Nat) {v : Int} (hv : U v) : WF (l.set n v) := fun x hx => by
  rcases List.mem_or_eq_of_mem_set hx with hx | rfl
  · exact h x hx
  · exact hv
theorem WF.zeros (n : Nat) : WF (List.replicate n 0) := fun x hx => by
  have := List.eq_of_mem_replicate hx
  subst this
  exact ⟨by omega, by omega⟩
theorem rd_of {l : List Int} {i : Int} {n : Nat} (hn : i = n) (h : n < l.length) : rd l i = l[n] := by
  subst hn
  simp [rd, List.getD_eq_getElem?_getD, h]
theorem WF.get {l : List Int} (h : WF l) {n : Nat} (hn : n < l.length) : U l[n] := h _ (List.getElem_mem hn)
theorem WF.rdU {l : List Int} (h : WF l) (i : Int) : U (rd l i) := by
  by_cases hi : i.toNat < l.length
  · have e : rd l i = l[i.toNat] := by simp [rd, List.getD_eq_getElem?_getD, hi]
    rw [e]; exact h.get hi
  · have e : rd l i = 0 := by simp [rd, List.getD_eq_getElem?_getD, List.getElem?_eq_none (Nat.le_of_not_lt hi)]
    rw [e]; exact ⟨by omega, by omega⟩
theorem nv_append (a b : List Int) : nv (a ++ b) = nv a + 18446744073709551616 ^ a.length * nv b := by
  induction a with
  | nil => simp [nv]
  | cons x xs ih => simp only [List.cons_append, nv, ih, List.length_cons, Nat.pow_succ]; grind
theorem nv_zeros (n : Nat) : nv (List.replicate n 0) = 0 := by
  induction n with
  | zero => rfl
  | succ n ih => simp [List.replicate_succ, nv, ih]
theorem nv_lt {l : List Int} (h : WF l) : nv l < 18446744073709551616 ^ l.length := by
  induction l with
  | nil => simp [nv]
  | cons x xs ih =>
    have h1 := ih h.tail
    have h2 := h.head
    have := h2.1; have := h2.2
    simp only [nv, List.length_cons, Nat.pow_succ]
    have h3 : nv xs + 1 ≤ 18446744073709551616 ^ xs.length := h1
    have h4 := Nat.mul_le_mul_left 18446744073709551616 h3
    rw [Nat.mul_comm (18446744073709551616 ^ xs.length)]
    omega
theorem nv_set (l : List Int) (n : Nat) (v : Int) (hn : n < l.length) : nv (l.set n v) + l[n].toNat * 18446744073709551616 ^ n = nv l + v.toNat * 18446744073709551616 ^ n := by
  induction l generalizing n with
  | nil => simp at hn
  | cons x xs ih =>
    cases n with
    | zero => simp [nv]; omega
    | succ n =>
      have h1 := ih n (by simpa using hn)
      simp only [List.set_cons_succ, nv, List.getElem_cons_succ, Nat.pow_succ]
      grind
theorem nv_split (l : List Int) (n : Nat) (hn : n ≤ l.length) : nv l = nv (l.take n) + 18446744073709551616 ^ n * nv (l.drop n) := by
  have := nv_append (l.take n) (l.drop n)
  rw [List.take_append_drop, List.length_take, Nat.min_eq_left hn] at this
  exact this
theorem nv_take_succ (l : List Int) (n : Nat) (hn : n < l.length) : nv (l.take (n + 1)) = nv (l.take n) + 18446744073709551616 ^ n * l[n].toNat := by
  rw [List.take_succ_eq_append_getElem hn, nv_append, List.length_take, Nat.min_eq_left (by omega)]
  simp [nv]
theorem nv_drop (l : List Int) (n : Nat) (hn : n < l.length) : nv (l.drop n) = l[n].toNat + 18446744073709551616 * nv (l.drop (n + 1)) := by
  rw [List.drop_eq_getElem_cons hn]; rfl

/-- The words of a number. -/
def limbs (n : Nat) : List Int := if h : n = 0 then [] else ((n % 18446744073709551616 : Nat) : Int) :: limbs (n / 18446744073709551616)
termination_by n
decreasing_by omega
theorem limbs_zero : limbs 0 = [] := by rw [limbs]; simp
theorem limbs_pos {n : Nat} (h : n ≠ 0) : limbs n = ((n % 18446744073709551616 : Nat) : Int) :: limbs (n / 18446744073709551616) := by rw [limbs]; simp [h]
theorem nv_limbs (n : Nat) : nv (limbs n) = n := by
  induction n using Nat.strongRecOn with
  | _ n ih =>
    by_cases h : n = 0
    · subst h; rw [limbs_zero]; rfl
    · rw [limbs_pos h, nv, ih (n / 18446744073709551616) (by omega)]; omega
theorem limbs_WF (n : Nat) : WF (limbs n) := by
  induction n using Nat.strongRecOn with
  | _ n ih =>
    by_cases h : n = 0
    · subst h; rw [limbs_zero]; exact WF.nil
    · rw [limbs_pos h]; exact WF.cons ⟨by omega, by omega⟩ (ih _ (by omega))
/-- No word 0 at the end. -/
def Nz (l : List Int) : Prop := ∀ h : l ≠ [], l.getLast h ≠ 0
theorem Nz.nil : Nz [] := fun h => absurd rfl h
theorem nv_pos_of_Nz {l : List Int} (hw : WF l) (hz : Nz l) (hl : l ≠ []) : 0 < nv l := by
  induction l with
  | nil => exact absurd rfl hl
  | cons x xs ih =>
    simp only [nv]
    by_cases hx : xs = []
    · subst hx
      have h1 := hz hl
      simp at h1
      have := hw.head.1
      omega
    · have h1 := ih hw.tail (fun h => by have := hz (by simp); rwa [List.getLast_cons h] at this) hx
      omega
theorem limbs_of {l : List Int} (hw : WF l) (hz : Nz l) : l = limbs (nv l) := by
  induction l with
  | nil => rw [nv, limbs_zero]
  | cons x xs ih =>
    have hx := hw.head
    have := hx.1; have := hx.2
    have hp := nv_pos_of_Nz hw hz (by simp)
    have hz' : Nz xs := fun h => by have := hz (by simp); rwa [List.getLast_cons h] at this
    rw [limbs_pos (by omega)]
    simp only [nv]
    have e1 : (x.toNat + 18446744073709551616 * nv xs) % 18446744073709551616 = x.toNat := by omega
    have e2 : (x.toNat + 18446744073709551616 * nv xs) / 18446744073709551616 = nv xs := by omega
    rw [e1, e2, ← ih hw.tail hz', Int.toNat_of_nonneg hx.1]
theorem limbs_Nz (n : Nat) : Nz (limbs n) := by
  induction n using Nat.strongRecOn with
  | _ n ih =>
    by_cases h : n = 0
    · subst h; rw [limbs_zero]; exact Nz.nil
    · intro hne
      have e := limbs_pos h
      by_cases h2 : n / 18446744073709551616 = 0
      · have : limbs n = [((n % 18446744073709551616 : Nat) : Int)] := by rw [e, h2, limbs_zero]
        simp only [this, List.getLast_singleton]
        omega
      · have h3 : limbs (n / 18446744073709551616) ≠ [] := by rw [limbs_pos h2]; simp
        have h4 := ih _ (by omega) h3
        have : (limbs n).getLast hne = (limbs (n / 18446744073709551616)).getLast h3 := by simp only [e]; rw [List.getLast_cons h3]
        rw [this]; exact h4
theorem limbs_length_le {n m : Nat} (h : n < 18446744073709551616 ^ m) : (limbs n).length ≤ m := by
  induction m generalizing n with
  | zero => have : n = 0 := by simpa using h
            subst this; rw [limbs_zero]; simp
  | succ m ih =>
    by_cases h0 : n = 0
    · subst h0; rw [limbs_zero]; simp
    · rw [limbs_pos h0]
      have : n / 18446744073709551616 < 18446744073709551616 ^ m := by
        rw [Nat.pow_succ] at h
        exact Nat.div_lt_of_lt_mul (by rw [Nat.mul_comm]; exact h)
      have := ih this
      simp; omega
theorem limbs_inj {a b : Nat} (h : limbs a = limbs b) : a = b := by rw [← nv_limbs a, h, nv_limbs]
theorem limbs_eq_nil {n : Nat} : limbs n = [] ↔ n = 0 := ⟨fun h => by rw [← nv_limbs n, h]; rfl, fun h => by rw [h, limbs_zero]⟩
theorem limbs_length_pos {n : Nat} (h : n ≠ 0) : 0 < (limbs n).length := by rw [limbs_pos h]; simp
/-- How many words: the number is below. -/
theorem lt_pow_limbs (n : Nat) : n < 18446744073709551616 ^ (limbs n).length := by have := nv_lt (limbs_WF n); rwa [nv_limbs] at this
theorem pow_le_limbs {n : Nat} (h : n ≠ 0) : 18446744073709551616 ^ ((limbs n).length - 1) ≤ n := by
  induction n using Nat.strongRecOn with
  | _ n ih =>
    rw [limbs_pos h]
    by_cases h2 : n / 18446744073709551616 = 0
    · rw [h2, limbs_zero]; simp; omega
    · have h1 := ih _ (by omega) h2
      have h3 := limbs_length_pos h2
      simp only [List.length_cons, Nat.add_sub_cancel]
      have e : (limbs (n / 18446744073709551616)).length = ((limbs (n / 18446744073709551616)).length - 1) + 1 := by omega
      rw [e, Nat.pow_succ]
      have := Nat.mul_le_mul_right 18446744073709551616 h1
      omega
theorem limbs_length_mono {a b : Nat} (h : a ≤ b) : (limbs a).length ≤ (limbs b).length := limbs_length_le (Nat.lt_of_le_of_lt h (lt_pow_limbs b))
theorem limbs_take_last {n : Nat} (h : n ≠ 0) : ∃ (t : List Int) (x : Int), limbs n = t ++ [x] ∧ WF t ∧ U x ∧ x ≠ 0 := by
  have hne : limbs n ≠ [] := by rw [limbs_pos h]; simp
  refine ⟨(limbs n).dropLast, (limbs n).getLast hne, (List.dropLast_concat_getLast hne).symm, fun y hy => limbs_WF n y (List.dropLast_subset _ hy), limbs_WF n _ (List.getLast_mem hne), limbs_Nz n hne⟩
end Go.Proofs.YtnlklfhgdefbaaaDoor.Pure
