/-
  What the printed function Parse of the reference computes on a text. Condition: the text is no longer than a million bytes.
-/
import Derived.Test.YtdomplmilbkaeaaDoorPRefE
import Derived.Test.YtdomplmilbkaeaaDoorGNx0
import Derived.Test.YtdomplmilbkaeaaDoorGNx23
namespace Go.Proofs.YtdomplmilbkaeaaDoor.Pure
open Go.RowKit Go.Proofs.YtdomplmilbkaeaaDoor.GN Go.Proofs.YtdomplmilbkaeaaDoorW.PrintWords Go.Proofs.YtdomplmilbkaeaaDoorW.PrintLast Go.Proofs.YtdomplmilbkaeaaDoorW.PrintMore
set_option linter.unusedVariables false
set_option linter.unusedSimpArgs false

/-! ### Parse -/
/-- What is wrong with a text. -/
def code (l : List UInt8) : Int := if l = [] ∨ (1 < l.length ∧ l.head? = some 48) ∨ ¬ DS l then 16 else if 20000 < l.length then 13 else 0
theorem parse_l0 (l : List UInt8) (hl : l.length ≤ 1000000) : ∀ (d i : Nat), l.length - i = d → i ≤ l.length → (∀ b ∈ l.take i, 48 ≤ b.toNat ∧ b.toNat ≤ 57) → Ev (fun k => vinculumref01_Parse.l0 k (tx l) (i : Int)) (if ¬ DS l then 16 else if 20000 < l.length then 13 else 0) := by
  intro d
  induction d with
  | zero =>
    intro i hd hi hp
    have : i = l.length := by omega
    subst this
    rw [List.take_length] at hp
    rw [if_neg (not_not_intro (show DS l from hp))]
    by_cases h : 20000 < l.length
    · rw [if_pos h]
      refine Ev.step (f := fun k => some 13) (fun k => ?_) (Ev.now _)
      simp only [vinculumref01_Parse.l0]
      rw [tx_size, if_neg (Int.lt_irrefl _), if_pos (by omega)]
    · rw [if_neg h]
      refine Ev.step (f := fun k => some 0) (fun k => ?_) (Ev.now _)
      simp only [vinculumref01_Parse.l0]
      rw [tx_size, if_neg (Int.lt_irrefl _), if_neg (by omega)]
  | succ d ih =>
    intro i hd hi hp
    have hi0 : i < l.length := by omega
    have hb := tx_bt l i hi0
    by_cases h1 : 48 ≤ (l[i]).toNat ∧ (l[i]).toNat ≤ 57
    · have g := ih (i + 1) (by omega) hi0 (fun b h => by
        rw [List.take_succ_eq_append_getElem hi0] at h
        rcases List.mem_append.1 h with h | h
        · exact hp b h
        · rw [List.mem_singleton.1 h]; exact h1)
      refine Ev.step (fun k => ?_) g
      simp only [vinculumref01_Parse.l0]
      rw [tx_size, if_pos (Int.ofNat_lt.2 hi0), if_pos (Int.natCast_nonneg i), hb, if_neg (by omega), if_neg (by omega), w64_succ (by omega)]
    · have : ¬ DS l := fun h => h1 (h _ (List.getElem_mem hi0))
      rw [if_pos this]
      refine Ev.step (f := fun k => some 16) (fun k => ?_) (Ev.now _)
      simp only [vinculumref01_Parse.l0]
      rw [tx_size, if_pos (Int.ofNat_lt.2 hi0), if_pos (Int.natCast_nonneg i), hb]
      by_cases h2 : ((l[i]).toNat : Int) < 48
      · rw [if_pos h2]
      · rw [if_neg h2, if_pos (by omega)]
theorem ref_parse {l : List UInt8} (hl : l.length ≤ 1000000) : Ev (fun k => vinculumref01_Parse.f k (tx l)) (code l) := by
  have bad : code l = 16 → Ev (fun k => vinculumref01_Parse.j0 k (tx l) true) (code l) := fun h => by
    rw [h]
    exact Ev.step (f := fun k => some 16) (fun k => by simp only [vinculumref01_Parse.j0]; exact if_pos trivial) (Ev.now _)
  have fine : l ≠ [] → ¬ (1 < l.length ∧ l.head? = some 48) → Ev (fun k => vinculumref01_Parse.j0 k (tx l) false) (code l) := fun h1 h2 => by
    have e : code l = (if ¬ DS l then 16 else if 20000 < l.length then 13 else 0) := by
      unfold code
      by_cases h3 : DS l
      · rw [if_neg (fun h => h.elim h1 fun h => h.elim h2 fun h => h h3), if_neg (not_not_intro h3)]
      · rw [if_pos (.inr (.inr h3)), if_pos h3]
    rw [e]
    exact Ev.step (fun k => by simp only [vinculumref01_Parse.j0]; exact if_neg (by decide)) (parse_l0 l hl _ 0 rfl (Nat.zero_le _) (fun b h => by rw [List.take_zero] at h; cases h))
  unfold vinculumref01_Parse.f
  rw [tx_toList, tx_size]
  by_cases h1 : l = []
  · exact Ev.congr (fun k => if_pos h1) (bad (if_pos (.inl h1)))
  · refine Ev.congr (fun k => if_neg h1) ?_
    have hpos : 0 < l.length := List.length_pos_iff.2 h1
    by_cases h2 : (l.length : Int) > 1
    · refine Ev.congr (fun k => if_pos h2) (Ev.congr (fun k => if_pos (Int.ofNat_lt.2 hpos)) ?_)
      have hb := tx_bt l 0 hpos
      have e0 : ((0 : Nat) : Int) = (0 : Int) := rfl
      rw [e0] at hb
      rw [hb]
      have hh : l.head? = some l[0] := by cases l with
        | nil => exact absurd rfl h1
        | cons x xs => rfl
      by_cases h3 : l[0] = 48
      · have : ((((l[0]).toNat : Nat) : Int) == 48) = true := by rw [h3]; rfl
        rw [this]
        exact bad (if_pos (.inr (.inl ⟨by omega, by rw [hh, h3]⟩)))
      · have : ((((l[0]).toNat : Nat) : Int) == 48) = false := by
          apply beq_eq_false_iff_ne.2
          intro h4
          exact h3 (UInt8.toNat.inj (by have : (48 : UInt8).toNat = 48 := rfl; omega))
        rw [this]
        exact fine h1 (fun h => h3 (by have := h.2; rw [hh] at this; exact Option.some.inj this))
    · exact Ev.congr (fun k => if_neg h2) (fine h1 (fun h => h2 (by have := h.1; omega)))
end Go.Proofs.YtdomplmilbkaeaaDoor.Pure
