/-
  Which numbers up to a million are primes, and which prime is next, against the reference. No condition but the statement's own.
-/
import Derived.Test.YtnlklfhgdefbaaaDoorPTell
import Derived.Test.YtnlklfhgdefbaaaDoorPAwake04
import Derived.Test.YtnlklfhgdefbaaaDoorGNx0
import Derived.Test.YtnlklfhgdefbaaaDoorGNx10
import Derived.Test.YtnlklfhgdefbaaaDoorGNx2
import Derived.Test.YtnlklfhgdefbaaaDoorGNx9
namespace Go.Proofs.YtnlklfhgdefbaaaDoor.Pure
open Go.RowKit Go.Proofs.YtnlklfhgdefbaaaDoor.GN Go.Proofs.YtnlklfhgdefbaaaDoorW.PrintWords Go.Proofs.YtnlklfhgdefbaaaDoorW.PrintLast Go.Proofs.YtnlklfhgdefbaaaDoorW.PrintMore
set_option linter.unusedVariables false
set_option linter.unusedSimpArgs false

set_option maxRecDepth 100000 in
theorem last_prime : isN 1000003 = true := by decide +kernel
theorem u_succ {n : Nat} (hn : n < 18446744073709551615) : IntKind.u64.wrap ((n : Int) + 1) = ((n + 1 : Nat) : Int) := by rw [show (1 : Int) = ((1 : Nat) : Int) from rfl, addN, wrapN _ (by omega)]
theorem next_both : ∀ (d n : Nat), 1000003 - n = d → n ≤ 1000003 → ∃ p : Nat, Ev (fun k => prime_Next.l0 k (n : Int)) ((p : Int), 0) ∧ Ev (fun k => vinculumref04_Next.l0 k (n : Int)) (p : Int) := by
  intro d
  induction d with
  | zero =>
    intro n hd hn
    have : n = 1000003 := by omega
    subst this
    have g1 := pis_ev (n := 1000003) (by decide)
    have g2 := ref_is_ev (n := 1000003) (by decide)
    rw [last_prime] at g1 g2
    refine ⟨1000003, Ev.step (f := fun k => (prime_Is.f k ((1000003 : Nat) : Int)).bind fun t113 => (if t113 = true then (some (((1000003 : Nat) : Int), 0)) else (prime_Next.l0 k (IntKind.u64.wrap (((1000003 : Nat) : Int) + 1))))) (fun k => ?_) (Ev.bind g1 (Ev.congr (fun k => if_pos rfl) (Ev.now _))), Ev.step (f := fun k => (vinculumref04_Is.f k ((1000003 : Nat) : Int)).bind fun t167 => (if t167 = true then (some ((1000003 : Nat) : Int)) else (vinculumref04_Next.l0 k (IntKind.u64.wrap (((1000003 : Nat) : Int) + 1))))) (fun k => ?_) (Ev.bind g2 (Ev.congr (fun k => if_pos rfl) (Ev.now _)))⟩
    · simp only [prime_Next.l0]
      rw [if_pos (by decide)]
    · simp only [vinculumref04_Next.l0]
  | succ d ih =>
    intro n hd hn
    have g1 := pis_ev (n := n) (by omega)
    have g2 := ref_is_ev (n := n) hn
    have hlt : (n : Int) < 9223372036854775808 := by omega
    by_cases h : isN n = true
    · rw [h] at g1 g2
      refine ⟨n, Ev.step (f := fun k => (prime_Is.f k (n : Int)).bind fun t113 => (if t113 = true then (some ((n : Int), 0)) else (prime_Next.l0 k (IntKind.u64.wrap ((n : Int) + 1))))) (fun k => ?_) (Ev.bind g1 (Ev.congr (fun k => if_pos rfl) (Ev.now _))), Ev.step (f := fun k => (vinculumref04_Is.f k (n : Int)).bind fun t167 => (if t167 = true then (some (n : Int)) else (vinculumref04_Next.l0 k (IntKind.u64.wrap ((n : Int) + 1))))) (fun k => ?_) (Ev.bind g2 (Ev.congr (fun k => if_pos rfl) (Ev.now _)))⟩
      · simp only [prime_Next.l0]
        rw [if_pos hlt]
      · simp only [vinculumref04_Next.l0]
    · rw [Bool.not_eq_true] at h
      rw [h] at g1 g2
      obtain ⟨p, i1, i2⟩ := ih (n + 1) (by omega) (by omega)
      rw [← u_succ (show n < 18446744073709551615 by omega)] at i1 i2
      refine ⟨p, Ev.step (f := fun k => (prime_Is.f k (n : Int)).bind fun t113 => (if t113 = true then (some ((n : Int), 0)) else (prime_Next.l0 k (IntKind.u64.wrap ((n : Int) + 1))))) (fun k => ?_) (Ev.bind g1 (Ev.congr (fun k => if_neg (by decide)) i1)), Ev.step (f := fun k => (vinculumref04_Is.f k (n : Int)).bind fun t167 => (if t167 = true then (some (n : Int)) else (vinculumref04_Next.l0 k (IntKind.u64.wrap ((n : Int) + 1))))) (fun k => ?_) (Ev.bind g2 (Ev.congr (fun k => if_neg (by decide)) i2))⟩
      · simp only [prime_Next.l0]
        rw [if_pos hlt]
      · simp only [vinculumref04_Next.l0]
theorem PrimeTells : vinculumlaw04_PrimeTells.Pure := by
  intro n wn
  apply Ev.rounds
  unfold vinculumlaw04_PrimeTells.f
  by_cases h : n > 1000000
  · exact Ev.congr (fun k => if_pos h) (Ev.bind awake_ev (Ev.now _))
  refine Ev.congr (fun k => if_neg h) ?_
  have hU := U_of_wf wn
  obtain ⟨m, rfl⟩ := Int.eq_ofNat_of_zero_le hU.1
  obtain ⟨p, g1, g2⟩ := next_both _ m rfl (by omega)
  have i1 := pis_ev (n := m) (by omega)
  have i2 := ref_is_ev (n := m) (by omega)
  refine Ev.bind (g := fun k => prime_Next.f k (m : Int)) g1 (Ev.bind i1 (Ev.bind i2 ?_))
  refine Ev.congr (fun k => if_pos (beq_self_eq_true _)) ?_
  refine Ev.bind (g := fun k => vinculumref04_Next.f k (m : Int)) g2 ?_
  exact Ev.congr (fun k => if_pos rfl) (Ev.congr (fun k => if_pos rfl) (Ev.bind awake_ev (Ev.now _)))
end Go.Proofs.YtnlklfhgdefbaaaDoor.Pure
