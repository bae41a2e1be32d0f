/-
  What is scanned are primes below the word that leave 1 divided by the power of 2, falling, each once. No condition but the statement's own.
-/
import Derived.Test.YtnlklfhgdefbaaaDoorPScan
import Derived.Test.YtnlklfhgdefbaaaDoorPAwake04
import Derived.Test.YtnlklfhgdefbaaaDoorGNx0
import Derived.Test.YtnlklfhgdefbaaaDoorGNx13
namespace Go.Proofs.YtnlklfhgdefbaaaDoor.Pure
open Go.RowKit Go.Proofs.YtnlklfhgdefbaaaDoor.GN Go.Proofs.YtnlklfhgdefbaaaDoorW.PrintWords Go.Proofs.YtnlklfhgdefbaaaDoorW.PrintLast Go.Proofs.YtnlklfhgdefbaaaDoorW.PrintMore
set_option linter.unusedVariables false
set_option linter.unusedSimpArgs false

theorem great_l0 {k top : Nat} {l : List Nat} (hk : k ≤ 40) (hs : Scanned (2 ^ k) top l) (ht : top ≤ 9223372036854775808) (hl : l.length ≤ 64) : ∀ (d i last : Nat), l.length - i = d → i ≤ l.length → (∀ h : i < l.length, l[i] < last) → Ev (fun q => vinculumlaw04_PrimeGreat.l0 q (k : Int) (l.length : Int) (li l) (last : Int) (i : Int)) true := by
  intro d
  induction d with
  | zero =>
    intro i last hd hi hlast
    refine Ev.step (f := fun q => (vinculumlaw04_awake.f q).bind fun t => some t) (fun q => ?_) (Ev.bind awake_ev (Ev.now _))
    simp only [vinculumlaw04_PrimeGreat.l0]
    rw [li_length, if_neg (by omega), if_pos rfl]
  | succ d ih =>
    intro i last hd hi hlast
    have hi0 : i < l.length := by omega
    have hlt := hlast hi0
    obtain ⟨hp, htop, m, hm0, hm⟩ := hs.each l[i] (List.getElem_mem hi0)
    have hn : l[i] < 18446744073709551616 := by omega
    have hr := li_rd hi0
    have hnext : ∀ h : i + 1 < l.length, l[i + 1] < l[i] := fun h => List.pairwise_iff_getElem.1 hs.fall i (i + 1) hi0 h (Nat.lt_succ_self i)
    have g := ih (i + 1) l[i] (by omega) hi0 hnext
    have hmu : 0 < m * 2 ^ k := Nat.mul_pos hm0 (Nat.pow_pos (by decide))
    have htw : k ≤ tw (l[i] - 1) := tw_ge k (l[i] - 1) (by omega) (by rw [hm, Nat.add_sub_cancel]; exact ⟨m, Nat.mul_comm _ _⟩)
    have gi := pis_ev hn
    rw [hp] at gi
    have gt := twos_ev (n := l[i] - 1) (by omega)
    generalize l[i] = p at *
    refine Ev.step (f := fun q => (prime_Is.f q (p : Int)).bind fun t204 => (if t204 = true then ((vinculumref04_Twos.f q ((p - 1 : Nat) : Int)).bind fun t206 => (if t206 < (k : Int) then (none) else (vinculumlaw04_PrimeGreat.l0 q (k : Int) (l.length : Int) (li l) (p : Int) ((i + 1 : Nat) : Int)))) else (none))) (fun q => ?_) (Ev.bind gi (Ev.congr (fun q => if_pos rfl) (Ev.bind gt (Ev.congr (fun q => if_neg (by omega)) g))))
    simp only [vinculumlaw04_PrimeGreat.l0]
    rw [li_length, if_pos (by omega), if_pos (Int.natCast_nonneg i), hr, if_neg (by omega), u_pred (by omega) hn, w64_succ (by omega)]
theorem PrimeGreat : vinculumlaw04_PrimeGreat.Pure := by
  intro k many below hk hm hb
  apply Ev.rounds
  unfold vinculumlaw04_PrimeGreat.f
  have off : Ev (fun q => vinculumlaw04_PrimeGreat.j0 q k many below true) true :=
    Ev.step (f := fun q => (vinculumlaw04_awake.f q).bind fun t => some t) (fun q => by simp only [vinculumlaw04_PrimeGreat.j0]; exact if_pos trivial) (Ev.bind awake_ev (Ev.now _))
  by_cases h1 : k < 1
  · exact Ev.congr (fun q => if_pos h1) off
  refine Ev.congr (fun q => if_neg h1) ?_
  by_cases h2 : k > 40
  · exact Ev.congr (fun q => if_pos h2) off
  refine Ev.congr (fun q => if_neg h2) ?_
  by_cases h3 : many < 1
  · exact Ev.congr (fun q => if_pos h3) off
  refine Ev.congr (fun q => if_neg h3) ?_
  by_cases h4 : many > 8
  · exact Ev.congr (fun q => if_pos h4) off
  refine Ev.congr (fun q => if_neg h4) ?_
  by_cases h5 : below < 1000000
  · exact Ev.congr (fun q => if_pos h5) off
  refine Ev.congr (fun q => if_neg h5) ?_
  by_cases h6 : below > 9223372036854775808
  · rw [decide_eq_true h6]; exact off
  rw [decide_eq_false h6]
  obtain ⟨K, rfl⟩ := Int.eq_ofNat_of_zero_le (show 0 ≤ k by omega)
  obtain ⟨M, rfl⟩ := Int.eq_ofNat_of_zero_le (show 0 ≤ many by omega)
  obtain ⟨B, rfl⟩ := Int.eq_ofNat_of_zero_le (show 0 ≤ below by omega)
  have gs := scan_ev (k := K) (many := M) (below := B) (by omega) (by omega) (by omega) (by omega) (by omega)
  rw [if_neg (by omega)] at gs
  refine Ev.step (fun q => by simp only [vinculumlaw04_PrimeGreat.j0]; exact if_neg (by decide)) (Ev.bind gs ?_)
  have hu : 0 < 2 ^ K := Nat.pow_pos (by decide)
  have hlt : (B - 2) / 2 ^ K * 2 ^ K + 1 < B := by
    have := Nat.div_mul_le_self (B - 2) (2 ^ K)
    omega
  cases e : scanL M (2 ^ K) ((B - 2) / 2 ^ K) [] with
  | none =>
    exact Ev.congr (fun q => if_neg (by decide)) (Ev.congr (fun q => if_pos rfl) (Ev.congr (fun q => if_pos rfl) (Ev.bind awake_ev (Ev.now _))))
  | some l =>
    obtain ⟨hs, hlen⟩ := scanL_spec hu _ [] l (top := B) ⟨(fun p h => by cases h), List.Pairwise.nil⟩ (fun p h => by cases h) hlt e
    have g := great_l0 (k := K) (by omega) hs (by omega) (by omega) _ 0 B rfl (Nat.zero_le _) (fun h => (hs.each _ (List.getElem_mem h)).2.1)
    rw [hlen] at g
    exact Ev.congr (fun q => if_pos rfl) g
end Go.Proofs.YtnlklfhgdefbaaaDoor.Pure
