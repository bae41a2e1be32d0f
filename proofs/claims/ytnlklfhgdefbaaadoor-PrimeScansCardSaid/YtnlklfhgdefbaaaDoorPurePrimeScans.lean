/-
  Which primes are the greatest that leave 1 divided by a power of 2, against the reference. No condition but the statement's own.
-/
import Derived.Test.YtnlklfhgdefbaaaDoorPTell
import Derived.Test.YtnlklfhgdefbaaaDoorPScan
import Derived.Test.YtnlklfhgdefbaaaDoorPRef3
import Derived.Test.YtnlklfhgdefbaaaDoorPAwake04
import Derived.Test.YtnlklfhgdefbaaaDoorGNx0
import Derived.Test.YtnlklfhgdefbaaaDoorGNx12
import Derived.Test.YtnlklfhgdefbaaaDoorGNx8
namespace Go.Proofs.YtnlklfhgdefbaaaDoor.Pure
open Go.RowKit Go.Proofs.YtnlklfhgdefbaaaDoor.GN Go.Proofs.YtnlklfhgdefbaaaDoorW.PrintWords Go.Proofs.YtnlklfhgdefbaaaDoorW.PrintLast Go.Proofs.YtnlklfhgdefbaaaDoorW.PrintMore
set_option linter.unusedVariables false
set_option linter.unusedSimpArgs false

theorem scan_bad {k many below : Int} (h : k < 1 ∨ k > 40 ∨ many < 1 ∨ many > 64 ∨ below > 9223372036854775808) : Ev (fun q => prime_Scan.f q k many below) ([], 1) := by
  have bad : Ev (fun q => prime_Scan.j0 q k many below true) ([], 1) :=
    Ev.step (f := fun q => some ([], 1)) (fun q => by simp only [prime_Scan.j0]; exact if_pos trivial) (Ev.now _)
  unfold prime_Scan.f
  by_cases h1 : k < 1
  · exact Ev.congr (fun q => if_pos h1) bad
  refine Ev.congr (fun q => if_neg h1) ?_
  by_cases h2 : k > 40
  · exact Ev.congr (fun q => if_pos h2) bad
  refine Ev.congr (fun q => if_neg h2) ?_
  by_cases h3 : many < 1
  · exact Ev.congr (fun q => if_pos h3) bad
  refine Ev.congr (fun q => if_neg h3) ?_
  by_cases h4 : many > 64
  · exact Ev.congr (fun q => if_pos h4) bad
  refine Ev.congr (fun q => if_neg h4) ?_
  rw [decide_eq_true (by omega)]
  exact bad

/-- All that is found, be it enough or not. -/
def scanF (many unit : Nat) : Nat → List Nat → List Nat
  | 0, l => l
  | c + 1, l => if (if isN ((c + 1) * unit + 1) then l ++ [(c + 1) * unit + 1] else l).length = many then (if isN ((c + 1) * unit + 1) then l ++ [(c + 1) * unit + 1] else l) else scanF many unit c (if isN ((c + 1) * unit + 1) then l ++ [(c + 1) * unit + 1] else l)
theorem grow_le {many p : Nat} {l : List Nat} (h : l.length < many) : (if isN p then l ++ [p] else l).length ≤ many := by
  by_cases hp : isN p = true
  · rw [if_pos hp, List.length_append, List.length_singleton]; exact h
  · rw [if_neg hp]; omega
theorem scanL_F {many unit : Nat} : ∀ (c : Nat) (l : List Nat), l.length < many → scanL many unit c l = (if (scanF many unit c l).length = many then some (scanF many unit c l) else none) ∧ (scanF many unit c l).length ≤ many := by
  intro c
  induction c with
  | zero =>
    intro l h
    rw [scanL, scanF, if_neg (by omega)]
    exact ⟨rfl, Nat.le_of_lt h⟩
  | succ c ih =>
    intro l h
    rw [scanL, scanF]
    have hg := grow_le (p := (c + 1) * unit + 1) h
    generalize (if isN ((c + 1) * unit + 1) then l ++ [(c + 1) * unit + 1] else l) = l' at *
    by_cases h2 : l'.length = many
    · rw [if_pos h2, if_pos h2, if_pos h2]
      exact ⟨rfl, hg⟩
    · rw [if_neg h2, if_neg h2]
      exact ih l' (by omega)
theorem ref_scan_l0 {many unit : Nat} (hm : many ≤ 64) (hu : 2 ≤ unit) : ∀ (n : Nat) (l : List Nat), n ≤ 30000 → l.length ≤ many → Ev (fun k => vinculumref04_Scan.l0 k (many : Int) (unit : Int) (li l) (n : Int)) (li (if l.length < many then scanF many unit ((n - 2) / unit) l else l)) := by
  intro n
  induction n using Nat.strongRecOn with
  | _ n ih =>
    intro l hn hl
    have stop : Ev (fun k => vinculumref04_Scan.j1 k (many : Int) (unit : Int) (li l) (n : Int) false) (li l) :=
      Ev.step (f := fun k => some (li l)) (fun k => by simp only [vinculumref04_Scan.j1]; exact if_neg (by decide)) (Ev.now _)
    by_cases h : unit < n
    · by_cases hlm : l.length < many
      · rw [if_pos hlm]
        have e1 : IntKind.u64.wrap ((n : Int) - 1) = ((n - 1 : Nat) : Int) := u_pred (by omega) (by omega)
        have em : (1 : Int) % (unit : Int) = ((1 % unit : Nat) : Int) := rfl
        have e11 : 1 % unit = 1 := Nat.mod_eq_of_lt hu
        have go : Ev (fun k => vinculumref04_Scan.j1 k (many : Int) (unit : Int) (li l) (n : Int) true) (li (scanF many unit ((n - 2) / unit) l)) := by
          by_cases h1 : (n - 1) % unit = 1
          · have hd := Nat.div_add_mod (n - 1) unit
            rw [h1] at hd
            obtain ⟨c, hc⟩ : ∃ c, (n - 1) / unit = c + 1 := ⟨(n - 1) / unit - 1, by
              have : (n - 1) / unit ≠ 0 := fun h0 => by rw [h0, Nat.mul_zero] at hd; omega
              exact (Nat.sub_add_cancel (Nat.pos_of_ne_zero this)).symm⟩
            rw [hc] at hd
            have hp : n - 1 = (c + 1) * unit + 1 := by rw [Nat.mul_comm]; exact hd.symm
            have ec : (n - 2) / unit = c + 1 := by
              have : n - 2 = (c + 1) * unit := by omega
              rw [this, Nat.mul_div_cancel _ (by omega)]
            have ec2 : (n - 1 - 2) / unit = c := by
              have e3 : (c + 1) * unit = c * unit + unit := by rw [Nat.add_mul, Nat.one_mul]
              have : n - 1 - 2 = (unit - 1) + unit * c := by rw [Nat.mul_comm unit]; omega
              rw [this, Nat.add_mul_div_left _ _ (by omega), Nat.div_eq_of_lt (by omega), Nat.zero_add]
            rw [ec, scanF, ← hp]
            have hg := grow_le (p := n - 1) hlm
            have gi := ref_is_ev (n := n - 1) (by omega)
            have hln : (li l).length < 17592186044416 := by rw [li_length]; omega
            refine Ev.step (f := fun k => (vinculumref04_Is.f k ((n - 1 : Nat) : Int)).bind fun t163 => (if t163 = true then (vinculumref04_Scan.l0 k (many : Int) (unit : Int) (li l ++ [((n - 1 : Nat) : Int)]) ((n - 1 : Nat) : Int)) else (vinculumref04_Scan.l0 k (many : Int) (unit : Int) (li l) ((n - 1 : Nat) : Int)))) (fun k => ?_) (Ev.bind gi ?_)
            · simp only [vinculumref04_Scan.j1]
              rw [if_pos trivial, if_neg (by omega), e1, tmodN, em, e11, h1, if_pos rfl]
              simp only [if_pos hln]
            · by_cases hb : isN (n - 1) = true
              · rw [if_pos hb] at hg ⊢
                refine Ev.congr (fun k => if_pos hb) ?_
                rw [li_append]
                have g := ih (n - 1) (by omega) (l ++ [n - 1]) (by omega) hg
                rw [ec2] at g
                by_cases h5 : (l ++ [n - 1]).length = many
                · rw [if_pos h5]
                  rw [if_neg (by omega)] at g
                  exact g
                · rw [if_neg h5]
                  rw [if_pos (by omega)] at g
                  exact g
              · rw [if_neg hb]
                refine Ev.congr (fun k => if_neg hb) ?_
                have g := ih (n - 1) (by omega) l (by omega) hl
                rw [ec2, if_pos hlm] at g
                rw [if_neg (show ¬ l.length = many by omega)]
                exact g
          · have g := ih (n - 1) (by omega) l (by omega) hl
            have ec : (n - 1 - 2) / unit = (n - 2) / unit := by
              have hd := Nat.div_add_mod (n - 2) unit
              have hr := Nat.mod_lt (n - 2) (show 0 < unit by omega)
              have hr0 : (n - 2) % unit ≠ 0 := fun h0 => h1 (by
                have : n - 1 = (n - 2) + 1 := by omega
                rw [this, Nat.add_mod, h0, e11, Nat.zero_add, e11])
              have : n - 1 - 2 = ((n - 2) % unit - 1) + unit * ((n - 2) / unit) := by omega
              rw [this, Nat.add_mul_div_left _ _ (by omega), Nat.div_eq_of_lt (by omega), Nat.zero_add]
            rw [ec, if_pos hlm] at g
            refine Ev.step (fun k => ?_) g
            simp only [vinculumref04_Scan.j1]
            rw [if_pos trivial, if_neg (by omega), e1, tmodN, em, e11, if_neg (by omega)]
        refine Ev.step (fun k => ?_) go
        simp only [vinculumref04_Scan.l0]
        rw [if_pos (by omega), li_length, decide_eq_true (by omega)]
      · rw [if_neg hlm]
        refine Ev.step (fun k => ?_) stop
        simp only [vinculumref04_Scan.l0]
        rw [if_pos (by omega), li_length, decide_eq_false (by omega)]
    · have e0 : (n - 2) / unit = 0 := Nat.div_eq_of_lt (by omega)
      rw [e0, scanF]
      have e2 : (if l.length < many then l else l) = l := by split <;> rfl
      rw [e2]
      refine Ev.step (fun k => ?_) stop
      simp only [vinculumref04_Scan.l0]
      rw [if_neg (by omega)]
theorem ref_scan_ev {k many below : Nat} (hk1 : 1 ≤ k) (hk : k ≤ 40) (hm1 : 1 ≤ many) (hm : many ≤ 64) (hb : below ≤ 30000) : Ev (fun q => vinculumref04_Scan.f q (k : Int) (many : Int) (below : Int)) (li (scanF many (2 ^ k) ((below - 2) / 2 ^ k) [])) := by
  unfold vinculumref04_Scan.f
  have hp := Nat.pow_le_pow_right (show 0 < 2 by decide) hk
  have hu : 2 ^ 1 ≤ 2 ^ k := Nat.pow_le_pow_right (by decide) hk1
  have gp := rpow_ev (x := 2) (n := k) (m := 4611686018427387904) (by decide) (by decide) (by omega)
  rw [Nat.mod_eq_of_lt (show 2 ^ k < 4611686018427387904 by omega)] at gp
  rw [wrapN k (by omega)]
  refine Ev.bind gp ?_
  have g := ref_scan_l0 hm (show 2 ≤ 2 ^ k from hu) below [] hb (Nat.zero_le _)
  rw [if_pos (show ([] : List Nat).length < many from hm1)] at g
  exact g
theorem scans_l0 (l : List Nat) (hl : l.length ≤ 64) : ∀ (d i : Nat), l.length - i = d → i ≤ l.length → Ev (fun k => vinculumlaw04_PrimeScans.l0 k (li l) (li l) (i : Int)) true := by
  intro d
  induction d with
  | zero =>
    intro i hd hi
    refine Ev.step (f := fun k => (vinculumlaw04_awake.f k).bind fun t => some t) (fun k => ?_) (Ev.bind awake_ev (Ev.now _))
    simp only [vinculumlaw04_PrimeScans.l0]
    rw [li_length, if_neg (by omega)]
  | succ d ih =>
    intro i hd hi
    refine Ev.step (fun k => ?_) (ih (i + 1) (by omega) (by omega))
    simp only [vinculumlaw04_PrimeScans.l0]
    rw [li_length, if_pos (by omega), if_pos (Int.natCast_nonneg i), if_pos (by omega), if_pos trivial, w64_succ (by omega)]
theorem PrimeScans : vinculumlaw04_PrimeScans.Pure := by
  intro k many below hk hm hb
  apply Ev.rounds
  unfold vinculumlaw04_PrimeScans.f
  have off : Ev (fun q => vinculumlaw04_PrimeScans.j0 q k many below true) true :=
    Ev.step (f := fun q => (vinculumlaw04_awake.f q).bind fun t => some t) (fun q => by simp only [vinculumlaw04_PrimeScans.j0]; exact if_pos trivial) (Ev.bind awake_ev (Ev.now _))
  have hU := U_of_wf hb
  have go : ¬ (below > 30000 ∧ below ≤ 9223372036854775808) → Ev (fun q => vinculumlaw04_PrimeScans.j0 q k many below false) true := by
    intro hbel
    have bad : Ev (fun q => vinculumlaw04_PrimeScans.j1 q k many below [] 1 true) true :=
      Ev.step (f := fun q => (vinculumlaw04_awake.f q).bind fun t => some t) (fun q => by
        simp only [vinculumlaw04_PrimeScans.j1]
        rw [if_pos trivial, if_pos trivial]
        exact if_pos rfl) (Ev.bind awake_ev (Ev.now _))
    refine Ev.step (fun q => by simp only [vinculumlaw04_PrimeScans.j0]; exact if_neg (by decide)) ?_
    by_cases h1 : k < 1
    · exact Ev.bind (scan_bad (.inl h1)) (Ev.congr (fun q => if_pos h1) bad)
    by_cases h2 : k > 40
    · exact Ev.bind (scan_bad (.inr (.inl h2))) (Ev.congr (fun q => if_neg h1) (Ev.congr (fun q => if_pos h2) bad))
    by_cases h3 : many < 1
    · exact Ev.bind (scan_bad (.inr (.inr (.inl h3)))) (Ev.congr (fun q => if_neg h1) (Ev.congr (fun q => if_neg h2) (Ev.congr (fun q => if_pos h3) bad)))
    by_cases h4 : many > 64
    · exact Ev.bind (scan_bad (.inr (.inr (.inr (.inl h4))))) (Ev.congr (fun q => if_neg h1) (Ev.congr (fun q => if_neg h2) (Ev.congr (fun q => if_neg h3) (Ev.congr (fun q => if_pos h4) bad))))
    by_cases h5 : below > 9223372036854775808
    · rw [decide_eq_true h5]
      exact Ev.bind (scan_bad (.inr (.inr (.inr (.inr h5))))) (Ev.congr (fun q => if_neg h1) (Ev.congr (fun q => if_neg h2) (Ev.congr (fun q => if_neg h3) (Ev.congr (fun q => if_neg h4) bad))))
    rw [decide_eq_false h5]
    obtain ⟨K, rfl⟩ := Int.eq_ofNat_of_zero_le (show 0 ≤ k by omega)
    obtain ⟨M, rfl⟩ := Int.eq_ofNat_of_zero_le (show 0 ≤ many by omega)
    obtain ⟨B, rfl⟩ := Int.eq_ofNat_of_zero_le hU.1
    have gs := scan_ev (k := K) (many := M) (below := B) (by omega) (by omega) (by omega) (by omega) (by omega)
    have gr := ref_scan_ev (k := K) (many := M) (below := B) (by omega) (by omega) (by omega) (by omega) (by omega)
    obtain ⟨f1, f2⟩ := scanL_F (many := M) (unit := 2 ^ K) ((B - 2) / 2 ^ K) [] (show 0 < M by omega)
    have hz : B < 2 → (B - 2) / 2 ^ K = 0 := fun h => by
      have : B - 2 = 0 := by omega
      rw [this, Nat.zero_div]
    rw [f1] at gs
    generalize hL : scanF M (2 ^ K) ((B - 2) / 2 ^ K) [] = l at *
    have hB2 : B < 2 → l = [] := fun h => by rw [← hL, hz h]; rfl
    have e : (if B < 2 then (([], 19) : List Int × Int) else scanR (if l.length = M then some l else none)) = scanR (if l.length = M then some l else none) := by
      by_cases h : B < 2
      · rw [if_pos h, hB2 h, if_neg (show ¬ ([] : List Nat).length = M from fun h6 => by rw [List.length_nil] at h6; omega)]; rfl
      · rw [if_neg h]
    rw [e] at gs
    refine Ev.bind gs (Ev.congr (fun q => if_neg h1) (Ev.congr (fun q => if_neg h2) (Ev.congr (fun q => if_neg h3) (Ev.congr (fun q => if_neg h4) ?_))))
    by_cases hl : l.length = M
    · rw [if_pos hl]
      refine Ev.step (f := fun q => (vinculumref04_Scan.f q (K : Int) (M : Int) (B : Int)).bind fun t188 => (if (t188.length : Int) < (M : Int) then (none) else (vinculumlaw04_PrimeScans.j2 q (li l) t188 (((li l).length : Int) != (t188.length : Int))))) (fun q => ?_) (Ev.bind gr ?_)
      · simp only [vinculumlaw04_PrimeScans.j1, scanR]
        rw [if_neg (by decide)]
        refine congrArg (Option.bind _) (funext fun t => ?_)
        by_cases ht : (t.length : Int) < (M : Int)
        · rw [if_pos ht, if_pos ht]; exact if_neg (by decide)
        · rw [if_neg ht, if_neg ht]; exact if_pos trivial
      · refine Ev.congr (fun q => if_neg (by rw [li_length]; omega)) ?_
        rw [show (((li l).length : Int) != ((li l).length : Int)) = false by simp]
        refine Ev.step (fun q => by simp only [vinculumlaw04_PrimeScans.j2]; exact if_neg (by decide)) (scans_l0 l (by omega) _ 0 rfl (Nat.zero_le _))
    · rw [if_neg hl]
      refine Ev.step (f := fun q => (vinculumref04_Scan.f q (K : Int) (M : Int) (B : Int)).bind fun t188 => (if (t188.length : Int) < (M : Int) then ((vinculumlaw04_awake.f q).bind fun t191 => (some t191)) else (vinculumlaw04_PrimeScans.j2 q [] t188 true))) (fun q => ?_) (Ev.bind gr ?_)
      · simp only [vinculumlaw04_PrimeScans.j1, scanR]
        rw [if_neg (by decide)]
        refine congrArg (Option.bind _) (funext fun t => ?_)
        by_cases ht : (t.length : Int) < (M : Int)
        · rw [if_pos ht, if_pos ht]; exact (if_pos trivial).trans (if_pos rfl)
        · rw [if_neg ht, if_neg ht]; exact if_neg (by decide)
      · exact Ev.congr (fun q => if_pos (by rw [li_length]; omega)) (Ev.bind awake_ev (Ev.now _))
  by_cases h : below > 30000
  · refine Ev.congr (fun q => if_pos h) ?_
    by_cases h2 : below ≤ 9223372036854775808
    · rw [decide_eq_true h2]; exact off
    · rw [decide_eq_false h2]; exact go (fun h3 => h2 h3.2)
  · exact Ev.congr (fun q => if_neg h) (go (fun h3 => h h3.1))
end Go.Proofs.YtnlklfhgdefbaaaDoor.Pure
