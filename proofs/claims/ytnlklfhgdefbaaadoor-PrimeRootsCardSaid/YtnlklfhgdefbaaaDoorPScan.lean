/-
  What prime.Scan and the reference's Twos compute. Condition: all are words.
-/
import Derived.Test.YtnlklfhgdefbaaaDoorPPrimeA
import Derived.Test.YtnlklfhgdefbaaaDoorGNx0
import Derived.Test.YtnlklfhgdefbaaaDoorGNx2
import Derived.Test.YtnlklfhgdefbaaaDoorGNx6
namespace Go.Proofs.YtnlklfhgdefbaaaDoor.Pure
open Go.RowKit Go.Proofs.YtnlklfhgdefbaaaDoor.GN Go.Proofs.YtnlklfhgdefbaaaDoorW.PrintWords Go.Proofs.YtnlklfhgdefbaaaDoorW.PrintLast Go.Proofs.YtnlklfhgdefbaaaDoorW.PrintMore
set_option linter.unusedVariables false
set_option linter.unusedSimpArgs false

/-! ### Twos -/
def tw (n : Nat) : Nat := if h : n = 0 then 0 else if n % 2 = 0 then tw (n / 2) + 1 else 0
termination_by n
decreasing_by omega
theorem tw_even {n : Nat} (h0 : n ≠ 0) (h : n % 2 = 0) : tw n = tw (n / 2) + 1 := by rw [tw, dif_neg h0, if_pos h]
theorem tw_odd {n : Nat} (h : n % 2 = 1) : tw n = 0 := by rw [tw, dif_neg (by omega), if_neg (by omega)]
theorem tw_zero : tw 0 = 0 := by rw [tw]; simp
theorem tw_lt : ∀ (m n : Nat), n < 2 ^ m → n ≠ 0 → tw n < m := by
  intro m
  induction m with
  | zero => intro n h h0; rw [Nat.pow_zero] at h; omega
  | succ m ih =>
    intro n h h0
    by_cases he : n % 2 = 0
    · rw [tw_even h0 he]
      rw [Nat.pow_succ] at h
      exact Nat.succ_lt_succ (ih (n / 2) (by omega) (by omega))
    · rw [tw_odd (by omega)]; exact Nat.succ_pos _
theorem tw_ge : ∀ (j n : Nat), n ≠ 0 → 2 ^ j ∣ n → j ≤ tw n := by
  intro j
  induction j with
  | zero => intro n _ _; exact Nat.zero_le _
  | succ j ih =>
    intro n h0 hd
    rw [Nat.pow_succ, Nat.mul_comm] at hd
    obtain ⟨c, hc⟩ := hd
    rw [Nat.mul_assoc] at hc
    have he : n % 2 = 0 := by rw [hc]; exact Nat.mul_mod_right _ _
    rw [tw_even h0 he]
    refine Nat.succ_le_succ (ih (n / 2) (by omega) ⟨c, ?_⟩)
    rw [hc, Nat.mul_div_cancel_left _ (by decide)]
theorem u_half {n : Nat} (hn : n < 18446744073709551616) : IntKind.u64.wrap (Int.tdiv (n : Int) 2) = ((n / 2 : Nat) : Int) := by
  have e : Int.tdiv (n : Int) 2 = ((n / 2 : Nat) : Int) := rfl
  rw [e, wrapN _ (by omega)]
theorem twos_l0 : ∀ (n c : Nat), n < 18446744073709551616 → c + tw n ≤ 1000 → Ev (fun k => vinculumref04_Twos.l0 k (n : Int) (c : Int)) ((c + tw n : Nat) : Int) := by
  intro n
  induction n using Nat.strongRecOn with
  | _ n ih =>
    intro c hn hc
    by_cases h0 : n = 0
    · subst h0
      rw [tw_zero] at hc ⊢
      refine Ev.step (f := fun k => some ((c + 0 : Nat) : Int)) (fun k => ?_) (Ev.now _)
      simp only [vinculumref04_Twos.l0]
      rw [if_neg (by decide)]; rfl
    · have ht : Int.tmod (n : Int) 2 = ((n % 2 : Nat) : Int) := rfl
      by_cases he : n % 2 = 0
      · rw [tw_even h0 he] at hc ⊢
        have g := ih (n / 2) (by omega) (c + 1) (by omega) (by omega)
        have e : c + 1 + tw (n / 2) = c + (tw (n / 2) + 1) := by omega
        rw [e] at g
        refine Ev.step (fun k => ?_) g
        simp only [vinculumref04_Twos.l0]
        rw [if_pos (by omega), ht, if_pos (by omega), u_half hn, w64_succ (by omega)]
      · rw [tw_odd (by omega)] at hc ⊢
        refine Ev.step (f := fun k => some ((c + 0 : Nat) : Int)) (fun k => ?_) (Ev.now _)
        simp only [vinculumref04_Twos.l0]
        rw [if_pos (by omega), ht, if_neg (by omega)]; rfl
theorem tw_le64 {n : Nat} (hn : n < 18446744073709551616) : tw n ≤ 64 := by
  by_cases h0 : n = 0
  · rw [h0, tw_zero]; exact Nat.zero_le _
  · exact Nat.le_of_lt (tw_lt 64 n hn h0)
theorem twos_ev {n : Nat} (hn : n < 18446744073709551616) : Ev (fun k => vinculumref04_Twos.f k (n : Int)) ((tw n : Nat) : Int) := by
  have h := tw_le64 hn
  have g := twos_l0 n 0 hn (by omega)
  rw [Nat.zero_add] at g
  exact g

/-! ### Scan -/
def li (l : List Nat) : List Int := l.map fun (n : Nat) => (n : Int)
theorem li_length (l : List Nat) : (li l).length = l.length := List.length_map ..
theorem li_append (l : List Nat) (n : Nat) : li l ++ [(n : Int)] = li (l ++ [n]) := by simp [li]
theorem li_rd {l : List Nat} {i : Nat} (h : i < l.length) : rd (li l) (i : Int) = ((l[i] : Nat) : Int) := by
  rw [rd_of rfl (by rw [li_length]; exact h)]
  simp [li]
/-- The primes c units and 1, from c on downwards, till there are so many. -/
def scanL (many unit : Nat) : Nat → List Nat → Option (List Nat)
  | 0, _ => none
  | c + 1, l => if (if isN ((c + 1) * unit + 1) then l ++ [(c + 1) * unit + 1] else l).length = many then some (if isN ((c + 1) * unit + 1) then l ++ [(c + 1) * unit + 1] else l) else scanL many unit c (if isN ((c + 1) * unit + 1) then l ++ [(c + 1) * unit + 1] else l)
def scanR (r : Option (List Nat)) : List Int × Int := match r with | some l => (li l, 0) | none => ([], 19)
theorem scan_l0 {many unit : Nat} (hm : many ≤ 64) (hu : 0 < unit) : ∀ (c : Nat) (l : List Nat), c * unit + 1 < 9223372036854775808 → l.length < many → Ev (fun k => prime_Scan.l0 k (many : Int) (unit : Int) (li l) (c : Int)) (scanR (scanL many unit c l)) := by
  intro c
  induction c with
  | zero =>
    intro l hc hl
    refine Ev.step (f := fun k => some ([], 19)) (fun k => ?_) (Ev.now _)
    simp only [prime_Scan.l0]
    rw [if_neg (by decide)]
  | succ c ih =>
    intro l hc hl
    have hcu : (c + 1) * unit = c * unit + unit := by rw [Nat.add_mul, Nat.one_mul]
    have hc1 : c + 1 < 18446744073709551616 := by
      have : c + 1 ≤ (c + 1) * unit := Nat.le_mul_of_pos_right _ hu
      omega
    have ep : IntKind.u64.wrap ((IntKind.u64.wrap (((c + 1 : Nat) : Int) * (unit : Int))) + 1) = (((c + 1) * unit + 1 : Nat) : Int) := by
      rw [mulN, wrapN _ (by omega), show (1 : Int) = ((1 : Nat) : Int) from rfl, addN, wrapN _ (by omega)]
    have hc' : c * unit + 1 < 9223372036854775808 := by omega
    have hpN : (c + 1) * unit + 1 < 18446744073709551616 := by omega
    clear hcu
    have ed : IntKind.u64.wrap (((c + 1 : Nat) : Int) - 1) = (c : Int) := u_pred (Nat.succ_pos c) hc1
    have hpos : ((c + 1 : Nat) : Int) > 0 := by omega
    have hlen : (li l).length < 17592186044416 := by rw [li_length]; omega
    generalize hP : (c + 1) * unit + 1 = p at *
    have gi := pis_ev hpN
    refine Ev.step (f := fun k => (prime_Is.f k (p : Int)).bind fun t114 => (if t114 = true then ((some (li l ++ [(p : Int)] : List Int)).bind fun y115 => (if (y115.length : Int) = (many : Int) then (some (y115, 0)) else (prime_Scan.l0 k (many : Int) (unit : Int) y115 (c : Int)))) else (if ((li l).length : Int) = (many : Int) then (some (li l, 0)) else (prime_Scan.l0 k (many : Int) (unit : Int) (li l) (c : Int))))) (fun k => ?_) (Ev.bind gi ?_)
    · simp only [prime_Scan.l0]
      rw [if_pos hpos, ep, ed]
      simp only [if_pos hlen]
    · have es : scanL many unit (c + 1) l = if (if isN p then l ++ [p] else l).length = many then some (if isN p then l ++ [p] else l) else scanL many unit c (if isN p then l ++ [p] else l) := by rw [scanL, hP]
      rw [es]
      clear ep ed es
      by_cases h : isN p = true
      · rw [if_pos h]
        refine Ev.congr (fun k => if_pos h) (Ev.congr (fun k => Option.bind_some _ _) ?_)
        rw [li_append, li_length]
        by_cases h2 : (l ++ [p]).length = many
        · rw [if_pos h2]
          exact Ev.congr (fun k => if_pos (by omega)) (Ev.now _)
        · rw [if_neg h2]
          have hl2 : (l ++ [p]).length < many := by
            rw [List.length_append, List.length_singleton] at h2 ⊢; omega
          exact Ev.congr (fun k => if_neg (by omega)) (ih _ hc' hl2)
      · rw [if_neg h]
        refine Ev.congr (fun k => if_neg h) ?_
        rw [li_length, if_neg (show ¬ l.length = many by omega)]
        exact Ev.congr (fun k => if_neg (by omega)) (ih _ hc' hl)
/-- What Scan answers where its arguments are right. -/
theorem scan_ev {k many below : Nat} (hk1 : 1 ≤ k) (hk : k ≤ 40) (hm1 : 1 ≤ many) (hm : many ≤ 64) (hb : below ≤ 9223372036854775808) : Ev (fun q => prime_Scan.f q (k : Int) (many : Int) (below : Int)) (if below < 2 then ([], 19) else scanR (scanL many (2 ^ k) ((below - 2) / 2 ^ k) [])) := by
  unfold prime_Scan.f
  refine Ev.congr (fun q => if_neg (by omega)) (Ev.congr (fun q => if_neg (by omega)) (Ev.congr (fun q => if_neg (by omega)) (Ev.congr (fun q => if_neg (by omega)) ?_)))
  rw [decide_eq_false (by omega)]
  have hp := Nat.pow_le_pow_right (show 0 < 2 by decide) hk
  have hu : 0 < 2 ^ k := Nat.pow_pos (by decide)
  have esh : shl .u64 1 (IntKind.u64.wrap (k : Int)) = ((2 ^ k : Nat) : Int) := by
    rw [wrapN k (by omega)]
    have := shl_nat 1 (s := k) (by omega)
    rw [Nat.one_mul, Nat.mod_eq_of_lt (by omega)] at this
    exact this
  have hw : (0 : Int) ≤ IntKind.u64.wrap (k : Int) := by rw [wrapN k (by omega)]; exact Int.natCast_nonneg k
  by_cases h2 : below < 2
  · rw [if_pos h2]
    refine Ev.step (f := fun q => some ([], 19)) (fun q => ?_) (Ev.now _)
    simp only [prime_Scan.j0]
    rw [if_neg (by decide), if_pos hw, if_pos (by omega)]
  · rw [if_neg h2]
    have e2 : IntKind.u64.wrap ((below : Int) - 2) = ((below - 2 : Nat) : Int) := by
      have : (below : Int) - 2 = ((below - 2 : Nat) : Int) := by omega
      rw [this, wrapN _ (by omega)]
    have e3 : IntKind.u64.wrap (Int.tdiv ((below - 2 : Nat) : Int) ((2 ^ k : Nat) : Int)) = (((below - 2) / 2 ^ k : Nat) : Int) := by
      rw [tdivN, wrapN _ (Nat.lt_of_le_of_lt (Nat.div_le_self _ _) (by omega))]
    have hlt : (below - 2) / 2 ^ k * 2 ^ k + 1 < 9223372036854775808 := by
      have := Nat.div_mul_le_self (below - 2) (2 ^ k)
      omega
    have g := scan_l0 hm hu ((below - 2) / 2 ^ k) [] hlt (show 0 < many from hm1)
    refine Ev.step (fun q => ?_) g
    simp only [prime_Scan.j0]
    rw [if_neg (by decide), if_pos hw, if_neg (by omega), esh, if_neg (by omega), e2, e3]; rfl
/-- What is scanned: primes below a bound, falling, each 1 more than some units. -/
structure Scanned (unit top : Nat) (l : List Nat) : Prop where
  each : ∀ p ∈ l, isN p = true ∧ p < top ∧ ∃ m, 0 < m ∧ p = m * unit + 1
  fall : l.Pairwise (fun a b => b < a)
theorem scanL_spec {many unit top : Nat} (hu : 0 < unit) : ∀ (c : Nat) (l r : List Nat), Scanned unit top l → (∀ p ∈ l, c * unit + 1 < p) → c * unit + 1 < top → scanL many unit c l = some r → Scanned unit top r ∧ r.length = many := by
  intro c
  induction c with
  | zero => intro l r _ _ _ h; cases h
  | succ c ih =>
    intro l r hs hl ht h
    rw [scanL] at h
    have hcu : (c + 1) * unit = c * unit + unit := by rw [Nat.add_mul, Nat.one_mul]
    have hs' : Scanned unit top (if isN ((c + 1) * unit + 1) then l ++ [(c + 1) * unit + 1] else l) := by
      by_cases hp : isN ((c + 1) * unit + 1) = true
      · rw [if_pos hp]
        refine ⟨fun p hm => ?_, ?_⟩
        · rcases List.mem_append.1 hm with hm | hm
          · exact hs.each p hm
          · rw [List.mem_singleton] at hm
            subst hm
            exact ⟨hp, ht, c + 1, Nat.succ_pos c, rfl⟩
        · refine List.pairwise_append.2 ⟨hs.fall, List.pairwise_singleton _ _, fun a ha b hb => ?_⟩
          rw [List.mem_singleton] at hb
          subst hb
          exact hl a ha
      · rw [if_neg hp]; exact hs
    have hl' : ∀ p ∈ (if isN ((c + 1) * unit + 1) then l ++ [(c + 1) * unit + 1] else l), c * unit + 1 < p := by
      intro p hm
      by_cases hp : isN ((c + 1) * unit + 1) = true
      · rw [if_pos hp] at hm
        rcases List.mem_append.1 hm with hm | hm
        · have := hl p hm; omega
        · rw [List.mem_singleton] at hm; omega
      · rw [if_neg hp] at hm
        have := hl p hm; omega
    generalize (if isN ((c + 1) * unit + 1) then l ++ [(c + 1) * unit + 1] else l) = l' at *
    by_cases h2 : l'.length = many
    · rw [if_pos h2] at h
      rw [← Option.some.inj h]
      exact ⟨hs', h2⟩
    · rw [if_neg h2] at h
      exact ih l' r hs' hl' (by omega) h
end Go.Proofs.YtnlklfhgdefbaaaDoor.Pure
