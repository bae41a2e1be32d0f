/-
  Texts of this proof, one behind the other: RTftL, RLaw. No condition of their own.
-/
import Derived.Test.YtfffblanmdfidaaDoorX4
section
/-
  The laws of package tft: TftTurns, TftPoints, TftValues, TftFinds, TftBack, TftMuls, TftNil. No condition but the statements' own.
-/
namespace Go.Proofs.YtfffblanmdfidaaDoor.Pure
open Go.RowKit Go.Proofs.YtfffblanmdfidaaDoor.F Go.Proofs.YtfffblanmdfidaaDoorW.PrintWords Go.Proofs.YtfffblanmdfidaaDoorW.PrintLast Go.Proofs.YtfffblanmdfidaaDoorW.PrintMore
set_option linter.unusedVariables false
set_option linter.unusedSimpArgs false
/-! ### awake -/
theorem awake_ev : Ev (fun k => vinculumlaw07_awake.f k) true := by
  have g0 := root_some (p := 17) (K := 2) (X := 3) (by decide) (isN_prime pr17 (by decide)) (by decide) (by decide) (by decide) (by decide) (by decide +kernel)
  have e0 : firstX 17 ((17 - 1) / 2 ^ 2) 2 (3 - 1) 1 ^ ((17 - 1) / 2 ^ 2) % 17 = 13 := by decide +kernel
  rw [e0] at g0
  obtain ⟨s1, s2, hf, hT, gn⟩ := plan_ok (p := 17) (K := 2) (r := 13) pr17 (by decide) (by decide) (by decide) (by decide) (by decide +kernel) g0
  have w1 : WF [1, 2, 3] := by intro x hx; simp at hx; rcases hx with rfl | rfl | rfl <;> exact ⟨by decide, by decide⟩
  have w2 : WF [6, 2, 7] := by intro x hx; simp at hx; rcases hx with rfl | rfl | rfl <;> exact ⟨by decide, by decide⟩
  have p1 := point_yes (p := 17) (K := 2) (r := 13) (hf := hf) (i := 1) (s1 := s1) (s2 := s2) (by decide) (by decide) (by decide) (by decide) (by decide)
  have p2 := point_yes (p := 17) (K := 2) (r := 13) (hf := hf) (i := 2) (s1 := s1) (s2 := s2) (by decide) (by decide) (by decide) (by decide) (by decide)
  have g1 := tgo_ev (n := 3) (s1 := s1) (s2 := s2) hT w1 (by decide) (by decide)
  have g2 := tback_ev (n := 3) (s1 := s1) (s2 := s2) (F := fun q => at0 [1, 2, 3] q % 17) hT w2 rfl (by decide) (fun m => Nat.mod_lt _ (by decide)) (fun j hj => by rw [at0_far (by show 3 ≤ 3 + j; omega)]) (by decide +kernel)
  have e1 : tab 3 (vat 17 2 13 fun q => at0 [1, 2, 3] q % 17) = [6, 2, 7] := by decide +kernel
  have e2 : (tab 3 fun q => at0 [1, 2, 3] q % 17) = [1, 2, 3] := by decide +kernel
  have e3 : (((13 ^ rev 2 1 % 17 : Nat) : Int)) = 16 := by decide +kernel
  have e4 : (((13 ^ rev 2 2 % 17 : Nat) : Int)) = 13 := by decide +kernel
  rw [e1] at g1; rw [e2] at g2; rw [e3] at p1; rw [e4] at p2
  refine Ev.congr (fun k => vinculumlaw07_awake.f_eq k) (Ev.bind gn (Ev.congr (fun k => elim_some _ _ _) (Ev.pos rfl ?_)))
  refine Ev.bind p1 (Ev.bind p2 (Ev.bind g1 (Ev.bind g2 (Ev.bind (most_ev hT.K20) (Ev.pos (by decide) (Ev.pos rfl (Ev.pos rfl ?_)))))))
  exact Ev.bind (same_ev (by decide)) (Ev.pos rfl (Ev.pos rfl (Ev.bind (same_ev (by decide)) (Ev.pos rfl (Ev.now _)))))
theorem awake_some : Ev (fun k => (vinculumlaw07_awake.f k).bind fun t0 => some t0) true := Ev.bind awake_ev (Ev.now _)
/-! ### the document's Turned, Point, Go -/
theorem rev_snoc : ∀ (j i : Nat), rev (j + 1) i = 2 * rev j i + i / 2 ^ j % 2
  | 0, i => by simp [rev]
  | j + 1, i => by
    have h := rev_snoc j (i / 2)
    have e : i / 2 / 2 ^ j = i / 2 ^ (j + 1) := by rw [Nat.div_div_eq_div_mul, Nat.pow_succ, Nat.mul_comm]
    rw [rev, h, rev, e, Nat.pow_succ 2 j]
    generalize 2 ^ j = a
    rw [Nat.mul_add, ← Nat.mul_assoc, Nat.mul_comm (i % 2 * a) 2]
    generalize i % 2 * a = b
    omega
theorem rturned_l5 {K i : Nat} (hK : K ≤ 20) (hi : i < 9223372036854775808) : ∀ (d j : Nat), K - j = d → j ≤ K →
    Ev (fun q => vinculumref07_Turned.l5 q ((i / 2 ^ j : Nat) : Int) (K : Int) ((rev j i : Nat) : Int) (j : Int)) (if 0 < i / 2 ^ K then (0, 1) else (((rev K i : Nat) : Int), 0))
  | 0, j, hd, hj => by
    have : j = K := by omega
    subst this
    refine Ev.step (fun q => vinculumref07_Turned.l5_eq ..) (Ev.neg (by omega) ?_)
    by_cases h : 0 < i / 2 ^ j
    · rw [if_pos h]; exact Ev.pos (by omega) (Ev.now _)
    · rw [if_neg h]; exact Ev.neg (by omega) (Ev.now _)
  | d + 1, j, hd, hj => by
    have g := rturned_l5 hK hi d (j + 1) (by omega) (by omega)
    have hr := rev_lt j i
    have hr2 : 2 ^ j ≤ 2 ^ 20 := Nat.pow_le_pow_right (by decide) (by omega)
    have hq : i / 2 ^ j ≤ i := Nat.div_le_self _ _
    have e1 : wrap64 (Int.tdiv ((i / 2 ^ j : Nat) : Int) 2) = ((i / 2 ^ (j + 1) : Nat) : Int) := by
      rw [Nat.pow_succ, ← Nat.div_div_eq_div_mul]
      generalize i / 2 ^ j = m at *
      rw [Int.tdiv_eq_ediv_of_nonneg (by omega), w64_of (by omega) (by omega)]; omega
    have e2 : wrap64 (wrap64 (2 * ((rev j i : Nat) : Int)) + Int.tmod ((i / 2 ^ j : Nat) : Int) 2) = ((rev (j + 1) i : Nat) : Int) := by
      rw [rev_snoc]
      generalize i / 2 ^ j = m at *
      rw [Int.tmod_eq_emod_of_nonneg (by omega), w64_of (x := 2 * ((rev j i : Nat) : Int)) (by omega) (by omega), w64_of (by omega) (by omega)]; omega
    rw [← e1, ← e2, ← w64_succ (a := j) (by omega)] at g
    exact Ev.step (fun q => vinculumref07_Turned.l5_eq ..) (Ev.pos (by omega) g)
theorem rturned_ev {K i : Nat} (hK : K ≤ 20) (hi : i < 9223372036854775808) : Ev (fun q => vinculumref07_Turned.f q (i : Int) (K : Int)) (if 0 < i / 2 ^ K then (0, 1) else (((rev K i : Nat) : Int), 0)) := by
  have g := rturned_l5 hK hi K 0 rfl (Nat.zero_le _)
  rw [Nat.pow_zero, Nat.div_one] at g
  exact Ev.congr (fun q => vinculumref07_Turned.f_eq ..) (Ev.neg (by omega) (Ev.neg (by omega) (Ev.neg (by omega) g)))
theorem rturned_yes {K i : Nat} (hK : K ≤ 20) (hi : i < 2 ^ K) : Ev (fun q => vinculumref07_Turned.f q (i : Int) (K : Int)) (((rev K i : Nat) : Int), 0) := by
  have hn2 : 2 ^ K ≤ 2 ^ 20 := Nat.pow_le_pow_right (by decide) hK
  have g := rturned_ev (K := K) (i := i) hK (by omega)
  rwa [Nat.div_eq_of_lt hi, if_neg (by omega)] at g
theorem turned_both {i k : Int} (hi : i ≤ 9223372036854775807) : ∃ R : Int × Int, Ev (fun q => tft_Turned.f q i k) R ∧ Ev (fun q => vinculumref07_Turned.f q i k) R := by
  by_cases h1 : k < 0
  · exact ⟨(0, 1), turned_no (.inl h1), Ev.congr (fun q => vinculumref07_Turned.f_eq ..) (Ev.pos h1 (Ev.now _))⟩
  by_cases h2 : k > 20
  · exact ⟨(0, 1), turned_no (.inr (.inl h2)), Ev.congr (fun q => vinculumref07_Turned.f_eq ..) (Ev.neg h1 (Ev.pos h2 (Ev.now _)))⟩
  by_cases h3 : i < 0
  · exact ⟨(0, 1), turned_no (.inr (.inr (.inl h3))), Ev.congr (fun q => vinculumref07_Turned.f_eq ..) (Ev.neg h1 (Ev.neg h2 (Ev.pos h3 (Ev.now _))))⟩
  obtain ⟨K, rfl⟩ := Int.eq_ofNat_of_zero_le (show 0 ≤ k by omega)
  obtain ⟨I, rfl⟩ := Int.eq_ofNat_of_zero_le (show 0 ≤ i by omega)
  by_cases h : I < 2 ^ K
  · exact ⟨_, turned_yes (by omega) h, rturned_yes (by omega) h⟩
  · have g := rturned_ev (K := K) (i := I) (by omega) (by omega)
    rw [if_pos (Nat.div_pos (Nat.le_of_not_lt h) (Nat.pow_pos (by decide)))] at g
    exact ⟨_, turned_no (.inr (.inr (.inr ⟨K, rfl, by omega⟩))), g⟩
theorem rpoint_ev {p K r i : Nat} {n : Int} (h0 : 0 < p) (hp : p ≤ 9223372036854775808) (hK : K ≤ 20) (hi : i < 2 ^ K) : Ev (fun q => vinculumref07_Point.f q (p : Int) (K : Int) n (r : Int) (i : Int)) ((r ^ rev K i % p : Nat) : Int) := by
  have hn2 : 2 ^ K ≤ 2 ^ 20 := Nat.pow_le_pow_right (by decide) hK
  have hr := rev_lt K i
  refine Ev.congr (fun q => vinculumref07_Point.f_eq ..) (Ev.bind (rturned_yes hK hi) ?_)
  dsimp only
  rw [wrapN _ (by omega)]
  exact Ev.bind (rpow_ev h0 hp (by omega)) (Ev.now _)
/-- A polynomial's value at a point of the plan. -/
def pv (p K r : Nat) (l : List Int) (i : Nat) : Nat := sumTo (fun m => at0 l m * (r ^ rev K i % p) ^ m) l.length % p
theorem rgo_l3 {p K r n : Nat} {N : Int} {l : List Int} (hw : WF l) (h0 : 0 < p) (hp : p ≤ 9223372036854775808) (hK : K ≤ 20) (hl : l.length ≤ 1099511627770) (hn : n ≤ 2 ^ K) : ∀ (d i : Nat), n - i = d → i ≤ n →
    Ev (fun q => vinculumref07_Go.l3 q (p : Int) (K : Int) N (r : Int) l (n : Int) (tab i (pv p K r l)) (i : Int)) (tab n (pv p K r l))
  | 0, i, hd, hi => by
    have : i = n := by omega
    subst this
    exact Ev.step (fun q => vinculumref07_Go.l3_eq ..) (Ev.neg (by omega) (Ev.now _))
  | d + 1, i, hd, hi => by
    have hn2 : 2 ^ K ≤ 2 ^ 20 := Nat.pow_le_pow_right (by decide) hK
    have g := rgo_l3 (N := N) (r := r) hw h0 hp hK hl hn d (i + 1) (by omega) (by omega)
    rw [← tab_snoc, ← w64_succ (a := i) (by omega)] at g
    refine Ev.step (fun q => vinculumref07_Go.l3_eq ..) (Ev.pos (by omega) (Ev.bind (rpoint_ev h0 hp hK (by omega)) (Ev.bind (value_ev hw h0 hp hl) ?_)))
    exact Ev.pos (by rw [tab_length]; show i + 1 ≤ _; omega) g
theorem rgo_ev {p K r n : Nat} {N : Int} {l : List Int} (hw : WF l) (h0 : 0 < p) (hp : p ≤ 9223372036854775808) (hK : K ≤ 20) (hl : l.length ≤ 1099511627770) (hn : n ≤ 2 ^ K) : Ev (fun q => vinculumref07_Go.f q (p : Int) (K : Int) N (r : Int) l (n : Int)) (tab n (pv p K r l)) :=
  Ev.congr (fun q => vinculumref07_Go.f_eq ..) (rgo_l3 hw h0 hp hK hl hn n 0 rfl (Nat.zero_le _))
theorem pts_pt {p K r i : Nat} (h : Rt p K r) (hi : i < 2 ^ K) : cg p (pts p K r K 1 i) (r ^ rev K i % p) := by
  have := pts_root h K (Nat.le_refl _) 1 i hi
  rw [Nat.sub_self, Nat.pow_zero, Nat.one_mul, Nat.one_mul] at this
  exact this.trans cg.mod.symm
theorem vat_pv {p K r i : Nat} {l : List Int} (h : Rt p K r) (hl : l.length ≤ 2 ^ K) (hi : i < 2 ^ K) : vat p K r (fun q => at0 l q % p) i = pv p K r l i := by
  have h1 : cg p (val (2 ^ K) (fun q => at0 l q % p) (pts p K r K 1 i)) (val (2 ^ K) (at0 l) (r ^ rev K i % p)) := cg.sum _ fun m hm => cg.mod.mul ((pts_pt h hi).pow m)
  rw [val_tail hl (fun k hk => at0_far hk)] at h1
  exact h1
/-! ### the laws -/
theorem TftTurns {x y : Int} (hx : x ≤ 9223372036854775807) : Ev (fun q => vinculumlaw07_TftTurns.f q x y) true := by
  obtain ⟨R, g1, g2⟩ := turned_both (k := y) hx
  exact Ev.congr (fun q => vinculumlaw07_TftTurns.f_eq ..) (Ev.bind g1 (Ev.bind g2 (Ev.pos rfl (Ev.pos rfl awake_some))))
theorem TftPoints {x y z : Int} (hx : U x) : Ev (fun q => vinculumlaw07_TftPoints.f q x y z) true := by
  by_cases h : x > 100000
  · exact Ev.congr (fun q => vinculumlaw07_TftPoints.f_eq ..) (Ev.pos h awake_some)
  obtain ⟨p, rfl⟩ := Int.eq_ofNat_of_zero_le hx.1
  refine Ev.congr (fun q => vinculumlaw07_TftPoints.f_eq ..) (Ev.neg h ?_)
  rcases plan_both (k := y) (show p ≤ 100000 by omega) with ⟨e, he, g1, g2⟩ | ⟨K, r, hf, s1, s2, rfl, hT, g1, g2⟩
  · by_cases h9 : y > 8
    · by_cases h20 : y ≤ 20
      · exact Ev.pos h9 (Ev.pos h20 awake_some)
      · exact Ev.pos h9 (Ev.neg h20 (Ev.bind g1 (Ev.congr (fun q => elim_none _ _) (Ev.bind g2 (Ev.congr (fun q => elim_none _ _) (Ev.pos rfl awake_some))))))
    · exact Ev.neg h9 (Ev.bind g1 (Ev.congr (fun q => elim_none _ _) (Ev.bind g2 (Ev.congr (fun q => elim_none _ _) (Ev.pos rfl awake_some)))))
  · have hK := hT.K20
    have p2 := hT.pr.1
    have hlt := hT.lt
    by_cases h9 : (K : Int) > 8
    · exact Ev.pos h9 (Ev.pos (by omega) awake_some)
    · refine Ev.neg h9 (Ev.bind g1 (Ev.congr (fun q => elim_some _ _ _) (Ev.bind g2 (Ev.congr (fun q => elim_some _ _ _) (Ev.pos rfl ?_)))))
      have gp : ∀ R : Int × Int, Ev (fun q => tft_Turned.f q z (K : Int)) R → R.2 ≠ 0 → Ev (fun q => tft_Plan_Point.f q (pln p s1 s2 K r hf) z) (0, R.2) := fun R g hR =>
        Ev.congr (fun q => (tft_Plan_Point.f_eq ..).trans (elim_some _ _ _)) (Ev.bind g (Ev.neg hR (Ev.now _)))
      by_cases z0 : z < 0
      · exact Ev.bind (gp _ (turned_no (.inr (.inr (.inl z0)))) (by decide)) (Ev.pos z0 (Ev.pos rfl (Ev.pos rfl (Ev.bind (most_ev hK) (Ev.pos rfl awake_some)))))
      · obtain ⟨I, rfl⟩ := Int.eq_ofNat_of_zero_le (show 0 ≤ z by omega)
        by_cases z1 : I < 2 ^ K
        · exact Ev.bind (point_yes p2 hlt hT.rt.lt hK z1) (Ev.neg z0 (Ev.neg (by dsimp only; omega) (Ev.pos rfl (Ev.bind (rpoint_ev (by omega) (by omega) hK z1) (Ev.pos rfl (Ev.bind (most_ev hK) (Ev.pos rfl awake_some)))))))
        · exact Ev.bind (gp _ (turned_no (.inr (.inr (.inr ⟨K, rfl, by omega⟩)))) (by decide)) (Ev.neg z0 (Ev.pos (by dsimp only; omega) (Ev.pos rfl (Ev.pos rfl (Ev.bind (most_ev hK) (Ev.pos rfl awake_some))))))
theorem TftValues {x : Int} {l : List Int} {y : Int} (hx : U x) (hw : WF l) : Ev (fun q => vinculumlaw07_TftValues.f q x l y) true := by
  by_cases h : x > 100000
  · exact Ev.congr (fun q => vinculumlaw07_TftValues.f_eq ..) (Ev.pos h awake_some)
  by_cases h3 : (l.length : Int) > 70
  · exact Ev.congr (fun q => vinculumlaw07_TftValues.f_eq ..) (Ev.neg h (Ev.pos h3 awake_some))
  obtain ⟨p, rfl⟩ := Int.eq_ofNat_of_zero_le hx.1
  refine Ev.congr (fun q => vinculumlaw07_TftValues.f_eq ..) (Ev.neg h (Ev.neg h3 ?_))
  rcases plan_both (k := 5) (show p ≤ 100000 by omega) with ⟨e, he, g1, g2⟩ | ⟨K, r, hf, s1, s2, hK5, hT, g1, g2⟩
  · exact Ev.bind g1 (Ev.congr (fun q => elim_none _ _) (Ev.bind g2 (Ev.congr (fun q => elim_none _ _) (Ev.pos rfl awake_some))))
  · have p2 := hT.pr.1
    obtain rfl : K = 5 := by omega
    refine Ev.bind g1 (Ev.congr (fun q => elim_some _ _ _) (Ev.bind g2 (Ev.congr (fun q => elim_some _ _ _) (Ev.pos rfl ?_))))
    by_cases hl : (l.length : Int) > 32
    · exact Ev.bind (tgo_far hT (by omega)) (Ev.pos hl (Ev.pos rfl (Ev.pos rfl awake_some)))
    by_cases y0 : y < 0
    · exact Ev.bind (tgo_arg hT (by omega) (.inl y0)) (Ev.neg hl (Ev.pos y0 (Ev.pos rfl (Ev.pos rfl awake_some))))
    by_cases y1 : y > 32
    · exact Ev.bind (tgo_arg hT (by omega) (.inr (by omega))) (Ev.neg hl (Ev.neg y0 (Ev.pos y1 (Ev.pos rfl (Ev.pos rfl awake_some)))))
    obtain ⟨n, rfl⟩ := Int.eq_ofNat_of_zero_le (show 0 ≤ y by omega)
    refine Ev.bind (tgo_ev hT hw (by omega) (by omega)) (Ev.neg hl (Ev.neg y0 (Ev.neg y1 (Ev.pos rfl (Ev.bind (rgo_ev (K := 5) hw (by omega) (by omega) (by decide) (by omega) (by omega)) ?_)))))
    rw [tab_ext (n := n) (f := vat p 5 r fun q => at0 l q % p) fun q hq => vat_pv hT.rt (by omega) (by omega)]
    exact Ev.bind (same_ev (by rw [tab_length]; omega)) (Ev.pos rfl awake_some)
theorem finds_l16 {p n : Nat} {F W : Nat → Nat} {l : List Int} (hw : WF l) (h0 : 0 < p) (hl : l.length = n) (hn : n ≤ 1048576) (hF : ∀ m, F m < p) (hW : ∀ i, i < n → W i = at0 l i % p) : ∀ (d i : Nat), n - i = d → i ≤ n →
    Ev (fun q => vinculumlaw07_TftFinds.l16 q (p : Int) l (tab n F) (tab n W) (i : Int)) true
  | 0, i, hd, hi => Ev.step (fun q => vinculumlaw07_TftFinds.l16_eq ..) (Ev.neg (by omega) awake_some)
  | d + 1, i, hd, hi => by
    have g := finds_l16 hw h0 hl hn hF hW d (i + 1) (by omega) (by omega)
    rw [← w64_succ (a := i) (by omega)] at g
    have hFi := hF i
    refine Ev.step (fun q => vinculumlaw07_TftFinds.l16_eq ..) ?_
    rw [rd_tab _ (show i < n by omega), rd_tab _ (show i < n by omega), at0_rd hw, tmodN, hW i (by omega), tab_length, tab_length]
    exact Ev.pos (by omega) (Ev.pos (by omega) (Ev.pos (by omega) (Ev.pos (by omega) (Ev.pos (by omega) (Ev.neg (by omega) (Ev.pos rfl (Ev.pos (by omega) (Ev.pos (by omega) (Ev.neg (by omega) g)))))))))
theorem TftFinds {x : Int} {l : List Int} (hx : U x) (hw : WF l) : Ev (fun q => vinculumlaw07_TftFinds.f q x l) true := by
  by_cases h : x > 100000
  · exact Ev.congr (fun q => vinculumlaw07_TftFinds.f_eq ..) (Ev.pos h awake_some)
  by_cases h3 : (l.length : Int) > 70
  · exact Ev.congr (fun q => vinculumlaw07_TftFinds.f_eq ..) (Ev.neg h (Ev.pos h3 awake_some))
  obtain ⟨p, rfl⟩ := Int.eq_ofNat_of_zero_le hx.1
  refine Ev.congr (fun q => vinculumlaw07_TftFinds.f_eq ..) (Ev.neg h (Ev.neg h3 ?_))
  rcases plan_both (k := 5) (show p ≤ 100000 by omega) with ⟨e, he, g1, g2⟩ | ⟨K, r, hf, s1, s2, hK5, hT, g1, g2⟩
  · exact Ev.bind g1 (Ev.congr (fun q => elim_none _ _) (Ev.bind g2 (Ev.congr (fun q => elim_none _ _) (Ev.pos rfl awake_some))))
  · have p2 := hT.pr.1
    have hlt := hT.lt
    obtain rfl : K = 5 := by omega
    refine Ev.bind g1 (Ev.congr (fun q => elim_some _ _ _) (Ev.bind g2 (Ev.congr (fun q => elim_some _ _ _) (Ev.pos rfl ?_))))
    by_cases hl : (l.length : Int) > 32
    · exact Ev.bind (tback_far hT (by omega)) (Ev.pos hl (Ev.pos rfl (Ev.pos rfl awake_some)))
    have hn : l.length ≤ 2 ^ 5 := by omega
    obtain ⟨F, hF, hF0, hFv⟩ := whole_ex hT.pr hT.rt hT.half 5 (Nat.le_refl _) 1 l.length (fun i => at0 l i % p) (fun _ => 0) (by rw [Nat.mod_eq_of_lt (by omega)]; decide) hn (fun i => Nat.mod_lt _ (by omega)) (fun i => by omega)
    have gb := tback_ev (s1 := s1) (s2 := s2) (n := l.length) (F := F) hT hw rfl hn hF hF0 (fun i hi => (hFv i hi).symm)
    have wF : WF (tab l.length F) := WF_tab (p := p) (by omega) fun i _ => hF i
    refine Ev.bind gb (Ev.neg hl (Ev.pos rfl (Ev.pos (by show ((tab l.length F).length : Int) = _; rw [tab_length]) (Ev.bind (rgo_ev (K := 5) (n := l.length) wF (by omega) (by omega) (by decide) (by rw [tab_length]; omega) (by omega)) ?_))))
    refine finds_l16 hw (by omega) rfl (by omega) hF (fun i hi => ?_) l.length 0 rfl (Nat.zero_le _)
    have h1 := hFv i hi
    have h2 : cg p (val (2 ^ 5) F (pts p 5 r 5 1 i)) (sumTo (fun m => at0 (tab l.length F) m * (r ^ rev 5 i % p) ^ m) (tab l.length F).length) := by
      have e1 : cg p (val (2 ^ 5) F (pts p 5 r 5 1 i)) (val (2 ^ 5) (at0 (tab l.length F)) (r ^ rev 5 i % p)) := cg.sum _ fun m hm => by
        refine cg.mul (cg.of ?_) ((pts_pt hT.rt (by omega)).pow m)
        by_cases hm2 : m < l.length
        · rw [at0_tab hm2]
        · rw [at0_far (by rw [tab_length]; omega)]
          have := hF0 (m - l.length) (by omega)
          rwa [show l.length + (m - l.length) = m from by omega] at this
      rw [val_tail (n := (tab l.length F).length) (by rw [tab_length]; omega) (fun k hk => at0_far hk)] at e1
      exact e1
    show sumTo _ _ % p = _
    rw [← h1]
    exact h2.symm
/-! ### the great primes -/
theorem great1 : Great 998244353 119 23 3 := ⟨by decide, by decide, by decide, by decide, by decide, by decide, by decide, by decide +kernel⟩
theorem great2 : Great 4179340454199820289 29 57 3 := ⟨by decide, by decide, by decide, by decide, by decide, by decide, by decide, by decide +kernel⟩
theorem great3 : Great 180143985094819841 5 55 3 := ⟨by decide, by decide, by decide, by decide, by decide, by decide, by decide, by decide +kernel⟩
def Plans (p K : Nat) : Prop := ∃ (r hf : Nat) (s1 s2 : Int), Pla p K r hf ∧ Ev (fun q => tft_New.f q (p : Int) (K : Int)) (pln p s1 s2 K r hf, 0)
theorem Great.plans {p c k a : Nat} (h : Great p c k a) {K : Nat} (hK : K ≤ k) (hK20 : K ≤ 20) : Plans p K := by
  obtain ⟨r, hr, ho, g⟩ := h.root hK (by omega)
  have hd : 2 ^ K ∣ p - 1 := by
    have h3 := h.eq
    rw [h3, Nat.add_sub_cancel]
    exact Nat.dvd_trans (Nat.pow_dvd_pow 2 hK) (Nat.dvd_mul_left _ _)
  obtain ⟨s1, s2, hf, hT, gn⟩ := plan_ok h.pr h.lt hK20 hd hr ho g
  exact ⟨r, hf, s1, s2, hT, gn⟩
theorem great_ev {x : Int} (h0 : -9223372036854775808 ≤ x) (h1 : x ≤ 9223372036854775807) : ∃ p : Nat, (∀ K, K ≤ 20 → Plans p K) ∧ Ev (fun q => vinculumlaw07_great.f q x) (p : Int) := by
  have e1 : wrap64 (Int.tmod x 3 + 3) = Int.tmod x 3 + 3 := by
    have := Int.tmod_lt_of_pos x (show (0 : Int) < 3 by decide)
    have := Int.lt_tmod_of_pos x (show (0 : Int) < 3 by decide)
    exact w64_of (by omega) (by omega)
  obtain ⟨i, hi, e2⟩ : ∃ i : Nat, i < 3 ∧ Int.tmod (Int.tmod x 3 + 3) 3 = (i : Int) := by
    have h3 := Int.tmod_lt_of_pos x (show (0 : Int) < 3 by decide)
    have h4 := Int.lt_tmod_of_pos x (show (0 : Int) < 3 by decide)
    refine ⟨(Int.tmod (Int.tmod x 3 + 3) 3).toNat, ?_, ?_⟩
    · rw [Int.tmod_eq_emod_of_nonneg (by omega)]; omega
    · rw [Int.tmod_eq_emod_of_nonneg (by omega)]; omega
  have key : ∀ p : Nat, rd ([998244353, 4179340454199820289, 180143985094819841] : List Int) (i : Int) = (p : Int) → Ev (fun q => vinculumlaw07_great.f q x) (p : Int) := fun p e3 => by
    refine Ev.congr (fun q => vinculumlaw07_great.f_eq ..) ?_
    rw [e1, e2, e3]
    exact Ev.pos (by omega) (Ev.pos (show (i : Int) < 3 by omega) (Ev.now _))
  have : i = 0 ∨ i = 1 ∨ i = 2 := by omega
  rcases this with rfl | rfl | rfl
  · exact ⟨998244353, fun K hK => great1.plans (by omega) hK, key _ rfl⟩
  · exact ⟨4179340454199820289, fun K hK => great2.plans (by omega) hK, key _ rfl⟩
  · exact ⟨180143985094819841, fun K hK => great3.plans (by omega) hK, key _ rfl⟩
theorem tback_l15 {p n : Nat} {l : List Int} (hw : WF l) (h0 : 0 < p) (hl : l.length = n) (hn : n ≤ 1048576) : ∀ (d i : Nat), n - i = d → i ≤ n →
    Ev (fun q => vinculumlaw07_TftBack.l15 q l (p : Int) (tab n fun q => at0 l q % p) (i : Int)) true
  | 0, i, hd, hi => Ev.step (fun q => vinculumlaw07_TftBack.l15_eq ..) (Ev.neg (by omega) awake_some)
  | d + 1, i, hd, hi => by
    have g := tback_l15 hw h0 hl hn d (i + 1) (by omega) (by omega)
    rw [← w64_succ (a := i) (by omega)] at g
    refine Ev.step (fun q => vinculumlaw07_TftBack.l15_eq ..) ?_
    rw [rd_tab _ (show i < n by omega), at0_rd hw, tmodN, tab_length]
    exact Ev.pos (by omega) (Ev.pos (by omega) (Ev.pos (by omega) (Ev.pos (by omega) (Ev.pos (by omega) (Ev.neg (by omega) (Ev.pos rfl g))))))
theorem TftBack {x y : Int} {l : List Int} (hx0 : -9223372036854775808 ≤ x) (hx1 : x ≤ 9223372036854775807) (hw : WF l) : Ev (fun q => vinculumlaw07_TftBack.f q x y l) true := by
  by_cases h1 : y < 0
  · exact Ev.congr (fun k => vinculumlaw07_TftBack.f_eq ..) (Ev.pos h1 awake_some)
  by_cases h2 : y > 10
  · exact Ev.congr (fun k => vinculumlaw07_TftBack.f_eq ..) (Ev.neg h1 (Ev.pos h2 awake_some))
  by_cases h3 : (l.length : Int) > 1024
  · exact Ev.congr (fun k => vinculumlaw07_TftBack.f_eq ..) (Ev.neg h1 (Ev.neg h2 (Ev.pos h3 awake_some)))
  obtain ⟨K, rfl⟩ := Int.eq_ofNat_of_zero_le (show 0 ≤ y by omega)
  obtain ⟨p, hp, gp⟩ := great_ev hx0 hx1
  obtain ⟨r, hf, s1, s2, hT, gn⟩ := hp K (by omega)
  have p2 := hT.pr.1
  have hlt := hT.lt
  refine Ev.congr (fun k => vinculumlaw07_TftBack.f_eq ..) (Ev.neg h1 (Ev.neg h2 (Ev.neg h3 (Ev.bind gp (Ev.bind gn (Ev.congr (fun q => elim_some _ _ _) (Ev.pos rfl (Ev.bind (most_ev hT.K20) ?_))))))))
  by_cases hl : 2 ^ K < l.length
  · exact Ev.pos (by omega) (Ev.bind (tback_far hT hl) (Ev.pos rfl awake_some))
  · have hn : l.length ≤ 2 ^ K := Nat.le_of_not_lt hl
    have wv : WF (tab l.length (vat p K r fun q => at0 l q % p)) := WF_tab (p := p) (by omega) fun i _ => Nat.mod_lt _ (by omega)
    have gb := tback_ev (s1 := s1) (s2 := s2) (n := l.length) (F := fun q => at0 l q % p) hT wv (tab_length _ _) hn (fun m => Nat.mod_lt _ (by omega)) (fun j hj => by rw [at0_far (by omega), Nat.zero_mod]) (fun i hi => by rw [at0_tab hi]; exact Nat.mod_mod _ _)
    refine Ev.neg (by omega) (Ev.bind (tgo_ev hT hw hn hn) (Ev.bind gb (Ev.pos rfl (Ev.pos rfl (Ev.pos (by show ((tab l.length _).length : Int) = _; rw [tab_length]) ?_)))))
    exact tback_l15 hw (by omega) rfl (by omega) l.length 0 rfl (Nat.zero_le _)
theorem TftMuls {x : Int} {a b : List Int} (hx : U x) (ha : WF a) (hb : WF b) : Ev (fun q => vinculumlaw07_TftMuls.f q x a b) true := by
  by_cases h : x > 100000
  · exact Ev.congr (fun q => vinculumlaw07_TftMuls.f_eq ..) (Ev.pos h awake_some)
  by_cases h3 : (a.length : Int) > 40
  · exact Ev.congr (fun q => vinculumlaw07_TftMuls.f_eq ..) (Ev.neg h (Ev.pos h3 awake_some))
  by_cases h4 : (b.length : Int) > 40
  · exact Ev.congr (fun q => vinculumlaw07_TftMuls.f_eq ..) (Ev.neg h (Ev.neg h3 (Ev.pos h4 awake_some)))
  obtain ⟨p, rfl⟩ := Int.eq_ofNat_of_zero_le hx.1
  refine Ev.congr (fun q => vinculumlaw07_TftMuls.f_eq ..) (Ev.neg h (Ev.neg h3 (Ev.neg h4 ?_)))
  have e1 : wrap64 (wrap64 ((a.length : Int) + (b.length : Int)) - 1) = (a.length : Int) + (b.length : Int) - 1 := by
    rw [w64_of (x := (a.length : Int) + (b.length : Int)) (by omega) (by omega), w64_of (by omega) (by omega)]
  rw [e1]
  rcases plan_both (k := 5) (show p ≤ 100000 by omega) with ⟨e, he, g1, g2⟩ | ⟨K, r, hf, s1, s2, hK5, hT, g1, g2⟩
  · exact Ev.bind g1 (Ev.congr (fun q => elim_none _ _) (Ev.bind g2 (Ev.congr (fun q => elim_none _ _) (Ev.pos rfl awake_some))))
  · have p2 := hT.pr.1
    obtain rfl : K = 5 := by omega
    refine Ev.bind g1 (Ev.congr (fun q => elim_some _ _ _) (Ev.bind g2 (Ev.congr (fun q => elim_some _ _ _) (Ev.pos rfl ?_))))
    have gr := rmulp_ev (p := p) ha hb (by omega) (by omega) (by omega)
    by_cases a0 : a.length = 0
    · rw [if_pos (.inl a0)] at gr
      exact Ev.bind (tmul_none (.inl a0)) (Ev.neg (by omega) (Ev.pos rfl (Ev.bind gr (Ev.bind (same_ev (by decide)) (Ev.pos rfl awake_some)))))
    by_cases b0 : b.length = 0
    · rw [if_pos (.inr b0)] at gr
      exact Ev.bind (tmul_none (.inr b0)) (Ev.pos (by omega) (Ev.neg (by omega) (Ev.pos rfl (Ev.bind gr (Ev.bind (same_ev (by decide)) (Ev.pos rfl awake_some))))))
    rw [if_neg (by omega)] at gr
    by_cases hn : a.length + b.length - 1 ≤ 32
    · exact Ev.bind (tmul_ev hT ha hb (by omega) (by omega) hn) (Ev.pos (by omega) (Ev.pos (by omega) (Ev.neg (by omega) (Ev.pos rfl (Ev.bind gr (Ev.bind (same_ev (by rw [tab_length]; omega)) (Ev.pos rfl awake_some)))))))
    · exact Ev.bind (tmul_far hT (by omega) (by omega) (by omega) (by omega)) (Ev.pos (by omega) (Ev.pos (by omega) (Ev.pos (by omega) (Ev.pos rfl (Ev.pos rfl awake_some)))))
theorem TftNil {l : List Int} {x : Int} : Ev (fun q => vinculumlaw07_TftNil.f q l x) true := by
  by_cases h : (l.length : Int) > 10
  · exact Ev.congr (fun q => vinculumlaw07_TftNil.f_eq ..) (Ev.pos h awake_some)
  · refine Ev.congr (fun q => vinculumlaw07_TftNil.f_eq ..) (Ev.neg h ?_)
    have gp : Ev (fun q => tft_Plan_Point.f q none x) (0, 2) := Ev.congr (fun q => (tft_Plan_Point.f_eq ..).trans (elim_none _ _)) (Ev.now _)
    exact Ev.bind gp (Ev.bind tgo_nil (Ev.bind tback_nil (Ev.bind tmul_nil (Ev.bind most_nil (Ev.pos rfl (Ev.pos rfl (Ev.pos rfl (Ev.pos rfl (Ev.pos rfl awake_some)))))))))
end Go.Proofs.YtfffblanmdfidaaDoor.Pure
end
section
/-
  A law's run from what it computes: whoever calls it gets true, and the blocks that stood stand. Condition: the given rows are words.
-/
namespace Go.Proofs.YtfffblanmdfidaaDoor.Pure
open Go.RowKit Go.Proofs.YtfffblanmdfidaaDoor.F Go.Proofs.YtfffblanmdfidaaDoorW.PrintWords Go.Proofs.YtfffblanmdfidaaDoorW.PrintLast Go.Proofs.YtfffblanmdfidaaDoorW.PrintMore
set_option linter.unusedVariables false
set_option linter.unusedSimpArgs false
theorem I_of_wf {x : Int} (h : (Lit.int .i64 x).wf = true) : -9223372036854775808 ≤ x ∧ x ≤ 9223372036854775807 := by
  simp [Lit.wf, IntKind.min, IntKind.max, IntKind.signed, IntKind.bits] at h
  exact ⟨by omega, by omega⟩
/-- A row as it is handed in. -/
def IsRow (k : IntKind) (w : World) (a : Option Addr) (len cap : Nat) (zs : List Int) : Prop :=
  (a = none ∧ len = 0 ∧ cap = 0 ∧ zs = []) ∨
  ∃ x, a = some x ∧ len ≤ cap ∧ cap ≤ maxLen ∧ zs.length = cap ∧ (∀ i, i < zs.length → w.cell? (x.add i) = some (.int k (zs.getD i 0))) ∧ ∀ n ∈ zs, (Lit.int k n).wf = true
theorem IsRow.words {w : World} {a : Option Addr} {len cap : Nat} {zs : List Int} (h : IsRow .u64 w a len cap zs) : WF (zs.take len) := by
  rcases h with ⟨_, _, _, rfl⟩ | ⟨x, _, _, _, _, _, h⟩
  · intro y hy; simp at hy
  · exact fun y hy => U_of_wf (h y (List.mem_of_mem_take hy))
theorem cell_lt {w : World} {p : Addr} {v : Value} (h : w.cell? p = some v) : p.block < w.heap.size := by
  apply Classical.byContradiction
  intro hn
  unfold World.cell? at h
  rw [Array.getElem?_eq_none (by omega)] at h
  simp at h
theorem IsRow.held {w : World} {a : Option Addr} {len cap : Nat} {zs : List Int} {k : IntKind} (h : IsRow k w a len cap zs) : E.HeldF w (fun _ => True) (.row k (zs.take len)) (.slice a len cap) := by
  intro W' hW
  unfold E.Den
  rcases h with ⟨rfl, rfl, rfl, rfl⟩ | ⟨x, rfl, hl, hm, hz, hc, _⟩
  · exact ⟨none, 0, rfl, Nat.le_refl _, fun h => by simp at h⟩
  · have hlen : (zs.take len).length = len := by rw [List.length_take]; omega
    refine ⟨some x, cap, by rw [hlen], by rw [hlen]; exact hl, fun _ => ⟨x, rfl, fun i hi => ?_⟩⟩
    rw [hlen] at hi
    have h1 := hc i (by omega)
    have h2 := cell_lt h1
    have e : (zs.take len).getD i 0 = zs.getD i 0 := by
      rw [List.getD_eq_getElem?_getD, List.getD_eq_getElem?_getD, List.getElem?_take_of_lt hi]
    rw [e, ← h1]
    exact E.cell_same (hW _ trivial h2)
theorem held_int {w : World} {ok : Nat → Prop} (k : IntKind) (n : Int) : E.HeldF w ok (.lit (.int k n)) (.int k n) := E.held_lit _
/-- The law's run. -/
theorem runs {P : Program} {f : FuncId} {A : E.AK} {g : Nat → A.T → Option Bool} (hd : ∀ k, E.Does P f A (.p .bool .nil) (g k) fun b => ((b, ()), [])) {x : A.T} (he : Ev (fun k => g k x) true) {w : World} {us : List Value} (hg : E.GOk w fun _ => True) (hx : E.XAll w (fun _ => True) none (A.put x) us) :
    Calls P f us.toArray w fun e w' => e = .returned (.bool true) ∧ Below w.heap.size w w' := by
  obtain ⟨k, hk⟩ := he
  refine ((hd k x true (hk k (Nat.le_refl _))).2 (fun _ => True) none w us hg hx).mono fun e w' ⟨G, vs, h1, h2, h3, _⟩ => ?_
  refine ⟨?_, (show E.Fr (fun _ => False) w w' from ⟨h3.os, h3.tape, h3.output, h3.size, fun k hk _ => h3.block k hk (fun h => by cases h)⟩).below⟩
  rw [h1]
  match vs, h2 with
  | [v], h2 => exact congrArg _ (E.lit_of h2.1)
end Go.Proofs.YtfffblanmdfidaaDoor.Pure
end
