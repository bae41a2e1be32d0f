-- Written by wip/tools/myprint.py (this session's program, over the kit's print.py).
import Derived.Test.YtdomplmilbkaeaaDoorGNx0
import Derived.Test.YtdomplmilbkaeaaDoorGNx2
import Derived.Test.YtdomplmilbkaeaaDoorGNx3
namespace Go.Proofs.YtdomplmilbkaeaaDoor.GN
set_option maxRecDepth 100000
set_option maxHeartbeats 8000000
open Go.RowKit Go.Proofs.YtdomplmilbkaeaaDoorW.PrintWords Go.Proofs.YtdomplmilbkaeaaDoorW.PrintLast Go.Proofs.YtdomplmilbkaeaaDoorW.PrintMore
attribute [local go_sem] adRun sbRun
attribute [local go_sem] max2_int min2_int max_two min_two max_three min_three max_four min_four   -- for this text's walks alone
set_option linter.unusedVariables false
set_option linter.unusedSimpArgs false

/-! ### nat_shifted: function 44 -/
def nat_shifted.l0 : Nat → Int → List Int → List Int → Int → Int → Option (List Int)
 | 0, _, _, _, _, _ => none
 | k + 1, x1, x5, x12, x13, x14 => if x14 < x13 then (if 0 ≤ x14 then (if x14 < (x12.length : Int) then (if x14 < (x5.length : Int) then (if 0 ≤ x1 then (if 0 ≤ (IntKind.u64.wrap (64 - x1)) then (if 0 ≤ (wrap64 (x14 + 1)) then (if (wrap64 (x14 + 1)) < (x5.length : Int) then (nat_shifted.l0 k x1 ((x5.set (x14 : Int).toNat (Go.bits .or .u64 (rd x5 x14) (shl .u64 (rd x12 x14) x1))).set ((wrap64 (x14 + 1)) : Int).toNat (shr .u64 (rd x12 x14) (IntKind.u64.wrap (64 - x1)))) x12 x13 (wrap64 (x14 + 1))) else (none)) else (none)) else (none)) else (none)) else (none)) else (none)) else (none)) else (some x5)
def nat_shifted.f (k : Nat) (l0 : List Int) (a1 : Int) : Option (List Int) := if 0 ≤ (wrap64 ((l0.length : Int) + 1)) then (if (wrap64 ((l0.length : Int) + 1) : Int).toNat ≤ 35184372088832 then (nat_shifted.l0 k a1 (List.replicate (wrap64 ((l0.length : Int) + 1) : Int).toNat 0) l0 (l0.length : Int) 0) else (none)) else (none)
theorem nat_shifted.mono_l : ∀ k, (∀ y0 y1 y2 y3 y4, LeO (nat_shifted.l0 k y0 y1 y2 y3 y4) (nat_shifted.l0 (k + 1) y0 y1 y2 y3 y4))
 | 0 => fun _ _ _ _ _ r h => by simp [nat_shifted.l0] at h
 | k + 1 => by
  have ih0 := nat_shifted.mono_l k
  ·intro y0 y1 y2 y3 y4
   unfold nat_shifted.l0
   repeat' first
   | (with_reducible exact ih0 _ _ _ _ _)
   | (with_reducible exact LeO.refl _)
   | (with_reducible exact LeO.none _)
   | (with_reducible refine LeO.ite ?_ ?_)
   | (with_reducible refine LeO.bind ?_ (fun _ => ?_))
   | exact ih0 _ _ _ _ _
   | exact LeO.none _
   | refine LeO.ite ?_ ?_
   | refine LeO.bind ?_ (fun _ => ?_)
theorem nat_shifted.mono : ∀ a0 a1 k, LeO (nat_shifted.f k a0 a1) (nat_shifted.f (k + 1) a0 a1) := by
 intro a0 a1 k
 have ih0 := nat_shifted.mono_l k
 unfold nat_shifted.f
 repeat' first
   | (with_reducible exact ih0 _ _ _ _ _)
   | (with_reducible exact LeO.refl _)
   | (with_reducible exact LeO.none _)
   | (with_reducible refine LeO.ite ?_ ?_)
   | (with_reducible refine LeO.bind ?_ (fun _ => ?_))
   | exact ih0 _ _ _ _ _
   | exact LeO.none _
   | refine LeO.ite ?_ ?_
   | refine LeO.bind ?_ (fun _ => ?_)
theorem nat_shifted.calls (k : Nat) (A0 : Option Addr) (c0 : Nat) (l0 : List Int) (a1 : Int) (r : List Int) (w : World) (hr0 : Kd.C (Kd.int .u64) w A0 l0.length l0) (hc0 : l0.length ≤ c0) (h : nat_shifted.f k l0 a1 = some r) :
  Calls Tryd.prog 44 #[.slice A0 l0.length c0, .int .u64 a1] w fun e w' => ∃ v0_ : Value, e = .returned (v0_) ∧ Kd.R (Kd.int .u64) 24 w' w.heap.size (fun _ => True) v0_ r ∧ Below w.heap.size w w' := by
 have HR0 := Aside0.mk hr0
 have HC0 := Aside0.mk hc0
 clear hr0 hc0
 have HB := Aside0.mk (Below.refl w.heap.size w)
 have H : (if 0 ≤ (wrap64 ((l0.length : Int) + 1)) then (if (wrap64 ((l0.length : Int) + 1) : Int).toNat ≤ 35184372088832 then (nat_shifted.l0 k a1 (List.replicate (wrap64 ((l0.length : Int) + 1) : Int).toNat 0) l0 (l0.length : Int) 0) else (none)) else (none)) = some r := h
 clear h
 obtain ⟨ji3, hji3⟩ : ∃ j_ : Int, (wrap64 ((l0.length : Int) + 1)) = j_ := ⟨_, rfl⟩
 replace H : (if 0 ≤ (ji3) then (if (ji3 : Int).toNat ≤ 35184372088832 then (nat_shifted.l0 k a1 (List.replicate (ji3 : Int).toNat 0) l0 (l0.length : Int) 0) else (none)) else (none)) = some r := by first | (rw [hji3] at H; exact H) | (simp only [hji3] at H ⊢; exact H)
 have hji3w : (IntKind.i64.wrap ((l0.length : Int) + 1)) = ji3 := (i64_w _).trans hji3
 by_cases c4 : 0 ≤ (ji3)
 ·rw [if_pos c4] at H
  have c4b0 := eq_true c4
  have c4b1 : decide (0 ≤ (ji3)) = true := decide_eq_true c4
  clear c4
  by_cases c5 : (ji3 : Int).toNat ≤ 35184372088832
  ·rw [if_pos c5] at H
   have c5b0 := eq_true c5
   have c5b1 : decide ((ji3 : Int).toNat ≤ 35184372088832) = true := decide_eq_true c5
   clear c5
   obtain ⟨y158, hy158⟩ : ∃ y_ : List Int, y_ = (List.replicate (ji3 : Int).toNat 0) := ⟨_, rfl⟩
   replace H : (nat_shifted.l0 k a1 y158 l0 (l0.length : Int) 0) = some r := by first | (rw [hy158]; with_reducible exact H) | (have H2_ := (Option.bind_some _ _).symm.trans H; rw [hy158]; with_reducible exact H2_) | (have H2_ := (Option.bind_some _ _).symm.trans H; with_reducible exact H2_) | with_reducible exact H | (rw [hy158]; exact H) | exact H
   have Ny158 := Aside0.mk hy158
   clear hy158
   have H' := Aside0.mk H
   clear H
   go_enter Tryd.func44, Tryd.ntmps44
   go_wp2_with (first | ((with_reducible refine gate_dst (N := 11) rfl ?_); refine Kd.R_make (Kd.int .u64) _ 24 rfl (N := 11) rfl 23 _ _ rfl ji3 rfl rfl Tryd.underlying23 (.int .u64 0) 8 info24 rfl (by decide) (by omega) 0 (ok := fun _ => True) (okp := fun _ => True) rfl (fun _ hk => hk) trivial (of_decide_eq_true (by first | (with_reducible assumption) | assumption)) (Nat.le_trans (Nat.mul_le_mul_right _ (of_decide_eq_true (by first | (with_reducible assumption) | assumption) : ji3.toNat ≤ 35184372088832)) (by omega)) (Below.refl _ _) (Nat.le_refl _) ?_; intro v159 w6 ho7 hb hg_ hnew_; clear hg_ hnew_; (first | rw [← Ny158.out] at ho7 | (simp only [Int.reduceToNat] at ho7; rw [← Ny158.out] at ho7)); have n0_ := Aside0.mk (Kd.R_lower ho7 (below_size (by repeat (first | (with_reducible first | exact HB.out | apply below_alloc | apply pw_below_drewN | apply below_drew1) | exact HB.out)))); have n1_ := Aside0.mk (below_step (by repeat (first | (with_reducible first | exact HB.out | apply below_alloc | apply pw_below_drewN | apply below_drew1) | exact HB.out)) hb); clear HB; have HO160 := n0_; have HB := n1_; clear n0_ n1_; clear hb ho7))
   go_loopg [14] k (fun kq v14 w' => ∃ (x5_1 : List Int) (x14_1 : Int), v14 = .int .i64 x14_1 ∧ Aside0 (nat_shifted.l0 kq a1 x5_1 l0 (l0.length : Int) x14_1 = some r) ∧ Aside0 (kq ≤ k) ∧ Aside0 (Kd.R (Kd.int .u64) 24 w' w.heap.size (fun _ => True) v159 x5_1) ∧ Aside0 (Below w.heap.size w w'))
   case atStart => exact ⟨(y158), (0), (by first | rfl | (simp; done) | (simp [*]; done)), H', ⟨Nat.le_refl _⟩, ⟨by (with_reducible repeat (first | apply Kd.R_alloc | apply Kd.R_drewN | apply Kd.R_drew)); exact HO160.out⟩, ⟨by repeat (first | (with_reducible first | exact HB.out | apply below_alloc | apply pw_below_drewN | apply below_drew1) | exact HB.out)⟩⟩
   case round =>
    clear H'
    try clear p2
    try clear c4
    try clear c4b0
    try clear c4b1
    try clear c5
    try clear c5b0
    try clear c5b1
    try clear p6
    obtain ⟨x5_1, x14_1, rfl, HA, HK1, HO_5, HB⟩ := hrel
    cases gk with
    | zero => exact absurd HA.out (by simp [nat_shifted.l0])
    | succ k1 =>
     have H := HA.out
     clear HA
     simp only [nat_shifted.l0] at H
     by_cases c8 : x14_1 < (l0.length : Int)
     ·rw [if_pos c8] at H
      have c8b0 : decide (x14_1 < (l0.length : Int)) = true := decide_eq_true c8
      clear c8
      by_cases c9 : 0 ≤ x14_1
      ·rw [if_pos c9] at H
       have c9b0 : decide (0 ≤ x14_1) = true := decide_eq_true c9
       clear c9
       by_cases c10 : x14_1 < (l0.length : Int)
       ·rw [if_pos c10] at H
        have c10b0 : decide (x14_1 < (l0.length : Int)) = true := decide_eq_true c10
        clear c10
        by_cases c11 : x14_1 < (x5_1.length : Int)
        ·rw [if_pos c11] at H
         have c11b0 : decide (x14_1 < (x5_1.length : Int)) = true := decide_eq_true c11
         clear c11
         by_cases c12 : 0 ≤ a1
         ·rw [if_pos c12] at H
          have c12b0 := eq_true c12
          have c12b1 : decide (0 ≤ a1) = true := decide_eq_true c12
          clear c12
          obtain ⟨ji13, hji13⟩ : ∃ j_ : Int, (shl .u64 (rd l0 x14_1) a1) = j_ := ⟨_, rfl⟩
          replace H : (if 0 ≤ (IntKind.u64.wrap (64 - a1)) then (if 0 ≤ (wrap64 (x14_1 + 1)) then (if (wrap64 (x14_1 + 1)) < (x5_1.length : Int) then (nat_shifted.l0 k1 a1 ((x5_1.set (x14_1 : Int).toNat (Go.bits .or .u64 (rd x5_1 x14_1) (ji13))).set ((wrap64 (x14_1 + 1)) : Int).toNat (shr .u64 (rd l0 x14_1) (IntKind.u64.wrap (64 - a1)))) l0 (l0.length : Int) (wrap64 (x14_1 + 1))) else (none)) else (none)) else (none)) = some r := by first | (rw [hji13] at H; exact H) | (simp only [hji13] at H ⊢; exact H)
          have hji13_ : (IntKind.u64.wrap ((rd l0 x14_1) * 2 ^ min a1.toNat 64)) = ji13 := hji13
          have hji13z : a1 ≤ 64 → (IntKind.u64.wrap ((rd l0 x14_1) * 2 ^ a1.toNat)) = ji13 := shl_small hji13
          obtain ⟨y163, hy163⟩ : ∃ y_ : List Int, y_ = (x5_1.set (x14_1 : Int).toNat (Go.bits .or .u64 (rd x5_1 x14_1) (ji13))) := ⟨_, rfl⟩
          replace H : (if 0 ≤ (IntKind.u64.wrap (64 - a1)) then (if 0 ≤ (wrap64 (x14_1 + 1)) then (if (wrap64 (x14_1 + 1)) < (x5_1.length : Int) then (nat_shifted.l0 k1 a1 (y163.set ((wrap64 (x14_1 + 1)) : Int).toNat (shr .u64 (rd l0 x14_1) (IntKind.u64.wrap (64 - a1)))) l0 (l0.length : Int) (wrap64 (x14_1 + 1))) else (none)) else (none)) else (none)) = some r := by first | (rw [hy163]; with_reducible exact H) | (have H2_ := (Option.bind_some _ _).symm.trans H; rw [hy163]; with_reducible exact H2_) | (have H2_ := (Option.bind_some _ _).symm.trans H; with_reducible exact H2_) | with_reducible exact H | (rw [hy163]; exact H) | exact H
          have Ny163 := Aside0.mk hy163
          clear hy163
          obtain ⟨ji15, hji15⟩ : ∃ j_ : Int, (IntKind.u64.wrap (64 - a1)) = j_ := ⟨_, rfl⟩
          replace H : (if 0 ≤ (ji15) then (if 0 ≤ (wrap64 (x14_1 + 1)) then (if (wrap64 (x14_1 + 1)) < (x5_1.length : Int) then (nat_shifted.l0 k1 a1 (y163.set ((wrap64 (x14_1 + 1)) : Int).toNat (shr .u64 (rd l0 x14_1) (ji15))) l0 (l0.length : Int) (wrap64 (x14_1 + 1))) else (none)) else (none)) else (none)) = some r := by first | (rw [hji15] at H; exact H) | (simp only [hji15] at H ⊢; exact H)
          by_cases c16 : 0 ≤ (ji15)
          ·rw [if_pos c16] at H
           have c16b0 := eq_true c16
           have c16b1 : decide (0 ≤ (ji15)) = true := decide_eq_true c16
           clear c16
           obtain ⟨ji17, hji17⟩ : ∃ j_ : Int, (shr .u64 (rd l0 x14_1) (ji15)) = j_ := ⟨_, rfl⟩
           replace H : (if 0 ≤ (wrap64 (x14_1 + 1)) then (if (wrap64 (x14_1 + 1)) < (x5_1.length : Int) then (nat_shifted.l0 k1 a1 (y163.set ((wrap64 (x14_1 + 1)) : Int).toNat (ji17)) l0 (l0.length : Int) (wrap64 (x14_1 + 1))) else (none)) else (none)) = some r := by first | (rw [hji17] at H; exact H) | (simp only [hji17] at H ⊢; exact H)
           have hji17_ : ((rd l0 x14_1) / 2 ^ min (ji15).toNat 64) = ji17 := hji17
           have hji17z : (ji15) ≤ 64 → ((rd l0 x14_1) / 2 ^ (ji15).toNat) = ji17 := shr_small hji17
           obtain ⟨ji18, hji18⟩ : ∃ j_ : Int, (wrap64 (x14_1 + 1)) = j_ := ⟨_, rfl⟩
           replace H : (if 0 ≤ (ji18) then (if (ji18) < (x5_1.length : Int) then (nat_shifted.l0 k1 a1 (y163.set ((ji18) : Int).toNat (ji17)) l0 (l0.length : Int) ji18) else (none)) else (none)) = some r := by first | (rw [hji18] at H; exact H) | (simp only [hji18] at H ⊢; exact H)
           have hji18w : (IntKind.i64.wrap (x14_1 + 1)) = ji18 := (i64_w _).trans hji18
           by_cases c19 : 0 ≤ (ji18)
           ·rw [if_pos c19] at H
            have c19b0 : decide (0 ≤ (ji18)) = true := decide_eq_true c19
            clear c19
            by_cases c20 : (ji18) < (x5_1.length : Int)
            ·rw [if_pos c20] at H
             have c20b0 : decide ((ji18) < (x5_1.length : Int)) = true := decide_eq_true c20
             clear c20
             obtain ⟨y164, hy164⟩ : ∃ y_ : List Int, y_ = (y163.set ((ji18) : Int).toNat (ji17)) := ⟨_, rfl⟩
             replace H : (nat_shifted.l0 k1 a1 y164 l0 (l0.length : Int) ji18) = some r := by first | (rw [hy164]; with_reducible exact H) | (have H2_ := (Option.bind_some _ _).symm.trans H; rw [hy164]; with_reducible exact H2_) | (have H2_ := (Option.bind_some _ _).symm.trans H; with_reducible exact H2_) | with_reducible exact H | (rw [hy164]; exact H) | exact H
             have Ny164 := Aside0.mk hy164
             clear hy164
             have H' := Aside0.mk H
             clear H
             have p161 : 0 ≤ (x14_1 : Int) := of_decide_eq_true (by first | (with_reducible assumption) | assumption)
             have q161 : x14_1 < (l0.length : Int) := of_decide_eq_true (by first | (with_reducible assumption) | assumption)
             obtain ⟨ad161, e161, hx161_0⟩ := Kd.at_int HR0.out x14_1 p161 q161
             cases e161
             replace hx161_0 := (HB.out.cell (World.block_lt_of_cell? w _ hx161_0)).trans hx161_0
             replace p161 := eq_true p161
             replace q161 := eq_true q161
             obtain ⟨Ao22, co22, eo22⟩ := Kd.R_slice HO_5.out
             subst eo22
             have p162 : 0 ≤ (x14_1 : Int) := of_decide_eq_true (by first | (with_reducible assumption) | assumption)
             have q162 : x14_1 < (x5_1.length : Int) := of_decide_eq_true (by first | (with_reducible assumption) | assumption)
             obtain ⟨ad162, e162, hx162_0⟩ := Kd.at_int (Kd.R_reads' HO_5.out).2.2 x14_1 p162 q162
             cases e162
             replace p162 := eq_true p162
             replace q162 := eq_true q162
             have p14 : 0 ≤ (x14_1 : Int) := of_decide_eq_true (by first | (with_reducible assumption) | assumption)
             have q14 : (x14_1 : Int) < ((x5_1.length : Int) : Int) := of_decide_eq_true (by first | (with_reducible assumption) | assumption)
             obtain ⟨go14, co14, eo14, gb14, gl14, cl14, HG14⟩ := Kd.R_form HO_5.out (by omega)
             (first | cases eo14 | (injection eo14 with ea_ en_ ec_; (first | subst ea_ | (injection ea_ with ea_; subst ea_)); subst ec_; clear en_))
             have GB14 := Aside0.mk gb14
             have GG14 := Aside0.mk HG14
             clear gb14 gl14 HG14
             (first | simp only [add_plain] at hx162_0 | skip)
             obtain ⟨hx14_0, hf14_0⟩ := Kd.R_celln 0 HO_5.out (x14_1 : Int) p14 q14
             replace p14 := eq_true p14
             replace q14 := eq_true q14
             have HP23 := Kd.R_putg HO_5.out (x14_1 : Int) (Go.bits .or .u64 (rd x5_1 x14_1) (ji13))
             go_wp2_with (first | ((with_reducible refine gate_store (t := 24) (p := 27) rfl ?_); refine store_event (t := 24) (p := 27) (v := ?vo_w24) (w1 := (wr.setCell ⟨go14, (x14_1 : Int).toNat, none⟩ (.int .u64 (Go.bits .or .u64 (rd x5_1 x14_1) (ji13))))) ?hg ?ho ?hn ?hr ?_; (case ho => rfl); (case hg => rfl); (case hn => rfl); (case hr => first | (go_simp; done) | (go_simp; rfl)); intro w24 hw; have hg : wr.grownBy w24 (some go14) := (by rw [hw]; exact HP23.2); have hp_ : Kd.R (Kd.int .u64) 24 w24 w.heap.size (fun _ => True) (.slice (some ⟨go14, 0, none⟩) x5_1.length co22) y163 := (by rw [hw, Ny163.out]; exact HP23.1); clear HP23; have n0_ := Aside0.mk (hp_); have n1_ := Aside0.mk ((by rw [hw]; exact below_set (HB.out) GB14.out : Below w.heap.size w w24)); clear HO_5; clear HB; have HO_5 := n0_; have HB := n1_; clear n0_ n1_; clear hg hw hp_; have p21 : 0 ≤ ((ji18) : Int) := of_decide_eq_true (by first | (with_reducible assumption) | assumption); have q21 : ((ji18) : Int) < ((x5_1.length : Int) : Int) := of_decide_eq_true (by first | (with_reducible assumption) | assumption); obtain ⟨hx21_0, hf21_0⟩ := Kd.R_celln 0 HO_5.out ((ji18) : Int) p21 q21; replace p21 := eq_true p21; replace q21 := eq_true q21; obtain ⟨hy25_, hz25_⟩ := Kd.R_celln 0 HO_5.out ((ji18) : Int) (of_decide_eq_true (by first | (with_reducible assumption) | assumption)) (of_decide_eq_true (by first | (with_reducible assumption) | assumption)); have HP25 := Kd.R_putg HO_5.out ((ji18) : Int) ji17) | ((with_reducible refine gate_store (t := 24) (p := 35) rfl ?_); refine store_event (t := 24) (p := 35) (v := ?vo_w26) (w1 := (w24.setCell ⟨go14, ((ji18) : Int).toNat, none⟩ (.int .u64 ji17))) ?hg ?ho ?hn ?hr ?_; (case ho => rfl); (case hg => rfl); (case hn => rfl); (case hr => first | (go_simp; done) | (go_simp; rfl)); intro w26 hw; have hg : w24.grownBy w26 (some go14) := (by rw [hw]; exact HP25.2); have hp_ : Kd.R (Kd.int .u64) 24 w26 w.heap.size (fun _ => True) (.slice (some ⟨go14, 0, none⟩) x5_1.length co22) y164 := (by rw [hw, Ny164.out]; exact HP25.1); clear HP25; have n0_ := Aside0.mk (hp_); have n1_ := Aside0.mk ((by rw [hw]; exact below_set (HB.out) GB14.out : Below w.heap.size w w26)); clear HO_5; clear HB; have HO_5 := n0_; have HB := n1_; clear n0_ n1_; clear hg hw hp_))
             go_roundg k1
             case measure => have := HK1.out; omega
             case rel => exact ⟨(y164), (ji18), (by first | rfl | (simp; done) | (simp only [← hji18] <;> (first | rfl | simp)) | (simp [*]; done)), H', ⟨by have := HK1.out; omega⟩, ⟨by (with_reducible repeat (first | apply Kd.R_alloc | apply Kd.R_drewN | apply Kd.R_drew)); exact HO_5.out⟩, ⟨by repeat (first | (with_reducible first | exact HB.out | apply below_alloc | apply pw_below_drewN | apply below_drew1) | exact HB.out)⟩⟩
            rw [if_neg c20] at H
            exact absurd H (by simp)
           rw [if_neg c19] at H
           exact absurd H (by simp)
          rw [if_neg c16] at H
          exact absurd H (by simp)
         rw [if_neg c12] at H
         exact absurd H (by simp)
        rw [if_neg c11] at H
        exact absurd H (by simp)
       rw [if_neg c10] at H
       exact absurd H (by simp)
      rw [if_neg c9] at H
      exact absurd H (by simp)
     rw [if_neg c8] at H
     have c8b0 : decide (x14_1 < (l0.length : Int)) = false := decide_eq_false c8
     clear c8
     obtain rfl := Option.some.inj H
     go_wp2
     go_ret
     exact ⟨_, by first | rfl | (simp [errW_none, errW_some] <;> rfl) | (simp only [← hji3]; first | rfl | (simp [errW_none, errW_some] <;> rfl)) | (simp [*, errW_none, errW_some] <;> rfl), by (with_reducible repeat (first | apply Kd.R_alloc | apply Kd.R_drewN | apply Kd.R_drew)); exact HO_5.out, by repeat (first | (with_reducible first | exact HB.out | apply below_alloc | apply pw_below_drewN | apply below_drew1) | exact HB.out)⟩
  rw [if_neg c5] at H
  exact absurd H (by simp)
 rw [if_neg c4] at H
 exact absurd H (by simp)

-- NOT PRINTED: function 52 (bits_Add64)

/-! ### bits_Mul64: function 61 -/
def bits_Mul64.f (a0 : Int) (a1 : Int) : Option (Int × Int) := some (IntKind.u64.wrap ((IntKind.u64.wrap ((IntKind.u64.wrap ((a0 / 4294967296) * (a1 / 4294967296))) + ((IntKind.u64.wrap ((IntKind.u64.wrap ((a0 / 4294967296) * (Go.bits .and .u64 a1 4294967295))) + ((IntKind.u64.wrap ((Go.bits .and .u64 a0 4294967295) * (Go.bits .and .u64 a1 4294967295))) / 4294967296))) / 4294967296))) + ((IntKind.u64.wrap ((Go.bits .and .u64 (IntKind.u64.wrap ((IntKind.u64.wrap ((a0 / 4294967296) * (Go.bits .and .u64 a1 4294967295))) + ((IntKind.u64.wrap ((Go.bits .and .u64 a0 4294967295) * (Go.bits .and .u64 a1 4294967295))) / 4294967296))) 4294967295) + (IntKind.u64.wrap ((Go.bits .and .u64 a0 4294967295) * (a1 / 4294967296))))) / 4294967296)), IntKind.u64.wrap (a0 * a1))
theorem bits_Mul64.calls (a0 : Int) (a1 : Int) (r1 : Int) (r2 : Int) (w : World) (h : bits_Mul64.f a0 a1 = some (r1, r2)) :
  Calls Tryd.prog 61 #[.int .u64 a0, .int .u64 a1] w fun e w' => e = .returned (.tuple #[.int .u64 r1, .int .u64 r2]) ∧ Drawn0 w w' := by
 have H : (some (IntKind.u64.wrap ((IntKind.u64.wrap ((IntKind.u64.wrap ((a0 / 4294967296) * (a1 / 4294967296))) + ((IntKind.u64.wrap ((IntKind.u64.wrap ((a0 / 4294967296) * (Go.bits .and .u64 a1 4294967295))) + ((IntKind.u64.wrap ((Go.bits .and .u64 a0 4294967295) * (Go.bits .and .u64 a1 4294967295))) / 4294967296))) / 4294967296))) + ((IntKind.u64.wrap ((Go.bits .and .u64 (IntKind.u64.wrap ((IntKind.u64.wrap ((a0 / 4294967296) * (Go.bits .and .u64 a1 4294967295))) + ((IntKind.u64.wrap ((Go.bits .and .u64 a0 4294967295) * (Go.bits .and .u64 a1 4294967295))) / 4294967296))) 4294967295) + (IntKind.u64.wrap ((Go.bits .and .u64 a0 4294967295) * (a1 / 4294967296))))) / 4294967296)), IntKind.u64.wrap (a0 * a1))) = some (r1, r2) := h
 clear h
 simp only [Option.some.injEq, Prod.mk.injEq] at H
 obtain ⟨rfl, rfl⟩ := H
 go_enter Tryd.func61, Tryd.ntmps61
 go_wp2
 go_ret2
 exact ⟨by first | rfl | (simp; done) | (simp [*]; done), by repeat (first | exact Drawn0.refl _ | apply Drawn0.step)⟩

/-! ### nat_beyond: function 60 -/
def nat_beyond.f (a0 : Int) (a1 : Int) (a2 : Int) (a3 : Int) : Option (Bool) := (bits_Mul64.f a0 a1).bind fun bt165 => (if bt165.1 > a2 then (some true) else (if bt165.1 = a2 then (some (decide (bt165.2 > a3))) else (some false)))
theorem nat_beyond.calls (a0 : Int) (a1 : Int) (a2 : Int) (a3 : Int) (r : Bool) (w : World) (h : nat_beyond.f a0 a1 a2 a3 = some r) :
  Calls Tryd.prog 60 #[.int .u64 a0, .int .u64 a1, .int .u64 a2, .int .u64 a3] w fun e w' => e = .returned (.bool r) ∧ Drawn0 w w' := by
 have H : ((bits_Mul64.f a0 a1).bind fun bt165 => (if bt165.1 > a2 then (some true) else (if bt165.1 = a2 then (some (decide (bt165.2 > a3))) else (some false)))) = some r := h
 clear h
 replace H := Option.bind_eq_some_iff.mp H
 obtain ⟨⟨t165, t166⟩, A50, H⟩ := H
 replace H : (if t165 > a2 then (some true) else (if t165 = a2 then (some (decide (t166 > a3))) else (some false))) = some r := H
 have A5 := Aside0.mk A50
 clear A50
 by_cases c6 : t165 > a2
 ·rw [if_pos c6] at H
  have c6b0 : decide (a2 < t165) = true := decide_eq_true c6
  clear c6
  obtain rfl := Option.some.inj H
  go_enter Tryd.func60, Tryd.ntmps60
  go_wp2_with (first | ((with_reducible refine gate_callee (f := 61) rfl ?_); refine goesL_ (some 14) rfl rfl Tryd.func61 (by kernel_rfl) rfl #[.int .u64 a0, .int .u64 a1] rfl (by (try simp only [List.map_toArray, List.map_cons, List.map_nil]); first | done | rfl | (simp only [List.length_drop, List.length_take]; rfl)) ?_; (with_reducible refine (bits_Mul64.calls a0 a1 t165 t166 _ A5.out).mono ?_); rintro e w' ⟨rfl, ⟨nd, rfl⟩⟩; refine ⟨_, rfl, ?_⟩))
  go_ret
  exact ⟨by first | rfl | (simp; done) | (simp [*]; done), by repeat (first | exact Drawn0.refl _ | apply Drawn0.step)⟩
 rw [if_neg c6] at H
 have c6b0 : decide (a2 < t165) = false := decide_eq_false c6
 clear c6
 by_cases c7 : t165 = a2
 ·rw [if_pos c7] at H
  have c7b0 : (t165 == a2) = true := beq_iff_eq.mpr c7
  have c7b1 : (t165 != a2) = false := bne_eq_false_iff_eq.mpr c7
  clear c7
  obtain rfl := Option.some.inj H
  go_enter Tryd.func60, Tryd.ntmps60
  go_wp2_with (first | ((with_reducible refine gate_callee (f := 61) rfl ?_); refine goesL_ (some 14) rfl rfl Tryd.func61 (by kernel_rfl) rfl #[.int .u64 a0, .int .u64 a1] rfl (by (try simp only [List.map_toArray, List.map_cons, List.map_nil]); first | done | rfl | (simp only [List.length_drop, List.length_take]; rfl)) ?_; (with_reducible refine (bits_Mul64.calls a0 a1 t165 t166 _ A5.out).mono ?_); rintro e w' ⟨rfl, ⟨nd, rfl⟩⟩; refine ⟨_, rfl, ?_⟩))
  go_ret
  exact ⟨by first | rfl | (simp; done) | (simp [*]; done), by repeat (first | exact Drawn0.refl _ | apply Drawn0.step)⟩
 rw [if_neg c7] at H
 have c7b0 : (t165 == a2) = false := beq_eq_false_iff_ne.mpr c7
 have c7b1 : (t165 != a2) = true := bne_iff_ne.mpr c7
 obtain rfl := Option.some.inj H
 go_enter Tryd.func60, Tryd.ntmps60
 go_wp2_with (first | ((with_reducible refine gate_callee (f := 61) rfl ?_); refine goesL_ (some 14) rfl rfl Tryd.func61 (by kernel_rfl) rfl #[.int .u64 a0, .int .u64 a1] rfl (by (try simp only [List.map_toArray, List.map_cons, List.map_nil]); first | done | rfl | (simp only [List.length_drop, List.length_take]; rfl)) ?_; (with_reducible refine (bits_Mul64.calls a0 a1 t165 t166 _ A5.out).mono ?_); rintro e w' ⟨rfl, ⟨nd, rfl⟩⟩; refine ⟨_, rfl, ?_⟩))
 go_ret
 exact ⟨by first | rfl | (simp; done) | (simp [*]; done), by repeat (first | exact Drawn0.refl _ | apply Drawn0.step)⟩

/-! ### nat_guess: function 45 -/
mutual
def nat_guess.l0 : Nat → Int → Int → Int → Int → Int → Int → Option (Int)
 | 0, _, _, _, _, _, _ => none
 | k + 1, x2, x3, x4, x11, x12, x13 => if x13 = 0 then ((nat_beyond.f x11 x4 x12 x2).bind fun t167 => (if t167 = true then (nat_guess.l0 k x2 x3 x4 (IntKind.u64.wrap (x11 - 1)) (adS x12 x3 0) (adC x12 x3 0)) else (some x11))) else (some x11)
def nat_guess.l1 : Nat → Int → Int → Int → Int → Int → Int → Option (Int)
 | 0, _, _, _, _, _, _ => none
 | k + 1, x2, x3, x4, x14, x15, x16 => if x16 = 0 then ((nat_beyond.f x14 x4 x15 x2).bind fun t170 => (if t170 = true then (nat_guess.l1 k x2 x3 x4 (IntKind.u64.wrap (x14 - 1)) (adS x15 x3 0) (adC x15 x3 0)) else (some x14))) else (some x14)
end
def nat_guess.f (k : Nat) (a0 : Int) (a1 : Int) (a2 : Int) (a3 : Int) (a4 : Int) : Option (Int) := if a0 ≥ a3 then (nat_guess.l0 k a2 a3 a4 18446744073709551615 (adS a1 a3 0) (adC a1 a3 0)) else ((bits_Div64.f k a0 a1 a3).bind fun bt168 => (nat_guess.l1 k a2 a3 a4 bt168.1 bt168.2 0))
theorem nat_guess.mono_l : ∀ k, (∀ y0 y1 y2 y3 y4 y5, LeO (nat_guess.l0 k y0 y1 y2 y3 y4 y5) (nat_guess.l0 (k + 1) y0 y1 y2 y3 y4 y5)) ∧ (∀ y0 y1 y2 y3 y4 y5, LeO (nat_guess.l1 k y0 y1 y2 y3 y4 y5) (nat_guess.l1 (k + 1) y0 y1 y2 y3 y4 y5))
 | 0 => ⟨fun _ _ _ _ _ _ r h => by simp [nat_guess.l0] at h, fun _ _ _ _ _ _ r h => by simp [nat_guess.l1] at h⟩
 | k + 1 => by
  obtain ⟨ih0, ih1⟩ := nat_guess.mono_l k
  refine ⟨?_, ?_⟩
  ·intro y0 y1 y2 y3 y4 y5
   unfold nat_guess.l0
   repeat' first
   | (with_reducible exact ih0 _ _ _ _ _ _)
   | (with_reducible exact ih1 _ _ _ _ _ _)
   | (with_reducible exact bits_Div64.mono _ _ _ _)
   | (with_reducible exact LeO.refl _)
   | (with_reducible exact LeO.none _)
   | (with_reducible refine LeO.ite ?_ ?_)
   | (with_reducible refine LeO.bind ?_ (fun _ => ?_))
   | exact ih0 _ _ _ _ _ _
   | exact ih1 _ _ _ _ _ _
   | exact bits_Div64.mono _ _ _ _
   | exact LeO.none _
   | refine LeO.ite ?_ ?_
   | refine LeO.bind ?_ (fun _ => ?_)
  intro y0 y1 y2 y3 y4 y5
  unfold nat_guess.l1
  repeat' first
  | (with_reducible exact ih0 _ _ _ _ _ _)
  | (with_reducible exact ih1 _ _ _ _ _ _)
  | (with_reducible exact bits_Div64.mono _ _ _ _)
  | (with_reducible exact LeO.refl _)
  | (with_reducible exact LeO.none _)
  | (with_reducible refine LeO.ite ?_ ?_)
  | (with_reducible refine LeO.bind ?_ (fun _ => ?_))
  | exact ih0 _ _ _ _ _ _
  | exact ih1 _ _ _ _ _ _
  | exact bits_Div64.mono _ _ _ _
  | exact LeO.none _
  | refine LeO.ite ?_ ?_
  | refine LeO.bind ?_ (fun _ => ?_)
theorem nat_guess.mono : ∀ a0 a1 a2 a3 a4 k, LeO (nat_guess.f k a0 a1 a2 a3 a4) (nat_guess.f (k + 1) a0 a1 a2 a3 a4) := by
 intro a0 a1 a2 a3 a4 k
 obtain ⟨ih0, ih1⟩ := nat_guess.mono_l k
 unfold nat_guess.f
 repeat' first
   | (with_reducible exact ih0 _ _ _ _ _ _)
   | (with_reducible exact ih1 _ _ _ _ _ _)
   | (with_reducible exact bits_Div64.mono _ _ _ _)
   | (with_reducible exact LeO.refl _)
   | (with_reducible exact LeO.none _)
   | (with_reducible refine LeO.ite ?_ ?_)
   | (with_reducible refine LeO.bind ?_ (fun _ => ?_))
   | exact ih0 _ _ _ _ _ _
   | exact ih1 _ _ _ _ _ _
   | exact bits_Div64.mono _ _ _ _
   | exact LeO.none _
   | refine LeO.ite ?_ ?_
   | refine LeO.bind ?_ (fun _ => ?_)
theorem nat_guess.calls (k : Nat) (a0 : Int) (a1 : Int) (a2 : Int) (a3 : Int) (a4 : Int) (r : Int) (w : World) (h : nat_guess.f k a0 a1 a2 a3 a4 = some r) :
  Calls Tryd.prog 45 #[.int .u64 a0, .int .u64 a1, .int .u64 a2, .int .u64 a3, .int .u64 a4] w fun e w' => e = .returned (.int .u64 r) ∧ Drawn0 w w' := by
 have H : (if a0 ≥ a3 then (nat_guess.l0 k a2 a3 a4 18446744073709551615 (adS a1 a3 0) (adC a1 a3 0)) else ((bits_Div64.f k a0 a1 a3).bind fun bt168 => (nat_guess.l1 k a2 a3 a4 bt168.1 bt168.2 0))) = some r := h
 clear h
 by_cases c6 : a0 ≥ a3
 ·rw [if_pos c6] at H
  have c6b0 : decide (a3 ≤ a0) = true := decide_eq_true c6
  clear c6
  have H' := Aside0.mk H
  clear H
  go_enter Tryd.func45, Tryd.ntmps45
  go_wp2
  go_loopg [11, 12, 13] k (fun kq v11 v12 v13 w' => ∃ (x11_1 : Int) (x12_1 : Int) (x13_1 : Int), v11 = .int .u64 x11_1 ∧ v12 = .int .u64 x12_1 ∧ v13 = .int .u64 x13_1 ∧ Aside0 (nat_guess.l0 kq a2 a3 a4 x11_1 x12_1 x13_1 = some r) ∧ Aside0 (kq ≤ k) ∧ Drawn0 w w')
  case atStart => exact ⟨(18446744073709551615), (adS a1 a3 0), (adC a1 a3 0), (by first | rfl | (simp; done) | (simp [*]; done)), (by first | rfl | (simp; done) | (simp [*]; done)), (by first | rfl | (simp; done) | (simp [*]; done)), H', ⟨Nat.le_refl _⟩, by repeat (first | exact Drawn0.refl _ | apply Drawn0.step)⟩
  case round =>
   clear H'
   try clear p2
   try clear c4
   try clear c6
   try clear c6b0
   obtain ⟨x11_1, x12_1, x13_1, rfl, rfl, rfl, HA, HK1, ⟨m1, rfl⟩⟩ := hrel
   cases gk with
   | zero => exact absurd HA.out (by simp [nat_guess.l0])
   | succ k1 =>
    have H := HA.out
    clear HA
    simp only [nat_guess.l0] at H
    by_cases c7 : x13_1 = 0
    ·rw [if_pos c7] at H
     have c7b0 : (x13_1 == 0) = true := beq_iff_eq.mpr c7
     have c7b1 : (x13_1 != 0) = false := bne_eq_false_iff_eq.mpr c7
     clear c7
     replace H := Option.bind_eq_some_iff.mp H
     obtain ⟨t167, A80, H⟩ := H
     replace H : (if t167 = true then (nat_guess.l0 k1 a2 a3 a4 (IntKind.u64.wrap (x11_1 - 1)) (adS x12_1 a3 0) (adC x12_1 a3 0)) else (some x11_1)) = some r := H
     have A8 := Aside0.mk A80
     clear A80
     by_cases c9 : t167 = true
     ·subst c9
      have H1 : (nat_guess.l0 k1 a2 a3 a4 (IntKind.u64.wrap (x11_1 - 1)) (adS x12_1 a3 0) (adC x12_1 a3 0)) = some r := by rw [if_pos rfl] at H; exact H
      clear H
      have H := H1
      clear H1
      have H' := Aside0.mk H
      clear H
      go_wp2_with (first | (go_at_call 60; (with_reducible refine (nat_beyond.calls x11_1 a4 x12_1 a2 true _ A8.out).mono ?_); rintro e w' ⟨rfl, ⟨nd, rfl⟩⟩))
      go_roundg k1
      case measure => have := HK1.out; omega
      case rel => exact ⟨(IntKind.u64.wrap (x11_1 - 1)), (adS x12_1 a3 0), (adC x12_1 a3 0), (by first | rfl | (simp; done) | (simp [*]; done)), (by first | rfl | (simp; done) | (simp [*]; done)), (by first | rfl | (simp; done) | (simp [*]; done)), H', ⟨by have := HK1.out; omega⟩, by repeat (first | exact Drawn0.refl _ | apply Drawn0.step)⟩
     replace c9 := Bool.eq_false_iff.mpr c9
     subst c9
     have H1 : (some x11_1) = some r := by rw [if_neg (show ¬ (false = true) by decide)] at H; exact H
     clear H
     have H := H1
     clear H1
     obtain rfl := Option.some.inj H
     go_wp2_with (first | (go_at_call 60; (with_reducible refine (nat_beyond.calls x11_1 a4 x12_1 a2 false _ A8.out).mono ?_); rintro e w' ⟨rfl, ⟨nd, rfl⟩⟩))
     go_ret
     exact ⟨by first | rfl | (simp; done) | (simp [*]; done), by repeat (first | exact Drawn0.refl _ | apply Drawn0.step)⟩
    rw [if_neg c7] at H
    have c7b0 : (x13_1 == 0) = false := beq_eq_false_iff_ne.mpr c7
    have c7b1 : (x13_1 != 0) = true := bne_iff_ne.mpr c7
    obtain rfl := Option.some.inj H
    go_wp2
    go_ret
    exact ⟨by first | rfl | (simp; done) | (simp [*]; done), by repeat (first | exact Drawn0.refl _ | apply Drawn0.step)⟩
 rw [if_neg c6] at H
 have c6b0 : decide (a3 ≤ a0) = false := decide_eq_false c6
 clear c6
 replace H := Option.bind_eq_some_iff.mp H
 obtain ⟨⟨t168, t169⟩, A100, H⟩ := H
 replace H : (nat_guess.l1 k a2 a3 a4 t168 t169 0) = some r := H
 have A10 := Aside0.mk A100
 clear A100
 have H' := Aside0.mk H
 clear H
 go_enter Tryd.func45, Tryd.ntmps45
 go_wp2_with (first | ((with_reducible refine gate_callee (f := 48) rfl ?_); refine goesL_ (some 48) rfl rfl Tryd.func48 (by kernel_rfl) rfl #[.int .u64 a0, .int .u64 a1, .int .u64 a3] rfl (by (try simp only [List.map_toArray, List.map_cons, List.map_nil]); first | done | rfl | (simp only [List.length_drop, List.length_take]; rfl)) ?_; (with_reducible refine (bits_Div64.calls k a0 a1 a3 t168 t169 _ A10.out).mono ?_); rintro e w' ⟨rfl, ⟨nd, rfl⟩⟩; refine ⟨_, rfl, ?_⟩))
 go_loopg [14, 15, 16] k (fun kq v14 v15 v16 w' => ∃ (x14_1 : Int) (x15_1 : Int) (x16_1 : Int), v14 = .int .u64 x14_1 ∧ v15 = .int .u64 x15_1 ∧ v16 = .int .u64 x16_1 ∧ Aside0 (nat_guess.l1 kq a2 a3 a4 x14_1 x15_1 x16_1 = some r) ∧ Aside0 (kq ≤ k) ∧ Drawn0 w w')
 case atStart => exact ⟨(t168), (t169), (0), (by first | rfl | (simp; done) | (simp [*]; done)), (by first | rfl | (simp; done) | (simp [*]; done)), (by first | rfl | (simp; done) | (simp [*]; done)), H', ⟨Nat.le_refl _⟩, by repeat (first | exact Drawn0.refl _ | apply Drawn0.step)⟩
 case round =>
  clear H'
  try clear p2
  try clear c4
  try clear c6
  try clear c6b0
  try clear c7
  try clear c7b0
  try clear c7b1
  try clear c9
  try clear p2
  obtain ⟨x14_1, x15_1, x16_1, rfl, rfl, rfl, HA, HK1, ⟨m1, rfl⟩⟩ := hrel
  cases gk with
  | zero => exact absurd HA.out (by simp [nat_guess.l1])
  | succ k1 =>
   have H := HA.out
   clear HA
   simp only [nat_guess.l1] at H
   by_cases c11 : x16_1 = 0
   ·rw [if_pos c11] at H
    have c11b0 : (x16_1 == 0) = true := beq_iff_eq.mpr c11
    have c11b1 : (x16_1 != 0) = false := bne_eq_false_iff_eq.mpr c11
    clear c11
    replace H := Option.bind_eq_some_iff.mp H
    obtain ⟨t170, A120, H⟩ := H
    replace H : (if t170 = true then (nat_guess.l1 k1 a2 a3 a4 (IntKind.u64.wrap (x14_1 - 1)) (adS x15_1 a3 0) (adC x15_1 a3 0)) else (some x14_1)) = some r := H
    have A12 := Aside0.mk A120
    clear A120
    by_cases c13 : t170 = true
    ·subst c13
     have H1 : (nat_guess.l1 k1 a2 a3 a4 (IntKind.u64.wrap (x14_1 - 1)) (adS x15_1 a3 0) (adC x15_1 a3 0)) = some r := by rw [if_pos rfl] at H; exact H
     clear H
     have H := H1
     clear H1
     have H' := Aside0.mk H
     clear H
     go_wp2_with (first | (go_at_call 60; (with_reducible refine (nat_beyond.calls x14_1 a4 x15_1 a2 true _ A12.out).mono ?_); rintro e w' ⟨rfl, ⟨nd, rfl⟩⟩))
     go_roundg k1
     case measure => have := HK1.out; omega
     case rel => exact ⟨(IntKind.u64.wrap (x14_1 - 1)), (adS x15_1 a3 0), (adC x15_1 a3 0), (by first | rfl | (simp; done) | (simp [*]; done)), (by first | rfl | (simp; done) | (simp [*]; done)), (by first | rfl | (simp; done) | (simp [*]; done)), H', ⟨by have := HK1.out; omega⟩, by repeat (first | exact Drawn0.refl _ | apply Drawn0.step)⟩
    replace c13 := Bool.eq_false_iff.mpr c13
    subst c13
    have H1 : (some x14_1) = some r := by rw [if_neg (show ¬ (false = true) by decide)] at H; exact H
    clear H
    have H := H1
    clear H1
    obtain rfl := Option.some.inj H
    go_wp2_with (first | (go_at_call 60; (with_reducible refine (nat_beyond.calls x14_1 a4 x15_1 a2 false _ A12.out).mono ?_); rintro e w' ⟨rfl, ⟨nd, rfl⟩⟩))
    go_ret
    exact ⟨by first | rfl | (simp; done) | (simp [*]; done), by repeat (first | exact Drawn0.refl _ | apply Drawn0.step)⟩
   rw [if_neg c11] at H
   have c11b0 : (x16_1 == 0) = false := beq_eq_false_iff_ne.mpr c11
   have c11b1 : (x16_1 != 0) = true := bne_iff_ne.mpr c11
   obtain rfl := Option.some.inj H
   go_wp2
   go_ret
   exact ⟨by first | rfl | (simp; done) | (simp [*]; done), by repeat (first | exact Drawn0.refl _ | apply Drawn0.step)⟩

-- NOT PRINTED: function 62 (bits_Sub64)

/-! ### nat_takes: function 46 -/
def nat_takes.l0 : Nat → List Int → List Int → Int → Int → Int → Int → Int → Option (Bool × List Int)
 | 0, _, _, _, _, _, _, _ => none
 | k + 1, x0, x1, x2, x3, x9, x10, x11 => if x11 ≤ (x1.length : Int) then ((nat_at.f x1 x11).bind fun t171 => ((bits_Mul64.f t171 x2).bind fun bt172 => (if 0 ≤ (wrap64 (x3 + x11)) then (if (wrap64 (x3 + x11)) < (x0.length : Int) then (if x10 ≤ 1 then (nat_takes.l0 k (x0.set ((wrap64 (x3 + x11)) : Int).toNat (sbS (rd x0 (wrap64 (x3 + x11))) (adS bt172.2 x9 0) x10)) x1 x2 x3 (IntKind.u64.wrap (bt172.1 + (adC bt172.2 x9 0))) (sbC (rd x0 (wrap64 (x3 + x11))) (adS bt172.2 x9 0) x10) (wrap64 (x11 + 1))) else (none)) else (none)) else (none)))) else (some (decide (x10 > 0), x0))
def nat_takes.f (k : Nat) (l0 : List Int) (l1 : List Int) (a2 : Int) (a3 : Int) : Option (Bool × List Int) := nat_takes.l0 k l0 l1 a2 a3 0 0 0
theorem nat_takes.mono_l : ∀ k, (∀ y0 y1 y2 y3 y4 y5 y6, LeO (nat_takes.l0 k y0 y1 y2 y3 y4 y5 y6) (nat_takes.l0 (k + 1) y0 y1 y2 y3 y4 y5 y6))
 | 0 => fun _ _ _ _ _ _ _ r h => by simp [nat_takes.l0] at h
 | k + 1 => by
  have ih0 := nat_takes.mono_l k
  ·intro y0 y1 y2 y3 y4 y5 y6
   unfold nat_takes.l0
   repeat' first
   | (with_reducible exact ih0 _ _ _ _ _ _ _)
   | (with_reducible exact LeO.refl _)
   | (with_reducible exact LeO.none _)
   | (with_reducible refine LeO.ite ?_ ?_)
   | (with_reducible refine LeO.bind ?_ (fun _ => ?_))
   | exact ih0 _ _ _ _ _ _ _
   | exact LeO.none _
   | refine LeO.ite ?_ ?_
   | refine LeO.bind ?_ (fun _ => ?_)
theorem nat_takes.mono : ∀ a0 a1 a2 a3 k, LeO (nat_takes.f k a0 a1 a2 a3) (nat_takes.f (k + 1) a0 a1 a2 a3) := by
 intro a0 a1 a2 a3 k
 have ih0 := nat_takes.mono_l k
 unfold nat_takes.f
 repeat' first
   | (with_reducible exact ih0 _ _ _ _ _ _ _)
   | (with_reducible exact LeO.refl _)
   | (with_reducible exact LeO.none _)
   | (with_reducible refine LeO.ite ?_ ?_)
   | (with_reducible refine LeO.bind ?_ (fun _ => ?_))
   | exact ih0 _ _ _ _ _ _ _
   | exact LeO.none _
   | refine LeO.ite ?_ ?_
   | refine LeO.bind ?_ (fun _ => ?_)
theorem nat_takes.calls (k : Nat) (P0_ : Nat → Prop) (u9000_ : Value) (l0 : List Int) (A1 : Option Addr) (c1 : Nat) (l1 : List Int) (a2 : Int) (a3 : Int) (r1 : Bool) (r2 : List Int) (w0 w : World) (hB : Below w0.heap.size w0 w) (ho0 : Kd.R (Kd.int .u64) 24 w w0.heap.size P0_ u9000_ l0) (hr1 : ∀ W_, Kept w W_ (fun k_ => P0_ k_) → Kd.C (Kd.int .u64) W_ A1 l1.length l1) (hc1 : l1.length ≤ c1) (h : nat_takes.f k l0 l1 a2 a3 = some (r1, r2)) :
  Calls Tryd.prog 46 #[u9000_, .slice A1 l1.length c1, .int .u64 a2, .int .i64 a3] w fun e w' => e = .returned (.bool r1) ∧ Kd.R (Kd.int .u64) 24 w' w0.heap.size (fun k_ => (P0_ k_ ∨ w.heap.size ≤ k_)) u9000_ r2 ∧ Below w0.heap.size w0 w' ∧ Kept w w' (fun k_ => P0_ k_) := by
 have HO0 := Aside0.mk (show Kd.R (Kd.int .u64) 24 w w0.heap.size (fun k_ => (P0_ k_ ∨ w.heap.size ≤ k_)) u9000_ l0 from Kd.R_mono ho0 (fun k_ hk => (.inl hk)))
 have HR1 := Aside0.mk hr1
 have HC1 := Aside0.mk hc1
 clear hr1 hc1
 have HK := Aside0.mk (Kept.refl w (fun k_ => P0_ k_))
 have HW0 := Aside0.mk hB.size
 have HB := Aside0.mk hB
 clear hB
 have H : (nat_takes.l0 k l0 l1 a2 a3 0 0 0) = some (r1, r2) := h
 clear h
 have H' := Aside0.mk H
 clear H
 go_enter Tryd.func46, Tryd.ntmps46
 go_wp2
 go_loopg [9, 10, 11] k (fun kq v9 v10 v11 w' => ∃ (x0_1 : List Int) (x9_1 : Int) (x10_1 : Int) (x11_1 : Int), v9 = .int .u64 x9_1 ∧ v10 = .int .u64 x10_1 ∧ v11 = .int .i64 x11_1 ∧ Aside0 (nat_takes.l0 kq x0_1 l1 a2 a3 x9_1 x10_1 x11_1 = some (r1, r2)) ∧ Aside0 (kq ≤ k) ∧ Aside0 (Kd.R (Kd.int .u64) 24 w' w0.heap.size (fun k_ => (P0_ k_ ∨ w.heap.size ≤ k_)) u9000_ x0_1) ∧ Aside0 (Kept w w' (fun k_ => P0_ k_)) ∧ Aside0 (Below w0.heap.size w0 w'))
 case atStart => exact ⟨(l0), (0), (0), (0), (by first | rfl | (simp; done) | (simp [*]; done)), (by first | rfl | (simp; done) | (simp [*]; done)), (by first | rfl | (simp; done) | (simp [*]; done)), H', ⟨Nat.le_refl _⟩, ⟨by (with_reducible repeat (first | apply Kd.R_alloc | apply Kd.R_drewN | apply Kd.R_drew)); exact HO0.out⟩, ⟨by repeat (first | (with_reducible first | exact HK.out | apply Kept.alloc | apply Kept.drewN | apply Kept.drew) | exact HK.out)⟩, ⟨by repeat (first | (with_reducible first | exact HB.out | apply below_alloc | apply pw_below_drewN | apply below_drew1) | exact HB.out)⟩⟩
 case round =>
  clear H'
  try clear c1
  try clear p2
  try clear c4
  obtain ⟨x0_1, x9_1, x10_1, x11_1, rfl, rfl, rfl, HA, HK1, HO_0, HK, HB⟩ := hrel
  cases gk with
  | zero => exact absurd HA.out (by simp [nat_takes.l0])
  | succ k1 =>
   have H := HA.out
   clear HA
   simp only [nat_takes.l0] at H
   by_cases c5 : x11_1 ≤ (l1.length : Int)
   ·rw [if_pos c5] at H
    have c5b0 : decide (x11_1 ≤ (l1.length : Int)) = true := decide_eq_true c5
    clear c5
    replace H := Option.bind_eq_some_iff.mp H
    obtain ⟨t171, A60, H⟩ := H
    replace H : ((bits_Mul64.f t171 a2).bind fun bt172 => (if 0 ≤ (wrap64 (a3 + x11_1)) then (if (wrap64 (a3 + x11_1)) < (x0_1.length : Int) then (if x10_1 ≤ 1 then (nat_takes.l0 k1 (x0_1.set ((wrap64 (a3 + x11_1)) : Int).toNat (sbS (rd x0_1 (wrap64 (a3 + x11_1))) (adS bt172.2 x9_1 0) x10_1)) l1 a2 a3 (IntKind.u64.wrap (bt172.1 + (adC bt172.2 x9_1 0))) (sbC (rd x0_1 (wrap64 (a3 + x11_1))) (adS bt172.2 x9_1 0) x10_1) (wrap64 (x11_1 + 1))) else (none)) else (none)) else (none))) = some (r1, r2) := H
    have A6 := Aside0.mk A60
    clear A60
    replace H := Option.bind_eq_some_iff.mp H
    obtain ⟨⟨t172, t173⟩, A70, H⟩ := H
    replace H : (if 0 ≤ (wrap64 (a3 + x11_1)) then (if (wrap64 (a3 + x11_1)) < (x0_1.length : Int) then (if x10_1 ≤ 1 then (nat_takes.l0 k1 (x0_1.set ((wrap64 (a3 + x11_1)) : Int).toNat (sbS (rd x0_1 (wrap64 (a3 + x11_1))) (adS t173 x9_1 0) x10_1)) l1 a2 a3 (IntKind.u64.wrap (t172 + (adC t173 x9_1 0))) (sbC (rd x0_1 (wrap64 (a3 + x11_1))) (adS t173 x9_1 0) x10_1) (wrap64 (x11_1 + 1))) else (none)) else (none)) else (none)) = some (r1, r2) := H
    have A7 := Aside0.mk A70
    clear A70
    obtain ⟨ji8, hji8⟩ : ∃ j_ : Int, (wrap64 (a3 + x11_1)) = j_ := ⟨_, rfl⟩
    replace H : (if 0 ≤ (ji8) then (if (ji8) < (x0_1.length : Int) then (if x10_1 ≤ 1 then (nat_takes.l0 k1 (x0_1.set ((ji8) : Int).toNat (sbS (rd x0_1 (ji8)) (adS t173 x9_1 0) x10_1)) l1 a2 a3 (IntKind.u64.wrap (t172 + (adC t173 x9_1 0))) (sbC (rd x0_1 (ji8)) (adS t173 x9_1 0) x10_1) (wrap64 (x11_1 + 1))) else (none)) else (none)) else (none)) = some (r1, r2) := by first | (rw [hji8] at H; exact H) | (simp only [hji8] at H ⊢; exact H)
    (try rw [hji8] at A6)
    (try rw [hji8] at A7)
    have hji8w : (IntKind.i64.wrap (a3 + x11_1)) = ji8 := (i64_w _).trans hji8
    by_cases c9 : 0 ≤ (ji8)
    ·rw [if_pos c9] at H
     have c9b0 : decide (0 ≤ (ji8)) = true := decide_eq_true c9
     clear c9
     by_cases c10 : (ji8) < (x0_1.length : Int)
     ·rw [if_pos c10] at H
      have c10b0 : decide ((ji8) < (x0_1.length : Int)) = true := decide_eq_true c10
      clear c10
      by_cases c11 : x10_1 ≤ 1
      ·rw [if_pos c11] at H
       have c11b0 : decide (x10_1 ≤ 1) = true := decide_eq_true c11
       clear c11
       obtain ⟨y175, hy175⟩ : ∃ y_ : List Int, y_ = (x0_1.set ((ji8) : Int).toNat (sbS (rd x0_1 (ji8)) (adS t173 x9_1 0) x10_1)) := ⟨_, rfl⟩
       replace H : (nat_takes.l0 k1 y175 l1 a2 a3 (IntKind.u64.wrap (t172 + (adC t173 x9_1 0))) (sbC (rd x0_1 (ji8)) (adS t173 x9_1 0) x10_1) (wrap64 (x11_1 + 1))) = some (r1, r2) := by first | (rw [hy175]; with_reducible exact H) | (have H2_ := (Option.bind_some _ _).symm.trans H; rw [hy175]; with_reducible exact H2_) | (have H2_ := (Option.bind_some _ _).symm.trans H; with_reducible exact H2_) | with_reducible exact H | (rw [hy175]; exact H) | exact H
       have Ny175 := Aside0.mk hy175
       clear hy175
       have H' := Aside0.mk H
       clear H
       go_wp2_with (first | ((with_reducible refine gate_callee (f := 53) rfl ?_); refine goesL_ (some 24) rfl rfl Tryd.func53 (by kernel_rfl) rfl #[.slice A1 l1.length c1, .int .i64 x11_1] rfl (by (try simp only [List.map_toArray, List.map_cons, List.map_nil]); first | done | rfl | (simp only [List.length_drop, List.length_take]; rfl)) ?_; (with_reducible refine (nat_at.calls _ _ l1 x11_1 t171 _ ?side1 ?side2 A6.out).mono ?_); (case side1 => exact Kd.C_kept_now HR1.out (by repeat (first | (with_reducible first | exact HK.out | apply Kept.alloc | apply Kept.drewN | apply Kept.drew) | exact HK.out))); (case side2 => exact HC1.out); rintro e w' ⟨rfl, ⟨nd, rfl⟩⟩; refine ⟨_, rfl, ?_⟩; (try (rw [drewN_self wr]; generalize hq_ : World.drewN wr _ = wr; have n0_ : Aside0 (Kd.R (Kd.int .u64) 24 wr w0.heap.size (fun k_ => (P0_ k_ ∨ w.heap.size ≤ k_)) u9000_ x0_1) := ⟨by rw [← hq_]; exact (by (with_reducible repeat (first | apply Kd.R_alloc | apply Kd.R_drewN | apply Kd.R_drew)); exact HO_0.out)⟩; have n1_ : Aside0 (Kept w wr (fun k_ => P0_ k_)) := ⟨by rw [← hq_]; exact (by repeat (first | (with_reducible first | exact HK.out | apply Kept.alloc | apply Kept.drewN | apply Kept.drew) | exact HK.out))⟩; have n2_ : Aside0 (Below w0.heap.size w0 wr) := ⟨by rw [← hq_]; exact (by repeat (first | (with_reducible first | exact HB.out | apply below_alloc | apply pw_below_drewN | apply below_drew1) | exact HB.out))⟩; clear HO_0 HK HB hq_; have HO_0 := n0_; have HK := n1_; have HB := n2_; clear n0_ n1_ n2_))) | ((with_reducible refine gate_callee (f := 61) rfl ?_); refine goesL_ (some 26) rfl rfl Tryd.func61 (by kernel_rfl) rfl #[.int .u64 t171, .int .u64 a2] rfl (by (try simp only [List.map_toArray, List.map_cons, List.map_nil]); first | done | rfl | (simp only [List.length_drop, List.length_take]; rfl)) ?_; (with_reducible refine (bits_Mul64.calls t171 a2 t172 t173 _ A7.out).mono ?_); rintro e w' ⟨rfl, ⟨nd, rfl⟩⟩; refine ⟨_, rfl, ?_⟩; (try (rw [drewN_self wr]; generalize hq_ : World.drewN wr _ = wr; have n0_ : Aside0 (Kd.R (Kd.int .u64) 24 wr w0.heap.size (fun k_ => (P0_ k_ ∨ w.heap.size ≤ k_)) u9000_ x0_1) := ⟨by rw [← hq_]; exact (by (with_reducible repeat (first | apply Kd.R_alloc | apply Kd.R_drewN | apply Kd.R_drew)); exact HO_0.out)⟩; have n1_ : Aside0 (Kept w wr (fun k_ => P0_ k_)) := ⟨by rw [← hq_]; exact (by repeat (first | (with_reducible first | exact HK.out | apply Kept.alloc | apply Kept.drewN | apply Kept.drew) | exact HK.out))⟩; have n2_ : Aside0 (Below w0.heap.size w0 wr) := ⟨by rw [← hq_]; exact (by repeat (first | (with_reducible first | exact HB.out | apply below_alloc | apply pw_below_drewN | apply below_drew1) | exact HB.out))⟩; clear HO_0 HK HB hq_; have HO_0 := n0_; have HK := n1_; have HB := n2_; clear n0_ n1_ n2_)); obtain ⟨Ao13, co13, eo13⟩ := Kd.R_slice HO_0.out; subst eo13; have p174 : 0 ≤ ((ji8) : Int) := of_decide_eq_true (by first | (with_reducible assumption) | assumption); have q174 : (ji8) < (x0_1.length : Int) := of_decide_eq_true (by first | (with_reducible assumption) | assumption); obtain ⟨ad174, e174, hx174_0⟩ := Kd.at_int (Kd.R_reads' HO_0.out).2.2 (ji8) p174 q174; cases e174; replace p174 := eq_true p174; replace q174 := eq_true q174; have p12 : 0 ≤ ((ji8) : Int) := of_decide_eq_true (by first | (with_reducible assumption) | assumption); have q12 : ((ji8) : Int) < ((x0_1.length : Int) : Int) := of_decide_eq_true (by first | (with_reducible assumption) | assumption); obtain ⟨go12, co12, eo12, gb12, gl12, cl12, HG12⟩ := Kd.R_form HO_0.out (by omega); (first | cases eo12 | (injection eo12 with ea_ en_ ec_; (first | subst ea_ | (injection ea_ with ea_; subst ea_)); subst ec_; clear en_)); have GB12 := Aside0.mk gb12; have GG12 := Aside0.mk HG12; clear gb12 gl12 HG12; have HMgo12 := Aside0.mk (show (P0_ go12 ∨ w.heap.size ≤ go12) from (HO_0.out.1 _ rfl)); (first | simp only [add_plain] at hx174_0 | skip); obtain ⟨hx12_0, hf12_0⟩ := Kd.R_celln 0 HO_0.out ((ji8) : Int) p12 q12; replace p12 := eq_true p12; replace q12 := eq_true q12; obtain ⟨hy14_, hz14_⟩ := Kd.R_celln 0 HO_0.out ((ji8) : Int) (of_decide_eq_true (by first | (with_reducible assumption) | assumption)) (of_decide_eq_true (by first | (with_reducible assumption) | assumption)); have HP14 := Kd.R_putg HO_0.out ((ji8) : Int) (sbS (rd x0_1 (ji8)) (adS t173 x9_1 0) x10_1)) | ((with_reducible refine gate_store (t := 24) (p := 54) rfl ?_); refine store_event (t := 24) (p := 54) (v := ?vo_w15) (w1 := (wr.setCell ⟨go12, ((ji8) : Int).toNat, none⟩ (.int .u64 (sbS (rd x0_1 (ji8)) (adS t173 x9_1 0) x10_1)))) ?hg ?ho ?hn ?hr ?_; (case ho => rfl); (case hg => rfl); (case hn => rfl); (case hr => first | (go_simp; done) | (go_simp; rfl)); intro w15 hw; have hg : wr.grownBy w15 (some go12) := (by rw [hw]; exact HP14.2); have hp_ : Kd.R (Kd.int .u64) 24 w15 w0.heap.size (fun k_ => (P0_ k_ ∨ w.heap.size ≤ k_)) (.slice (some ⟨go12, 0, none⟩) x0_1.length co13) y175 := (by rw [hw, Ny175.out]; exact HP14.1); clear HP14; have n0_ := Aside0.mk (hp_); have n1_ := Aside0.mk ((by rw [hw]; exact below_set (HB.out) GB12.out : Below w0.heap.size w0 w15)); have n2_ := Aside0.mk (Kept.of_grown (S := (fun k_ => P0_ k_)) hg (by repeat (first | (with_reducible first | exact HK.out | apply Kept.alloc | apply Kept.drewN | apply Kept.drew) | exact HK.out)) (fun k_ e_ => (HO_0.out.1 k_ e_))); clear HO_0; clear HB; clear HK; have HO_0 := n0_; have HB := n1_; have HK := n2_; clear n0_ n1_ n2_; clear hg hw hp_))
       go_roundg k1
       case measure => have := HK1.out; omega
       case rel => exact ⟨(y175), (IntKind.u64.wrap (t172 + (adC t173 x9_1 0))), (sbC (rd x0_1 (ji8)) (adS t173 x9_1 0) x10_1), (wrap64 (x11_1 + 1)), (by first | rfl | (simp; done) | (simp [*]; done)), (by first | rfl | (simp; done) | (simp only [← hji8] <;> (first | rfl | simp)) | (simp [*]; done)), (by first | rfl | (simp; done) | (simp [*]; done)), H', ⟨by have := HK1.out; omega⟩, ⟨by (with_reducible repeat (first | apply Kd.R_alloc | apply Kd.R_drewN | apply Kd.R_drew)); exact HO_0.out⟩, ⟨by repeat (first | (with_reducible first | exact HK.out | apply Kept.alloc | apply Kept.drewN | apply Kept.drew) | exact HK.out)⟩, ⟨by repeat (first | (with_reducible first | exact HB.out | apply below_alloc | apply pw_below_drewN | apply below_drew1) | exact HB.out)⟩⟩
      rw [if_neg c11] at H
      exact absurd H (by simp)
     rw [if_neg c10] at H
     exact absurd H (by simp)
    rw [if_neg c9] at H
    exact absurd H (by simp)
   rw [if_neg c5] at H
   have c5b0 : decide (x11_1 ≤ (l1.length : Int)) = false := decide_eq_false c5
   clear c5
   simp only [Option.some.injEq, Prod.mk.injEq] at H
   obtain ⟨rfl, rfl⟩ := H
   go_wp2
   go_ret
   exact ⟨by first | rfl | (simp [errW_none, errW_some] <;> rfl) | (simp [*, errW_none, errW_some] <;> rfl), by (with_reducible repeat (first | apply Kd.R_alloc | apply Kd.R_drewN | apply Kd.R_drew)); exact HO_0.out, by repeat (first | (with_reducible first | exact HB.out | apply below_alloc | apply pw_below_drewN | apply below_drew1) | exact HB.out), by repeat (first | (with_reducible first | exact HK.out | apply Kept.alloc | apply Kept.drewN | apply Kept.drew) | exact HK.out)⟩

end Go.Proofs.YtdomplmilbkaeaaDoor.GN
-- thin
