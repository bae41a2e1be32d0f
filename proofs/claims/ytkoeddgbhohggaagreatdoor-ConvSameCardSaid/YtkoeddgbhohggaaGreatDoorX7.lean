/-
  Texts of this proof, one behind the other: RInt, RRef2, RNum, RCrtM, RCrtA, RCrtB, RShl, RDbl, RCrtC, RSmall, RExact, RBox, RConvL, RConvX, RBoxM, RBoxE, RBoxF, RConvY, RLaw, RArr. No condition of their own.
-/
import Derived.Test.YtkoeddgbhohggaaGreatDoorX6
import Derived.OpenShut
import Derived.Lib.SmallJoins
section
namespace Go.Proofs.YtkoeddgbhohggaaGreatDoor.Pure
open Go.RowKit Go.Proofs.YtkoeddgbhohggaaGreatDoor.F Go.Proofs.YtkoeddgbhohggaaGreatDoorW.PrintWords Go.Proofs.YtkoeddgbhohggaaGreatDoorW.PrintLast Go.Proofs.YtkoeddgbhohggaaGreatDoorW.PrintMore
open Go.Proofs.YtkoeddgbhohggaaGreatDoor.E (tEq tLt tApp tCut)
set_option linter.unusedVariables false
set_option linter.unusedSimpArgs false
def ng (z : Int) : Bool := decide (z < 0)
def sg (b : Bool) (n : Nat) : Int := if b then -(n : Int) else (n : Int)
theorem sg_abs (b : Bool) (n : Nat) : (sg b n).natAbs = n := by cases b <;> simp [sg]
theorem sg_ng (z : Int) : sg (ng z) z.natAbs = z := by
 unfold sg ng
 by_cases h : z < 0
 ·simp [h]; omega
 ·simp [h]; omega
theorem ng_sg (b : Bool) (n : Nat) : ng (sg b n) = (b && decide (0 < n)) := by
 unfold sg ng
 cases b <;> simp
theorem ng_true {z : Int} : ng z = true ↔ z < 0 := decide_eq_true_iff
theorem ng_false {z : Int} : ng z = false ↔ 0 ≤ z := by unfold ng; rw [decide_eq_false_iff_not]; omega
theorem sg_false (n : Nat) : sg false n = (n : Int) := rfl
theorem ng_nat (n : Nat) : ng (n : Int) = false := ng_false.2 (Int.natCast_nonneg n)
def Sz (p : Nat) (z : Int) : Prop := (limbs z.natAbs).length ≤ p
theorem Sz.lt {p : Nat} {z : Int} (h : Sz p z) : z.natAbs < 18446744073709551616 ^ p := pow_up (lt_pow_limbs _) h
theorem Sz.of {p : Nat} {z : Int} (h : z.natAbs < 18446744073709551616 ^ p) : Sz p z := limbs_length_le h
theorem Sz.up {p q : Nat} {z : Int} (h : Sz p z) (hpq : p ≤ q) : Sz q z := Nat.le_trans h hpq
theorem Sz.neg {p : Nat} {z : Int} (h : Sz p z) : Sz p (-z) := by unfold Sz at *; rwa [Int.natAbs_neg]
theorem Sz.mul {p q : Nat} {x y : Int} (hx : Sz p x) (hy : Sz q y) : Sz (p + q) (x * y) := Sz.of (by rw [Int.natAbs_mul]; exact lt_mul hx.lt hy.lt)
theorem Sz.mono {p : Nat} {x y : Int} (hy : Sz p y) (h : x.natAbs ≤ y.natAbs) : Sz p x := Nat.le_trans (limbs_length_mono h) hy
theorem made_ev (b : Bool) (n : Nat) : Ev (fun k => Zz12.f k b (limbs n)) (ng (sg b n), limbs n) := by
 refine Ev.congr (fun k => Zz12.f_eq ..) ?_
 rw [ng_sg]
 cases b with
 | false => exact Ev.neg (by decide) (Ev.now _)
 | true =>
  refine Ev.pos rfl (Ev.ret ?_)
  rw [Bool.true_and]
  congr 1
  apply decide_eq_decide.2
  by_cases h : n = 0
  ·subst h; rw [limbs_zero]; simp
  ·have := limbs_length_pos h
   omega
theorem made_of {b : Bool} {n : Nat} {z : Int} (h : sg b n = z) : Ev (fun k => Zz12.f k b (limbs n)) (ng z, limbs z.natAbs) := by
 have e : n = z.natAbs := by rw [← h, sg_abs]
 subst e
 have := made_ev b z.natAbs
 rwa [h] at this
theorem iof_ev {n : Int} (h1 : -9223372036854775808 ≤ n) (h2 : n ≤ 9223372036854775807) : Ev (fun k => Zz11.f k n) (ng n, limbs n.natAbs) := by
 have one : ∀ m : Nat, m ≠ 0 → m < 18446744073709551616 → limbs m = [(m : Int)] := fun m h0 h => by
  rw [limbs_pos h0, Nat.div_eq_of_lt h, limbs_zero, Nat.mod_eq_of_lt h]
 refine Ev.congr (fun k => Zz11.f_eq ..) ?_
 unfold ng
 by_cases h : n < 0
 ·refine Ev.pos h (Ev.ret ?_)
  rw [decide_eq_true h, one n.natAbs (by omega) (by omega)]
  congr 2
  rw [wu, wu]; omega
 ·refine Ev.neg h ?_
  rw [decide_eq_false h]
  by_cases h0 : n = 0
  ·refine Ev.pos h0 (Ev.ret ?_)
   rw [h0, show (0 : Int).natAbs = 0 from rfl, limbs_zero]
  ·refine Ev.neg h0 (Ev.ret ?_)
   rw [one n.natAbs (by omega) (by omega)]
   congr 2
   rw [wu]; omega
theorem sg_not (z : Int) : sg (!ng z) z.natAbs = -z := by
 have := sg_ng z
 cases e : ng z with
 | true => rw [e] at this; simp only [sg] at this ⊢; simp at this ⊢; omega
 | false => rw [e] at this; simp only [sg] at this ⊢; simp at this ⊢; omega
theorem ineg_ev (z : Int) : Ev (fun k => Zz6.f k (ng z) (limbs z.natAbs)) (ng (-z), limbs (-z).natAbs) :=
 Ev.congr (fun k => Zz6.f_eq ..) (Ev.bind (made_of (sg_not z)) (Ev.now _))
theorem isign_ev (z : Int) : Ev (fun k => Zz9.f k (ng z) (limbs z.natAbs)) z.sign := by
 refine Ev.congr (fun k => Zz9.f_eq ..) ?_
 by_cases h : z < 0
 ·exact Ev.pos (ng_true.2 h) (Ev.ret (Int.sign_eq_neg_one_of_neg h).symm)
 ·refine Ev.neg (fun h2 => h (ng_true.1 h2)) ?_
  by_cases h0 : z = 0
  ·subst h0
   rw [show (0 : Int).natAbs = 0 from rfl, limbs_zero]
   exact Ev.neg (by decide) (Ev.now _)
  ·have hp := limbs_length_pos (show z.natAbs ≠ 0 by omega)
   exact Ev.pos (by omega) (Ev.ret (Int.sign_eq_one_of_pos (by omega)).symm)
theorem same_ng {x y : Int} : ng x = ng y ↔ (x < 0 ↔ y < 0) := by
 unfold ng
 rw [decide_eq_decide]
theorem sg_same {x y : Int} (h : ng x = ng y) : sg (ng x) (x.natAbs + y.natAbs) = x + y := by
 have h1 := same_ng.1 h
 unfold sg
 by_cases hx : x < 0
 ·rw [if_pos (ng_true.2 hx)]; omega
 ·rw [if_neg (fun e => hx (ng_true.1 e))]; omega
theorem sg_diff {x y : Int} (h : ng x ≠ ng y) (hle : y.natAbs ≤ x.natAbs) : sg (ng x) (x.natAbs - y.natAbs) = x + y := by
 have h1 : ¬ (x < 0 ↔ y < 0) := fun e => h (same_ng.2 e)
 unfold sg
 by_cases hx : x < 0
 ·rw [if_pos (ng_true.2 hx)]; omega
 ·rw [if_neg (fun e => hx (ng_true.1 e))]; omega
theorem iadd_ev {x y : Int} (lx : Sz 1000 x) (ly : Sz 1000 y) : Ev (fun k => Zz1.f k (ng x) (limbs x.natAbs) (ng y) (limbs y.natAbs)) (ng (x + y), limbs (x + y).natAbs) := by
 refine Ev.congr (fun k => Zz1.f_eq ..) ?_
 by_cases h : ng x = ng y
 ·exact Ev.pos h (Ev.bind (addL lx ly) (Ev.bind (made_of (sg_same h)) (Ev.now _)))
 ·have gc := cmp_ev (limbs_WF x.natAbs) (limbs_WF y.natAbs) (Nat.le_trans lx (by decide)) (Nat.le_trans ly (by decide))
  rw [nv_limbs, nv_limbs] at gc
  refine Ev.neg h (Ev.bind gc ?_)
  by_cases hlt : x.natAbs < y.natAbs
  ·have gs := sub_ev (limbs_WF y.natAbs) (limbs_WF x.natAbs) ly lx
   rw [nv_limbs, nv_limbs, if_neg (by omega)] at gs
   have e := sg_diff (x := y) (y := x) (fun e => h e.symm) (by omega)
   rw [Int.add_comm] at e
   exact Ev.pos (cmpI_lt.2 hlt) (Ev.bind gs (Ev.bind (made_of e) (Ev.now _)))
  ·have gs := sub_ev (limbs_WF x.natAbs) (limbs_WF y.natAbs) lx ly
   rw [nv_limbs, nv_limbs, if_neg (by omega)] at gs
   exact Ev.neg (fun e => hlt (cmpI_lt.1 e)) (Ev.bind gs (Ev.bind (made_of (sg_diff h (by omega))) (Ev.now _)))
theorem isub_ev {x y : Int} (lx : Sz 1000 x) (ly : Sz 1000 y) : Ev (fun k => Zz10.f k (ng x) (limbs x.natAbs) (ng y) (limbs y.natAbs)) (ng (x - y), limbs (x - y).natAbs) := by
 have g := iadd_ev lx ly.neg
 rw [← Int.sub_eq_add_neg] at g
 exact Ev.congr (fun k => Zz10.f_eq ..) (Ev.bind (ineg_ev y) (Ev.bind g (Ev.now _)))
theorem sg_mul (x y : Int) : sg (!decide (ng x = ng y)) (x.natAbs * y.natAbs) = x * y := by
 have hx := sg_ng x; have hy := sg_ng y
 generalize x.natAbs = a at *
 generalize y.natAbs = b at *
 generalize ng x = p at *
 generalize ng y = q at *
 subst hx; subst hy
 cases p <;> cases q <;> simp [sg, Int.neg_mul, Int.mul_neg]
theorem imul_ev {x y : Int} (lx : Sz 1000 x) (ly : Sz 1000 y) : Ev (fun k => Zz4.f k (ng x) (limbs x.natAbs) (ng y) (limbs y.natAbs)) (ng (x * y), limbs (x * y).natAbs) :=
 Ev.congr (fun k => Zz4.f_eq ..) (Ev.bind (mulL lx ly) (Ev.bind (made_of (sg_mul x y)) (Ev.now _)))
theorem ifrom_ev {b : Bool} {l : List Int} (hw : WF l) (hl : l.length ≤ 1000) : Ev (fun k => Zz0.f k b l) (ng (sg b (nv l)), limbs (sg b (nv l)).natAbs) :=
 Ev.congr (fun k => Zz0.f_eq ..) (Ev.bind (norm_ev hw (Nat.le_trans hl (by decide))) (Ev.bind (made_of rfl) (Ev.now _)))
theorem inat_ev {z : Int} (h : Sz 1000 z) : Ev (fun k => Zz5.f k (ng z) (limbs z.natAbs)) (limbs z.natAbs) := by
 have g := norm_ev (limbs_WF z.natAbs) (Nat.le_trans h (by decide))
 rw [nv_limbs] at g
 exact Ev.congr (fun k => Zz5.f_eq ..) (Ev.bind g (Ev.now _))
theorem natAbs_tdiv (x y : Int) : sg (!decide (ng x = ng y)) (x.natAbs / y.natAbs) = Int.tdiv x y := by
 have hx := sg_ng x; have hy := sg_ng y
 generalize x.natAbs = a at *
 generalize y.natAbs = b at *
 generalize ng x = p at *
 generalize ng y = q at *
 subst hx; subst hy
 have e : Int.tdiv (a : Int) (b : Int) = ((a / b : Nat) : Int) := rfl
 cases p <;> cases q <;> simp [sg, Int.neg_tdiv, Int.tdiv_neg, e]
theorem natAbs_tmod (x y : Int) : sg (ng x) (x.natAbs % y.natAbs) = Int.tmod x y := by
 have hx := sg_ng x; have hy := sg_ng y
 generalize x.natAbs = a at *
 generalize y.natAbs = b at *
 generalize ng x = p at *
 generalize ng y = q at *
 subst hx; subst hy
 have e : Int.tmod (a : Int) (b : Int) = ((a % b : Nat) : Int) := rfl
 cases p <;> cases q <;> simp [sg, Int.neg_tmod, Int.tmod_neg, e]
theorem iqr_ev {x y : Int} (lx : Sz 1000 x) (ly : Sz 1000 y) (h : y ≠ 0) : Ev (fun k => Zz8.f k (ng x) (limbs x.natAbs) (ng y) (limbs y.natAbs)) (ng (Int.tdiv x y), limbs (Int.tdiv x y).natAbs, ng (Int.tmod x y), limbs (Int.tmod x y).natAbs, 0) := by
 have g := dm_ev (limbs_WF x.natAbs) (limbs_WF y.natAbs) (Nat.le_trans lx (by decide)) (Nat.le_trans ly (by decide)) (by rw [nv_limbs]; omega)
 rw [nv_limbs, nv_limbs] at g
 exact Ev.congr (fun k => Zz8.f_eq ..) (Ev.bind g (Ev.pos rfl (Ev.bind (made_of (natAbs_tdiv x y)) (Ev.bind (made_of (natAbs_tmod x y)) (Ev.now _)))))
theorem Sz.tdiv {p : Nat} {x : Int} (y : Int) (h : Sz p x) : Sz p (Int.tdiv x y) := h.mono (by
 rw [← natAbs_tdiv, sg_abs]; exact Nat.div_le_self _ _)
theorem Sz.tmod {p : Nat} {x y : Int} (hy : Sz p y) (h : y ≠ 0) : Sz p (Int.tmod x y) := hy.mono (by
 rw [← natAbs_tmod, sg_abs]; exact Nat.le_of_lt (Nat.mod_lt _ (by omega)))
def adj (x y : Int) : Int := if (Int.tmod x y).sign * y.sign < 0 then 1 else 0
def qd (x y : Int) : Int := Int.tdiv x y - adj x y
def rd' (x y : Int) : Int := Int.tmod x y + adj x y * y
theorem qd_eq (x y : Int) : qd x y * y + rd' x y = x := by
 unfold qd rd'
 have := Int.tdiv_mul_add_tmod x y
 generalize Int.tdiv x y = q at *
 generalize Int.tmod x y = r at *
 generalize adj x y = t
 grind
theorem sign_prod (r y : Int) : wrap64 (r.sign * y.sign) = r.sign * y.sign := by
 have : r.sign = -1 ∨ r.sign = 0 ∨ r.sign = 1 := by rcases Int.lt_trichotomy r 0 with h | h | h <;> simp [Int.sign_eq_neg_one_of_neg, Int.sign_eq_one_of_pos, h]
 have : y.sign = -1 ∨ y.sign = 0 ∨ y.sign = 1 := by rcases Int.lt_trichotomy y 0 with h | h | h <;> simp [Int.sign_eq_neg_one_of_neg, Int.sign_eq_one_of_pos, h]
 rcases ‹r.sign = -1 ∨ _› with h | h | h <;> rcases ‹y.sign = -1 ∨ _› with h2 | h2 | h2 <;> rw [h, h2] <;> exact w64_of (by decide) (by decide)
theorem Sz.one {p : Nat} (hp : 1 ≤ p) : Sz p 1 := Sz.of (by
 have : 18446744073709551616 ^ 1 ≤ 18446744073709551616 ^ p := Nat.pow_le_pow_right (by decide) hp
 have : (1 : Int).natAbs = 1 := rfl
 omega)
theorem idm_ev {x y : Int} (lx : Sz 990 x) (ly : Sz 990 y) (h : y ≠ 0) : Ev (fun k => Zz2.f k (ng x) (limbs x.natAbs) (ng y) (limbs y.natAbs)) (ng (qd x y), limbs (qd x y).natAbs, ng (rd' x y), limbs (rd' x y).natAbs, 0) := by
 have lx' := lx.up (show 990 ≤ 1000 by decide)
 have ly' := ly.up (show 990 ≤ 1000 by decide)
 refine Ev.congr (fun k => Zz2.f_eq ..) (Ev.bind (iqr_ev lx' ly' h) (Ev.bind (isign_ev _) (Ev.bind (isign_ev _) ?_)))
 rw [sign_prod]
 by_cases hs : (Int.tmod x y).sign * y.sign < 0
 ·have e : adj x y = 1 := if_pos hs
  have g1 := isub_ev (lx'.tdiv y) (Sz.one (p := 1000) (by decide))
  have g2 := iadd_ev ((ly'.tmod (x := x) h)) ly'
  have e1 : qd x y = Int.tdiv x y - 1 := by unfold qd; rw [e]
  have e2 : rd' x y = Int.tmod x y + y := by unfold rd'; rw [e, Int.one_mul]
  rw [e1, e2]
  exact Ev.pos hs (Ev.bind (iof_ev (by decide) (by decide)) (Ev.bind g1 (Ev.bind g2 (Ev.now _))))
 ·have e : adj x y = 0 := if_neg hs
  have e1 : qd x y = Int.tdiv x y := by unfold qd; rw [e, Int.sub_zero]
  have e2 : rd' x y = Int.tmod x y := by unfold rd'; rw [e, Int.zero_mul, Int.add_zero]
  rw [e1, e2]
  exact Ev.neg hs (Ev.now _)
theorem imod_ev {z : Int} {w : Nat} (lz : Sz 1000 z) (h0 : 0 < w) (hw : w < 18446744073709551616) : Ev (fun k => Zz3.f k (ng z) (limbs z.natAbs) (w : Int)) (z % (w : Int), 0) := by
 have g := divw_ev (limbs_WF z.natAbs) (Nat.le_trans lz (by decide)) h0 hw
 rw [nv_limbs] at g
 have hm := Nat.mod_lt z.natAbs h0
 refine Ev.congr (fun k => Zz3.f_eq ..) (Ev.bind g ?_)
 dsimp only
 by_cases h : z < 0
 ·have hz : z = -(z.natAbs : Int) := by omega
  have e1 := Int.mul_ediv_add_emod z (w : Int)
  have e2 := Int.emod_nonneg z (show (w : Int) ≠ 0 by omega)
  have e3 := Int.emod_lt_of_pos z (show (0 : Int) < (w : Int) by omega)
  have e4 := Nat.div_add_mod z.natAbs w
  have e5 : z % (w : Int) = (-((z.natAbs % w : Nat) : Int)) % (w : Int) := by
   have : z = -((z.natAbs % w : Nat) : Int) + (w : Int) * (-((z.natAbs / w : Nat) : Int)) := by
    have e6 : (z.natAbs : Int) = (w : Int) * ((z.natAbs / w : Nat) : Int) + ((z.natAbs % w : Nat) : Int) := by rw [← Int.natCast_mul, ← Int.natCast_add, e4]
    rw [Int.mul_neg]; omega
   rw [this, Int.add_mul_emod_self_left]
   congr 1
   rw [← this]
  refine Ev.pos (ng_true.2 h) ?_
  by_cases hl : ((z.natAbs % w : Nat) : Int) > 0
  ·refine Ev.pos hl (Ev.ret ?_)
   have e7 : IntKind.u64.wrap ((w : Int) - ((z.natAbs % w : Nat) : Int)) = (w : Int) - ((z.natAbs % w : Nat) : Int) := wu_of ⟨by omega, by omega⟩
   rw [e7, e5]
   congr 1
   rw [← Int.add_emod_right, Int.emod_eq_of_lt (by omega) (by omega)]; omega
  ·refine Ev.neg hl (Ev.ret ?_)
   rw [e5, show ((z.natAbs % w : Nat) : Int) = 0 by omega]; simp
 ·have hz : z = (z.natAbs : Int) := by omega
  refine Ev.neg (fun e => h (ng_true.1 e)) (Ev.ret ?_)
  have e5 : z % (w : Int) = ((z.natAbs % w : Nat) : Int) := by rw [Int.natCast_emod, ← hz]
  rw [e5]
theorem Sz.ds {p : Nat} {z : Int} (h : Sz p z) : (ds z.natAbs).length ≤ 20 * p + 1 := by
 have := ds_length_limbs (limbs_WF z.natAbs)
 rw [nv_limbs] at this
 unfold Sz at h
 omega
def ztx (z : Int) : ByteArray := if z < 0 then tx (45 :: ds z.natAbs) else dec z.natAbs
theorem neg_text {z : Int} (h : z < 0) : tApp (tx [45]) (dec z.natAbs) = ztx z := by
 unfold ztx dec
 rw [if_pos h, tApp_tx]; rfl
theorem iprint_ev {z : Int} (h : Sz 1000 z) : Ev (fun k => Zz7.f k (ng z) (limbs z.natAbs)) (ztx z) := by
 have g := print_ev (limbs_WF z.natAbs) h
 rw [nv_limbs] at g
 have hd := h.ds
 refine Ev.congr (fun k => Zz7.f_eq ..) (Ev.bind g ?_)
 by_cases hz : z < 0
 ·refine Ev.pos (ng_true.2 hz) (Ev.pos ?_ (Ev.ret ?_))
  ·rw [dec_size, mk_45, tx_size]; simp; omega
  ·rw [mk_45]; exact neg_text hz
 ·refine Ev.neg (fun e => hz (ng_true.1 e)) (Ev.ret ?_)
  unfold ztx; rw [if_neg hz]
instance (l : List UInt8) : Decidable (Fine l) := by unfold Fine; infer_instance
theorem sz_small {z : Int} (h1 : -9223372036854775808 ≤ z) (h2 : z ≤ 9223372036854775807) : Sz 1 z := Sz.of (by rw [Nat.pow_one]; omega)
theorem ztx_nat (n : Nat) : ztx (n : Int) = dec n := by
 unfold ztx
 rw [if_neg (by omega), Int.natAbs_natCast]
theorem tmod_lt' {x y : Int} (h : y ≠ 0) : (Int.tmod x y).natAbs < y.natAbs := by
 rw [← natAbs_tmod, sg_abs]
 exact Nat.mod_lt _ (by omega)
theorem rd'_props {x y : Int} (h : y ≠ 0) : (rd' x y).natAbs < y.natAbs ∧ ((rd' x y).sign ≠ 0 → (rd' x y).sign = y.sign) := by
 have hlt := tmod_lt' (x := x) h
 unfold rd' adj
 generalize Int.tmod x y = r at *
 have sn : ∀ z : Int, z < 0 → z.sign = -1 := fun z h => Int.sign_eq_neg_one_of_neg h
 have sp : ∀ z : Int, 0 < z → z.sign = 1 := fun z h => Int.sign_eq_one_of_pos h
 rcases Int.lt_trichotomy r 0 with hr | hr | hr <;> rcases Int.lt_trichotomy y 0 with hy | hy | hy
 ·rw [sn r hr, sn y hy, if_neg (by decide), Int.zero_mul, Int.add_zero]; exact ⟨hlt, fun _ => sn r hr⟩
 ·exact absurd hy h
 ·rw [sn r hr, sp y hy, if_pos (by decide), Int.one_mul]; exact ⟨by omega, fun _ => sp _ (by omega)⟩
 ·subst hr; rw [Int.sign_zero, Int.zero_mul, if_neg (by decide), Int.zero_mul, Int.add_zero]; exact ⟨hlt, fun h => absurd rfl h⟩
 ·exact absurd hy h
 ·subst hr; rw [Int.sign_zero, Int.zero_mul, if_neg (by decide), Int.zero_mul, Int.add_zero]; exact ⟨hlt, fun h => absurd rfl h⟩
 ·rw [sp r hr, sn y hy, if_pos (by decide), Int.one_mul]; exact ⟨by omega, fun _ => sn _ (by omega)⟩
 ·exact absurd hy h
 ·rw [sp r hr, sp y hy, if_neg (by decide), Int.zero_mul, Int.add_zero]; exact ⟨hlt, fun _ => sp r hr⟩
theorem rd'_word {x : Int} {w : Nat} (h : 0 < w) : rd' x (w : Int) = x % (w : Int) := by
 obtain ⟨h1, h2⟩ := rd'_props (x := x) (y := (w : Int)) (by omega)
 have h3 := qd_eq x (w : Int)
 have h4 : 0 ≤ rd' x (w : Int) := by
  apply Classical.byContradiction
  intro hn
  have e : (rd' x (w : Int)).sign = -1 := Int.sign_eq_neg_one_of_neg (by omega)
  have := h2 (by rw [e]; decide)
  rw [e, Int.sign_eq_one_of_pos (by omega)] at this
  exact absurd this (by decide)
 generalize rd' x (w : Int) = r at *
 generalize qd x (w : Int) = q at *
 rw [← h3, Int.add_comm, Int.mul_comm, Int.add_mul_emod_self_left]
 exact (Int.emod_eq_of_lt h4 (by omega)).symm
end Go.Proofs.YtkoeddgbhohggaaGreatDoor.Pure
end
section
namespace Go.Proofs.YtkoeddgbhohggaaGreatDoor.Pure
set_option linter.unusedVariables false
set_option linter.unusedSimpArgs false
def prodTo (M : Nat → Nat) : Nat → Nat
 | 0 => 1
 | i + 1 => prodTo M i * M i
theorem prodTo_pos {M : Nat → Nat} : ∀ n, (∀ i, i < n → 2 ≤ M i) → 1 ≤ prodTo M n
 | 0, _ => Nat.le_refl _
 | n + 1, h => Nat.mul_pos (prodTo_pos n fun i hi => h i (by omega)) (by have := h n (Nat.lt_succ_self n); omega)
theorem prodTo_dvd {M : Nat → Nat} : ∀ {n i : Nat}, i < n → M i ∣ prodTo M n
 | 0, _, h => absurd h (Nat.not_lt_zero _)
 | n + 1, i, h => by
  by_cases he : i = n
  ·subst he; exact Nat.dvd_mul_left _ _
  ·exact Nat.dvd_trans (prodTo_dvd (n := n) (by omega)) (Nat.dvd_mul_right _ _)
theorem prodTo_lt {M : Nat → Nat} {B : Nat} (hB : 0 < B) : ∀ n, (∀ i, i < n → M i < B) → prodTo M n ≤ B ^ n
 | 0, _ => Nat.le_refl _
 | n + 1, h => by
  rw [Nat.pow_succ]
  exact Nat.mul_le_mul (prodTo_lt hB n fun i hi => h i (by omega)) (Nat.le_of_lt (h n (Nat.lt_succ_self n)))
theorem prodTo_gcd {M : Nat → Nat} {m : Nat} : ∀ n, Nat.gcd (prodTo M n) m = 1 ↔ ∀ i, i < n → Nat.gcd (M i) m = 1
 | 0 => ⟨fun _ i h => absurd h (Nat.not_lt_zero _), fun _ => Nat.gcd_one_left m⟩
 | n + 1 => by
  have h1 := prodTo_gcd (M := M) (m := m) n
  have h2 : Nat.Coprime (prodTo M n * M n) m ↔ Nat.Coprime (prodTo M n) m ∧ Nat.Coprime (M n) m := Nat.coprime_mul_iff_left
  constructor
  ·intro h i hi
   obtain ⟨h3, h4⟩ := h2.1 h
   by_cases he : i = n
   ·subst he; exact h4
   ·exact h1.1 h3 i (by omega)
  ·intro h
   exact h2.2 ⟨h1.2 fun i hi => h i (by omega), h n (Nat.lt_succ_self n)⟩
def Pair (M : Nat → Nat) (n : Nat) : Prop := ∀ i, i < n → ∀ k, k < i → Nat.gcd (M i) (M k) = 1
theorem Pair.less {M : Nat → Nat} {n m : Nat} (h : Pair M n) (hm : m ≤ n) : Pair M m := fun i hi k hk => h i (by omega) k hk
theorem Pair.succ {M : Nat → Nat} {n : Nat} (h : Pair M n) (hg : Nat.gcd (prodTo M n) (M n) = 1) : Pair M (n + 1) := fun i hi k hk => by
 by_cases he : i = n
 ·subst he; rw [Nat.gcd_comm]; exact (prodTo_gcd i).1 hg k hk
 ·exact h i (by omega) k hk
theorem Pair.gcd {M : Nat → Nat} {n i : Nat} (h : Pair M n) (hi : i < n) : Nat.gcd (prodTo M i) (M i) = 1 := (prodTo_gcd i).2 fun k hk => by
 rw [Nat.gcd_comm]; exact h i hi k hk
theorem Pair.dvd {M : Nat → Nat} {z : Nat} : ∀ n, Pair M n → (∀ i, i < n → M i ∣ z) → prodTo M n ∣ z
 | 0, _, _ => Nat.one_dvd z
 | n + 1, h, hd => Nat.Coprime.mul_dvd_of_dvd_of_dvd (h.gcd (Nat.lt_succ_self n)) (Pair.dvd n (h.less (Nat.le_succ n)) fun i hi => hd i (by omega)) (hd n (Nat.lt_succ_self n))
theorem crt_one {M : Nat → Nat} {n : Nat} {a b : Int} (h : Pair M n) (hd : ∀ i, i < n → a % (M i : Int) = b % (M i : Int)) : a % (prodTo M n : Int) = b % (prodTo M n : Int) := by
 have h1 : prodTo M n ∣ (a - b).natAbs := h.dvd n fun i hi => by
  have h2 : (M i : Int) ∣ a - b := Int.dvd_of_emod_eq_zero (Int.emod_eq_emod_iff_emod_sub_eq_zero.1 (hd i hi))
  exact Int.ofNat_dvd_left.1 h2
 have h3 : (prodTo M n : Int) ∣ a - b := Int.ofNat_dvd_left.2 h1
 exact Int.emod_eq_emod_iff_emod_sub_eq_zero.2 (Int.emod_eq_zero_of_dvd h3)
theorem step_law {x all : Int} {m r c : Nat} (h0 : 0 ≤ x) (h1 : x < all) (hm : 2 ≤ m) (hc : c * (all % (m : Int)).toNat % m = 1) :
  let t := subM r (x % (m : Int)).toNat m * c % m
  0 ≤ x + all * (t : Int) ∧ x + all * (t : Int) < all * (m : Int) ∧ (x + all * (t : Int)) % all = x ∧ (x + all * (t : Int)) % (m : Int) = (r % m : Nat) := by
 intro t
 have ht : t < m := Nat.mod_lt _ (by omega)
 have e0 : 0 ≤ all * (t : Int) := Int.mul_nonneg (by omega) (by omega)
 have e1 : all * (t : Int) + all ≤ all * (m : Int) := by
  have : all * ((t : Int) + 1) ≤ all * (m : Int) := Int.mul_le_mul_of_nonneg_left (by omega) (by omega)
  rwa [Int.mul_add, Int.mul_one] at this
 refine ⟨by omega, by omega, ?_, ?_⟩
 ·rw [Int.add_mul_emod_self_left]; exact Int.emod_eq_of_lt h0 h1
 ·have hX0 := Int.emod_nonneg x (show (m : Int) ≠ 0 by omega)
  have hA0 := Int.emod_nonneg all (show (m : Int) ≠ 0 by omega)
  obtain ⟨u1, hu1⟩ := subM_int r (x % (m : Int)).toNat (p := m) (by omega)
  obtain ⟨u2, hu2⟩ := mod_int (subM r (x % (m : Int)).toNat m * c) m
  have hX : (((x % (m : Int)).toNat : Nat) : Int) = x - (m : Int) * (x / (m : Int)) := by
   rw [Int.toNat_of_nonneg hX0]
   have := Int.mul_ediv_add_emod x (m : Int)
   omega
  have hA : (((all % (m : Int)).toNat : Nat) : Int) = all - (m : Int) * (all / (m : Int)) := by
   rw [Int.toNat_of_nonneg hA0]
   have := Int.mul_ediv_add_emod all (m : Int)
   omega
  have hc2 : (c : Int) * (((all % (m : Int)).toNat : Nat) : Int) = 1 + (m : Int) * ((c * (all % (m : Int)).toNat / m : Nat) : Int) := by
   have h5 := Nat.div_add_mod (c * (all % (m : Int)).toNat) m
   rw [hc] at h5
   rw [← Int.natCast_mul, ← Int.natCast_mul, ← h5]
   generalize c * (all % (m : Int)).toNat / m = q
   rw [Int.natCast_add, Int.add_comm, Int.natCast_one]
   congr 3
   rw [Nat.mul_add_div (by omega), Nat.div_eq_of_lt (by omega), Nat.add_zero]
  have htI : (t : Int) = ((subM r (x % (m : Int)).toNat m : Nat) : Int) * (c : Int) + (m : Int) * u2 := by
   show ((subM r (x % (m : Int)).toNat m * c % m : Nat) : Int) = _
   rw [hu2, Int.natCast_mul]
  have key : x + all * (t : Int) = (r : Int) + (m : Int) * (x / (m : Int) + u1 + ((subM r (x % (m : Int)).toNat m : Nat) : Int) * ((c * (all % (m : Int)).toNat / m : Nat) : Int) + (((all % (m : Int)).toNat : Nat) : Int) * u2 + (all / (m : Int)) * (t : Int)) := by
   have hAll : all = (((all % (m : Int)).toNat : Nat) : Int) + (m : Int) * (all / (m : Int)) := by omega
   generalize ((c * (all % (m : Int)).toNat / m : Nat) : Int) = u3 at *
   generalize (((all % (m : Int)).toNat : Nat) : Int) = A at *
   generalize all / (m : Int) = q2 at *
   generalize ((subM r (x % (m : Int)).toNat m : Nat) : Int) = s at *
   generalize (((x % (m : Int)).toNat : Nat) : Int) = X at *
   generalize x / (m : Int) = q at *
   generalize (t : Int) = T at *
   clear hX0 hA0 e0 e1 hu2 ht hc
   grind
  rw [key, Int.add_mul_emod_self_left, Int.natCast_emod]
end Go.Proofs.YtkoeddgbhohggaaGreatDoor.Pure
end
section
namespace Go.Proofs.YtkoeddgbhohggaaGreatDoor.Pure
open Go.RowKit Go.Proofs.YtkoeddgbhohggaaGreatDoor.F Go.Proofs.YtkoeddgbhohggaaGreatDoorW.PrintWords Go.Proofs.YtkoeddgbhohggaaGreatDoorW.PrintLast Go.Proofs.YtkoeddgbhohggaaGreatDoorW.PrintMore
open Go.Proofs.YtkoeddgbhohggaaGreatDoor.E (tEq tLt tApp tCut)
set_option linter.unusedVariables false
set_option linter.unusedSimpArgs false
def wd (l : List Int) (i : Nat) : Nat := (rd l (i : Int)).toNat
theorem wd_rd {l : List Int} (hw : WF l) (i : Nat) : rd l (i : Int) = ((wd l i : Nat) : Int) := by
 have := (hw.rdU (i : Int)).1
 unfold wd; omega
theorem wd_lt {l : List Int} (hw : WF l) (i : Nat) : wd l i < 18446744073709551616 := by
 have := (hw.rdU (i : Int)).1
 have := (hw.rdU (i : Int)).2
 unfold wd; omega
def May (m : Nat) : Prop := 2 ≤ m ∧ m < 9223372036854775808
instance (m : Nat) : Decidable (May m) := by unfold May; infer_instance
theorem may_body {m : Nat} {f : Nat → Option Bool} (h : ∀ k, f k = (if (m : Int) ≥ 2 then some (decide ((m : Int) < 9223372036854775808)) else some false)) : Ev f (decide (May m)) := by
 refine Ev.congr h ?_
 by_cases h2 : 2 ≤ m
 ·refine Ev.pos (by omega) (Ev.ret (decide_eq_decide.2 ?_))
  unfold May; omega
 ·refine Ev.neg (by omega) (Ev.ret (decide_eq_false ?_).symm)
  unfold May; omega
theorem cmay_ev (m : Nat) : Ev (fun k => Zz39.f k (m : Int)) (decide (May m)) := may_body fun k => Zz39.f_eq ..
theorem rmay_ev (m : Nat) : Ev (fun k => Zz100.f k (m : Int)) (decide (May m)) := may_body fun k => Zz100.f_eq ..
theorem cof_ev {w : Nat} (hw : w < 18446744073709551616) : Ev (fun k => Zz40.f k (w : Int)) (ng (w : Int), limbs (w : Int).natAbs) := by
 have g := ifrom_ev (b := false) (l := [(w : Int)]) (fun y hy => by simp at hy; subst hy; exact ⟨by omega, by omega⟩) (by simp)
 rw [nv_one, sg_false] at g
 exact Ev.congr (fun k => Zz40.f_eq ..) (Ev.bind g (Ev.now _))
theorem sign_le {z : Int} : z.sign ≤ 0 ↔ z ≤ 0 := by
 rcases Int.lt_trichotomy z 0 with h | h | h
 ·rw [Int.sign_eq_neg_one_of_neg h]; exact ⟨fun _ => by omega, fun _ => by decide⟩
 ·subst h; exact ⟨fun _ => by decide, fun _ => by decide⟩
 ·rw [Int.sign_eq_one_of_pos h]; exact ⟨fun h2 => absurd h2 (by decide), fun h2 => by omega⟩
theorem rd'_posi {x y : Int} (h : 0 < y) : rd' x y = x % y := by
 obtain ⟨w, rfl⟩ := Int.eq_ofNat_of_zero_le (show 0 ≤ y by omega)
 exact rd'_word (by omega)
theorem step_ev {x all : Int} {r m : Nat} (sx : Sz 400 x) (sa : Sz 400 all) (h0 : 0 < all) (hm : May m) (hr : r < 18446744073709551616) :
  (Nat.gcd (all % (m : Int)).toNat m ≠ 1 ∧ Ev (fun k => Zz38.f k (ng x) (limbs x.natAbs) (ng all) (limbs all.natAbs) (r : Int) (m : Int)) (false, [], false, [], 11)) ∨
  (Nat.gcd (all % (m : Int)).toNat m = 1 ∧ ∃ y : Int, 0 ≤ y ∧ y < all * (m : Int) ∧ y % all = x % all ∧ y % (m : Int) = ((r % m : Nat) : Int) ∧
   Ev (fun k => Zz38.f k (ng x) (limbs x.natAbs) (ng all) (limbs all.natAbs) (r : Int) (m : Int)) (ng y, limbs y.natAbs, ng (all * (m : Int)), limbs (all * (m : Int)).natAbs, 0)) := by
 obtain ⟨hm2, hm3⟩ := hm
 have hne : (m : Int) ≠ 0 := by omega
 have hx0 := Int.emod_nonneg x (show all ≠ 0 by omega)
 have hx1 := Int.emod_lt_of_pos x h0
 have hA0 := Int.emod_nonneg all hne
 have hA1 := Int.emod_lt_of_pos all (show (0 : Int) < (m : Int) by omega)
 have hX0 := Int.emod_nonneg (x % all) hne
 have sx' : Sz 400 (x % all) := sa.mono (by omega)
 have gm := cmay_ev m
 rw [decide_eq_true ⟨hm2, hm3⟩] at gm
 obtain ⟨s1, s2, gn⟩ := new_ev hm2 hm3
 have gd := idm_ev (x := x) (y := all) (sx.up (by decide)) (sa.up (by decide)) (by omega)
 rw [rd'_posi h0] at gd
 have ga := imod_ev (z := all) (w := m) (sa.up (by decide)) (by omega) (by omega)
 have gx := imod_ev (z := x % all) (w := m) (sx'.up (by decide)) (by omega) (by omega)
 have eA : all % (m : Int) = (((all % (m : Int)).toNat : Nat) : Int) := (Int.toNat_of_nonneg hA0).symm
 have eX : x % all % (m : Int) = (((x % all % (m : Int)).toNat : Nat) : Int) := (Int.toNat_of_nonneg hX0).symm
 have hAm : (all % (m : Int)).toNat < m := by omega
 have hAmod : (all % (m : Int)).toNat % m = (all % (m : Int)).toNat := Nat.mod_eq_of_lt hAm
 have law := fun c hc => step_law (x := x % all) (all := all) (m := m) (r := r) (c := c) hx0 hx1 hm2 hc
 have pre : ∀ R, Ev (fun k => (Zz109.f k (m : Int) s1 s2 (all % (m : Int))).bind fun t7 => (if t7.2 = 0 then ((Zz113.f k (m : Int) s1 s2 (r : Int) (x % all % (m : Int))).bind fun t8 => ((Zz110.f k (m : Int) s1 s2 t8 t7.1).bind fun t9 => ((Zz40.f k t9).bind fun t10 => ((Zz4.f k (ng all) (limbs all.natAbs) t10.1 t10.2).bind fun t11 => ((Zz1.f k (ng (x % all)) (limbs (x % all).natAbs) t11.1 t11.2).bind fun t12 => ((Zz40.f k (m : Int)).bind fun t13 => ((Zz4.f k (ng all) (limbs all.natAbs) t13.1 t13.2).bind fun t14 => some (t12.1, t12.2, t14.1, t14.2, 0)))))))) else some (false, ([] : List Int), false, ([] : List Int), 11))) R →
   Ev (fun k => Zz38.f k (ng x) (limbs x.natAbs) (ng all) (limbs all.natAbs) (r : Int) (m : Int)) R := fun R h =>
  Ev.congr (fun k => Zz38.f_eq ..) (Ev.bind (isign_ev all) (Ev.neg (fun e => by have := sign_le.1 e; omega) (Ev.bind gm (Ev.neg Bool.false_ne_true (Ev.bind gn (Ev.congr (fun q => elim_some _ _ _) (Ev.pos rfl (Ev.bind gd (Ev.bind ga (Ev.bind gx h))))))))))
 rw [eA, eX] at pre
 generalize hXd : (x % all % (m : Int)).toNat = X at *
 generalize hAd : (all % (m : Int)).toNat = A at *
 have hA64 : A < 18446744073709551616 := by omega
 rcases finv_ev (p := m) (x := A) (s1 := s1) (s2 := s2) hm2 (by omega) hA64 with ⟨h1, h2⟩ | ⟨h1, h2, h3⟩ | ⟨h1, h2, c, h3, h4, h5⟩
 ·refine .inl ⟨fun e => ?_, pre _ (Ev.bind h2 (Ev.neg (by decide) (Ev.now _)))⟩
  rw [hAmod] at h1
  rw [h1, Nat.gcd_zero_left] at e; omega
 ·rw [hAmod] at h2
  exact .inl ⟨h2, pre _ (Ev.bind h3 (Ev.neg (by decide) (Ev.now _)))⟩
 ·rw [hAmod] at h2
  refine .inr ⟨h2, ?_⟩
  obtain ⟨l1, l2, l3, l4⟩ := law c h4
  have ht : subM r X m * c % m < m := Nat.mod_lt _ (by omega)
  have gs := fsub_ev (p := m) (x := r) (y := X) (s1 := s1) (s2 := s2) (by omega) (by omega)
  have gt := fmul_ev (p := m) (x := subM r X m) (y := c) (s1 := s1) (s2 := s2) (by omega) (by omega)
  generalize subM r X m * c % m = t at *
  have st : Sz 1 (t : Int) := sz_small (by omega) (by omega)
  have sm : Sz 1 (m : Int) := sz_small (by omega) (by omega)
  have g1 := imul_ev (x := all) (y := (t : Int)) (sa.up (by decide)) (st.up (by decide))
  have g2 := iadd_ev (x := x % all) (y := all * (t : Int)) (sx'.up (by decide)) ((sa.mul st).up (by decide))
  have g3 := imul_ev (x := all) (y := (m : Int)) (sa.up (by decide)) (sm.up (by decide))
  exact ⟨_, l1, l2, by rw [l3], l4, pre _ (Ev.bind h5 (Ev.pos rfl (Ev.bind gs (Ev.bind gt (Ev.bind (cof_ev (by omega)) (Ev.bind g1 (Ev.bind g2 (Ev.bind (cof_ev (by omega)) (Ev.bind g3 (Ev.now _)))))))))) ⟩
theorem cwrong_l4 {m : List Int} (hw : WF m) (hl : m.length ≤ 1000) : ∀ (d i : Nat), m.length - i = d → i ≤ m.length →
  ((∀ j, i ≤ j → j < m.length → May (wd m j)) → Ev (fun k => Zz41.l4 k m m (m.length : Int) (i : Int)) 0) ∧ (¬ (∀ j, i ≤ j → j < m.length → May (wd m j)) → Ev (fun k => Zz41.l4 k m m (m.length : Int) (i : Int)) 1)
 | 0, i, hd, hi => ⟨fun _ => Ev.step (fun k => Zz41.l4_eq ..) (Ev.neg (by omega) (Ev.neg (by omega) (Ev.now _))), fun h => absurd (fun j h1 h2 => by omega) h⟩
 | d + 1, i, hd, hi => by
  obtain ⟨g1, g2⟩ := cwrong_l4 hw hl d (i + 1) (by omega) (by omega)
  have gm := cmay_ev (wd m i)
  rw [← wd_rd hw i] at gm
  rw [← w64_succ (a := i) (by omega)] at g1 g2
  by_cases hm : May (wd m i)
  ·rw [decide_eq_true hm] at gm
   refine ⟨fun h => ?_, fun h => ?_⟩
   ·exact Ev.step (fun k => Zz41.l4_eq ..) (Ev.pos (by omega) (Ev.pos (by omega) (Ev.pos (by omega) (Ev.bind gm (Ev.neg Bool.false_ne_true (g1 fun j h1 h2 => h j (by omega) h2))))))
   ·refine Ev.step (fun k => Zz41.l4_eq ..) (Ev.pos (by omega) (Ev.pos (by omega) (Ev.pos (by omega) (Ev.bind gm (Ev.neg Bool.false_ne_true (g2 fun h3 => h fun j h1 h2 => ?_))))))
    by_cases he : j = i
    ·subst he; exact hm
    ·exact h3 j (by omega) h2
  ·rw [decide_eq_false hm] at gm
   exact ⟨fun h => absurd (h i (Nat.le_refl _) (by omega)) hm, fun h => Ev.step (fun k => Zz41.l4_eq ..) (Ev.pos (by omega) (Ev.pos (by omega) (Ev.pos (by omega) (Ev.bind gm (Ev.pos rfl (Ev.now _))))))⟩
def Mays (m : List Int) : Prop := ∀ j, j < m.length → May (wd m j)
theorem cwrong_ok {l m : List Int} (hw : WF m) (hl : m.length ≤ 1000) (he : l.length = m.length) (h : Mays m) : Ev (fun k => Zz41.f k l m) 0 :=
 Ev.congr (fun k => Zz41.f_eq ..) (Ev.pos (by omega) ((cwrong_l4 hw hl _ 0 rfl (Nat.zero_le _)).1 fun j _ h2 => h j h2))
end Go.Proofs.YtkoeddgbhohggaaGreatDoor.Pure
end
section
namespace Go.Proofs.YtkoeddgbhohggaaGreatDoor.Pure
open Go.RowKit Go.Proofs.YtkoeddgbhohggaaGreatDoor.F Go.Proofs.YtkoeddgbhohggaaGreatDoorW.PrintWords Go.Proofs.YtkoeddgbhohggaaGreatDoorW.PrintLast Go.Proofs.YtkoeddgbhohggaaGreatDoorW.PrintMore
open Go.Proofs.YtkoeddgbhohggaaGreatDoor.E (adS adC sbS sbC)
set_option linter.unusedVariables false
set_option linter.unusedSimpArgs false
theorem up_ev {l : List Int} {n : Nat} (hl : l ≠ []) (h1 : l.length ≤ 1000001) (hn : n ≤ 1000000) : Ev (fun k => Zz61.f k l (n : Int)) (List.replicate n 0 ++ l) := by
 have hp : 0 < l.length := List.length_pos_iff.2 hl
 have e : wrap64 ((n : Int) + (l.length : Int)) = ((n + l.length : Nat) : Int) := w64_add (by omega)
 refine Ev.congr (fun k => Zz61.f_eq ..) ?_
 rw [e]
 exact Ev.neg (by clear e; omega) (Ev.pos (by clear e; omega) (Ev.pos (by clear e; omega) (Ev.pos (by rw [Int.toNat_natCast]; clear e; omega) (Ev.pos (by rw [List.length_replicate, Int.toNat_natCast]; clear e; omega) (Ev.ret (by rw [Int.toNat_natCast]))))))
theorem shl_ev {x : List Int} (hx : WF x) (hl : x.length ≤ 1000000) {n : Nat} (hn : n ≤ 262144) : Ev (fun k => Zz49.f k x (n : Int)) (limbs (nv x * 2 ^ n), 0) := by
 have hla := limbs_length_le (nv_lt hx)
 have t1 : wrap64 (Int.tdiv (n : Int) 64) = ((n / 64 : Nat) : Int) := by
  have : Int.tdiv (n : Int) 64 = ((n / 64 : Nat) : Int) := tdivN n 64
  rw [this, w64_nat (by omega)]
 have t2 : IntKind.u64.wrap (Int.tmod (n : Int) 64) = ((n % 64 : Nat) : Int) := by
  have : Int.tmod (n : Int) 64 = ((n % 64 : Nat) : Int) := tmodN n 64
  rw [this, wrapN _ (by omega)]
 have hdm : 2 ^ n = 18446744073709551616 ^ (n / 64) * 2 ^ (n % 64) := by rw [← pow_bits, Nat.div_add_mod]
 have hn1 : n / 64 ≤ 1000000 := by clear t1 t2 hdm; omega
 have hn2 : n % 64 ≤ 63 := by clear t1 t2 hdm; omega
 have hll : (limbs (nv x)).length ≤ 1000000 := Nat.le_trans hla hl
 obtain ⟨out, o1, o2, o3, o4⟩ := shifted_ev (limbs_WF (nv x)) hll hn2
 rw [nv_limbs] at o3
 have hol : out.length ≤ 1000001 := by rw [o1]; clear t1 t2 hdm; omega
 have hon : out ≠ [] := List.length_pos_iff.1 (by rw [o1]; exact Nat.succ_pos _)
 have hup := up_ev (n := n / 64) hon hol hn1
 have hW : WF (List.replicate (n / 64) 0 ++ out) := (WF.zeros _).append o2
 have g := trim_ev hW (by rw [List.length_append, List.length_replicate]; clear t1 t2 hdm; omega)
 have e : nv (List.replicate (n / 64) 0 ++ out) = nv x * 2 ^ n := by
  rw [nv_append, nv_zeros, List.length_replicate, o3, hdm, Nat.zero_add]; grind
 rw [e] at g
 refine Ev.congr (fun k => Zz49.f_eq ..) (Ev.neg (by omega) (Ev.neg (by omega) (Ev.bind (trim_ev hx (Nat.le_trans hl (by decide))) ?_)))
 rw [t1, t2]
 exact Ev.bind o4 (Ev.bind hup (Ev.bind g (Ev.now _)))
end Go.Proofs.YtkoeddgbhohggaaGreatDoor.Pure
end
section
namespace Go.Proofs.YtkoeddgbhohggaaGreatDoor.Pure
open Go.RowKit Go.Proofs.YtkoeddgbhohggaaGreatDoor.F Go.Proofs.YtkoeddgbhohggaaGreatDoorW.PrintWords Go.Proofs.YtkoeddgbhohggaaGreatDoorW.PrintLast Go.Proofs.YtkoeddgbhohggaaGreatDoorW.PrintMore
open Go.Proofs.YtkoeddgbhohggaaGreatDoor.E (tEq tLt tApp tCut)
set_option linter.unusedVariables false
set_option linter.unusedSimpArgs false
def pz (m : List Int) (i : Nat) : Int := ((prodTo (wd m) i : Nat) : Int)
theorem pz_pos {m : List Int} (hm : Mays m) {i : Nat} (hi : i ≤ m.length) : 0 < pz m i := by
 have := prodTo_pos (M := wd m) i fun j hj => (hm j (by omega)).1
 unfold pz; omega
theorem pz_succ (m : List Int) (i : Nat) : pz m (i + 1) = pz m i * ((wd m i : Nat) : Int) := by unfold pz; rw [prodTo, Int.natCast_mul]
theorem pz_sz {m : List Int} (hw : WF m) (i : Nat) : Sz (i + 1) (pz m i) := Sz.of (by
 unfold pz
 rw [Int.natAbs_natCast]
 exact Nat.lt_of_le_of_lt (prodTo_lt (by decide) i fun j _ => wd_lt hw j) (Nat.pow_lt_pow_right (by decide) (Nat.lt_succ_self i)))
def Leaves (l m : List Int) (i : Nat) (x : Int) : Prop := 0 ≤ x ∧ x < pz m i ∧ ∀ j, j < i → x % ((wd m j : Nat) : Int) = ((wd l j % wd m j : Nat) : Int)
theorem lift_step {l m : List Int} (hl : WF l) (hm : WF m) (he : l.length = m.length) (h100 : m.length ≤ 100) (hM : Mays m) {i : Nat} (hi : i < m.length) {x : Int} (hx : Leaves l m i x) (hP : Pair (wd m) i) :
  (¬ Pair (wd m) m.length ∧ Ev (fun k => Zz38.f k (ng x) (limbs x.natAbs) (ng (pz m i)) (limbs (pz m i).natAbs) (rd l (i : Int)) (rd m (i : Int))) (false, [], false, [], 11)) ∨
  (Pair (wd m) (i + 1) ∧ ∃ y, Leaves l m (i + 1) y ∧ Ev (fun k => Zz38.f k (ng x) (limbs x.natAbs) (ng (pz m i)) (limbs (pz m i).natAbs) (rd l (i : Int)) (rd m (i : Int))) (ng y, limbs y.natAbs, ng (pz m (i + 1)), limbs (pz m (i + 1)).natAbs, 0)) := by
 obtain ⟨h0, h1, h2⟩ := hx
 have hp := pz_pos hM (i := i) (by omega)
 have sp := pz_sz hm i
 have sx : Sz 400 x := Sz.up (p := i + 1) (sp.mono (by omega)) (by omega)
 have hmi := hM i hi
 rw [wd_rd hl i, wd_rd hm i]
 have eg : Nat.gcd (pz m i % ((wd m i : Nat) : Int)).toNat (wd m i) = Nat.gcd (prodTo (wd m) i) (wd m i) := by
  unfold pz
  rw [← Int.natCast_emod, Int.toNat_natCast, Nat.gcd_comm (prodTo (wd m) i), Nat.gcd_rec (wd m i)]
 rcases step_ev (x := x) (all := pz m i) (r := wd l i) (m := wd m i) sx (sp.up (by omega)) hp hmi (wd_lt hl i) with ⟨g1, g2⟩ | ⟨g1, y, y0, y1, y2, y3, g2⟩
 ·rw [eg] at g1
  exact .inl ⟨fun h => g1 (h.gcd hi), g2⟩
 ·rw [eg] at g1
  rw [← pz_succ] at y1 g2
  refine .inr ⟨hP.succ g1, y, ⟨y0, y1, fun j hj => ?_⟩, g2⟩
  by_cases hji : j = i
  ·subst hji; exact y3
  ·have hd : ((wd m j : Nat) : Int) ∣ pz m i := Int.natCast_dvd_natCast.2 (prodTo_dvd (show j < i by omega))
   rw [← h2 j (by omega), ← Int.emod_emod_of_dvd y hd, y2, Int.emod_emod_of_dvd x hd]
theorem lift_l {l m : List Int} (hl : WF l) (hm : WF m) (he : l.length = m.length) (h100 : m.length ≤ 100) (hM : Mays m) : ∀ (d i : Nat) (x : Int), m.length - i = d → i ≤ m.length → Leaves l m i x → Pair (wd m) i →
  (¬ Pair (wd m) m.length ∧ Ev (fun k => Zz37.l1000 k l m false [] false [] (ng x) (limbs x.natAbs) (ng (pz m i)) (limbs (pz m i).natAbs) (i : Int)) (false, [], false, [], 11)) ∨
  (Pair (wd m) m.length ∧ ∃ y, Leaves l m m.length y ∧ Ev (fun k => Zz37.l1000 k l m false [] false [] (ng x) (limbs x.natAbs) (ng (pz m i)) (limbs (pz m i).natAbs) (i : Int)) (ng y, limbs y.natAbs, ng (pz m m.length), limbs (pz m m.length).natAbs, 0))
 | 0, i, x, hd, hi, hx, hP => by
  have : i = m.length := by omega
  subst this
  exact .inr ⟨hP, x, hx, Ev.step (fun k => Zz37.l1000_eq ..) (Ev.neg (by omega) (Ev.now _))⟩
 | d + 1, i, x, hd, hi, hx, hP => by
  rcases lift_step hl hm he h100 hM (by omega) hx hP with ⟨g1, g2⟩ | ⟨g1, y, g2, g3⟩
  ·exact .inl ⟨g1, Ev.step (fun k => Zz37.l1000_eq ..) (Ev.pos (by omega) (Ev.pos (by omega) (Ev.pos (by omega) (Ev.pos (by omega) (Ev.pos (by omega) (Ev.bind g2 (Ev.neg (by decide) (Ev.now _))))))))⟩
  ·have pre : ∀ R, Ev (fun k => Zz37.l1000 k l m false [] false [] (ng y) (limbs y.natAbs) (ng (pz m (i + 1))) (limbs (pz m (i + 1)).natAbs) ((i + 1 : Nat) : Int)) R → Ev (fun k => Zz37.l1000 k l m false [] false [] (ng x) (limbs x.natAbs) (ng (pz m i)) (limbs (pz m i).natAbs) (i : Int)) R := fun R g => by
    rw [← w64_succ (a := i) (by omega)] at g
    exact Ev.step (fun k => Zz37.l1000_eq ..) (Ev.pos (by omega) (Ev.pos (by omega) (Ev.pos (by omega) (Ev.pos (by omega) (Ev.pos (by omega) (Ev.bind g3 (Ev.pos rfl g)))))))
   rcases lift_l hl hm he h100 hM d (i + 1) y (by omega) (by omega) g2 g1 with ⟨h1, h2⟩ | ⟨h1, z, h2, h3⟩
   ·exact .inl ⟨h1, pre _ h2⟩
   ·exact .inr ⟨h1, z, h2, pre _ h3⟩
theorem lift_ev {l m : List Int} (hl : WF l) (hm : WF m) (he : l.length = m.length) (h100 : m.length ≤ 100) (hM : Mays m) :
  (¬ Pair (wd m) m.length ∧ Ev (fun k => Zz37.f k l m) (false, [], false, [], 11)) ∨ (Pair (wd m) m.length ∧ ∃ y, Leaves l m m.length y ∧ Ev (fun k => Zz37.f k l m) (ng y, limbs y.natAbs, ng (pz m m.length), limbs (pz m m.length).natAbs, 0)) := by
 have gw := cwrong_ok hm (by omega) he hM
 have go := iof_ev (n := 1) (by decide) (by decide)
 have x0 : Leaves l m 0 0 := ⟨Int.le_refl _, (show (0 : Int) < ((1 : Nat) : Int) by decide), fun j hj => absurd hj (Nat.not_lt_zero _)⟩
 have P0 : Pair (wd m) 0 := fun i hi => absurd hi (Nat.not_lt_zero _)
 have e0 : (limbs (0 : Int).natAbs) = [] := by rw [show (0 : Int).natAbs = 0 from rfl, limbs_zero]
 by_cases hn : m.length = 0
 ·refine .inr ⟨by rw [hn]; exact P0, 0, by rw [hn]; exact x0, ?_⟩
  rw [hn, e0]
  exact Ev.congr (fun k => Zz37.f_eq ..) (Ev.bind gw (Ev.pos rfl (Ev.bind go (Ev.neg (by omega) (Ev.now _)))))
 ·have hs := lift_step hl hm he h100 hM (i := 0) (by omega) x0 P0
  rw [e0] at hs
  rcases hs with ⟨g1, g2⟩ | ⟨g1, y, g2, g3⟩
  ·exact .inl ⟨g1, Ev.congr (fun k => Zz37.f_eq ..) (Ev.bind gw (Ev.pos rfl (Ev.bind go (Ev.pos (by omega) (Ev.pos (by omega) (Ev.pos (by omega) (Ev.bind g2 (Ev.neg (by decide) (Ev.now _)))))))))⟩
  ·have pre : ∀ R, Ev (fun k => Zz37.l1000 k l m false [] false [] (ng y) (limbs y.natAbs) (ng (pz m (0 + 1))) (limbs (pz m (0 + 1)).natAbs) ((0 + 1 : Nat) : Int)) R → Ev (fun k => Zz37.f k l m) R := fun R g => by
    rw [← w64_succ (a := 0) (by omega)] at g
    exact Ev.congr (fun k => Zz37.f_eq ..) (Ev.bind gw (Ev.pos rfl (Ev.bind go (Ev.pos (by omega) (Ev.pos (by omega) (Ev.pos (by omega) (Ev.bind g3 (Ev.pos rfl g))))))))
   rcases lift_l hl hm he h100 hM _ (0 + 1) y rfl (by omega) g2 g1 with ⟨h1, h2⟩ | ⟨h1, z, h2, h3⟩
   ·exact .inl ⟨h1, pre _ h2⟩
   ·exact .inr ⟨h1, z, h2, pre _ h3⟩
end Go.Proofs.YtkoeddgbhohggaaGreatDoor.Pure
end
section
namespace Go.Proofs.YtkoeddgbhohggaaGreatDoor.Pure
open Go.RowKit Go.Proofs.YtkoeddgbhohggaaGreatDoor.F Go.Proofs.YtkoeddgbhohggaaGreatDoorW.PrintWords Go.Proofs.YtkoeddgbhohggaaGreatDoorW.PrintLast Go.Proofs.YtkoeddgbhohggaaGreatDoorW.PrintMore
open Go.Proofs.YtkoeddgbhohggaaGreatDoor.E (cdB dcB dcB_eq cdR dcR dcR_eq)
set_option linter.unusedVariables false
set_option linter.unusedSimpArgs false
noncomputable def bigs (n : Nat) (f : Nat → Nat) : List Int := (List.range n).map fun q => cdB (false, limbs (f q))
theorem bigs_length (n : Nat) (f : Nat → Nat) : (bigs n f).length = n := by simp [bigs]
theorem bigs_get {n : Nat} (f : Nat → Nat) {q : Nat} (h : q < n) : (bigs n f)[q]? = some (cdB (false, limbs (f q))) := by simp [bigs, h]
theorem rd_bigs {n : Nat} (f : Nat → Nat) {q : Nat} (h : q < n) : rd (bigs n f) (q : Int) = cdB (false, limbs (f q)) := by
 simp [rd, List.getD_eq_getElem?_getD, bigs_get f h]
theorem bigs_ext {n : Nat} {f g : Nat → Nat} (h : ∀ q, q < n → f q = g q) : bigs n f = bigs n g := by
 unfold bigs
 exact List.map_congr_left fun q hq => by rw [h q (List.mem_range.1 hq)]
theorem bigs_set (n : Nat) (f : Nat → Nat) (q v : Nat) : (bigs n f).set q (cdB (false, limbs v)) = bigs n fun j => if j = q then v else f j := by
 refine List.ext_getElem? fun j => ?_
 rw [List.getElem?_set]
 by_cases hj : j < n
 ·rw [bigs_get _ hj]
  by_cases e : q = j
  ·subst e; rw [if_pos rfl, if_pos (by rw [bigs_length]; exact hj), bigs_get _ hj, if_pos rfl]
  ·rw [if_neg e, bigs_get _ hj, if_neg (fun h => e h.symm)]
 ·have e1 : (bigs n fun j => if j = q then v else f j)[j]? = none := List.getElem?_eq_none (by rw [bigs_length]; omega)
  rw [e1]
  by_cases e : q = j
  ·subst e; rw [if_pos rfl, if_neg (by rw [bigs_length]; exact hj)]
  ·rw [if_neg e]; exact List.getElem?_eq_none (by rw [bigs_length]; omega)
theorem bigs_snoc (n : Nat) (f : Nat → Nat) : bigs n f ++ [cdB (false, limbs (f n))] = bigs (n + 1) f := by simp [bigs, List.range_succ]
theorem bigs_zero (n : Nat) : List.replicate n (cdB (false, ([] : List Int))) = bigs n fun _ => 0 := by
 refine List.ext_getElem? fun j => ?_
 by_cases hj : j < n
 ·rw [bigs_get _ hj, limbs_zero]; simp [hj]
 ·rw [List.getElem?_eq_none (by simp; omega), List.getElem?_eq_none (by rw [bigs_length]; omega)]
theorem nadd_ev {x y : Nat} (lx : Sz 1000 (x : Int)) (ly : Sz 1000 (y : Int)) : Ev (fun k => Zz1.f k false (limbs x) false (limbs y)) (false, limbs (x + y)) := by
 have := iadd_ev lx ly
 rwa [← Int.natCast_add, ng_nat, ng_nat, ng_nat, Int.natAbs_natCast, Int.natAbs_natCast, Int.natAbs_natCast] at this
theorem nmod_ev {x m : Nat} (lx : Sz 1000 (x : Int)) (h0 : 0 < m) (hm : m < 18446744073709551616) : Ev (fun k => Zz3.f k false (limbs x) (m : Int)) (((x % m : Nat) : Int), 0) := by
 have := imod_ev lx h0 hm
 rwa [ng_nat, Int.natAbs_natCast, ← Int.natCast_emod] at this
theorem sz_nat {p n : Nat} (h : n < 18446744073709551616 ^ p) : Sz p (n : Int) := Sz.of (by rw [Int.natAbs_natCast]; exact h)
theorem sz_zero {p : Nat} : Sz p ((0 : Nat) : Int) := sz_nat (Nat.pow_pos (by decide))
theorem mul_pow_lt {p x n : Nat} (lx : Sz p (x : Int)) (hn : n ≤ 64) : x * 2 ^ n < 18446744073709551616 ^ (p + 1) := by
 have h2 := lx.lt
 rw [Int.natAbs_natCast] at h2
 have h3 : 2 ^ n ≤ 2 ^ 64 := Nat.pow_le_pow_right (by decide) hn
 rw [show (2 : Nat) ^ 64 = 18446744073709551616 by decide] at h3
 rw [Nat.pow_succ]
 exact Nat.lt_of_le_of_lt (Nat.mul_le_mul_left _ h3) (Nat.mul_lt_mul_of_pos_right h2 (by decide))
theorem moved_ev {x n : Nat} (lx : Sz 900 (x : Int)) (hn : n ≤ 64) : Ev (fun k => Zz32.f k false (limbs x) (n : Int)) (false, limbs (x * 2 ^ n)) := by
 have g1 := inat_ev (lx.up (show 900 ≤ 1000 by decide))
 have g2 := shl_ev (limbs_WF x) (by have := lx; unfold Sz at this; rw [Int.natAbs_natCast] at this; omega) (n := n) (by omega)
 rw [nv_limbs] at g2
 have l2 : (limbs (x * 2 ^ n)).length ≤ 1000 := by
  have h1 := mul_pow_lt lx hn
  exact Nat.le_trans (limbs_length_le h1) (by decide)
 have g3 := ifrom_ev (b := false) (limbs_WF (x * 2 ^ n)) l2
 rw [nv_limbs, sg_false, ng_nat, Int.natAbs_natCast] at g3
 rw [ng_nat, Int.natAbs_natCast] at g1
 exact Ev.congr (fun k => Zz32.f_eq ..) (Ev.bind g1 (Ev.bind g2 (Ev.bind g3 (Ev.now _))))
theorem halves_l3 {l : List Int} (hw : WF l) (hl : l.length ≤ 1099511627770) : ∀ (d i : Nat), l.length - i = d → i ≤ l.length → Ev (fun k => Zz30.l3 k (tab i fun q => at0 l q / 4294967296) (tab i fun q => at0 l q % 4294967296) l (l.length : Int) (i : Int)) (tab l.length fun q => at0 l q / 4294967296, tab l.length fun q => at0 l q % 4294967296)
 | 0, i, hd, hi => by
  have : i = l.length := by omega
  subst this
  exact Ev.step (fun k => Zz30.l3_eq ..) (Ev.neg (by omega) (Ev.now _))
 | d + 1, i, hd, hi => by
  have g := halves_l3 hw hl d (i + 1) (by omega) (by omega)
  have hu := (hw.rdU (i : Int)).2
  have h64 : at0 l i < 18446744073709551616 := by rw [at0_rd hw i] at hu; omega
  rw [← tab_snoc i fun q => at0 l q / 4294967296, ← tab_snoc i fun q => at0 l q % 4294967296, ← w64_succ (a := i) (by omega)] at g
  refine Ev.step (fun k => Zz30.l3_eq ..) ?_
  rw [at0_rd hw i, shr32, maskN _ h64]
  exact Ev.pos (by omega) (Ev.pos (by omega) (Ev.pos (by omega) (Ev.pos (by rw [tab_length]; show i + 1 ≤ _; omega) (Ev.pos (by rw [tab_length]; show i + 1 ≤ _; omega) g))))
theorem halves_ev {l : List Int} (hw : WF l) (hl : l.length ≤ 1099511627770) : Ev (fun k => Zz30.f k l) (tab l.length fun q => at0 l q / 4294967296, tab l.length fun q => at0 l q % 4294967296) :=
 Ev.congr (fun k => Zz30.f_eq ..) (halves_l3 hw hl _ 0 rfl (Nat.zero_le _))
theorem cleft_l3 {l : List Int} {p : Nat} {s1 s2 : Int} (hw : WF l) (h0 : 0 < p) (hl : l.length ≤ 1099511627770) : ∀ (d i : Nat), l.length - i = d → i ≤ l.length → Ev (fun k => Zz31.l3 k (p : Int) s1 s2 (tab l.length fun q => if q < i then at0 l q % p else 0) l (l.length : Int) (i : Int)) (tab l.length fun q => at0 l q % p)
 | 0, i, hd, hi => by
  have : i = l.length := by omega
  subst this
  refine Ev.step (fun k => Zz31.l3_eq ..) (Ev.neg (by omega) ?_)
  rw [tab_ext (n := l.length) (g := fun q => at0 l q % p) fun q hq => if_pos hq]
  exact Ev.now _
 | d + 1, i, hd, hi => by
  have g := cleft_l3 (s1 := s1) (s2 := s2) hw h0 hl d (i + 1) (by omega) (by omega)
  have go := fof_ev (p := p) (x := at0 l i) (s1 := s1) (s2 := s2) h0
  rw [← w64_succ (a := i) (by omega)] at g
  refine Ev.step (fun k => Zz31.l3_eq ..) ?_
  rw [at0_rd hw i]
  refine Ev.pos (by omega) (Ev.pos (by omega) (Ev.pos (by omega) (Ev.bind go (Ev.pos (by omega) (Ev.pos (by rw [tab_length]; omega) ?_)))))
  rw [Int.toNat_natCast, tab_set, tab_ext (n := l.length) (g := fun q => if q < i + 1 then at0 l q % p else 0) fun q hq => ?_]
  ·exact g
  ·by_cases e : q = i
   ·subst e; rw [if_pos rfl, if_pos (Nat.lt_succ_self q)]
   ·rw [if_neg e]
    by_cases h : q < i
    ·rw [if_pos h, if_pos (by omega)]
    ·rw [if_neg h, if_neg (by omega)]
theorem cleft_ev {l : List Int} {p : Nat} {s1 s2 : Int} (hw : WF l) (h0 : 0 < p) (hl : l.length ≤ 1099511627770) : Ev (fun k => Zz31.f k (p : Int) s1 s2 l) (tab l.length fun q => at0 l q % p) := by
 have g := cleft_l3 (s1 := s1) (s2 := s2) hw h0 hl _ 0 rfl (Nat.zero_le _)
 rw [tab_ext (n := l.length) (g := fun _ => 0) fun q hq => if_neg (by omega), ← tab_zero] at g
 refine Ev.congr (fun k => Zz31.f_eq ..) (Ev.pos (by omega) (Ev.pos (by omega) ?_))
 rw [Int.toNat_natCast]
 exact g
theorem Pr.cop {p q : Nat} (hp : Pr p) (hq : Pr q) (h : p ≠ q) : Nat.gcd p q = 1 := by
 rcases hp.2 _ (Nat.gcd_dvd_left p q) with h1 | h1
 ·exact h1
 ·rcases hq.2 _ (Nat.gcd_dvd_right p q) with h2 | h2
  ·exact h2
  ·exact absurd (h1.symm.trans h2) h
theorem three_lift {n K p0 p1 p2 r0 r1 r2 h0 h1 h2 : Nat} (T : Three n K p0 p1 p2 r0 r1 r2 h0 h1 h2) {c : Nat} (hc : c ≤ 2 ^ 187) :
  ∃ A : Bool × List Int, Ev (fun k => Zz37.f k [((c % p0 : Nat) : Int), ((c % p1 : Nat) : Int), ((c % p2 : Nat) : Int)] (ints [p0, p1, p2])) (false, limbs c, A.1, A.2, 0) := by
 have q0 := T.pl0.pr; have q1 := T.pl1.pr; have q2 := T.pl2.pr
 have l0 := T.pl0.lt; have l1 := T.pl1.lt; have l2 := T.pl2.lt
 have o1 := T.lt1; have o2 := T.lt2
 have g0 := q0.1; have g1 := q1.1; have g2 := q2.1
 obtain ⟨m, hm⟩ : ∃ m, m = ints [p0, p1, p2] := ⟨_, rfl⟩
 obtain ⟨l, hl⟩ : ∃ l, l = ints [c % p0, c % p1, c % p2] := ⟨_, rfl⟩
 have e0 : wd m 0 = p0 := by rw [hm]; rfl
 have e1 : wd m 1 = p1 := by rw [hm]; rfl
 have e2 : wd m 2 = p2 := by rw [hm]; rfl
 have f0 : wd l 0 = c % p0 := by rw [hl]; rfl
 have f1 : wd l 1 = c % p1 := by rw [hl]; rfl
 have f2 : wd l 2 = c % p2 := by rw [hl]; rfl
 have hml : m.length = 3 := by rw [hm]; rfl
 have hll : l.length = 3 := by rw [hl]; rfl
 have wm : WF m := by
  rw [hm]; intro x hx; simp [ints] at hx
  rcases hx with rfl | rfl | rfl <;> exact ⟨by omega, by omega⟩
 have wl : WF l := by
  have c0 := Nat.mod_lt c (show 0 < p0 by omega); have c1 := Nat.mod_lt c (show 0 < p1 by omega); have c2 := Nat.mod_lt c (show 0 < p2 by omega)
  generalize c % p0 = u0 at *; generalize c % p1 = u1 at *; generalize c % p2 = u2 at *
  rw [hl]; intro x hx; simp [ints] at hx
  rcases hx with rfl | rfl | rfl <;> exact ⟨by omega, by omega⟩
 have hM : Mays m := fun j hj => by
  have : j = 0 ∨ j = 1 ∨ j = 2 := by omega
  rcases this with rfl | rfl | rfl
  ·rw [e0]; exact ⟨by omega, by omega⟩
  ·rw [e1]; exact ⟨by omega, by omega⟩
  ·rw [e2]; exact ⟨by omega, by omega⟩
 have hP : Pair (wd m) 3 := fun i hi k hk => by
  have : (i = 1 ∧ k = 0) ∨ (i = 2 ∧ k = 0) ∨ (i = 2 ∧ k = 1) := by omega
  rcases this with ⟨rfl, rfl⟩ | ⟨rfl, rfl⟩ | ⟨rfl, rfl⟩
  ·rw [e0, e1]; exact q1.cop q0 (by omega)
  ·rw [e0, e2]; exact q2.cop q0 (by omega)
  ·rw [e1, e2]; exact q2.cop q1 (by omega)
 have hprod : prodTo (wd m) 3 = p0 * p1 * p2 := by
  show 1 * wd m 0 * wd m 1 * wd m 2 = _
  rw [e0, e1, e2, Nat.one_mul]
 rcases lift_ev wl wm (by omega) (by omega) hM with ⟨h, _⟩ | ⟨_, y, hy, g⟩
 ·rw [hml] at h; exact absurd hP h
 ·rw [hml] at hy g
  obtain ⟨y0, y1, y2⟩ := hy
  have hcr : y % (prodTo (wd m) 3 : Int) = (c : Int) % (prodTo (wd m) 3 : Int) := crt_one hP fun j hj => by
   rw [y2 j hj]
   have : j = 0 ∨ j = 1 ∨ j = 2 := by omega
   rcases this with rfl | rfl | rfl
   ·rw [e0, f0, Nat.mod_mod, Int.natCast_emod]
   ·rw [e1, f1, Nat.mod_mod, Int.natCast_emod]
   ·rw [e2, f2, Nat.mod_mod, Int.natCast_emod]
  have hbig := T.big
  unfold pz at y1
  rw [Int.emod_eq_of_lt y0 y1, Int.emod_eq_of_lt (by omega) (by rw [hprod]; omega)] at hcr
  subst hcr
  rw [ng_nat, Int.natAbs_natCast] at g
  rw [hl, hm] at g
  refine ⟨(ng (pz (ints [p0, p1, p2]) 3), limbs (pz (ints [p0, p1, p2]) 3).natAbs), ?_⟩
  exact g
theorem small_l8 {n K p0 p1 p2 r0 r1 r2 h0 h1 h2 : Nat} (T : Three n K p0 p1 p2 r0 r1 r2 h0 h1 h2) {F : Nat → Nat} {N : Nat} (hN : N ≤ 1048576) (hF : ∀ t, t < N → F t ≤ 2 ^ 187) : ∀ (d i : Nat), N - i = d → i ≤ N →
  Ev (fun k => Zz35.l8 k (tab N fun t => F t % p0) (tab N fun t => F t % p1) (tab N fun t => F t % p2) (ints [p0, p1, p2]) (bigs i F) (N : Int) (i : Int)) (bigs N F, 0)
 | 0, i, hd, hi => by
  have : i = N := by omega
  subst this
  exact Ev.step (fun k => Zz35.l8_eq ..) (Ev.neg (by omega) (Ev.now _))
 | d + 1, i, hd, hi => by
  have g := small_l8 T hN hF d (i + 1) (by omega) (by omega)
  obtain ⟨A, gl⟩ := three_lift T (hF i (by omega))
  rw [← bigs_snoc, ← w64_succ (a := i) (by omega)] at g
  refine Ev.step (fun k => Zz35.l8_eq ..) ?_
  rw [rd_tab _ (by omega), rd_tab _ (by omega), rd_tab _ (by omega)]
  exact Ev.pos (by omega) (Ev.pos (by omega) (Ev.pos (by rw [tab_length]; omega) (Ev.pos (by omega) (Ev.pos (by rw [tab_length]; omega) (Ev.pos (by omega) (Ev.pos (by rw [tab_length]; omega) (Ev.bind gl (Ev.pos rfl (Ev.pos (by rw [bigs_length]; show i + 1 ≤ _; omega) g)))))))))
def plen (a b : List Int) : Nat := if a.length = 0 ∨ b.length = 0 then 0 else a.length + b.length - 1
theorem cf_le {a b : List Int} (ha : WF a) (hb : WF b) (hn : a.length ≤ 131072) (t : Nat) : cf a b t ≤ 131072 * (18446744073709551615 * 18446744073709551615) := by
 refine Nat.le_trans (conv_le (A := 18446744073709551615) (B := 18446744073709551615) ?_ ?_) (Nat.mul_le_mul_right _ hn)
 ·intro i _; have h1 := (ha.rdU (i : Int)).2; rw [at0_rd ha i] at h1; omega
 ·intro i _; have h1 := (hb.rdU (i : Int)).2; rw [at0_rd hb i] at h1; omega
theorem small_ev {a b : List Int} (ha : WF a) (hb : WF b) (hn : plen a b ≤ 131072) : Ev (fun k => Zz35.f k a b) (bigs (plen a b) (cf a b), 0) := by
 by_cases h : a.length = 0 ∨ b.length = 0
 ·have e : plen a b = 0 := if_pos h
  rw [e]
  by_cases h1 : a.length = 0
  ·exact Ev.congr (fun k => Zz35.f_eq ..) (Ev.pos (by omega) (Ev.now _))
  ·exact Ev.congr (fun k => Zz35.f_eq ..) (Ev.neg (by omega) (Ev.pos (by omega) (Ev.now _)))
 ·have e : plen a b = a.length + b.length - 1 := if_neg h
  rw [e] at hn ⊢
  obtain ⟨K, p0, p1, p2, r0, r1, r2, h0, h1, h2, T, gp⟩ := parts_ev ha hb (by omega) (by omega) hn
  have g := small_l8 T (F := cf a b) (N := a.length + b.length - 1) (by omega) (fun t _ => Nat.le_trans (cf_le ha hb (by omega) t) (by decide)) _ 0 rfl (Nat.zero_le _)
  refine Ev.congr (fun k => Zz35.f_eq ..) (Ev.neg (by omega) (Ev.neg (by omega) (Ev.bind gp (Ev.pos rfl ?_))))
  show Ev (fun k => Zz35.l8 k (tab (a.length + b.length - 1) fun t => cf a b t % p0) (tab (a.length + b.length - 1) fun t => cf a b t % p1) (tab (a.length + b.length - 1) fun t => cf a b t % p2) (ints [p0, p1, p2]) [] ((tab (a.length + b.length - 1) fun t => cf a b t % p0).length : Int) 0) _
  rw [tab_length]
  exact g
theorem plen_eq {a b a' b' : List Int} (ha : a'.length = a.length) (hb : b'.length = b.length) : plen a' b' = plen a b := by unfold plen; rw [ha, hb]
theorem WF_tab64 {n : Nat} {f : Nat → Nat} (h : ∀ q, q < n → f q < 18446744073709551616) : WF (tab n f) := fun x hx => by
 obtain ⟨q, hq, rfl⟩ := List.mem_map.1 hx
 have := h q (List.mem_range.1 hq)
 exact ⟨by omega, by omega⟩
theorem at0_lt {l : List Int} (hw : WF l) (i : Nat) : at0 l i < 18446744073709551616 := by
 have h1 := (hw.rdU (i : Int)).2
 rw [at0_rd hw i] at h1; omega
theorem cf_tab {a b : List Int} {n m : Nat} {f g : Nat → Nat} (ha : a.length = n) (hb : b.length = m) (t : Nat) : cf (tab n f) (tab m g) t = conv n m f g t := by
 unfold cf
 rw [tab_length, tab_length]
 exact conv_congr (fun i hi => at0_tab hi) fun i hi => at0_tab hi
theorem conv_halfy {n m t c : Nat} (z y : Nat → Nat) : conv n m z y t = conv n m z (fun j => y j % c) t + conv n m z (fun j => y j / c) t * c := by
 rw [← conv_muly, ← conv_addy]
 exact conv_congr (fun _ _ => rfl) fun j _ => by rw [Nat.mul_comm]; exact (Nat.mod_add_div _ _).symm
theorem conv_halfx {n m t c : Nat} (x z : Nat → Nat) : conv n m x z t = conv n m (fun j => x j % c) z t + conv n m (fun j => x j / c) z t * c := by
 rw [← conv_mulx, ← conv_addx]
 exact conv_congr (fun j _ => by rw [Nat.mul_comm]; exact (Nat.mod_add_div _ _).symm) fun _ _ => rfl
theorem small32_l7 {N : Nat} {X Y : Nat → Nat} (hN : N ≤ 1048576) (hX : ∀ t, t < N → Sz 500 ((X t : Nat) : Int)) (hY : ∀ t, t < N → Sz 500 ((Y t : Nat) : Int)) : ∀ (d i : Nat), N - i = d → i ≤ N →
  Ev (fun k => Zz36.l7 k (bigs N fun t => if t < i then X t + Y t * 4294967296 else X t) 0 (bigs N Y) (N : Int) (i : Int)) (bigs N (fun t => X t + Y t * 4294967296), 0)
 | 0, i, hd, hi => by
  have : i = N := by omega
  subst this
  refine Ev.step (fun k => Zz36.l7_eq ..) (Ev.neg (by omega) ?_)
  rw [bigs_ext (n := i) (g := fun t => X t + Y t * 4294967296) fun q hq => if_pos hq]
  exact Ev.now _
 | d + 1, i, hd, hi => by
  have g := small32_l7 hN hX hY d (i + 1) (by omega) (by omega)
  have e1 : rd (bigs N fun t => if t < i then X t + Y t * 4294967296 else X t) (i : Int) = cdB (false, limbs (X i)) := (rd_bigs _ (by omega)).trans (by rw [if_neg (Nat.lt_irrefl i)])
  have e2 : rd (bigs N Y) (i : Int) = cdB (false, limbs (Y i)) := rd_bigs _ (by omega)
  have gm : Ev (fun k => Zz32.f k false (limbs (Y i)) 32) (false, limbs (Y i * 4294967296)) := moved_ev (n := 32) ((hY i (by omega)).up (by decide)) (by decide)
  have sY : Sz 1000 ((Y i * 4294967296 : Nat) : Int) := by
   have h1 : Sz (500 + 1) ((Y i : Int) * (4294967296 : Int)) := (hY i (by omega)).mul (Sz.of (p := 1) (by decide))
   exact Sz.up (p := 501) (by rw [Int.natCast_mul]; exact h1) (by decide)
  have ga := nadd_ev (x := X i) (y := Y i * 4294967296) ((hX i (by omega)).up (by decide)) sY
  rw [← w64_succ (a := i) (by omega)] at g
  refine Ev.step (fun k => Zz36.l7_eq ..) ?_
  rw [e1, e2, dcB_eq, dcB_eq]
  refine Ev.pos (by omega) (Ev.pos (by omega) (Ev.pos (by rw [bigs_length]; omega) (Ev.pos (by omega) (Ev.pos (by rw [bigs_length]; omega) (Ev.bind gm (Ev.bind ga (Ev.pos (by omega) (Ev.pos (by rw [bigs_length]; omega) ?_))))))))
  show Ev (fun k => Zz36.l7 k ((bigs N fun t => if t < i then X t + Y t * 4294967296 else X t).set ((i : Int)).toNat (cdB (false, limbs (X i + Y i * 4294967296)))) 0 (bigs N Y) (N : Int) (wrap64 ((i : Int) + 1))) _
  rw [Int.toNat_natCast, bigs_set, bigs_ext (n := N) (g := fun t => if t < i + 1 then X t + Y t * 4294967296 else X t) fun q hq => ?_]
  ·exact g
  ·by_cases e : q = i
   ·subst e; rw [if_pos rfl, if_pos (Nat.lt_succ_self q)]
   ·rw [if_neg e]
    by_cases h : q < i
    ·rw [if_pos h, if_pos (by omega)]
    ·rw [if_neg h, if_neg (by omega)]
theorem cf_sz {a b : List Int} (ha : WF a) (hb : WF b) (hn : a.length ≤ 131072) (t : Nat) : Sz 3 ((cf a b t : Nat) : Int) := sz_nat (Nat.lt_of_le_of_lt (cf_le ha hb hn t) (by decide))
theorem plen_le {a b : List Int} {t : Nat} (h : t < plen a b) : a.length ≤ plen a b ∧ b.length ≤ plen a b := by
 unfold plen at *
 split at h
 ·omega
 ·rename_i h1; rw [if_neg h1]; omega
theorem small32_ev {a b : List Int} (ha : WF a) (hb : WF b) (hn : plen a b ≤ 131072) (hb1 : b.length ≤ 1099511627770) : Ev (fun k => Zz36.f k a b) (bigs (plen a b) (cf a b), 0) := by
 have gh := halves_ev hb hb1
 have wl : WF (tab b.length fun q => at0 b q % 4294967296) := WF_tab64 fun q _ => Nat.lt_of_lt_of_le (Nat.mod_lt _ (by decide)) (by decide)
 have wh : WF (tab b.length fun q => at0 b q / 4294967296) := WF_tab64 fun q _ => Nat.lt_of_le_of_lt (Nat.div_le_self _ _) (at0_lt hb q)
 have el : plen a (tab b.length fun q => at0 b q % 4294967296) = plen a b := plen_eq rfl (tab_length _ _)
 have eh : plen a (tab b.length fun q => at0 b q / 4294967296) = plen a b := plen_eq rfl (tab_length _ _)
 have g1 := small_ev ha wl (by rw [el]; exact hn)
 have g2 := small_ev ha wh (by rw [eh]; exact hn)
 rw [el] at g1
 rw [eh] at g2
 have g := small32_l7 (N := plen a b) (X := cf a (tab b.length fun q => at0 b q % 4294967296)) (Y := cf a (tab b.length fun q => at0 b q / 4294967296)) (by omega) (fun t ht => (cf_sz ha wl (by have := (plen_le ht).1; omega) t).up (by decide)) (fun t ht => (cf_sz ha wh (by have := (plen_le ht).1; omega) t).up (by decide)) _ 0 rfl (Nat.zero_le _)
 rw [bigs_ext (n := plen a b) (f := fun t => if t < 0 then cf a (tab b.length fun q => at0 b q % 4294967296) t + cf a (tab b.length fun q => at0 b q / 4294967296) t * 4294967296 else cf a (tab b.length fun q => at0 b q % 4294967296) t) (g := cf a (tab b.length fun q => at0 b q % 4294967296)) fun q hq => if_neg (by omega),
  bigs_ext (n := plen a b) (f := fun t => cf a (tab b.length fun q => at0 b q % 4294967296) t + cf a (tab b.length fun q => at0 b q / 4294967296) t * 4294967296) (g := cf a b) fun q hq => ?_] at g
 ·refine Ev.congr (fun k => Zz36.f_eq ..) (Ev.bind gh (Ev.bind g1 (Ev.pos rfl (Ev.bind g2 ?_))))
  show Ev (fun k => Zz36.l7 k (bigs (plen a b) (cf a (tab b.length fun q => at0 b q % 4294967296))) 0 (bigs (plen a b) (cf a (tab b.length fun q => at0 b q / 4294967296))) ((bigs (plen a b) (cf a (tab b.length fun q => at0 b q % 4294967296))).length : Int) 0) _
  rw [bigs_length]
  exact g
 ·unfold cf
  rw [tab_length, tab_length, conv_congr (fun i hi => rfl) fun i hi => at0_tab hi, conv_congr (y := at0 (tab b.length fun q => at0 b q / 4294967296)) (fun i hi => rfl) fun i hi => at0_tab hi]
  exact (conv_halfy (c := 4294967296) _ _).symm
theorem fits_ok {a b : List Int} (h : plen a b ≤ 131072) (ha : a.length ≤ 1099511627770) (hb : b.length ≤ 1099511627770) : Ev (fun k => Zz29.f k a b) 0 := by
 refine Ev.congr (fun k => Zz29.f_eq ..) ?_
 by_cases h1 : a.length = 0
 ·exact Ev.neg (by omega) (Ev.now _)
 ·by_cases h2 : b.length = 0
  ·exact Ev.pos (by omega) (Ev.neg (by omega) (Ev.now _))
  ·have e : plen a b = a.length + b.length - 1 := if_neg (by omega)
   rw [w64_of (by omega) (by omega)]
   exact Ev.pos (by omega) (Ev.pos (by omega) (Ev.neg (by omega) (Ev.now _)))
theorem exact_l15 {N s : Nat} {X Y : Nat → Nat} {b H : List Int} {i1 i2 i3 : Int} {R : List Int × Int} (hs : s ≤ 64) (he : wrap64 (32 * i1) = (s : Int)) (hN : N ≤ 1048576) (hX : ∀ t, t < N → Sz 500 ((X t : Nat) : Int)) (hY : ∀ t, t < N → Sz 500 ((Y t : Nat) : Int))
  (g : Ev (fun k => Zz23.l15 k b (bigs N fun t => X t + Y t * 2 ^ s) i1 H i2 i3 (bigs N Y) (N : Int) (N : Int)) R) : ∀ (d i : Nat), N - i = d → i ≤ N →
  Ev (fun k => Zz23.l15 k b (bigs N fun t => if t < i then X t + Y t * 2 ^ s else X t) i1 H i2 i3 (bigs N Y) (N : Int) (i : Int)) R
 | 0, i, hd, hi => by
  have : i = N := by omega
  subst this
  rw [bigs_ext (n := i) (g := fun t => X t + Y t * 2 ^ s) fun q hq => if_pos hq]
  exact g
 | d + 1, i, hd, hi => by
  have g := exact_l15 hs he hN hX hY g d (i + 1) (by omega) (by omega)
  have e1 : rd (bigs N fun t => if t < i then X t + Y t * 2 ^ s else X t) (i : Int) = cdB (false, limbs (X i)) := (rd_bigs _ (by omega)).trans (by rw [if_neg (Nat.lt_irrefl i)])
  have e2 : rd (bigs N Y) (i : Int) = cdB (false, limbs (Y i)) := rd_bigs _ (by omega)
  have gm : Ev (fun k => Zz32.f k false (limbs (Y i)) (s : Int)) (false, limbs (Y i * 2 ^ s)) := moved_ev ((hY i (by omega)).up (by decide)) hs
  have sY : Sz 1000 ((Y i * 2 ^ s : Nat) : Int) := by
   have h3 : 2 ^ s ≤ 2 ^ 64 := Nat.pow_le_pow_right (by decide) hs
   have h1 : Sz (500 + 2) ((Y i : Int) * ((2 ^ s : Nat) : Int)) := (hY i (by omega)).mul (sz_nat (p := 2) (Nat.lt_of_le_of_lt h3 (by decide)))
   exact Sz.up (p := 502) (by rw [Int.natCast_mul]; exact h1) (by decide)
  have ga := nadd_ev (x := X i) (y := Y i * 2 ^ s) ((hX i (by omega)).up (by decide)) sY
  rw [← w64_succ (a := i) (by omega)] at g
  refine Ev.step (fun k => Zz23.l15_eq ..) ?_
  rw [e1, e2, dcB_eq, dcB_eq, he]
  refine Ev.pos (by omega) (Ev.pos (by omega) (Ev.pos (by rw [bigs_length]; omega) (Ev.pos (by omega) (Ev.pos (by rw [bigs_length]; omega) (Ev.bind gm (Ev.bind ga (Ev.pos (by omega) (Ev.pos (by rw [bigs_length]; omega) ?_))))))))
  show Ev (fun k => Zz23.l15 k b ((bigs N fun t => if t < i then X t + Y t * 2 ^ s else X t).set ((i : Int)).toNat (cdB (false, limbs (X i + Y i * 2 ^ s)))) i1 H i2 i3 (bigs N Y) (N : Int) (wrap64 ((i : Int) + 1))) _
  rw [Int.toNat_natCast, bigs_set, bigs_ext (n := N) (g := fun t => if t < i + 1 then X t + Y t * 2 ^ s else X t) fun q hq => ?_]
  ·exact g
  ·by_cases e : q = i
   ·subst e; rw [if_pos rfl, if_pos (Nat.lt_succ_self q)]
   ·rw [if_neg e]
    by_cases h : q < i
    ·rw [if_pos h, if_pos (by omega)]
    ·rw [if_neg h, if_neg (by omega)]
theorem exact_ev {a b : List Int} (ha : WF a) (hb : WF b) (hn : plen a b ≤ 131072) (ha1 : a.length ≤ 1099511627770) (hb1 : b.length ≤ 1099511627770) : Ev (fun k => Zz23.f k a b) (bigs (plen a b) (cf a b), 0) := by
 obtain ⟨al, hal⟩ : ∃ al, al = tab a.length fun q => at0 a q % 4294967296 := ⟨_, rfl⟩
 obtain ⟨ah, hah⟩ : ∃ ah, ah = tab a.length fun q => at0 a q / 4294967296 := ⟨_, rfl⟩
 have gh := halves_ev ha ha1
 rw [← hal, ← hah] at gh
 have wl : WF al := by rw [hal]; exact WF_tab64 fun q _ => Nat.lt_of_lt_of_le (Nat.mod_lt _ (by decide)) (by decide)
 have wh : WF ah := by rw [hah]; exact WF_tab64 fun q _ => Nat.lt_of_le_of_lt (Nat.div_le_self _ _) (at0_lt ha q)
 have ll : al.length = a.length := by rw [hal, tab_length]
 have lh : ah.length = a.length := by rw [hah, tab_length]
 have el : plen al b = plen a b := plen_eq ll rfl
 have eh : plen ah b = plen a b := plen_eq lh rfl
 have g1 := small32_ev wl hb (by rw [el]; exact hn) hb1
 have g2 := small32_ev wh hb (by rw [eh]; exact hn) hb1
 rw [el] at g1
 rw [eh] at g2
 obtain ⟨N, hN⟩ : ∃ N, N = plen a b := ⟨_, rfl⟩
 have w1 : wrap64 ((0 : Int) + 1) = 1 := by unfold wrap64; omega
 have w2 : wrap64 ((1 : Int) + 1) = 2 := by unfold wrap64; omega
 have s1 : ∀ t, t < N → Sz 500 ((cf al b t : Nat) : Int) := fun t ht => (cf_sz wl hb (by have := (plen_le (hN ▸ ht)).1; omega) t).up (by decide)
 have s2 : ∀ t, t < N → Sz 500 ((cf ah b t : Nat) : Int) := fun t ht => (cf_sz wh hb (by have := (plen_le (hN ▸ ht)).1; omega) t).up (by decide)
 rw [← hN] at g1 g2 hn ⊢
 have hcf : (bigs N fun t => (0 + cf al b t * 2 ^ 0) + cf ah b t * 2 ^ 32) = bigs N (cf a b) := bigs_ext fun q hq => by
  unfold cf
  rw [ll, lh, hal, hah, conv_congr (x := at0 (tab a.length fun q => at0 a q % 4294967296)) (fun i hi => at0_tab hi) (fun i hi => rfl), conv_congr (x := at0 (tab a.length fun q => at0 a q / 4294967296)) (fun i hi => at0_tab hi) (fun i hi => rfl), Nat.zero_add, Nat.pow_zero, Nat.mul_one]
  exact (conv_halfx (c := 4294967296) _ _).symm
 have g5 : Ev (fun k => Zz23.l15 k b (bigs N fun t => (0 + cf al b t * 2 ^ 0) + cf ah b t * 2 ^ 32) 1 [cdR al, cdR ah] 2 1 (bigs N (cf ah b)) (N : Int) (N : Int)) (bigs N (cf a b), 0) := by
  rw [hcf]
  refine Ev.step (fun k => Zz23.l15_eq ..) (Ev.neg (by omega) ?_)
  rw [w2]
  exact Ev.neg (by decide) (Ev.now _)
 have g4 := exact_l15 (s := 32) (by decide) (by unfold wrap64; omega) (by omega) (X := fun t => 0 + cf al b t * 2 ^ 0) (Y := cf ah b) (fun t ht => by
  rw [Nat.zero_add, Nat.pow_zero, Nat.mul_one]; exact s1 t ht) s2 g5 _ 0 rfl (Nat.zero_le _)
 rw [bigs_ext (n := N) (f := fun t => if t < 0 then (0 + cf al b t * 2 ^ 0) + cf ah b t * 2 ^ 32 else 0 + cf al b t * 2 ^ 0) (g := fun t => 0 + cf al b t * 2 ^ 0) fun q hq => if_neg (by omega)] at g4
 have g3 : Ev (fun k => Zz23.l15 k b (bigs N fun t => 0 + cf al b t * 2 ^ 0) 0 [cdR al, cdR ah] 2 0 (bigs N (cf al b)) (N : Int) (N : Int)) (bigs N (cf a b), 0) := by
  refine Ev.step (fun k => Zz23.l15_eq ..) (Ev.neg (by omega) ?_)
  rw [w1]
  refine Ev.pos (by decide) (Ev.pos (by decide) (Ev.pos (show (1 : Int) < 2 by decide) ?_))
  rw [show rd [cdR al, cdR ah] 1 = cdR ah from rfl, dcR_eq]
  refine Ev.bind g2 (Ev.pos rfl ?_)
  show Ev (fun k => Zz23.l15 k b (bigs N fun t => 0 + cf al b t * 2 ^ 0) 1 [cdR al, cdR ah] 2 1 (bigs N (cf ah b)) ((bigs N (cf ah b)).length : Int) 0) _
  rw [bigs_length]
  exact g4
 have g := exact_l15 (s := 0) (by decide) (by unfold wrap64; omega) (by omega) (X := fun t => 0) (Y := cf al b) (fun t ht => sz_zero) s1 g3 _ 0 rfl (Nat.zero_le _)
 rw [bigs_ext (n := N) (f := fun t => if t < 0 then 0 + cf al b t * 2 ^ 0 else 0) (g := fun t => 0) fun q hq => if_neg (by omega), ← bigs_zero] at g
 refine Ev.congr (fun k => Zz23.f_eq ..) (Ev.bind (fits_ok (hN ▸ hn) ha1 hb1) (Ev.pos rfl (Ev.bind gh (Ev.pos (show (0 : Int) < 2 by decide) (Ev.pos (show (0 : Int) < 2 by decide) ?_)))))
 show Ev (fun k => (Zz36.f k (dcR (rd [cdR al, cdR ah] 0)) b).bind _) _
 rw [show rd [cdR al, cdR ah] 0 = cdR al from rfl, dcR_eq]
 refine Ev.bind g1 (Ev.pos rfl ?_)
 show Ev (fun k => (if 0 ≤ ((bigs N (cf al b)).length : Int) then (if (((bigs N (cf al b)).length : Int)).toNat ≤ 8796093022208 then Zz23.l15 k b (List.replicate (((bigs N (cf al b)).length : Int)).toNat (cdB (false, ([] : List Int)))) 0 [cdR al, cdR ah] 2 0 (bigs N (cf al b)) ((bigs N (cf al b)).length : Int) 0 else none) else none)) _
 rw [bigs_length, Int.toNat_natCast]
 exact Ev.pos (by omega) (Ev.pos (by omega) g)
theorem conv_l12 {N m : Nat} {F : Nat → Nat} {e : Int} (h0 : 0 < m) (hm : m < 18446744073709551616) (hN : N ≤ 1048576) (hF : ∀ t, t < N → Sz 1000 ((F t : Nat) : Int)) : ∀ (d i : Nat), N - i = d → i ≤ N →
  Ev (fun k => Zz22.l12 k (m : Int) (tab i fun t => F t % m) (bigs N F) (N : Int) (i : Int)) (tab N fun t => F t % m, 0)
 | 0, i, hd, hi => by
  have : i = N := by omega
  subst this
  exact Ev.step (fun k => Zz22.l12_eq ..) (Ev.neg (by omega) (Ev.now _))
 | d + 1, i, hd, hi => by
  have g := conv_l12 (e := e) h0 hm hN hF d (i + 1) (by omega) (by omega)
  have gm := nmod_ev (hF i (by omega)) h0 hm
  rw [← tab_snoc i fun t => F t % m, ← w64_succ (a := i) (by omega)] at g
  refine Ev.step (fun k => Zz22.l12_eq ..) ?_
  rw [rd_bigs F (by omega), dcB_eq]
  exact Ev.pos (by omega) (Ev.pos (by omega) (Ev.pos (by rw [bigs_length]; omega) (Ev.bind gm (Ev.pos rfl (Ev.pos (by rw [tab_length]; show i + 1 ≤ _; omega) g)))))
theorem conv_ev {a b : List Int} {m : Nat} (ha : WF a) (hb : WF b) (h2 : 2 ≤ m) (hm : m < 9223372036854775808) (hn : plen a b ≤ 131072) (ha1 : a.length ≤ 1099511627770) (hb1 : b.length ≤ 1099511627770) :
  Ev (fun k => Zz22.f k a b (m : Int)) (tab (plen a b) fun t => cf a b t % m, 0) := by
 obtain ⟨s1, s2, gn⟩ := new_ev h2 hm
 have gl := cleft_ev (s1 := s1) (s2 := s2) ha (show 0 < m by omega) ha1
 have gr := cleft_ev (s1 := s1) (s2 := s2) hb (show 0 < m by omega) hb1
 have wl : ∀ l : List Int, WF (tab l.length fun q => at0 l q % m) := fun l => WF_tab64 fun q _ => Nat.lt_of_lt_of_le (Nat.mod_lt _ (by omega)) (by omega)
 have ep : plen (tab a.length fun q => at0 a q % m) (tab b.length fun q => at0 b q % m) = plen a b := plen_eq (tab_length _ _) (tab_length _ _)
 have gs := small_ev (wl a) (wl b) (by rw [ep]; exact hn)
 rw [ep] at gs
 obtain ⟨F, hF⟩ : ∃ F, F = cf (tab a.length fun q => at0 a q % m) (tab b.length fun q => at0 b q % m) := ⟨_, rfl⟩
 rw [← hF] at gs
 have g := conv_l12 (e := 0) (N := plen a b) (m := m) (F := F) (by omega) (by omega) (by omega) (fun t ht => by
  rw [hF]; exact (cf_sz (wl a) (wl b) (by rw [tab_length]; have := (plen_le ht).1; omega) t).up (by decide)) _ 0 rfl (Nat.zero_le _)
 rw [tab_ext (n := plen a b) (g := fun t => cf a b t % m) fun q hq => by rw [hF, cf_tab rfl rfl]; exact conv_mod _ _] at g
 refine Ev.congr (fun k => Zz22.f_eq ..) (Ev.bind gn (Ev.congr (fun q => elim_some _ _ _) (Ev.pos rfl (Ev.bind (fits_ok hn ha1 hb1) (Ev.pos rfl (Ev.bind gl (Ev.bind gr (Ev.bind gs (Ev.pos rfl ?_)))))))))
 show Ev (fun k => Zz22.l12 k (m : Int) [] (bigs (plen a b) F) ((bigs (plen a b) F).length : Int) 0) _
 rw [bigs_length]
 exact g
end Go.Proofs.YtkoeddgbhohggaaGreatDoor.Pure
end
section
namespace Go.Proofs.YtkoeddgbhohggaaGreatDoor.Pure
open Go.RowKit Go.Proofs.YtkoeddgbhohggaaGreatDoor.F Go.Proofs.YtkoeddgbhohggaaGreatDoorW.PrintWords Go.Proofs.YtkoeddgbhohggaaGreatDoorW.PrintLast Go.Proofs.YtkoeddgbhohggaaGreatDoorW.PrintMore
set_option linter.unusedVariables false
set_option linter.unusedSimpArgs false
theorem rd_drop {l : List Int} {i : Nat} (h : i < l.length) : l.drop i = rd l (i : Int) :: l.drop (i + 1) := by
 rw [List.drop_eq_getElem_cons h]
 congr 1
 simp [rd, List.getD_eq_getElem?_getD, h]
def szL : Int → List Int → Int × Int
 | n, [] => (n, 0)
 | n, d :: r => if n * d > 65536 then (0, 13) else szL (n * d) r
def lowB (l : List Int) : Bool := l.any fun d => decide (d < 1)
def szF (D : List Int) : Int × Int := if D.length > 8 then (0, 1) else if lowB D = true then (0, 1) else szL 1 D
theorem lowB_drop {l : List Int} {i : Nat} (h : i < l.length) : lowB (l.drop i) = (decide (rd l (i : Int) < 1) || lowB (l.drop (i + 1))) := by
 rw [rd_drop h]
 rfl
theorem index_l2 {l : List Int} (hl : l.length ≤ 1000) : ∀ (d i : Nat), l.length - i = d → i ≤ l.length → ∃ r : Int, Ev (fun q => Zz72.l2 q l (l.length : Int) (i : Int)) r ∧ (r ≥ 0 ↔ lowB (l.drop i) = true)
 | 0, i, hd, hi => by
  have : i = l.length := by omega
  subst this
  refine ⟨-1, Ev.step (fun q => Zz72.l2_eq ..) (Ev.neg (by omega) (Ev.now _)), ?_⟩
  rw [List.drop_length]
  exact ⟨fun h => by omega, fun h => by cases h⟩
 | d + 1, i, hd, hi => by
  obtain ⟨r, g, hr⟩ := index_l2 hl d (i + 1) (by omega) (by omega)
  rw [← w64_succ (a := i) (by omega)] at g
  have gs : Ev (fun q => Zz27.f q (rd l (i : Int))) (decide (rd l (i : Int) < 1)) := Ev.congr (fun q => Zz27.f_eq ..) (Ev.now _)
  rw [lowB_drop (by omega)]
  by_cases h : rd l (i : Int) < 1
  ·refine ⟨(i : Int), Ev.step (fun q => Zz72.l2_eq ..) (Ev.pos (by omega) (Ev.pos (by omega) (Ev.pos (by omega) (Ev.bind gs (Ev.pos (decide_eq_true h) (Ev.now _)))))), ?_⟩
   rw [decide_eq_true h]
   exact ⟨fun _ => rfl, fun _ => by omega⟩
  ·refine ⟨r, Ev.step (fun q => Zz72.l2_eq ..) (Ev.pos (by omega) (Ev.pos (by omega) (Ev.pos (by omega) (Ev.bind gs (Ev.neg (by simpa using h) g))))), ?_⟩
   rw [decide_eq_false h, Bool.false_or]
   exact hr
theorem contains_ev {l : List Int} (hl : l.length ≤ 1000) : Ev (fun q => Zz71.f q l) (lowB l) := by
 obtain ⟨r, g, hr⟩ := index_l2 hl _ 0 rfl (Nat.zero_le _)
 rw [List.drop_zero] at hr
 refine Ev.congr (fun q => Zz71.f_eq ..) (Ev.bind (Ev.congr (fun q => Zz72.f_eq ..) g) (Ev.ret ?_))
 cases h : lowB l with
 | true => exact decide_eq_true (hr.2 h)
 | false => exact decide_eq_false fun h1 => by rw [hr.1 h1] at h; cases h
theorem low_pos {l : List Int} (h : lowB l = false) {i : Nat} (hi : i < l.length) : 1 ≤ rd l (i : Int) := by
 refine Classical.byContradiction fun hn => ?_
 have h1 : lowB l = true := List.any_eq_true.2 ⟨rd l (i : Int), by rw [rd_of rfl hi]; exact List.getElem_mem hi, decide_eq_true (by omega)⟩
 rw [h] at h1; cases h1
theorem tdiv_lt {n d : Int} (h1 : 1 ≤ n) (hn : n ≤ 65536) : d > wrap64 (Int.tdiv 65536 n) ↔ n * d > 65536 := by
 obtain ⟨m, rfl⟩ : ∃ m : Nat, n = (m : Int) := ⟨n.toNat, by omega⟩
 have e : Int.tdiv 65536 (m : Int) = ((65536 / m : Nat) : Int) := by
  rw [show (65536 : Int) = ((65536 : Nat) : Int) from rfl]; exact (Int.ofNat_tdiv 65536 m).symm
 have hq : 65536 / m ≤ 65536 := Nat.div_le_self _ _
 rw [e, w64_nat (by omega)]
 have a1 : m * (65536 / m) ≤ 65536 := Nat.mul_div_le _ _
 have a2 : 65536 < m * (65536 / m + 1) := Nat.lt_mul_div_succ _ (by omega)
 constructor
 ·intro h
  have h2 : ((65536 / m + 1 : Nat) : Int) ≤ d := by omega
  have h3 : (m : Int) * ((65536 / m + 1 : Nat) : Int) ≤ (m : Int) * d := Int.mul_le_mul_of_nonneg_left h2 (by omega)
  rw [← Int.natCast_mul] at h3
  omega
 ·intro h
  refine Classical.byContradiction fun hn => ?_
  have h3 : (m : Int) * d ≤ (m : Int) * ((65536 / m : Nat) : Int) := Int.mul_le_mul_of_nonneg_left (by omega) (by omega)
  rw [← Int.natCast_mul] at h3
  omega
theorem mul_pos' {n d : Int} (h1 : 1 ≤ n) (h2 : 1 ≤ d) : 1 ≤ n * d := by
 have := Int.mul_le_mul_of_nonneg_left h2 (show 0 ≤ n by omega)
 omega
theorem size_l5 {l : List Int} (hl : l.length ≤ 1000) (h0 : lowB l = false) : ∀ (d i : Nat) (n : Int), l.length - i = d → i ≤ l.length → 1 ≤ n → n ≤ 65536 → Ev (fun q => Zz26.l5 q n l (l.length : Int) (i : Int)) (szL n (l.drop i))
 | 0, i, n, hd, hi, n1, n2 => by
  have : i = l.length := by omega
  subst this
  rw [List.drop_length]
  exact Ev.step (fun q => Zz26.l5_eq ..) (Ev.neg (by omega) (Ev.now _))
 | d + 1, i, n, hd, hi, n1, n2 => by
  have hp := low_pos h0 (i := i) (by omega)
  rw [rd_drop (by omega)]
  unfold szL
  by_cases h : n * rd l (i : Int) > 65536
  ·rw [if_pos h]
   exact Ev.step (fun q => Zz26.l5_eq ..) (Ev.pos (by omega) (Ev.pos (by omega) (Ev.pos (by omega) (Ev.neg (by omega) (Ev.pos ((tdiv_lt n1 n2).2 h) (Ev.now _))))))
  ·rw [if_neg h]
   have g := size_l5 hl h0 d (i + 1) (n * rd l (i : Int)) (by omega) (by omega) (mul_pos' n1 hp) (by omega)
   have hw : wrap64 (n * rd l (i : Int)) = n * rd l (i : Int) := w64_of (by have := mul_pos' n1 hp; omega) (by omega)
   rw [← w64_succ (a := i) (by omega)] at g
   exact Ev.step (fun q => Zz26.l5_eq ..) (Ev.pos (by omega) (Ev.pos (by omega) (Ev.pos (by omega) (Ev.neg (by omega) (Ev.neg (fun e => h ((tdiv_lt n1 n2).1 e)) (by rw [hw]; exact g))))))
theorem size_ev {D : List Int} (hD : D.length ≤ 1000) : Ev (fun q => Zz26.f q D) (szF D) := by
 unfold szF
 by_cases h8 : D.length > 8
 ·rw [if_pos h8]; exact Ev.congr (fun q => Zz26.f_eq ..) (Ev.pos (by omega) (Ev.now _))
 ·rw [if_neg h8]
  cases h : lowB D with
  | true => rw [if_pos rfl]; exact Ev.congr (fun q => Zz26.f_eq ..) (Ev.neg (by omega) (Ev.bind (contains_ev hD) (Ev.pos h (Ev.now _))))
  | false =>
   rw [if_neg Bool.false_ne_true]
   have g := size_l5 hD h _ 0 1 rfl (Nat.zero_le _) (by decide) (by decide)
   rw [List.drop_zero] at g
   exact Ev.congr (fun q => Zz26.f_eq ..) (Ev.neg (by omega) (Ev.bind (contains_ev hD) (Ev.neg (by rw [h]; exact Bool.false_ne_true) g)))
theorem rsize_l10 {l : List Int} (hl : l.length ≤ 1000) (h0 : lowB l = false) : ∀ (d i : Nat) (n : Int), l.length - i = d → i ≤ l.length → 1 ≤ n → n ≤ 65536 → Ev (fun q => Zz107.l10 q l n (i : Int)) (szL n (l.drop i))
 | 0, i, n, hd, hi, n1, n2 => by
  have : i = l.length := by omega
  subst this
  rw [List.drop_length]
  exact Ev.step (fun q => Zz107.l10_eq ..) (Ev.neg (by omega) (Ev.now _))
 | d + 1, i, n, hd, hi, n1, n2 => by
  have hp := low_pos h0 (i := i) (by omega)
  rw [rd_drop (by omega)]
  unfold szL
  by_cases hb : rd l (i : Int) > 65536
  ·have h : n * rd l (i : Int) > 65536 := by
    have := Int.mul_le_mul_of_nonneg_right n1 (show 0 ≤ rd l (i : Int) by omega)
    omega
   rw [if_pos h]
   exact Ev.step (fun q => Zz107.l10_eq ..) (Ev.pos (by omega) (Ev.pos (by omega) (Ev.pos (by omega) (Ev.pos hb (Ev.now _)))))
  ·have hm : n * rd l (i : Int) ≤ 65536 * 65536 := Int.mul_le_mul n2 (by omega) (by omega) (by decide)
   have hm1 := mul_pos' n1 hp
   have hw : wrap64 (n * rd l (i : Int)) = n * rd l (i : Int) := w64_of (by omega) (by omega)
   by_cases h : n * rd l (i : Int) > 65536
   ·rw [if_pos h]
    exact Ev.step (fun q => Zz107.l10_eq ..) (Ev.pos (by omega) (Ev.pos (by omega) (Ev.pos (by omega) (Ev.neg hb (Ev.pos (by omega) (Ev.pos (by omega) (Ev.pos (by rw [hw]; exact h) (Ev.now _))))))))
   ·rw [if_neg h]
    have g := rsize_l10 hl h0 d (i + 1) (n * rd l (i : Int)) (by omega) (by omega) hm1 (by omega)
    rw [← w64_succ (a := i) (by omega)] at g
    exact Ev.step (fun q => Zz107.l10_eq ..) (Ev.pos (by omega) (Ev.pos (by omega) (Ev.pos (by omega) (Ev.neg hb (Ev.pos (by omega) (Ev.pos (by omega) (Ev.neg (by rw [hw]; exact h) (Ev.pos (by omega) (Ev.pos (by omega) (by rw [hw]; exact g))))))))))
theorem rsize_l4 {l : List Int} (hl : l.length ≤ 1000) : ∀ (d i : Nat), l.length - i = d → i ≤ l.length → (∀ j, j < i → 1 ≤ rd l (j : Int)) → Ev (fun q => Zz107.l4 q l (i : Int)) (if lowB (l.drop i) = true then (0, 1) else szL 1 l)
 | 0, i, hd, hi, hj => by
  have : i = l.length := by omega
  subst this
  rw [List.drop_length, if_neg (by decide)]
  have h0 : lowB l = false := by
   refine Bool.eq_false_iff.2 fun h => ?_
   obtain ⟨x, h1, h2⟩ := List.any_eq_true.1 h
   obtain ⟨j, h3, rfl⟩ := List.getElem_of_mem h1
   have := hj j h3
   rw [rd_of rfl h3] at this
   have := of_decide_eq_true h2
   omega
  have g := rsize_l10 hl h0 _ 0 1 rfl (Nat.zero_le _) (by decide) (by decide)
  rw [List.drop_zero] at g
  exact Ev.step (fun q => Zz107.l4_eq ..) (Ev.neg (by omega) g)
 | d + 1, i, hd, hi, hj => by
  rw [lowB_drop (by omega)]
  by_cases h : rd l (i : Int) < 1
  ·rw [decide_eq_true h, Bool.true_or, if_pos rfl]
   exact Ev.step (fun q => Zz107.l4_eq ..) (Ev.pos (by omega) (Ev.pos (by omega) (Ev.pos (by omega) (Ev.pos h (Ev.now _)))))
  ·have g := rsize_l4 hl d (i + 1) (by omega) (by omega) fun j h1 => by
    by_cases h2 : j = i
    ·subst h2; omega
    ·exact hj j (by omega)
   rw [← w64_succ (a := i) (by omega)] at g
   rw [decide_eq_false h, Bool.false_or]
   exact Ev.step (fun q => Zz107.l4_eq ..) (Ev.pos (by omega) (Ev.pos (by omega) (Ev.pos (by omega) (Ev.neg h g))))
theorem rsize_ev {D : List Int} (hD : D.length ≤ 1000) : Ev (fun q => Zz107.f q D) (szF D) := by
 unfold szF
 by_cases h8 : D.length > 8
 ·rw [if_pos h8]; exact Ev.congr (fun q => Zz107.f_eq ..) (Ev.pos (by omega) (Ev.now _))
 ·rw [if_neg h8]
  have g := rsize_l4 hD _ 0 rfl (Nat.zero_le _) fun j h => by omega
  rw [List.drop_zero] at g
  exact Ev.congr (fun q => Zz107.f_eq ..) (Ev.neg (by omega) g)
def plL (D E : List Int) : Nat → Nat → Int → Int × Int
 | 0, _, t => (t, 0)
 | m + 1, i, t => if rd E (i : Int) < 0 then (0, 1) else if rd E (i : Int) ≥ rd D (i : Int) then (0, 1) else plL D E m (i + 1) (wrap64 (wrap64 (t * rd D (i : Int)) + rd E (i : Int)))
def plF (D E : List Int) : Int × Int := if (szF D).2 = 0 then (if E.length = D.length then plL D E D.length 0 0 else (0, 1)) else (0, (szF D).2)
theorem place_l8 {D E : List Int} (hD : D.length ≤ 1000) (he : E.length = D.length) : ∀ (d i : Nat) (t : Int), D.length - i = d → i ≤ D.length → Ev (fun q => Zz25.l8 q E t D (D.length : Int) (i : Int)) (plL D E d i t)
 | 0, i, t, hd, hi => Ev.step (fun q => Zz25.l8_eq ..) (Ev.neg (by omega) (Ev.now _))
 | d + 1, i, t, hd, hi => by
  have g := place_l8 hD he d (i + 1) (wrap64 (wrap64 (t * rd D (i : Int)) + rd E (i : Int))) (by omega) (by omega)
  rw [← w64_succ (a := i) (by omega)] at g
  unfold plL
  refine Ev.step (fun q => Zz25.l8_eq ..) (Ev.pos (by omega) (Ev.pos (by omega) (Ev.pos (by omega) (Ev.pos (by omega) (Ev.pos (by omega) ?_)))))
  by_cases h1 : rd E (i : Int) < 0
  ·rw [if_pos h1]; exact Ev.pos h1 (Ev.now _)
  ·rw [if_neg h1]
   refine Ev.neg h1 (Ev.pos (by omega) (Ev.pos (by omega) ?_))
   by_cases h2 : rd E (i : Int) ≥ rd D (i : Int)
   ·rw [if_pos h2]; exact Ev.pos h2 (Ev.now _)
   ·rw [if_neg h2]
    exact Ev.neg h2 (Ev.pos (by omega) (Ev.pos (by omega) g))
theorem place_ev {D E : List Int} (hD : D.length ≤ 1000) : Ev (fun q => Zz25.f q D E) (plF D E) := by
 unfold plF
 refine Ev.congr (fun q => Zz25.f_eq ..) (Ev.bind (size_ev hD) ?_)
 by_cases h : (szF D).2 = 0
 ·rw [if_pos h]
  by_cases he : E.length = D.length
  ·rw [if_pos he]
   exact Ev.pos h (Ev.pos (by omega) (place_l8 hD he _ 0 0 rfl (Nat.zero_le _)))
  ·rw [if_neg he]
   exact Ev.pos h (Ev.neg (by omega) (Ev.now _))
 ·rw [if_neg h]
  exact Ev.neg h (Ev.now _)
theorem rplace_l8 {D E : List Int} (hD : D.length ≤ 1000) (he : E.length = D.length) : ∀ (d i : Nat) (t : Int), D.length - i = d → i ≤ D.length → Ev (fun q => Zz106.l8 q D E t (i : Int)) (plL D E d i t)
 | 0, i, t, hd, hi => Ev.step (fun q => Zz106.l8_eq ..) (Ev.neg (by omega) (Ev.now _))
 | d + 1, i, t, hd, hi => by
  have g := rplace_l8 hD he d (i + 1) (wrap64 (wrap64 (t * rd D (i : Int)) + rd E (i : Int))) (by omega) (by omega)
  rw [← w64_succ (a := i) (by omega)] at g
  unfold plL
  refine Ev.step (fun q => Zz106.l8_eq ..) (Ev.pos (by omega) (Ev.pos (by omega) (Ev.pos (by omega) ?_)))
  by_cases h1 : rd E (i : Int) < 0
  ·rw [if_pos h1]; exact Ev.pos h1 (Ev.now _)
  ·rw [if_neg h1]
   refine Ev.neg h1 (Ev.pos (by omega) (Ev.pos (by omega) (Ev.pos (by omega) (Ev.pos (by omega) ?_))))
   by_cases h2 : rd E (i : Int) ≥ rd D (i : Int)
   ·rw [if_pos h2]; exact Ev.pos h2 (Ev.now _)
   ·rw [if_neg h2]
    exact Ev.neg h2 (Ev.pos (by omega) (Ev.pos (by omega) (Ev.pos (by omega) (Ev.pos (by omega) g))))
theorem rplace_ev {D E : List Int} (hD : D.length ≤ 1000) : Ev (fun q => Zz106.f q D E) (plF D E) := by
 unfold plF
 refine Ev.congr (fun q => Zz106.f_eq ..) (Ev.bind (rsize_ev hD) ?_)
 by_cases h : (szF D).2 = 0
 ·rw [if_pos h]
  by_cases he : E.length = D.length
  ·rw [if_pos he]
   exact Ev.pos h (Ev.pos (by omega) (rplace_l8 hD he _ 0 0 rfl (Nat.zero_le _)))
  ·rw [if_neg he]
   exact Ev.pos h (Ev.neg (by omega) (Ev.now _))
 ·rw [if_neg h]
  exact Ev.neg h (Ev.now _)
end Go.Proofs.YtkoeddgbhohggaaGreatDoor.Pure
end
section
namespace Go.Proofs.YtkoeddgbhohggaaGreatDoor.Pure
open Go.RowKit Go.Proofs.YtkoeddgbhohggaaGreatDoor.F Go.Proofs.YtkoeddgbhohggaaGreatDoorW.PrintWords Go.Proofs.YtkoeddgbhohggaaGreatDoorW.PrintLast Go.Proofs.YtkoeddgbhohggaaGreatDoorW.PrintMore
open Go.Proofs.YtkoeddgbhohggaaGreatDoor.E (tEq tLt tApp tCut cdB dcB dcB_eq)
set_option linter.unusedVariables false
set_option linter.unusedSimpArgs false
theorem WF_of_two {a b : Int} (ha : U a) (hb : U b) : WF [a, b] := WF.cons ha (WF.cons hb WF.nil)
theorem nprint_ev {n : Nat} (h : Sz 1000 (n : Int)) : Ev (fun k => Zz7.f k false (limbs n)) (dec n) := by
 have := iprint_ev h
 rwa [ng_nat, Int.natAbs_natCast, ztx_nat] at this
theorem dec_awake : dec 36893488147419103230 = tx [51, 54, 56, 57, 51, 52, 56, 56, 49, 52, 55, 52, 49, 57, 49, 48, 51, 50, 51, 48] := by
 have h := ds_of (l := [51, 54, 56, 57, 51, 52, 56, 56, 49, 52, 55, 52, 49, 57, 49, 48, 51, 50, 51, 48]) (by unfold DS; decide) (by decide) (.inr fun h => show (51 : UInt8) ≠ 48 by decide)
 rw [show sv [51, 54, 56, 57, 51, 52, 56, 56, 49, 52, 55, 52, 49, 57, 49, 48, 51, 50, 51, 48] = 36893488147419103230 by decide] at h
 unfold dec
 rw [← h]
theorem awake_ev : Ev (fun k => Zz90.f k) true := by
 have w1 : WF [1, 2] := WF_of_two ⟨by decide, by decide⟩ ⟨by decide, by decide⟩
 have w2 : WF [3, 4] := WF_of_two ⟨by decide, by decide⟩ ⟨by decide, by decide⟩
 have w3 : WF [18446744073709551615] := WF.cons ⟨by decide, by decide⟩ WF.nil
 have w4 : WF [2] := WF.cons ⟨by decide, by decide⟩ WF.nil
 have g1 := conv_ev (a := [1, 2]) (b := [3, 4]) (m := 5) w1 w2 (by decide) (by decide) (by decide) (by decide) (by decide)
 have g2 := exact_ev (a := [18446744073709551615]) (b := [2]) w3 w4 (by decide) (by decide) (by decide)
 have g3 := place_ev (D := [2, 3]) (E := [1, 2]) (by decide)
 rw [show tab (plen [1, 2] [3, 4]) (fun t => cf [1, 2] [3, 4] t % 5) = [3, 0, 3] by decide +kernel] at g1
 rw [show plen [18446744073709551615] [2] = 1 by decide] at g2
 rw [show plF [2, 3] [1, 2] = (5, 0) by
  unfold plF
  rw [show szF [2, 3] = (6, 0) by decide]
  rw [if_pos rfl, if_pos (show ([1, 2] : List Int).length = ([2, 3] : List Int).length from rfl)]
  have e1 : wrap64 (wrap64 (0 * 2) + 1) = 1 := by unfold wrap64; omega
  have e2 : wrap64 (wrap64 (1 * 3) + 2) = 5 := by unfold wrap64; omega
  show plL [2, 3] [1, 2] 2 0 0 = _
  unfold plL
  rw [show rd [1, 2] ((0 : Nat) : Int) = 1 from rfl, show rd [2, 3] ((0 : Nat) : Int) = 2 from rfl, if_neg (by decide), if_neg (by decide), e1]
  unfold plL
  rw [show rd [1, 2] ((0 + 1 : Nat) : Int) = 2 from rfl, show rd [2, 3] ((0 + 1 : Nat) : Int) = 3 from rfl, if_neg (by decide), if_neg (by decide), e2]
  rfl] at g3
 have hr : rd (bigs 1 (cf [18446744073709551615] [2])) 0 = cdB (false, limbs 36893488147419103230) := by
  have := rd_bigs (n := 1) (cf [18446744073709551615] [2]) (q := 0) (by decide)
  rwa [show cf [18446744073709551615] [2] 0 = 36893488147419103230 by decide +kernel] at this
 have gp := nprint_ev (n := 36893488147419103230) (Sz.up (p := 2) (sz_nat (by decide)) (by decide))
 refine Ev.congr (fun k => Zz90.f_eq ..) (Ev.bind g1 (Ev.bind g2 (Ev.bind g3 (Ev.bind (same_ev (l := [3, 0, 3]) (by decide)) (Ev.pos rfl (Ev.pos rfl ?_))))))
 show Ev (fun k => if ((bigs 1 (cf [18446744073709551615] [2])).length : Int) = 1 then _ else _) _
 rw [hr, dcB_eq, bigs_length]
 exact Ev.pos rfl (Ev.pos (by decide) (Ev.bind gp (Ev.pos (by rw [dec_awake]; exact tEq_yes rfl) (Ev.pos rfl (Ev.pos rfl (Ev.ret (by decide)))))))
theorem awake_some : Ev (fun k => (Zz90.f k).bind fun t0 => some t0) true := Ev.bind awake_ev (Ev.now _)
end Go.Proofs.YtkoeddgbhohggaaGreatDoor.Pure
end
section
namespace Go.Proofs.YtkoeddgbhohggaaGreatDoor.Pure
open Go.RowKit Go.Proofs.YtkoeddgbhohggaaGreatDoor.F Go.Proofs.YtkoeddgbhohggaaGreatDoorW.PrintWords Go.Proofs.YtkoeddgbhohggaaGreatDoorW.PrintLast Go.Proofs.YtkoeddgbhohggaaGreatDoorW.PrintMore
open Go.Proofs.YtkoeddgbhohggaaGreatDoor.E (tEq tLt tApp tCut cdB dcB dcB_eq cdT dcT dcT_eq)
set_option linter.unusedVariables false
set_option linter.unusedSimpArgs false
end Go.Proofs.YtkoeddgbhohggaaGreatDoor.Pure
end
section
namespace Go.Proofs.YtkoeddgbhohggaaGreatDoor.Pure
open Go.RowKit Go.Proofs.YtkoeddgbhohggaaGreatDoorW.PrintWords
open Go.Proofs.YtkoeddgbhohggaaGreatDoor.E (downF roundsF leafF eachF eachF0 eachF_eq)
set_option linter.unusedVariables false
set_option linter.unusedSimpArgs false
def pc (d : Nat → Nat) : Nat → Nat → Nat
 | 0, _ => 1
 | c + 1, i => d i * pc d c (i + 1)
def Pn (d : Nat → Nat) (n i : Nat) : Nat := pc d (n - i) i
theorem Pn_end (d : Nat → Nat) (n : Nat) : Pn d n n = 1 := by unfold Pn; rw [Nat.sub_self]; rfl
theorem Pn_step {d : Nat → Nat} {n i : Nat} (h : i < n) : Pn d n i = d i * Pn d n (i + 1) := by
 unfold Pn
 obtain ⟨c, hc⟩ : ∃ c, n - i = c + 1 := ⟨n - i - 1, by omega⟩
 rw [hc, show n - (i + 1) = c by omega]
 rfl
theorem Pn_pos {d : Nat → Nat} {n : Nat} (hd : ∀ j, j < n → 1 ≤ d j) : ∀ (c i : Nat), i + c = n → 1 ≤ Pn d n i
 | 0, i, h => by rw [show i = n by omega, Pn_end]; exact Nat.le_refl _
 | c + 1, i, h => by
  rw [Pn_step (by omega)]
  exact Nat.mul_pos (hd i (by omega)) (Pn_pos hd c (i + 1) (by omega))
def dgt (d : Nat → Nat) (n i p : Nat) : Nat := p / Pn d n (i + 1) % d i
def plc (d e : Nat → Nat) (n : Nat) : Nat → Nat → Nat
 | 0, _ => 0
 | i + 1, p => plc d e n i p * e i + dgt d n i p
def qn (e : Nat → Nat) : Nat → Nat
 | 0 => 1
 | i + 1 => qn e i * e i
section
variable {d e : Nat → Nat} {n : Nat}
theorem div_step {i p : Nat} (h : i < n) : p / Pn d n i = p / Pn d n (i + 1) / d i := by rw [Pn_step h, Nat.mul_comm, Nat.div_div_eq_div_mul]
theorem plc_congr : ∀ {i p q : Nat}, i ≤ n → p / Pn d n i = q / Pn d n i → plc d e n i p = plc d e n i q
 | 0, p, q, _, _ => rfl
 | i + 1, p, q, hi, h => by
  unfold plc dgt
  rw [h, plc_congr (i := i) (p := p) (q := q) (by omega) (by rw [div_step (i := i) (p := p) (by omega), div_step (i := i) (p := q) (by omega), h])]
theorem qn_mono (he : ∀ j, j < n → 1 ≤ e j) {i : Nat} : ∀ c, i + c ≤ n → qn e i ≤ qn e (i + c)
 | 0, _ => Nat.le_refl _
 | c + 1, h => Nat.le_trans (qn_mono he c (by omega)) (Nat.le_mul_of_pos_right _ (he (i + c) (by omega)))
theorem qn_le (he : ∀ j, j < n → 1 ≤ e j) {i : Nat} (h : i ≤ n) : qn e i ≤ qn e n := by
 have := qn_mono (i := i) he (n - i) (by omega)
 rwa [show i + (n - i) = n by omega] at this
theorem qn_pos (he : ∀ j, j < n → 1 ≤ e j) {i : Nat} (h : i ≤ n) : 1 ≤ qn e i := by
 have := qn_mono (i := 0) he i (by omega)
 rwa [Nat.zero_add] at this
theorem e_le (he : ∀ j, j < n → 1 ≤ e j) {i : Nat} (h : i < n) : e i ≤ qn e n := Nat.le_trans (Nat.le_mul_of_pos_left _ (qn_pos he (Nat.le_of_lt h))) (qn_le (i := i + 1) he h)
theorem plc_lt (hd : ∀ j, j < n → 1 ≤ d j) (hde : ∀ j, j < n → d j ≤ e j) {p : Nat} : ∀ {i : Nat}, i ≤ n → plc d e n i p < qn e i
 | 0, _ => Nat.one_pos
 | i + 1, h => by
  have h1 := plc_lt hd hde (p := p) (i := i) (by omega)
  have h2 : dgt d n i p < d i := Nat.mod_lt _ (hd i (by omega))
  have h3 := hde i (by omega)
  have h4 := Nat.mul_le_mul_right (e i) (show plc d e n i p + 1 ≤ qn e i from h1)
  rw [Nat.add_mul, Nat.one_mul] at h4
  show plc d e n i p * e i + dgt d n i p < qn e i * e i
  omega
theorem plc_inj (hd : ∀ j, j < n → 1 ≤ d j) (hde : ∀ j, j < n → d j ≤ e j) {p q : Nat} : ∀ {i : Nat}, i ≤ n → plc d e n i p = plc d e n i q → p / Pn d n 0 = q / Pn d n 0 → p / Pn d n i = q / Pn d n i
 | 0, _, _, h0 => h0
 | i + 1, h, h1, h0 => by
  have p2 : dgt d n i p < e i := Nat.lt_of_lt_of_le (Nat.mod_lt _ (hd i (by omega))) (hde i (by omega))
  have q2 : dgt d n i q < e i := Nat.lt_of_lt_of_le (Nat.mod_lt _ (hd i (by omega))) (hde i (by omega))
  have h2 : plc d e n i p * e i + dgt d n i p = plc d e n i q * e i + dgt d n i q := h1
  have ee : 0 < e i := by omega
  have h3 : plc d e n i p = plc d e n i q := by
   have := congrArg (· / e i) h2
   simp only [Nat.mul_comm _ (e i), Nat.mul_add_div ee, Nat.div_eq_of_lt p2, Nat.div_eq_of_lt q2, Nat.add_zero] at this
   exact this
  have h4 : dgt d n i p = dgt d n i q := by rw [h3] at h2; omega
  have h5 := plc_inj hd hde (i := i) (by omega) h3 h0
  rw [div_step (by omega), div_step (i := i) (by omega)] at h5
  have h6 : p / Pn d n (i + 1) % d i = q / Pn d n (i + 1) % d i := h4
  rw [← Nat.div_add_mod (p / Pn d n (i + 1)) (d i), ← Nat.div_add_mod (q / Pn d n (i + 1)) (d i), h5, h6]
theorem plc_uniq (hd : ∀ j, j < n → 1 ≤ d j) (hde : ∀ j, j < n → d j ≤ e j) {p q : Nat} (hp : p < Pn d n 0) (hq : q < Pn d n 0) (h : plc d e n n p = plc d e n n q) : p = q := by
 have := plc_inj hd hde (i := n) (Nat.le_refl _) h (by rw [Nat.div_eq_of_lt hp, Nat.div_eq_of_lt hq])
 rwa [Pn_end, Nat.div_one, Nat.div_one] at this
def putF (T : Nat → Nat) (La : List Int) : Nat → Nat → List Int → List Int
 | 0, _, L => L
 | c + 1, p, L => putF T La c (p + 1) (L.set (T p) (La.getD p 0))
theorem putF_add (T : Nat → Nat) (La : List Int) : ∀ (a b p : Nat) (L : List Int), putF T La (a + b) p L = putF T La b (p + a) (putF T La a p L)
 | 0, b, p, L => by rw [Nat.zero_add]; rfl
 | a + 1, b, p, L => by
  rw [show a + 1 + b = (a + b) + 1 by omega]
  show putF T La (a + b) (p + 1) _ = putF T La b (p + (a + 1)) (putF T La a (p + 1) _)
  rw [putF_add T La a b (p + 1), show p + 1 + a = p + (a + 1) by omega]
theorem putF_length (T : Nat → Nat) (La : List Int) : ∀ (c p : Nat) (L : List Int), (putF T La c p L).length = L.length
 | 0, p, L => rfl
 | c + 1, p, L => (putF_length T La c (p + 1) _).trans (List.length_set)
theorem wr_step {a b c : Nat} (h : a * b + c ≤ 65536) : wrap64 (wrap64 ((a : Int) * (b : Int)) + (c : Int)) = ((a * b + c : Nat) : Int) := by
 rw [← Int.natCast_mul]
 have h1 : wrap64 ((a * b : Nat) : Int) = ((a * b : Nat) : Int) := by unfold wrap64; omega
 rw [h1]
 unfold wrap64
 omega
theorem down_eq {D D' La : List Int} (lD : D.length = n) (lD' : D'.length = n) (rD : ∀ j, j < n → rd D (j : Int) = (d j : Int)) (rD' : ∀ j, j < n → rd D' (j : Int) = (e j : Int)) (hd : ∀ j, j < n → 1 ≤ d j) (hde : ∀ j, j < n → d j ≤ e j) (hq : qn e n ≤ 65536) (hLa : La.length ≤ 65536) :
  ∀ (c i : Nat), i + c = n → ∀ (p : Nat) (L : List Int), L.length = qn e n → Pn d n i ∣ p → p + Pn d n i ≤ La.length →
   downF La ((D.zip D').drop i) ((plc d e n i p : Nat) : Int) p L = some (p + Pn d n i, putF (plc d e n n) La (Pn d n i) p L)
 | 0, i, hi, p, L, hL, hp, hb => by
  obtain rfl : i = n := by omega
  rw [List.drop_eq_nil_of_le (by rw [List.length_zip, lD, lD', Nat.min_self]; exact Nat.le_refl _)]
  rw [Pn_end] at hb ⊢
  have h1 := plc_lt hd hde (p := p) (Nat.le_refl i)
  unfold downF leafF
  rw [Int.toNat_natCast, if_pos ⟨by omega, by omega, by omega, by omega⟩]
  rfl
 | c + 1, i, hi, p, L, hL, hp, hb => by
  have hin : i < n := by omega
  have he : ∀ j, j < n → 1 ≤ e j := fun j hj => Nat.le_trans (hd j hj) (hde j hj)
  have hlen : i < (D.zip D').length := by rw [List.length_zip, lD, lD', Nat.min_self]; exact hin
  rw [List.drop_eq_getElem_cons hlen, List.getElem_zip]
  have e1 : D[i]'(by omega) = (d i : Int) := (rd_of rfl (by omega)).symm.trans (rD i hin)
  have e2 : D'[i]'(by omega) = (e i : Int) := (rd_of rfl (by omega)).symm.trans (rD' i hin)
  rw [e1, e2]
  have hdi := hd i hin
  have hP1 := Pn_pos hd c (i + 1) (by omega)
  have hd6 : d i ≤ 65536 := Nat.le_trans (hde i hin) (Nat.le_trans (e_le he hin) hq)
  unfold downF
  rw [if_pos (by omega), Int.toNat_natCast]
  obtain ⟨P', hP'⟩ : ∃ P', P' = Pn d n (i + 1) := ⟨_, rfl⟩
  have hst := Pn_step (d := d) hin
  rw [← hP'] at hst hP1
  rw [hst] at hp hb ⊢
  obtain ⟨k, rfl⟩ := hp
  have key : ∀ (r e0 : Nat) (L : List Int), r + e0 = d i → L.length = qn e n →
    roundsF (fun e_1 => downF La ((D.zip D').drop (i + 1)) (wrap64 (wrap64 (((plc d e n i (d i * P' * k) : Nat) : Int) * (e i : Int)) + e_1))) r (e0 : Int) (d i * P' * k + e0 * P') L = some (d i * P' * k + d i * P', putF (plc d e n n) La (r * P') (d i * P' * k + e0 * P') L) := by
   intro r
   induction r with
   | zero =>
    intro e0 L hr hL
    rw [show e0 = d i by omega, Nat.zero_mul]
    rfl
   | succ r ih =>
    intro e0 L hr hL
    have hP0 : P' * (d i * k + e0) = d i * P' * k + e0 * P' := by
     rw [Nat.mul_add, Nat.mul_comm P' e0, ← Nat.mul_assoc, Nat.mul_comm P' (d i)]
    have dv : (d i * P' * k + e0 * P') / P' = d i * k + e0 := by rw [← hP0, Nat.mul_div_cancel_left _ (by omega)]
    have a1 : plc d e n i (d i * P' * k + e0 * P') = plc d e n i (d i * P' * k) := by
     refine plc_congr (by omega) ?_
     rw [div_step hin, div_step hin, ← hP', dv, show d i * P' * k / P' = d i * k by rw [Nat.mul_right_comm, Nat.mul_div_cancel _ (by omega)], Nat.mul_add_div (by omega), Nat.mul_div_cancel_left _ (by omega), Nat.div_eq_of_lt (by omega), Nat.add_zero]
    have a2 : plc d e n (i + 1) (d i * P' * k + e0 * P') = plc d e n i (d i * P' * k) * e i + e0 := by
     show plc d e n i _ * e i + dgt d n i _ = _
     rw [a1]
     congr 1
     unfold dgt
     rw [← hP', dv, Nat.mul_add_mod, Nat.mod_eq_of_lt (by omega)]
    have alt := plc_lt hd hde (p := d i * P' * k + e0 * P') (i := i + 1) (by omega)
    have hql := qn_le he (i := i + 1) (by omega)
    have hmul : (e0 + 1) * P' ≤ d i * P' := Nat.mul_le_mul_right _ (by omega)
    rw [Nat.add_mul, Nat.one_mul] at hmul
    have g := down_eq lD lD' rD rD' hd hde hq hLa c (i + 1) (by omega) (d i * P' * k + e0 * P') L hL (by rw [← hP', ← hP0]; exact Nat.dvd_mul_right _ _) (by rw [← hP']; omega)
    rw [a2, ← hP'] at g
    rw [a2] at alt
    unfold roundsF
    rw [wr_step (by omega), g, Option.bind_some]
    have g2 := ih (e0 + 1) (putF (plc d e n n) La P' (d i * P' * k + e0 * P') L) (by omega) (by rw [putF_length]; exact hL)
    rw [Nat.add_mul, Nat.one_mul, ← Nat.add_assoc] at g2
    rw [show (r + 1) * P' = P' + r * P' by rw [Nat.add_mul, Nat.one_mul, Nat.add_comm], putF_add]
    exact g2
  have := key (d i) 0 L (Nat.add_zero _) hL
  rw [Nat.zero_mul, Nat.add_zero] at this
  exact this
theorem each_eq {D D' La L : List Int} (lD : D.length = n) (lD' : D'.length = n) (hn : n ≤ 1000000) (rD : ∀ j, j < n → rd D (j : Int) = (d j : Int)) (rD' : ∀ j, j < n → rd D' (j : Int) = (e j : Int)) (hd : ∀ j, j < n → 1 ≤ d j) (hde : ∀ j, j < n → d j ≤ e j) (hq : qn e n ≤ 65536) (hLa : La.length ≤ 65536) (hP : La.length = Pn d n 0) (hL : L.length = qn e n) :
  eachF D D' La L = some (putF (plc d e n n) La La.length 0 L) := by
 have h := down_eq lD lD' rD rD' hd hde hq hLa n 0 (Nat.zero_add _) 0 L hL (Nat.dvd_zero _) (by omega)
 rw [List.drop_zero] at h
 have hq1 := qn_pos (n := n) (fun j hj => Nat.le_trans (hd j hj) (hde j hj)) (Nat.le_refl n)
 rw [eachF_eq]
 unfold eachF0
 rw [if_pos ⟨by omega, by omega, by omega⟩]
 have h : downF La (D.zip D') 0 0 L = _ := h
 rw [h, hP]
 rfl
end
theorem gset {l : List Int} {i j : Nat} (v : Int) (hi : i < l.length) : (l.set i v).getD j 0 = if j = i then v else l.getD j 0 := by
 by_cases h : j = i
 ·subst h; simp [List.getD_eq_getElem?_getD, hi]
 ·rw [if_neg h]; simp [List.getD_eq_getElem?_getD, List.getElem?_set, Ne.symm h]
theorem putF_keep {T : Nat → Nat} {La : List Int} {t : Nat} : ∀ (c p : Nat) (L : List Int), (∀ q, p ≤ q → q < p + c → T q ≠ t) → (∀ q, p ≤ q → q < p + c → T q < L.length) → (putF T La c p L).getD t 0 = L.getD t 0
 | 0, p, L, _, _ => rfl
 | c + 1, p, L, h, hl => by
  show (putF T La c (p + 1) _).getD t 0 = _
  rw [putF_keep c (p + 1) _ (fun q h1 h2 => h q (by omega) (by omega)) (fun q h1 h2 => by rw [List.length_set]; exact hl q (by omega) (by omega)), gset _ (hl p (by omega) (by omega)), if_neg fun e => h p (by omega) (by omega) e.symm]
theorem putF_at {T : Nat → Nat} {La : List Int} {N : Nat} (hu : ∀ p q, p < N → q < N → T p = T q → p = q) : ∀ (c p : Nat) (L : List Int), p + c = N → (∀ q, q < N → T q < L.length) → ∀ q, p ≤ q → q < N → (putF T La c p L).getD (T q) 0 = La.getD q 0
 | 0, p, L, hp, hl, q, h1, h2 => by omega
 | c + 1, p, L, hp, hl, q, h1, h2 => by
  show (putF T La c (p + 1) _).getD (T q) 0 = _
  by_cases hq : q = p
  ·subst hq
   rw [putF_keep c (q + 1) _ (fun r h3 h4 e => by have := hu r q (by omega) h2 e; omega) (fun r h3 h4 => by rw [List.length_set]; exact hl r (by omega)), gset _ (hl q h2), if_pos rfl]
  ·exact putF_at hu c (p + 1) _ (by omega) (fun r hr => by rw [List.length_set]; exact hl r hr) q (by omega) h2
theorem sum_put {T : Nat → Nat} {x : Nat → Nat} {y : Nat → Nat} {N : Nat} (hu : ∀ p q, p < N → q < N → T p = T q → p = q) {M : Nat} (hT : ∀ q, q < N → T q < M) (hx : ∀ q, q < N → y (T q) = x q) (h0 : ∀ t, t < M → (∀ q, q < N → T q ≠ t) → y t = 0) (g : Nat → Nat) :
  sumTo (fun t => y t * g t) M = sumTo (fun q => x q * g (T q)) N := by
 have h1 : ∀ t, t < M → y t * g t = sumTo (fun q => if T q = t then x q * g (T q) else 0) N := fun t ht => by
  by_cases hq : ∃ q, q < N ∧ T q = t
  ·obtain ⟨q, hq, rfl⟩ := hq
   rw [sumTo_one (i := q) N hq fun k hk hne => if_neg fun e => hne (hu k q hk hq e), if_pos rfl, hx q hq]
  ·rw [h0 t ht fun q hN e => hq ⟨q, hN, e⟩, Nat.zero_mul, sumTo_zero N fun k hk => if_neg fun e => hq ⟨k, hk, e⟩]
 rw [sumTo_congr M h1, sumTo_swap (fun t q => if T q = t then x q * g (T q) else 0) N M]
 refine sumTo_congr N fun q hq => ?_
 rw [sumTo_one (i := T q) M (hT q hq) fun k _ hk => if_neg fun e => hk e.symm, if_pos rfl]
end Go.Proofs.YtkoeddgbhohggaaGreatDoor.Pure
end
section
namespace Go.Proofs.YtkoeddgbhohggaaGreatDoor.Pure
open Go.RowKit Go.Proofs.YtkoeddgbhohggaaGreatDoor.F Go.Proofs.YtkoeddgbhohggaaGreatDoorW.PrintWords Go.Proofs.YtkoeddgbhohggaaGreatDoorW.PrintLast Go.Proofs.YtkoeddgbhohggaaGreatDoorW.PrintMore
open Go.Proofs.YtkoeddgbhohggaaGreatDoor.E (eachF)
set_option linter.unusedVariables false
set_option linter.unusedSimpArgs false
def acg (e f : Nat → Nat) : Nat → Nat
 | 0 => 0
 | i + 1 => acg e f i * e i + f i
theorem plc_acg (d e : Nat → Nat) (n p : Nat) : ∀ i, plc d e n i p = acg e (fun j => dgt d n j p) i
 | 0 => rfl
 | i + 1 => by
  show plc d e n i p * e i + dgt d n i p = acg e _ i * e i + dgt d n i p
  rw [plc_acg d e n p i]
theorem acg_add (e f g : Nat → Nat) : ∀ i, acg e (fun j => f j + g j) i = acg e f i + acg e g i
 | 0 => rfl
 | i + 1 => by
  show acg e _ i * e i + (f i + g i) = (acg e f i * e i + f i) + (acg e g i * e i + g i)
  rw [acg_add e f g i, Nat.add_mul]
  omega
theorem acg_lt {e f : Nat → Nat} {n : Nat} (hf : ∀ j, j < n → f j < e j) : ∀ {i : Nat}, i ≤ n → acg e f i < qn e i
 | 0, _ => Nat.one_pos
 | i + 1, h => by
  have h1 := acg_lt hf (i := i) (by omega)
  have h2 := hf i (by omega)
  have h4 := Nat.mul_le_mul_right (e i) (show acg e f i + 1 ≤ qn e i from h1)
  rw [Nat.add_mul, Nat.one_mul] at h4
  show acg e f i * e i + f i < qn e i * e i
  omega
theorem qn_Pn {d : Nat → Nat} {n : Nat} : ∀ {i : Nat}, i ≤ n → qn d i * Pn d n i = Pn d n 0
 | 0, _ => Nat.one_mul _
 | i + 1, h => by
  rw [← qn_Pn (i := i) (by omega), Pn_step (i := i) (by omega), ← Nat.mul_assoc]
  rfl
structure Bx (D : List Int) (N : Nat) : Prop where
 n8 : D.length ≤ 8
 pos : ∀ j, j < D.length → 1 ≤ at0 D j
 rdc : ∀ j, j < D.length → rd D (j : Int) = ((at0 D j : Nat) : Int)
 qe : qn (at0 D) D.length = N
 pe : Pn (at0 D) D.length 0 = N
 le : N ≤ 65536
theorem szL_ok {D : List Int} (hr : ∀ j, j < D.length → rd D (j : Int) = ((at0 D j : Nat) : Int)) {r : Int} : ∀ (c i : Nat), i + c = D.length → qn (at0 D) i ≤ 65536 → szL ((qn (at0 D) i : Nat) : Int) (D.drop i) = (r, 0) → r = ((qn (at0 D) D.length : Nat) : Int) ∧ qn (at0 D) D.length ≤ 65536
 | 0, i, h, hq, hs => by
  obtain rfl : i = D.length := by omega
  rw [List.drop_length] at hs
  unfold szL at hs
  injection hs with hs _
  exact ⟨hs.symm, hq⟩
 | c + 1, i, h, hq, hs => by
  rw [rd_drop (by omega), hr i (by omega)] at hs
  unfold szL at hs
  rw [← Int.natCast_mul] at hs
  split at hs
  ·injection hs with _ hs
   exact absurd hs (by decide)
  ·exact szL_ok hr c (i + 1) (by omega) (show qn (at0 D) i * at0 D i ≤ 65536 by omega) hs
theorem bx_of {D : List Int} (h : (szF D).2 = 0) : ∃ N, Bx D N ∧ (szF D).1 = (N : Int) := by
 unfold szF at h ⊢
 split at h
 ·exact absurd h (by decide)
 ·rename_i h8
  split at h
  ·exact absurd h (by decide)
  ·rename_i hlow
   have hlow : lowB D = false := by simpa using hlow
   rw [if_neg h8, if_neg (by rw [hlow]; exact Bool.false_ne_true)]
   have hp : ∀ j, j < D.length → 1 ≤ rd D (j : Int) := fun j hj => low_pos hlow hj
   have hr : ∀ j, j < D.length → rd D (j : Int) = ((at0 D j : Nat) : Int) := fun j hj => by
    have := hp j hj
    unfold at0; omega
   obtain ⟨h1, h2⟩ := szL_ok (r := (szL 1 D).1) hr D.length 0 (Nat.zero_add _) (show (1 : Nat) ≤ 65536 by decide) (by rw [List.drop_zero]; exact Prod.ext rfl h)
   refine ⟨qn (at0 D) D.length, ⟨by omega, fun j hj => by have := hp j hj; unfold at0; omega, hr, rfl, ?_, h2⟩, h1⟩
   have := qn_Pn (d := at0 D) (n := D.length) (Nat.le_refl _)
   rw [Pn_end, Nat.mul_one] at this
   exact this.symm
theorem exps_l3 {D : List Int} {N p : Nat} (hB : Bx D N) (hp : p ≤ 65536) : ∀ (i : Nat), i ≤ D.length →
  Ev (fun k => Zz105.l3 k D ((p / Pn (at0 D) D.length i : Nat) : Int) (tab D.length fun j => if i ≤ j then dgt (at0 D) D.length j p else 0) ((i : Int) - 1)) (tab D.length fun j => dgt (at0 D) D.length j p)
 | 0, _ => by
  rw [tab_ext (n := D.length) (g := fun j => dgt (at0 D) D.length j p) fun q hq => if_pos (Nat.zero_le _)]
  exact Ev.step (fun k => Zz105.l3_eq ..) (Ev.neg (by omega) (Ev.now _))
 | i + 1, hi => by
  have hn8 := hB.n8
  have hpos := hB.pos i (by omega)
  have g := exps_l3 hB hp i (by omega)
  have e0 : ((i + 1 : Nat) : Int) - 1 = (i : Int) := by omega
  have hr := hB.rdc i (by omega)
  have hlen : (tab D.length fun j => if i + 1 ≤ j then dgt (at0 D) D.length j p else 0).length = D.length := tab_length _ _
  have hle := Nat.div_le_self p (Pn (at0 D) D.length i)
  have e1 : wrap64 (Int.tdiv ((p / Pn (at0 D) D.length (i + 1) : Nat) : Int) ((at0 D i : Nat) : Int)) = ((p / Pn (at0 D) D.length i : Nat) : Int) := by
   rw [tdivN, ← div_step (by omega), w64_nat (by omega)]
  have e2 : (tab D.length fun j => if i + 1 ≤ j then dgt (at0 D) D.length j p else 0).set (i : Int).toNat (Int.tmod ((p / Pn (at0 D) D.length (i + 1) : Nat) : Int) ((at0 D i : Nat) : Int)) = tab D.length fun j => if i ≤ j then dgt (at0 D) D.length j p else 0 := by
   rw [Int.toNat_natCast, tmodN, tab_set]
   refine tab_ext fun q hq => ?_
   by_cases h : q = i
   ·subst h; rw [if_pos rfl, if_pos (Nat.le_refl _)]; rfl
   ·rw [if_neg h]
    by_cases h2 : i ≤ q
    ·rw [if_pos h2, if_pos (by omega)]
    ·rw [if_neg h2, if_neg (by omega)]
  rw [e0]
  refine Ev.step (fun k => Zz105.l3_eq ..) ?_
  rw [hr, e1, e2, w64_dec (a := i) (by omega)]
  exact Ev.pos (by omega) (Ev.pos (by omega) (Ev.pos (by omega) (Ev.neg (by omega) (Ev.pos (by omega) (Ev.pos (by omega) (Ev.pos (by omega) (Ev.pos (by omega) (Ev.neg (by omega) g))))))))
theorem exps_ev {D : List Int} {N p : Nat} (hB : Bx D N) (hp : p ≤ 65536) : Ev (fun k => Zz105.f k D (p : Int)) (tab D.length fun j => dgt (at0 D) D.length j p) := by
 have hn8 := hB.n8
 have g := exps_l3 hB hp D.length (Nat.le_refl _)
 rw [Pn_end, Nat.div_one, tab_ext (n := D.length) (f := fun j => if D.length ≤ j then dgt (at0 D) D.length j p else 0) (g := fun _ => 0) fun q hq => if_neg (by omega), ← tab_zero] at g
 refine Ev.congr (fun k => Zz105.f_eq ..) (Ev.pos (by omega) (Ev.pos (by omega) ?_))
 rw [Int.toNat_natCast, w64_dec (by omega)]
 exact g
theorem plL_ok {E : List Int} {M : Nat} {f : Nat → Nat} (hE : Bx E M) (hf : ∀ j, j < E.length → f j < at0 E j) : ∀ (c i : Nat), i + c = E.length → plL E (tab E.length f) c i ((acg (at0 E) f i : Nat) : Int) = (((acg (at0 E) f E.length : Nat) : Int), 0)
 | 0, i, hi => by
  obtain rfl : i = E.length := by omega
  rfl
 | c + 1, i, hi => by
  have h1 := hf i (by omega)
  have h2 := acg_lt hf (i := i + 1) (by omega)
  have h3 := qn_le (n := E.length) hE.pos (i := i + 1) (by omega)
  have h4 := hE.le
  rw [hE.qe] at h3
  unfold plL
  rw [rd_tab f (by omega), hE.rdc i (by omega), if_neg (by omega), if_neg (by omega), wr_step (show acg (at0 E) f i * at0 E i + f i ≤ 65536 from by have : acg (at0 E) f (i + 1) = acg (at0 E) f i * at0 E i + f i := rfl; omega)]
  exact plL_ok hE hf c (i + 1) (by omega)
theorem rplace_ok {E : List Int} {M : Nat} {f : Nat → Nat} (hE : Bx E M) (hs : (szF E).2 = 0) (hf : ∀ j, j < E.length → f j < at0 E j) : Ev (fun k => Zz106.f k E (tab E.length f)) (((acg (at0 E) f E.length : Nat) : Int), 0) := by
 have g := rplace_ev (D := E) (E := tab E.length f) (by have := hE.n8; omega)
 unfold plF at g
 rw [if_pos hs, if_pos (tab_length _ _)] at g
 have h := plL_ok hE hf E.length 0 (Nat.zero_add _)
 have h : plL E (tab E.length f) E.length 0 0 = _ := h
 rw [h] at g
 exact g
def mayB (D La : List Int) : Prop := (szF D).2 = 0 ∧ (szF D).1 = (La.length : Int)
instance (D La : List Int) : Decidable (mayB D La) := by unfold mayB; infer_instance
theorem may_sz {D La : List Int} {f : Nat → Option Bool} {s : Nat → Option (Int × Int)} (hs : Ev s (szF D)) (h : ∀ k, f k = (s k).bind fun t0 => if t0.2 = 0 then some (decide (t0.1 = (La.length : Int))) else some false) : Ev f (decide (mayB D La)) := by
 refine Ev.congr h (Ev.bind hs ?_)
 by_cases h2 : (szF D).2 = 0
 ·refine Ev.pos h2 (Ev.ret (decide_eq_decide.2 ⟨fun e => ⟨h2, e⟩, fun e => e.2⟩))
 ·exact Ev.neg h2 (Ev.ret (decide_eq_false fun e => h2 e.1).symm)
theorem bmay_ev {D La : List Int} (hD : D.length ≤ 1000) : Ev (fun k => Zz21.f k D La) (decide (mayB D La)) := may_sz (size_ev hD) fun k => Zz21.f_eq ..
theorem lmay_ev {D La : List Int} (hD : D.length ≤ 1000) : Ev (fun k => Zz92.f k D La) (decide (mayB D La)) := may_sz (rsize_ev hD) fun k => Zz92.f_eq ..
def lessB (D E : List Int) : Prop := ∃ j, j < E.length ∧ rd E (j : Int) < rd D (j : Int)
theorem wid_l4 {D La E : List Int} {R : List Int × List Int × Int} (hE : E.length ≤ 1000) (he : E.length = D.length)
  (hg : ¬ lessB D E → Ev (fun k => Zz28.l4 k D La E [] [] E (E.length : Int) (E.length : Int)) R) (hb : lessB D E → R = ([], [], 1)) : ∀ (c i : Nat), i + c = E.length → (∀ j, j < i → ¬ rd E (j : Int) < rd D (j : Int)) → Ev (fun k => Zz28.l4 k D La E [] [] E (E.length : Int) (i : Int)) R
 | 0, i, hi, hj => by
  obtain rfl : i = E.length := by omega
  exact hg fun ⟨j, h1, h2⟩ => hj j h1 h2
 | c + 1, i, hi, hj => by
  refine Ev.step (fun k => Zz28.l4_eq ..) (Ev.pos (by omega) (Ev.pos (by omega) (Ev.pos (by omega) (Ev.pos (by omega) (Ev.pos (by omega) ?_)))))
  by_cases h : rd E (i : Int) < rd D (i : Int)
  ·rw [hb ⟨i, by omega, h⟩]
   exact Ev.pos h (Ev.now _)
  ·have g := wid_l4 hE he hg hb c (i + 1) (by omega) fun j h1 => by
    by_cases h2 : j = i
    ·subst h2; exact h
    ·exact hj j (by omega)
   rw [← w64_succ (a := i) (by omega)] at g
   exact Ev.neg h g
theorem widened_bad {D La E : List Int} (hD : D.length ≤ 1000) (hE : E.length ≤ 1000) (h : ¬ mayB D La ∨ E.length ≠ D.length ∨ lessB D E) : Ev (fun k => Zz28.f k D La E) ([], [], 1) := by
 refine Ev.congr (fun k => Zz28.f_eq ..) (Ev.bind (bmay_ev hD) ?_)
 by_cases h1 : mayB D La
 ·refine Ev.neg (by rw [decide_eq_true h1]; decide) ?_
  by_cases h2 : E.length = D.length
  ·have h3 : lessB D E := by
    rcases h with h | h | h
    ·exact absurd h1 h
    ·exact absurd h2 h
    ·exact h
   exact Ev.pos (by omega) (wid_l4 hE h2 (fun hn => absurd h3 hn) (fun _ => rfl) E.length 0 (Nat.zero_add _) fun j hj => by omega)
  ·exact Ev.neg (by omega) (Ev.now _)
 ·exact Ev.pos (by rw [decide_eq_false h1]; rfl) (Ev.now _)
theorem widened_sz {D La E : List Int} (hD : D.length ≤ 1000) (hE : E.length ≤ 1000) (h1 : mayB D La) (h2 : E.length = D.length) (h3 : ¬ lessB D E) (h4 : (szF E).2 ≠ 0) : Ev (fun k => Zz28.f k D La E) ([], [], (szF E).2) := by
 refine Ev.congr (fun k => Zz28.f_eq ..) (Ev.bind (bmay_ev hD) (Ev.neg (by rw [decide_eq_true h1]; decide) (Ev.pos (by omega) (wid_l4 hE h2 (fun _ => ?_) (fun e => absurd e h3) E.length 0 (Nat.zero_add _) fun j hj => by omega))))
 exact Ev.step (fun k => Zz28.l4_eq ..) (Ev.neg (by omega) (Ev.bind (size_ev hE) (Ev.neg h4 (Ev.now _))))
def tp (D E : List Int) (p : Nat) : Nat := plc (at0 D) (at0 E) D.length D.length p
def wide (D E La : List Int) (M : Nat) : List Int := putF (tp D E) La La.length 0 (List.replicate M 0)
theorem widened_ok {D La E : List Int} {N M : Nat} (bD : Bx D N) (bE : Bx E M) (hN : (szF D).1 = (N : Int)) (hM : (szF E).1 = (M : Int)) (h1 : mayB D La) (h2 : E.length = D.length) (h3 : ¬ lessB D E) (h4 : (szF E).2 = 0) : Ev (fun k => Zz28.f k D La E) (E, wide D E La M, 0) := by
 have n8 := bE.n8
 have hLa : La.length = N := by have := h1.2; omega
 have hle := bE.le
 have hle' := bD.le
 have hM1 : 1 ≤ M := by rw [← bE.qe]; exact qn_pos (n := E.length) bE.pos (Nat.le_refl _)
 have hg : Ev (fun k => Zz70.f k E) E := Ev.congr (fun k => rfl) (Ev.pos (by omega) (Ev.now _))
 have he := each_eq (n := D.length) (d := at0 D) (e := at0 E) (D := D) (D' := E) (La := La) (L := List.replicate M 0) rfl h2 (by omega) bD.rdc (by rw [← h2]; exact bE.rdc) bD.pos (fun j hj => by
  have h5 : ¬ rd E (j : Int) < rd D (j : Int) := fun e => h3 ⟨j, by omega, e⟩
  rw [bD.rdc j hj, bE.rdc j (by omega)] at h5
  omega) (by rw [← h2, bE.qe]; exact bE.le) (by omega) (by rw [bD.pe]; exact hLa) (by rw [List.length_replicate, ← h2, bE.qe])
 refine Ev.congr (fun k => Zz28.f_eq ..) (Ev.bind (bmay_ev (by have := bD.n8; omega)) (Ev.neg (by rw [decide_eq_true h1]; decide) (Ev.pos (by omega) (wid_l4 (by omega) h2 (fun _ => ?_) (fun e => absurd e h3) E.length 0 (Nat.zero_add _) fun j hj => by omega))))
 refine Ev.step (fun k => Zz28.l4_eq ..) (Ev.neg (by omega) (Ev.bind (size_ev (by omega)) (Ev.pos h4 (Ev.bind hg ?_))))
 rw [hM, Int.toNat_natCast]
 refine Ev.pos (by omega) (Ev.pos (by omega) ?_)
 rw [he]
 exact Ev.now _
end Go.Proofs.YtkoeddgbhohggaaGreatDoor.Pure
end
section
namespace Go.Proofs.YtkoeddgbhohggaaGreatDoor.Pure
open Go.RowKit Go.Proofs.YtkoeddgbhohggaaGreatDoor.F Go.Proofs.YtkoeddgbhohggaaGreatDoorW.PrintWords Go.Proofs.YtkoeddgbhohggaaGreatDoorW.PrintLast Go.Proofs.YtkoeddgbhohggaaGreatDoorW.PrintMore
set_option linter.unusedVariables false
set_option linter.unusedSimpArgs false
theorem tp_lt {D E : List Int} {N M : Nat} (bD : Bx D N) (bE : Bx E M) (h2 : E.length = D.length) (hde : ∀ j, j < D.length → at0 D j ≤ at0 E j) (p : Nat) : tp D E p < M := by
 have := plc_lt (d := at0 D) (e := at0 E) (n := D.length) bD.pos hde (p := p) (Nat.le_refl _)
 rwa [← h2, bE.qe, h2] at this
theorem tp_uniq {D E : List Int} {N : Nat} (bD : Bx D N) (hde : ∀ j, j < D.length → at0 D j ≤ at0 E j) (p q : Nat) (hp : p < N) (hq : q < N) (h : tp D E p = tp D E q) : p = q :=
 plc_uniq (d := at0 D) (e := at0 E) (n := D.length) bD.pos hde (by rw [bD.pe]; exact hp) (by rw [bD.pe]; exact hq) h
theorem wide_length (D E La : List Int) (M : Nat) : (wide D E La M).length = M := by unfold wide; rw [putF_length, List.length_replicate]
theorem at0_getD (l : List Int) (q : Nat) : at0 l q = (l.getD q 0).toNat := by unfold at0 rd; rw [Int.toNat_natCast]
theorem put_WF {T : Nat → Nat} {La : List Int} (hw : WF La) : ∀ (c p : Nat) {L : List Int}, WF L → WF (putF T La c p L)
 | 0, p, L, h => h
 | c + 1, p, L, h => put_WF hw c (p + 1) (h.set _ (by have := hw.rdU (p : Int); unfold rd at this; rwa [Int.toNat_natCast] at this))
theorem wide_WF {D E La : List Int} {M : Nat} (hw : WF La) : WF (wide D E La M) := put_WF hw _ _ (WF.zeros M)
theorem wide_sum {D E La : List Int} {N M : Nat} (bD : Bx D N) (bE : Bx E M) (h2 : E.length = D.length) (hde : ∀ j, j < D.length → at0 D j ≤ at0 E j) (hL : La.length = N) (g : Nat → Nat) :
  sumTo (fun t => at0 (wide D E La M) t * g t) M = sumTo (fun q => at0 La q * g (tp D E q)) N := by
 have hT := fun q => tp_lt bD bE h2 hde q
 refine sum_put (fun p q hp hq h => tp_uniq bD hde p q hp hq h) (fun q _ => hT q) (fun q hq => ?_) (fun t ht hn => ?_) g
 ·rw [at0_getD, at0_getD]
  unfold wide
  rw [putF_at (N := N) (fun p q hp hq h => tp_uniq bD hde p q hp hq h) La.length 0 _ (by omega) (fun q _ => by rw [List.length_replicate]; exact hT q) q (Nat.zero_le _) hq]
 ·rw [at0_getD]
  unfold wide
  rw [putF_keep _ _ _ (fun q _ hq => hn q (by omega)) fun q _ _ => by rw [List.length_replicate]; exact hT q]
  simp [List.getD_eq_getElem?_getD, ht]
def bxS (A B C La Lb : List Int) (t : Nat) : Nat := sumTo (fun i => sumTo (fun k => if tp A C i + tp B C k = t then at0 La i * at0 Lb k else 0) Lb.length) La.length
theorem wide_conv {A B C La Lb : List Int} {NA NB M : Nat} (bA : Bx A NA) (bB : Bx B NB) (bC : Bx C M) (hA : C.length = A.length) (hB : C.length = B.length) (dA : ∀ j, j < A.length → at0 A j ≤ at0 C j) (dB : ∀ j, j < B.length → at0 B j ≤ at0 C j) (lA : La.length = NA) (lB : Lb.length = NB) (t : Nat) :
  cf (wide A C La M) (wide B C Lb M) t = bxS A B C La Lb t := by
 unfold cf bxS conv
 rw [wide_length, wide_length, lA, lB]
 have h1 : ∀ a, sumTo (fun b => if a + b = t then at0 (wide A C La M) a * at0 (wide B C Lb M) b else 0) M = at0 (wide A C La M) a * sumTo (fun k => at0 Lb k * (if a + tp B C k = t then 1 else 0)) NB := fun a => by
  rw [← wide_sum bB bC hB dB lB fun b => if a + b = t then 1 else 0, Nat.mul_comm, sumTo_mul]
  refine sumTo_congr M fun b _ => ?_
  split
  ·rw [Nat.mul_one, Nat.mul_comm]
  ·rw [Nat.mul_zero, Nat.zero_mul]
 rw [sumTo_congr M fun a _ => h1 a, wide_sum bA bC hA dA lA]
 refine sumTo_congr NA fun i _ => ?_
 rw [Nat.mul_comm, sumTo_mul]
 refine sumTo_congr NB fun k _ => ?_
 split
 ·rw [Nat.mul_one, Nat.mul_comm]
 ·rw [Nat.mul_zero, Nat.zero_mul]
def sumD (A B : List Int) : List Int := tab A.length fun j => at0 A j + at0 B j - 1
theorem sumD_len (A B : List Int) : (sumD A B).length = A.length := tab_length _ _
theorem sumD_at {A B : List Int} {j : Nat} (h : j < A.length) : at0 (sumD A B) j = at0 A j + at0 B j - 1 := by
 unfold at0 sumD
 rw [rd_tab (fun j => at0 A j + at0 B j - 1) h, Int.toNat_natCast]
 rfl
theorem mul_l6 {A La B Lb : List Int} {m NA NB : Nat} {s0 s1 s2 : Int} {R : List Int × List Int × Int} (bA : Bx A NA) (bB : Bx B NB) (he : A.length = B.length) (g : Ev (fun k => Zz24.l6 k (m : Int) A La B Lb s0 s1 s2 (sumD A B) (A.length : Int) (A.length : Int)) R) : ∀ (c i : Nat), i + c = A.length →
  Ev (fun k => Zz24.l6 k (m : Int) A La B Lb s0 s1 s2 (tab A.length fun j => if j < i then at0 A j + at0 B j - 1 else 0) (A.length : Int) (i : Int)) R
 | 0, i, hi => by
  obtain rfl : i = A.length := by omega
  rw [tab_ext (n := A.length) (g := fun j => at0 A j + at0 B j - 1) fun q hq => if_pos hq]
  exact g
 | c + 1, i, hi => by
  have n8 := bA.n8
  have gi := mul_l6 bA bB he g c (i + 1) (by omega)
  have pA := bA.pos i (by omega)
  have pB := bB.pos i (by omega)
  have q1 := e_le (n := A.length) bA.pos (i := i) (by omega)
  have q2 := e_le (n := B.length) bB.pos (i := i) (by omega)
  rw [bA.qe] at q1
  rw [bB.qe] at q2
  have l1 := bA.le
  have l2 := bB.le
  have e1 : wrap64 (wrap64 (((at0 A i : Nat) : Int) + ((at0 B i : Nat) : Int)) - 1) = ((at0 A i + at0 B i - 1 : Nat) : Int) := by
   rw [w64_of (x := ((at0 A i : Nat) : Int) + ((at0 B i : Nat) : Int)) (by omega) (by omega), w64_of (by omega) (by omega)]; omega
  have e2 : (tab A.length fun j => if j < i then at0 A j + at0 B j - 1 else 0).set (i : Int).toNat ((at0 A i + at0 B i - 1 : Nat) : Int) = tab A.length fun j => if j < i + 1 then at0 A j + at0 B j - 1 else 0 := by
   rw [Int.toNat_natCast, tab_set]
   refine tab_ext fun q hq => ?_
   by_cases h : q = i
   ·subst h; rw [if_pos rfl, if_pos (Nat.lt_succ_self q)]
   ·rw [if_neg h]
    by_cases h2 : q < i
    ·rw [if_pos h2, if_pos (by omega)]
    ·rw [if_neg h2, if_neg (by omega)]
  rw [← w64_succ (a := i) (by omega)] at gi
  refine Ev.step (fun k => Zz24.l6_eq ..) ?_
  rw [bA.rdc i (by omega), bB.rdc i (by omega), e1, e2]
  exact Ev.pos (by omega) (Ev.pos (by omega) (Ev.pos (by omega) (Ev.pos (by omega) (Ev.pos (by omega) (Ev.pos (by omega) (Ev.pos (by rw [tab_length]; omega) gi))))))
theorem mul_bad {A La B Lb : List Int} {m : Nat} (hA : A.length ≤ 1000) (hB : B.length ≤ 1000) (h : (m < 2 ∨ 9223372036854775808 ≤ m) ∨ ¬ mayB A La ∨ ¬ mayB B Lb ∨ A.length ≠ B.length) : Ev (fun k => Zz24.f k A La B Lb (m : Int)) ([], [], 1) := by
 by_cases hm : m < 2 ∨ 9223372036854775808 ≤ m
 ·exact Ev.congr (fun k => Zz24.f_eq ..) (Ev.bind (new_no hm) (Ev.congr (fun q => elim_none _ _) (Ev.neg (by decide) (Ev.now _))))
 ·obtain ⟨s1, s2, gn⟩ := new_ev (p := m) (by omega) (by omega)
  refine Ev.congr (fun k => Zz24.f_eq ..) (Ev.bind gn (Ev.congr (fun q => elim_some _ _ _) (Ev.pos rfl (Ev.bind (bmay_ev hA) ?_))))
  by_cases h1 : mayB A La
  ·refine Ev.neg (by rw [decide_eq_true h1]; decide) (Ev.bind (bmay_ev hB) ?_)
   by_cases h2 : mayB B Lb
   ·refine Ev.neg (by rw [decide_eq_true h2]; decide) (Ev.neg (fun e => ?_) (Ev.now _))
    rcases h with h | h | h | h
    ·exact hm h
    ·exact h h1
    ·exact h h2
    ·omega
   ·exact Ev.pos (by rw [decide_eq_false h2]; rfl) (Ev.now _)
  ·exact Ev.pos (by rw [decide_eq_false h1]; rfl) (Ev.now _)
theorem mul_start {A La B Lb : List Int} {m NA NB : Nat} {R : List Int × List Int × Int} (h2 : 2 ≤ m) (hm : m < 9223372036854775808) (bA : Bx A NA) (bB : Bx B NB) (mA : mayB A La) (mB : mayB B Lb) (he : A.length = B.length)
  (g : ∀ s1 s2, Ev (fun k => Zz24.l6 k (m : Int) A La B Lb (m : Int) s1 s2 (sumD A B) (A.length : Int) (A.length : Int)) R) : Ev (fun k => Zz24.f k A La B Lb (m : Int)) R := by
 obtain ⟨s1, s2, gn⟩ := new_ev h2 hm
 have n8 := bA.n8
 have n8' := bB.n8
 have g := mul_l6 bA bB he (g s1 s2) A.length 0 (Nat.zero_add _)
 rw [tab_ext (n := A.length) (f := fun j => if j < 0 then at0 A j + at0 B j - 1 else 0) (g := fun _ => 0) fun q hq => if_neg (by omega), ← tab_zero] at g
 refine Ev.congr (fun k => Zz24.f_eq ..) (Ev.bind gn (Ev.congr (fun q => elim_some _ _ _) (Ev.pos rfl (Ev.bind (bmay_ev (by omega)) (Ev.neg (by rw [decide_eq_true mA]; decide) (Ev.bind (bmay_ev (by omega)) (Ev.neg (by rw [decide_eq_true mB]; decide) (Ev.pos (by omega) (Ev.pos (by omega) (Ev.pos (by omega) ?_))))))))))
 rw [Int.toNat_natCast, List.length_replicate]
 exact g
theorem mul_sz {A La B Lb : List Int} {m NA NB : Nat} (h2 : 2 ≤ m) (hm : m < 9223372036854775808) (bA : Bx A NA) (bB : Bx B NB) (mA : mayB A La) (mB : mayB B Lb) (he : A.length = B.length) (hs : (szF (sumD A B)).2 ≠ 0) :
  Ev (fun k => Zz24.f k A La B Lb (m : Int)) ([], [], (szF (sumD A B)).2) := by
 have n8 := bA.n8
 exact mul_start h2 hm bA bB mA mB he fun s1 s2 => Ev.step (fun k => Zz24.l6_eq ..) (Ev.neg (by omega) (Ev.bind (size_ev (by rw [sumD_len]; omega)) (Ev.neg hs (Ev.now _))))
theorem bmul_ev {A La B Lb : List Int} {m NA NB M : Nat} (h2 : 2 ≤ m) (hm : m < 9223372036854775808) (wA : WF La) (wB : WF Lb) (bA : Bx A NA) (bB : Bx B NB) (nA : (szF A).1 = (NA : Int)) (nB : (szF B).1 = (NB : Int)) (mA : mayB A La) (mB : mayB B Lb) (he : A.length = B.length) (hs : (szF (sumD A B)).2 = 0) (bC : Bx (sumD A B) M) (hM : (szF (sumD A B)).1 = (M : Int)) :
  Ev (fun k => Zz24.f k A La B Lb (m : Int)) (sumD A B, tab M (fun t => bxS A B (sumD A B) La Lb t % m), 0) := by
 have n8 := bA.n8
 have n8' := bB.n8
 have lC := sumD_len A B
 have lA : La.length = NA := by have := mA.2; omega
 have lB : Lb.length = NB := by have := mB.2; omega
 have dA : ∀ j, j < A.length → at0 A j ≤ at0 (sumD A B) j := fun j hj => by
  rw [sumD_at hj]
  have := bB.pos j (by omega)
  omega
 have dB : ∀ j, j < B.length → at0 B j ≤ at0 (sumD A B) j := fun j hj => by
  rw [sumD_at (by omega)]
  have := bA.pos j (by omega)
  omega
 have lessA : ¬ lessB A (sumD A B) := fun ⟨j, h1, h3⟩ => by
  rw [bA.rdc j (by omega), bC.rdc j h1] at h3
  have := dA j (by omega)
  omega
 have lessB' : ¬ lessB B (sumD A B) := fun ⟨j, h1, h3⟩ => by
  rw [bB.rdc j (by omega), bC.rdc j h1] at h3
  have := dB j (by omega)
  omega
 have gA := widened_ok bA bC nA hM mA lC lessA hs
 have gB := widened_ok bB bC nB hM mB (lC.trans he) lessB' hs
 have le := bC.le
 have M1 : 1 ≤ M := by rw [← bC.qe]; exact qn_pos (n := (sumD A B).length) bC.pos (Nat.le_refl _)
 obtain ⟨X, hX⟩ : ∃ X, X = wide A (sumD A B) La M := ⟨_, rfl⟩
 obtain ⟨Y, hY⟩ : ∃ Y, Y = wide B (sumD A B) Lb M := ⟨_, rfl⟩
 have hcf := fun t => wide_conv bA bB bC lC (lC.trans he) dA dB lA lB t
 rw [← hX] at gA
 rw [← hY] at gB
 rw [← hX, ← hY] at hcf
 have wX : WF X := by rw [hX]; exact wide_WF wA
 have wY : WF Y := by rw [hY]; exact wide_WF wB
 have lX : X.length = M := by rw [hX, wide_length]
 have lY : Y.length = M := by rw [hY, wide_length]
 have wl : ∀ l : List Int, WF (tab l.length fun q => at0 l q % m) := fun l => WF_tab64 fun q _ => Nat.lt_of_lt_of_le (Nat.mod_lt _ (by omega)) (by omega)
 have ep : plen (tab X.length fun q => at0 X q % m) (tab Y.length fun q => at0 Y q % m) = M + M - 1 := by
  unfold plen; rw [tab_length, tab_length, if_neg (by omega), lX, lY]
 have gc := conv_ev (m := m) (wl X) (wl Y) h2 hm (by omega) (by rw [tab_length]; omega) (by rw [tab_length]; omega)
 rw [ep] at gc
 have ht : ((tab (M + M - 1) fun t => cf (tab X.length fun q => at0 X q % m) (tab Y.length fun q => at0 Y q % m) t % m).take M) = tab M fun t => bxS A B (sumD A B) La Lb t % m := by
  rw [tab_take _ (by omega)]
  refine tab_ext fun t ht => ?_
  rw [cf_tab rfl rfl, conv_mod]
  show cf X Y t % m = _
  rw [hcf]
 refine mul_start h2 hm bA bB mA mB he fun s1 s2 => ?_
 have gl := cleft_ev (s1 := s1) (s2 := s2) (p := m) wX (by omega) (by omega)
 have gr := cleft_ev (s1 := s1) (s2 := s2) (p := m) wY (by omega) (by omega)
 refine Ev.step (fun k => Zz24.l6_eq ..) (Ev.neg (by omega) (Ev.bind (size_ev (by rw [lC]; omega)) (Ev.pos hs (Ev.bind gA (Ev.pos rfl (Ev.bind gB (Ev.pos rfl (Ev.bind gl (Ev.bind gr (Ev.bind gc (Ev.pos rfl ?_)))))))))))
 rw [hM, Int.toNat_natCast]
 refine Ev.pos (by omega) (Ev.pos ?_ (Ev.pos (by omega) (Ev.pos (Int.le_refl _) (Ev.ret ?_))))
 ·show (M : Int) ≤ ((tab (M + M - 1) _).length : Int)
  rw [tab_length]; omega
 ·show (sumD A B, (tab (M + M - 1) _).take M, (0 : Int)) = _
  rw [ht]
end Go.Proofs.YtkoeddgbhohggaaGreatDoor.Pure
end
section
namespace Go.Proofs.YtkoeddgbhohggaaGreatDoor.Pure
open Go.RowKit Go.Proofs.YtkoeddgbhohggaaGreatDoor.F Go.Proofs.YtkoeddgbhohggaaGreatDoorW.PrintWords Go.Proofs.YtkoeddgbhohggaaGreatDoorW.PrintLast Go.Proofs.YtkoeddgbhohggaaGreatDoorW.PrintMore
open Go.Proofs.YtkoeddgbhohggaaGreatDoor.E (tEq tLt tApp tCut cdB dcB dcB_eq)
set_option linter.unusedVariables false
set_option linter.unusedSimpArgs false
theorem ints_l4 {l : List Int} (hl : l.length ≤ 1000) : ∀ (d i : Nat), l.length - i = d → i ≤ l.length → Ev (fun k => Zz91.l4 k l l (i : Int)) true
 | 0, i, hd, hi => Ev.step (fun k => Zz91.l4_eq ..) (Ev.neg (by omega) (Ev.now _))
 | d + 1, i, hd, hi => by
  have g := ints_l4 hl d (i + 1) (by omega) (by omega)
  rw [← w64_succ (a := i) (by omega)] at g
  exact Ev.step (fun k => Zz91.l4_eq ..) (Ev.pos (by omega) (Ev.pos (by omega) (Ev.pos (by omega) (Ev.pos (by omega) (Ev.pos (by omega) (Ev.pos rfl g))))))
theorem ints_ev {l : List Int} (hl : l.length ≤ 1000) : Ev (fun k => Zz91.f k l l) true := Ev.congr (fun k => Zz91.f_eq ..) (Ev.pos rfl (ints_l4 hl _ 0 rfl (Nat.zero_le _)))
theorem dgt_lt {D : List Int} {N : Nat} (bD : Bx D N) {j p : Nat} (hj : j < D.length) : dgt (at0 D) D.length j p < at0 D j := Nat.mod_lt _ (bD.pos j hj)
theorem widens_l18 {D La E : List Int} {N M : Nat} (bD : Bx D N) (bE : Bx E M) (hs : (szF E).2 = 0) (h2 : E.length = D.length) (hde : ∀ j, j < D.length → at0 D j ≤ at0 E j) (hL : La.length = N) : ∀ (c i : Nat), i + c = N →
  Ev (fun k => Zz89.l18 k E D La E (wide D E La M) (putF (tp D E) La i 0 (List.replicate M 0)) (i : Int)) true
 | 0, i, hi => by
  have : i = La.length := by omega
  subst this
  have le := bE.le
  exact Ev.step (fun k => Zz89.l18_eq ..) (Ev.neg (by omega) (Ev.bind (same_ev (l := wide D E La M) (by rw [wide_length]; omega)) (Ev.pos rfl awake_some)))
 | c + 1, i, hi => by
  have le := bD.le
  have g := widens_l18 bD bE hs h2 hde hL c (i + 1) (by omega)
  rw [putF_add (tp D E) La i 1 0, Nat.zero_add] at g
  have ge := exps_ev bD (p := i) (by omega)
  have gp := rplace_ok bE hs (f := fun j => dgt (at0 D) D.length j i) fun j hj => Nat.lt_of_lt_of_le (dgt_lt bD (by omega)) (hde j (by omega))
  rw [h2, ← plc_acg] at gp
  have ht := tp_lt bD bE h2 hde i
  have g : Ev (fun k => Zz89.l18 k E D La E (wide D E La M) ((putF (tp D E) La i 0 (List.replicate M 0)).set (tp D E i) (La.getD i 0)) ((i + 1 : Nat) : Int)) true := g
  rw [← w64_succ (a := i) (by omega)] at g
  refine Ev.step (fun k => Zz89.l18_eq ..) (Ev.pos (by omega) (Ev.bind ge (Ev.bind gp (Ev.pos (by omega) (Ev.pos (by omega) (Ev.pos (by omega) (Ev.pos ?_ ?_)))))))
  ·rw [putF_length, List.length_replicate]
   show ((tp D E i : Nat) : Int) < _
   omega
  ·have e1 : rd La (i : Int) = La.getD i 0 := by unfold rd; rw [Int.toNat_natCast]
   rw [e1, Int.toNat_natCast]
   exact g
section
variable {D La E o1 o2 : List Int} {err : Int}
theorem widens_l6 (he : E.length = D.length) (hE : E.length ≤ 1000) (hT : ¬ lessB D E → Ev (fun k => Zz89.l6 k E D La o1 o2 err true (E.length : Int)) true) (hF : lessB D E → ∀ i : Nat, Ev (fun k => Zz89.l6 k E D La o1 o2 err false (i : Int)) true) :
  ∀ (c i : Nat), i + c = E.length → (∀ j, j < i → ¬ rd E (j : Int) < rd D (j : Int)) → Ev (fun k => Zz89.l6 k E D La o1 o2 err true (i : Int)) true
 | 0, i, hi, hj => by
  obtain rfl : i = E.length := by omega
  exact hT fun ⟨j, h1, h2⟩ => hj j h1 h2
 | c + 1, i, hi, hj => by
  refine Ev.step (fun k => Zz89.l6_eq ..) (Ev.pos (by omega) (Ev.pos rfl (Ev.pos (by omega) (Ev.pos (by omega) (Ev.pos (by omega) (Ev.pos (by omega) ?_))))))
  rw [w64_succ (a := i) (by omega)]
  by_cases h : rd E (i : Int) ≥ rd D (i : Int)
  ·rw [decide_eq_true h]
   exact widens_l6 he hE hT hF c (i + 1) (by omega) fun j h1 => by
    by_cases h2 : j = i
    ·subst h2; omega
    ·exact hj j (by omega)
  ·rw [decide_eq_false h]
   exact hF ⟨i, by omega, by omega⟩ (i + 1)
theorem widens_false (hD : D.length ≤ 1000) (hE : E.length ≤ 1000) (i : Nat) : Ev (fun k => Zz89.l6 k E D La [] [] 1 false (i : Int)) true := by
 by_cases h : (i : Int) < (E.length : Int)
 ·refine Ev.step (fun k => Zz89.l6_eq ..) (Ev.pos h (Ev.neg Bool.false_ne_true (Ev.bind (rsize_ev hE) (Ev.bind (lmay_ev hD) ?_))))
  by_cases hm : mayB D La
  ·exact Ev.neg (by rw [decide_eq_true hm]; decide) (Ev.pos rfl (Ev.pos rfl (Ev.pos rfl (Ev.pos rfl awake_some))))
  ·exact Ev.pos (by rw [decide_eq_false hm]; rfl) (Ev.pos rfl (Ev.pos rfl (Ev.pos rfl awake_some)))
 ·refine Ev.step (fun k => Zz89.l6_eq ..) (Ev.neg h (Ev.bind (rsize_ev hE) (Ev.bind (lmay_ev hD) ?_)))
  by_cases hm : mayB D La
  ·exact Ev.neg (by rw [decide_eq_true hm]; decide) (Ev.pos rfl (Ev.pos rfl (Ev.pos rfl (Ev.pos rfl awake_some))))
  ·exact Ev.pos (by rw [decide_eq_false hm]; rfl) (Ev.pos rfl (Ev.pos rfl (Ev.pos rfl awake_some)))
theorem widens_may (hD : D.length ≤ 1000) (hE : E.length ≤ 1000) (hm : ¬ mayB D La) : Ev (fun k => Zz89.l6 k E D La [] [] 1 true (E.length : Int)) true :=
 Ev.step (fun k => Zz89.l6_eq ..) (Ev.neg (by omega) (Ev.bind (rsize_ev hE) (Ev.bind (lmay_ev hD) (Ev.pos (by rw [decide_eq_false hm]; rfl) (Ev.pos rfl (Ev.pos rfl (Ev.pos rfl awake_some)))))))
theorem widens_sz (hD : D.length ≤ 1000) (hE : E.length ≤ 1000) (hm : mayB D La) (hs : (szF E).2 ≠ 0) : Ev (fun k => Zz89.l6 k E D La [] [] (szF E).2 true (E.length : Int)) true :=
 Ev.step (fun k => Zz89.l6_eq ..) (Ev.neg (by omega) (Ev.bind (rsize_ev hE) (Ev.bind (lmay_ev hD) (Ev.neg (by rw [decide_eq_true hm]; decide) (Ev.neg (by decide) (Ev.neg hs (Ev.neg hs (Ev.pos rfl (Ev.pos rfl awake_some)))))))))
end
theorem ConvWidens {D La E : List Int} (hw : WF La) : Ev (fun k => Zz89.f k D La E) true := by
 by_cases h1 : (La.length : Int) > 300
 ·exact Ev.congr (fun k => Zz89.f_eq ..) (Ev.pos h1 awake_some)
 by_cases h2 : (E.length : Int) > 10
 ·exact Ev.congr (fun k => Zz89.f_eq ..) (Ev.neg h1 (Ev.pos h2 awake_some))
 by_cases h3 : (D.length : Int) > 10
 ·exact Ev.congr (fun k => Zz89.f_eq ..) (Ev.neg h1 (Ev.neg h2 (Ev.pos h3 awake_some)))
 have hD : D.length ≤ 1000 := by omega
 have hE : E.length ≤ 1000 := by omega
 have z0 : ∀ j : Nat, j < 0 → ¬ rd E (j : Int) < rd D (j : Int) := fun j hj => by omega
 refine Ev.congr (fun k => Zz89.f_eq ..) (Ev.neg h1 (Ev.neg h2 (Ev.neg h3 ?_)))
 by_cases he : E.length = D.length
 ·have ht : decide ((E.length : Int) = (D.length : Int)) = true := decide_eq_true (by omega)
  by_cases hb : ¬ mayB D La ∨ lessB D E
  ·refine Ev.bind (widened_bad hD hE (hb.elim .inl fun h => .inr (.inr h))) ?_
   rw [ht]
   exact widens_l6 he hE (fun hn => widens_may hD hE (hb.elim (fun h => h) fun h => absurd h hn)) (fun _ i => widens_false hD hE i) E.length 0 (Nat.zero_add _) z0
  ·have hm : mayB D La := Classical.not_not.1 fun h => hb (.inl h)
   have hl : ¬ lessB D E := fun h => hb (.inr h)
   by_cases hs : (szF E).2 = 0
   ·obtain ⟨N, bD, hN⟩ := bx_of hm.1
    obtain ⟨M, bE, hM⟩ := bx_of hs
    have hLa : La.length = N := by have := hm.2; omega
    have hde : ∀ j, j < D.length → at0 D j ≤ at0 E j := fun j hj => by
     have h5 : ¬ rd E (j : Int) < rd D (j : Int) := fun e => hl ⟨j, by omega, e⟩
     rw [bD.rdc j hj, bE.rdc j (by omega)] at h5
     omega
    refine Ev.bind (widened_ok bD bE hN hM hm he hl hs) ?_
    rw [ht]
    refine widens_l6 he hE (fun _ => ?_) (fun h => absurd h hl) E.length 0 (Nat.zero_add _) z0
    refine Ev.step (fun k => Zz89.l6_eq ..) (Ev.neg (by omega) (Ev.bind (rsize_ev hE) (Ev.bind (lmay_ev hD) (Ev.neg (by rw [decide_eq_true hm]; decide) (Ev.neg (by decide) (Ev.pos hs ?_))))))
    have hlen : ((wide D E La M).length : Int) = (szF E).1 := by rw [wide_length, hM]
    by_cases h5 : (szF E).1 > 5000
    ·exact Ev.pos h5 (Ev.pos hs (Ev.pos hs (Ev.pos rfl (Ev.pos hlen awake_some))))
    ·have le := bE.le
     refine Ev.neg h5 (Ev.pos rfl (Ev.bind (ints_ev hE) (Ev.neg (by decide) (Ev.pos hlen ?_))))
     rw [hM, Int.toNat_natCast]
     exact Ev.pos (by omega) (Ev.pos (by omega) (widens_l18 bD bE hs he hde hLa N 0 (Nat.zero_add _)))
   ·refine Ev.bind (widened_sz hD hE hm he hl hs) ?_
    rw [ht]
    exact widens_l6 he hE (fun _ => widens_sz hD hE hm hs) (fun h => absurd h hl) E.length 0 (Nat.zero_add _) z0
 ·refine Ev.bind (widened_bad hD hE (.inr (.inl he))) ?_
  rw [show decide ((E.length : Int) = (D.length : Int)) = false from decide_eq_false (by omega)]
  exact widens_false hD hE 0
section
variable {A B La Lb : List Int} {m NA NB M : Nat}
structure Bo (A B La Lb : List Int) (m NA NB M : Nat) : Prop where
 m2 : 2 ≤ m
 m63 : m < 9223372036854775808
 wA : WF La
 wB : WF Lb
 bA : Bx A NA
 bB : Bx B NB
 lA : La.length = NA
 lB : Lb.length = NB
 he : A.length = B.length
 hs : (szF (sumD A B)).2 = 0
 bC : Bx (sumD A B) M
def pl2 (A B : List Int) (i k : Nat) : Nat := tp A (sumD A B) i + tp B (sumD A B) k
def wnt (A B La Lb : List Int) (m M i k : Nat) : List Int := tab M fun t => acc (pl2 A B) (at0 La) (at0 Lb) Lb.length i k t % m
theorem boxes_l26 (h : Bo A B La Lb m NA NB M) {R : List Int} {x q : Nat} (hx : x < NA) (hq : q < NB)
  (g : Ev (fun k => Zz85.l21 k (m : Int) A La B Lb (sumD A B) R (sumD A B) (wnt A B La Lb m M x (q + 1)) (x : Int) ((q + 1 : Nat) : Int)) true) : ∀ (c i : Nat), i + c = A.length →
  Ev (fun k => Zz85.l26 k (m : Int) A La B Lb (sumD A B) R (sumD A B) (wnt A B La Lb m M x q) (x : Int) (q : Int) (tab A.length fun j => if j < i then dgt (at0 A) A.length j x + dgt (at0 B) B.length j q else dgt (at0 A) A.length j x) (tab B.length fun j => dgt (at0 B) B.length j q) (i : Int)) true
 | 0, i, hi => by
  obtain rfl : i = A.length := by omega
  have he := h.he
  have le := h.bC.le
  have lA := h.bA.le
  have lB := h.bB.le
  have m2 := h.m2
  have m63 := h.m63
  have n8 := h.bA.n8
  have eX : (tab A.length fun j => if j < A.length then dgt (at0 A) A.length j x + dgt (at0 B) B.length j q else dgt (at0 A) A.length j x) = tab (sumD A B).length fun j => dgt (at0 A) A.length j x + dgt (at0 B) B.length j q := by
   rw [sumD_len]
   exact tab_ext fun j hj => if_pos hj
  have gp := rplace_ok h.bC h.hs (f := fun j => dgt (at0 A) A.length j x + dgt (at0 B) B.length j q) fun j hj => by
   rw [sumD_len] at hj
   have h1 := dgt_lt h.bA (j := j) (p := x) hj
   have h2 := dgt_lt h.bB (j := j) (p := q) (by omega)
   rw [sumD_at hj]
   omega
  have eP : acg (at0 (sumD A B)) (fun j => dgt (at0 A) A.length j x + dgt (at0 B) B.length j q) (sumD A B).length = pl2 A B x q := by
   rw [acg_add, sumD_len]
   unfold pl2 tp
   rw [plc_acg, plc_acg, ← he]
  rw [eP] at gp
  have hP : pl2 A B x q < M := by
   have := acg_lt (e := at0 (sumD A B)) (n := (sumD A B).length) (f := fun j => dgt (at0 A) A.length j x + dgt (at0 B) B.length j q) (fun j hj => by
    rw [sumD_len] at hj
    have h1 := dgt_lt h.bA (j := j) (p := x) hj
    have h2 := dgt_lt h.bB (j := j) (p := q) (by omega)
    rw [sumD_at hj]
    omega) (Nat.le_refl _)
   rwa [eP, h.bC.qe] at this
  have hlA := h.lA
  have hlB := h.lB
  have gm := rmul_ev (x := at0 La x) (y := at0 Lb q) (m := m) (by omega) (by omega)
  have ga := radd_ev (x := acc (pl2 A B) (at0 La) (at0 Lb) Lb.length x q (pl2 A B x q) % m) (y := at0 La x * at0 Lb q % m) (m := m) (by omega) (by omega)
  have ew : wnt A B La Lb m M x (q + 1) = (wnt A B La Lb m M x q).set ((pl2 A B x q : Nat) : Int).toNat (((acc (pl2 A B) (at0 La) (at0 Lb) Lb.length x q (pl2 A B x q) % m + at0 La x * at0 Lb q % m) % m : Nat) : Int) := acc_set ..
  have wl : (wnt A B La Lb m M x q).length = M := tab_length _ _
  have er : rd (wnt A B La Lb m M x q) ((pl2 A B x q : Nat) : Int) = ((acc (pl2 A B) (at0 La) (at0 Lb) Lb.length x q (pl2 A B x q) % m : Nat) : Int) := rd_tab (fun t => acc (pl2 A B) (at0 La) (at0 Lb) Lb.length x q t % m) hP
  rw [ew, ← w64_succ (a := q) (by omega)] at g
  refine Ev.step (fun k => Zz85.l26_eq ..) (Ev.neg (by rw [tab_length]; omega) ?_)
  rw [eX]
  refine Ev.bind gp ?_
  show Ev (fun k => if (0 : Int) ≤ ((pl2 A B x q : Nat) : Int) then _ else _) _
  refine Ev.pos (by omega) (Ev.pos ?_ (Ev.pos (by omega) (Ev.pos (by omega) (Ev.pos (by omega) (Ev.pos (by omega) ?_)))))
  ·show ((pl2 A B x q : Nat) : Int) < _
   rw [wl]; omega
  ·rw [at0_rd h.wA, at0_rd h.wB]
   refine Ev.bind gm ?_
   show Ev (fun k => (Zz99.f k (rd (wnt A B La Lb m M x q) ((pl2 A B x q : Nat) : Int)) _ _).bind _) _
   rw [er]
   refine Ev.bind ga (Ev.pos (show (0 : Int) ≤ ((pl2 A B x q : Nat) : Int) by omega) (Ev.pos (show ((pl2 A B x q : Nat) : Int) < ((wnt A B La Lb m M x q).length : Int) by rw [wl]; omega) g))
 | c + 1, i, hi => by
  have he := h.he
  have n8 := h.bA.n8
  have gi := boxes_l26 h hx hq g c (i + 1) (by omega)
  have lA := h.bA.le
  have lB := h.bB.le
  have p1 := e_le (n := A.length) h.bA.pos (i := i) (by omega)
  have p2 := e_le (n := B.length) h.bB.pos (i := i) (by omega)
  rw [h.bA.qe] at p1
  rw [h.bB.qe] at p2
  have h1 := dgt_lt h.bA (j := i) (p := x) (by omega)
  have h2 := dgt_lt h.bB (j := i) (p := q) (by omega)
  have e1 : rd (tab A.length fun j => if j < i then dgt (at0 A) A.length j x + dgt (at0 B) B.length j q else dgt (at0 A) A.length j x) (i : Int) = ((dgt (at0 A) A.length i x : Nat) : Int) := (rd_tab (fun j => if j < i then dgt (at0 A) A.length j x + dgt (at0 B) B.length j q else dgt (at0 A) A.length j x) (by omega)).trans (by rw [if_neg (Nat.lt_irrefl i)])
  have e2 : rd (tab B.length fun j => dgt (at0 B) B.length j q) (i : Int) = ((dgt (at0 B) B.length i q : Nat) : Int) := rd_tab (fun j => dgt (at0 B) B.length j q) (by omega)
  have e3 : wrap64 (((dgt (at0 A) A.length i x : Nat) : Int) + ((dgt (at0 B) B.length i q : Nat) : Int)) = ((dgt (at0 A) A.length i x + dgt (at0 B) B.length i q : Nat) : Int) := w64_add (by omega)
  have e4 : (tab A.length fun j => if j < i then dgt (at0 A) A.length j x + dgt (at0 B) B.length j q else dgt (at0 A) A.length j x).set (i : Int).toNat ((dgt (at0 A) A.length i x + dgt (at0 B) B.length i q : Nat) : Int) = tab A.length fun j => if j < i + 1 then dgt (at0 A) A.length j x + dgt (at0 B) B.length j q else dgt (at0 A) A.length j x := by
   rw [Int.toNat_natCast, tab_set]
   refine tab_ext fun z hz => ?_
   by_cases h : z = i
   ·subst h; rw [if_pos rfl, if_pos (Nat.lt_succ_self z)]
   ·rw [if_neg h]
    by_cases h2 : z < i
    ·rw [if_pos h2, if_pos (by omega)]
    ·rw [if_neg h2, if_neg (by omega)]
  rw [← w64_succ (a := i) (by omega)] at gi
  refine Ev.step (fun k => Zz85.l26_eq ..) ?_
  rw [e1, e2, e3, e4]
  exact Ev.pos (by rw [tab_length]; omega) (Ev.pos (by omega) (Ev.pos (by rw [tab_length]; omega) (Ev.pos (by omega) (Ev.pos (by rw [tab_length]; omega) (Ev.pos (by omega) (Ev.pos (by rw [tab_length]; omega) gi))))))
mutual
theorem boxes_l18 (h : Bo A B La Lb m NA NB M) : ∀ (c i : Nat), i + c = NA →
  Ev (fun k => Zz85.l18 k (m : Int) A La B Lb (sumD A B) (tab M fun t => bxS A B (sumD A B) La Lb t % m) (sumD A B) (wnt A B La Lb m M i 0) (i : Int)) true
 | 0, i, hi => by
  have hlA := h.lA
  have le := h.bC.le
  have : i = La.length := by omega
  subst this
  refine Ev.step (fun k => Zz85.l18_eq ..) (Ev.neg (by omega) (Ev.bind ?_ (Ev.pos rfl awake_some)))
  exact same_ev (l := tab M fun t => bxS A B (sumD A B) La Lb t % m) (by rw [tab_length]; omega)
 | c + 1, i, hi => by
  have hlA := h.lA
  have g := boxes_l21 h c i hi NB 0 (Nat.zero_add _)
  exact Ev.step (fun k => Zz85.l18_eq ..) (Ev.pos (by omega) g)
theorem boxes_l21 (h : Bo A B La Lb m NA NB M) : ∀ (c i : Nat), i + (c + 1) = NA → ∀ (d q : Nat), q + d = NB →
  Ev (fun k => Zz85.l21 k (m : Int) A La B Lb (sumD A B) (tab M fun t => bxS A B (sumD A B) La Lb t % m) (sumD A B) (wnt A B La Lb m M i q) (i : Int) (q : Int)) true
 | c, i, hi, 0, q, hq => by
  have hlB := h.lB
  have lA := h.bA.le
  have : q = Lb.length := by omega
  subst this
  have g := boxes_l18 h c (i + 1) (by omega)
  rw [← w64_succ (a := i) (by omega)] at g
  exact Ev.step (fun k => Zz85.l21_eq ..) (Ev.neg (by omega) g)
 | c, i, hi, d + 1, q, hq => by
  have hlB := h.lB
  have lA := h.bA.le
  have lB := h.bB.le
  have g := boxes_l21 h c i hi d (q + 1) (by omega)
  have g26 := boxes_l26 h (x := i) (q := q) (by omega) (by omega) g A.length 0 (Nat.zero_add _)
  rw [tab_ext (n := A.length) (f := fun j => if j < 0 then dgt (at0 A) A.length j i + dgt (at0 B) B.length j q else dgt (at0 A) A.length j i) (g := fun j => dgt (at0 A) A.length j i) fun z hz => if_neg (by omega)] at g26
  exact Ev.step (fun k => Zz85.l21_eq ..) (Ev.pos (by omega) (Ev.bind (exps_ev h.bA (by omega)) (Ev.bind (exps_ev h.bB (by omega)) g26)))
end
theorem boxes_l8 {o1 o2 : List Int} {err : Int} (bA : Bx A NA) (bB : Bx B NB) (he : A.length = B.length) (g : Ev (fun k => Zz85.l8 k (m : Int) A La B Lb o1 o2 err (sumD A B) (A.length : Int)) true) : ∀ (c i : Nat), i + c = A.length →
  Ev (fun k => Zz85.l8 k (m : Int) A La B Lb o1 o2 err (tab i fun j => at0 A j + at0 B j - 1) (i : Int)) true
 | 0, i, hi => by
  obtain rfl : i = A.length := by omega
  exact g
 | c + 1, i, hi => by
  have n8 := bA.n8
  have gi := boxes_l8 bA bB he g c (i + 1) (by omega)
  have pA := bA.pos i (by omega)
  have pB := bB.pos i (by omega)
  have q1 := e_le (n := A.length) bA.pos (i := i) (by omega)
  have q2 := e_le (n := B.length) bB.pos (i := i) (by omega)
  rw [bA.qe] at q1
  rw [bB.qe] at q2
  have l1 := bA.le
  have l2 := bB.le
  have e1 : wrap64 (wrap64 (((at0 A i : Nat) : Int) + ((at0 B i : Nat) : Int)) - 1) = ((at0 A i + at0 B i - 1 : Nat) : Int) := by
   rw [w64_of (x := ((at0 A i : Nat) : Int) + ((at0 B i : Nat) : Int)) (by omega) (by omega), w64_of (by omega) (by omega)]; omega
  rw [← w64_succ (a := i) (by omega), ← tab_snoc i fun j => at0 A j + at0 B j - 1] at gi
  refine Ev.step (fun k => Zz85.l8_eq ..) ?_
  rw [bA.rdc i (by omega), bB.rdc i (by omega), e1]
  exact Ev.pos (by omega) (Ev.pos (by omega) (Ev.pos (by omega) (Ev.pos (by omega) (Ev.pos (by omega) (Ev.pos (by rw [tab_length]; show i + 1 ≤ _; omega) gi)))))
end
theorem ConvBoxes {A La B Lb : List Int} {m : Int} (wA : WF La) (wB : WF Lb) (hm : U m) : Ev (fun k => Zz85.f k A La B Lb m) true := by
 by_cases h1 : (La.length : Int) > 60
 ·exact Ev.congr (fun k => Zz85.f_eq ..) (Ev.pos h1 awake_some)
 by_cases h2 : (Lb.length : Int) > 60
 ·exact Ev.congr (fun k => Zz85.f_eq ..) (Ev.neg h1 (Ev.pos h2 awake_some))
 by_cases h3 : (A.length : Int) > 10
 ·exact Ev.congr (fun k => Zz85.f_eq ..) (Ev.neg h1 (Ev.neg h2 (Ev.pos h3 awake_some)))
 by_cases h4 : (B.length : Int) > 10
 ·exact Ev.congr (fun k => Zz85.f_eq ..) (Ev.neg h1 (Ev.neg h2 (Ev.neg h3 (Ev.pos h4 awake_some))))
 obtain ⟨m0, m1⟩ := hm
 obtain ⟨m, rfl⟩ : ∃ n : Nat, m = (n : Int) := ⟨m.toNat, by omega⟩
 have hA : A.length ≤ 1000 := by omega
 have hB : B.length ≤ 1000 := by omega
 refine Ev.congr (fun k => Zz85.f_eq ..) (Ev.neg h1 (Ev.neg h2 (Ev.neg h3 (Ev.neg h4 ?_))))
 by_cases hM : May m
 ·obtain ⟨k1, k2⟩ := hM
  by_cases mA : mayB A La
  ·by_cases mB : mayB B Lb
   ·by_cases he : A.length = B.length
    ·obtain ⟨NA, bA, nA⟩ := bx_of mA.1
     obtain ⟨NB, bB, nB⟩ := bx_of mB.1
     have hC : (sumD A B).length ≤ 1000 := by rw [sumD_len]; exact hA
     suffices key : ∃ (o1 o2 : List Int) (err : Int), Ev (fun k => Zz24.f k A La B Lb (m : Int)) (o1, o2, err) ∧ Ev (fun k => Zz85.l8 k (m : Int) A La B Lb o1 o2 err (sumD A B) (A.length : Int)) true by
      obtain ⟨o1, o2, err, g1, g2⟩ := key
      exact Ev.bind g1 (Ev.bind (rmay_ev m) (Ev.neg (by rw [decide_eq_true (show May m from ⟨k1, k2⟩)]; decide) (Ev.bind (lmay_ev hA) (Ev.neg (by rw [decide_eq_true mA]; decide) (Ev.bind (lmay_ev hB) (Ev.neg (by rw [decide_eq_true mB]; decide) (Ev.pos (by omega) (boxes_l8 bA bB he g2 A.length 0 (Nat.zero_add _)))))))))
     by_cases hs : (szF (sumD A B)).2 = 0
     ·obtain ⟨M, bC, hMC⟩ := bx_of hs
      have le := bC.le
      refine ⟨_, _, _, bmul_ev k1 k2 wA wB bA bB nA nB mA mB he hs bC hMC, Ev.step (fun k => Zz85.l8_eq ..) (Ev.neg (by omega) (Ev.bind (rsize_ev hC) (Ev.pos hs ?_)))⟩
      by_cases h5 : (szF (sumD A B)).1 > 5000
      ·exact Ev.pos h5 (Ev.pos hs.symm awake_some)
      ·refine Ev.neg h5 (Ev.pos rfl (Ev.bind (ints_ev hC) (Ev.neg (by decide) (Ev.pos ?_ ?_))))
       ·show ((tab M fun t => bxS A B (sumD A B) La Lb t % m).length : Int) = _
        rw [tab_length, hMC]
       ·rw [hMC, Int.toNat_natCast]
        refine Ev.pos (by omega) (Ev.pos (by omega) ?_)
        have hb : Bo A B La Lb m NA NB M := ⟨k1, k2, wA, wB, bA, bB, by have := mA.2; omega, by have := mB.2; omega, he, hs, bC⟩
        have g := boxes_l18 hb NA 0 (Nat.zero_add _)
        have e0 : wnt A B La Lb m M 0 0 = List.replicate M 0 := by
         rw [tab_zero]
         exact tab_ext fun t ht => Nat.zero_mod m
        rw [e0] at g
        exact g
     ·exact ⟨_, _, _, mul_sz k1 k2 bA bB mA mB he hs, Ev.step (fun k => Zz85.l8_eq ..) (Ev.neg (by omega) (Ev.bind (rsize_ev hC) (Ev.neg hs (Ev.pos rfl awake_some))))⟩
    ·exact Ev.bind (mul_bad hA hB (.inr (.inr (.inr he)))) (Ev.bind (rmay_ev m) (Ev.neg (by rw [decide_eq_true (show May m from ⟨k1, k2⟩)]; decide) (Ev.bind (lmay_ev hA) (Ev.neg (by rw [decide_eq_true mA]; decide) (Ev.bind (lmay_ev hB) (Ev.neg (by rw [decide_eq_true mB]; decide) (Ev.neg (by omega) (Ev.pos rfl (Ev.pos rfl awake_some)))))))))
   ·exact Ev.bind (mul_bad hA hB (.inr (.inr (.inl mB)))) (Ev.bind (rmay_ev m) (Ev.neg (by rw [decide_eq_true (show May m from ⟨k1, k2⟩)]; decide) (Ev.bind (lmay_ev hA) (Ev.neg (by rw [decide_eq_true mA]; decide) (Ev.bind (lmay_ev hB) (Ev.pos (by rw [decide_eq_false mB]; rfl) (Ev.pos rfl (Ev.pos rfl awake_some))))))))
  ·exact Ev.bind (mul_bad hA hB (.inr (.inl mA))) (Ev.bind (rmay_ev m) (Ev.neg (by rw [decide_eq_true (show May m from ⟨k1, k2⟩)]; decide) (Ev.bind (lmay_ev hA) (Ev.pos (by rw [decide_eq_false mA]; rfl) (Ev.pos rfl (Ev.pos rfl awake_some))))))
 ·exact Ev.bind (mul_bad hA hB (.inl (by unfold May at hM; omega))) (Ev.bind (rmay_ev m) (Ev.pos (by rw [decide_eq_false hM]; rfl) (Ev.pos rfl (Ev.pos rfl awake_some))))
theorem conv_comm (n m : Nat) (x y : Nat → Nat) (t : Nat) : conv n m x y t = conv m n y x t := by
 unfold conv
 rw [sumTo_swap (fun a b => if a + b = t then x a * y b else 0) m n]
 refine sumTo_congr m fun b _ => sumTo_congr n fun a _ => ?_
 rw [Nat.add_comm a b, Nat.mul_comm (x a)]
theorem cf_comm (a b : List Int) (t : Nat) : cf a b t = cf b a t := conv_comm ..
theorem plen_comm (a b : List Int) : plen a b = plen b a := by
 unfold plen
 by_cases h : a.length = 0 ∨ b.length = 0
 ·rw [if_pos h, if_pos h.symm]
 ·rw [if_neg h, if_neg fun e => h e.symm, Nat.add_comm]
theorem sz_one {n : Nat} (h1 : 1 ≤ n) (h2 : n ≤ 1000) : szF [(n : Int)] = ((n : Int), 0) := by
 unfold szF
 rw [if_neg (by show ¬ 1 > 8; decide)]
 have h3 : lowB [(n : Int)] = false := by
  unfold lowB
  simp only [List.any_cons, List.any_nil, Bool.or_false]
  exact decide_eq_false (by omega)
 rw [if_neg (by rw [h3]; exact Bool.false_ne_true)]
 unfold szL
 rw [Int.one_mul, if_neg (by omega)]
 rfl
theorem sum_one {p q : Nat} (hp : 1 ≤ p) (hq : 1 ≤ q) : sumD [(p : Int)] [(q : Int)] = [((p + q - 1 : Nat) : Int)] := by
 show [((at0 [(p : Int)] 0 + at0 [(q : Int)] 0 - 1 : Nat) : Int)] = _
 rfl
theorem tp_one (p c x : Nat) (hx : x < p) : tp [(p : Int)] [(c : Int)] x = x := by
 show 0 * _ + dgt (at0 [(p : Int)]) 1 0 x = x
 unfold dgt
 rw [Pn_end, Nat.div_one, Nat.zero_mul, Nat.zero_add]
 exact Nat.mod_eq_of_lt hx
theorem bxS_one {a b : List Int} (t : Nat) : bxS [(a.length : Int)] [(b.length : Int)] [((a.length + b.length - 1 : Nat) : Int)] a b t = cf a b t := by
 unfold bxS cf conv
 refine sumTo_congr _ fun i hi => sumTo_congr _ fun k hk => ?_
 rw [tp_one _ _ _ hi, tp_one _ _ _ hk]
theorem same_l9 {a b : List Int} {m : Nat} (ha : WF a) (hb : WF b) (h2 : 2 ≤ m) (hm : m < 9223372036854775808) (la : a.length ≤ 100) (lb : b.length ≤ 100) : ∀ (d i : Nat), plen a b - i = d → i ≤ plen a b →
  Ev (fun k => Zz88.l9 k a b (m : Int) (tab (plen a b) fun t => cf a b t % m) (bigs (plen a b) (cf a b)) (i : Int)) true
 | 0, i, hd, hi => by
  have hp : plen a b ≤ 200 := by unfold plen; split <;> omega
  refine Ev.step (fun k => Zz88.l9_eq ..) (Ev.neg (by rw [tab_length]; omega) ?_)
  by_cases ha0 : a.length = 0
  ·refine Ev.pos (by omega) (Ev.pos ?_ awake_some)
   rw [tab_length, show plen a b = 0 from if_pos (.inl ha0)]; rfl
  ·by_cases hb0 : b.length = 0
   ·refine Ev.neg (by omega) (Ev.pos (by omega) (Ev.pos ?_ awake_some))
    rw [tab_length, show plen a b = 0 from if_pos (.inr hb0)]; rfl
   ·have ep : plen a b = a.length + b.length - 1 := if_neg (by omega)
    have sA := sz_one (n := a.length) (by omega) (by omega)
    have sB := sz_one (n := b.length) (by omega) (by omega)
    have sC := sz_one (n := a.length + b.length - 1) (by omega) (by omega)
    have eC := sum_one (p := a.length) (q := b.length) (by omega) (by omega)
    rw [← eC] at sC
    obtain ⟨NA, bA, nA⟩ := bx_of (D := [(a.length : Int)]) (by rw [sA])
    obtain ⟨NB, bB, nB⟩ := bx_of (D := [(b.length : Int)]) (by rw [sB])
    obtain ⟨M, bC, nC⟩ := bx_of (D := sumD [(a.length : Int)] [(b.length : Int)]) (by rw [sC])
    have eM : M = a.length + b.length - 1 := by rw [sC] at nC; have := nC; simp only at this; omega
    have g := bmul_ev (A := [(a.length : Int)]) (B := [(b.length : Int)]) (m := m) h2 hm ha hb bA bB nA nB ⟨by rw [sA], by rw [sA]⟩ ⟨by rw [sB], by rw [sB]⟩ rfl (by rw [sC]) bC nC
    rw [show (tab M fun t => bxS [(a.length : Int)] [(b.length : Int)] (sumD [(a.length : Int)] [(b.length : Int)]) a b t % m) = tab (plen a b) fun t => cf a b t % m by
     rw [eM, ep, eC]
     exact tab_ext fun t ht => by rw [bxS_one]] at g
    exact Ev.neg (by omega) (Ev.neg (by omega) (Ev.bind g (Ev.pos rfl (Ev.bind (same_ev (by rw [tab_length]; omega)) (Ev.pos rfl awake_some)))))
 | d + 1, i, hd, hi => by
  have hp : plen a b ≤ 200 := by unfold plen; split <;> omega
  have g := same_l9 ha hb h2 hm la lb d (i + 1) (by omega) (by omega)
  rw [← w64_succ (a := i) (by omega)] at g
  have gm := nmod_ev (x := cf a b i) (m := m) ((cf_sz ha hb (by omega) i).up (by decide)) (by omega) (by omega)
  refine Ev.step (fun k => Zz88.l9_eq ..) ?_
  rw [rd_bigs (cf a b) (by omega), rd_tab (fun t => cf a b t % m) (by omega), dcB_eq]
  exact Ev.pos (by rw [tab_length]; omega) (Ev.pos (by omega) (Ev.pos (by rw [bigs_length]; omega) (Ev.bind gm (Ev.pos rfl (Ev.pos (by omega) (Ev.pos (by rw [tab_length]; omega) (Ev.pos rfl g)))))))
theorem ConvSame {a b : List Int} {m : Int} (ha : WF a) (hb : WF b) (hm : U m) : Ev (fun k => Zz88.f k a b m) true := by
 by_cases h1 : (a.length : Int) > 100
 ·exact Ev.congr (fun k => Zz88.f_eq ..) (Ev.pos h1 awake_some)
 by_cases h2 : (b.length : Int) > 100
 ·exact Ev.congr (fun k => Zz88.f_eq ..) (Ev.neg h1 (Ev.pos h2 awake_some))
 by_cases h3 : m < 2
 ·exact Ev.congr (fun k => Zz88.f_eq ..) (Ev.neg h1 (Ev.neg h2 (Ev.pos h3 awake_some)))
 by_cases h4 : m ≥ 9223372036854775808
 ·exact Ev.congr (fun k => Zz88.f_eq ..) (Ev.neg h1 (Ev.neg h2 (Ev.neg h3 (Ev.pos h4 awake_some))))
 obtain ⟨m, rfl⟩ : ∃ n : Nat, m = (n : Int) := ⟨m.toNat, by omega⟩
 have hp : plen a b ≤ 200 := by unfold plen; split <;> omega
 have g1 := conv_ev (m := m) ha hb (by omega) (by omega) (by omega) (by omega) (by omega)
 have g2 := conv_ev (m := m) hb ha (by omega) (by omega) (by rw [plen_comm]; omega) (by omega) (by omega)
 have g3 := exact_ev ha hb (by omega) (by omega) (by omega)
 rw [plen_comm b a, tab_ext (n := plen a b) (g := fun t => cf a b t % m) fun t _ => by rw [cf_comm]] at g2
 refine Ev.congr (fun k => Zz88.f_eq ..) (Ev.neg h1 (Ev.neg h2 (Ev.neg h3 (Ev.neg h4 (Ev.bind g1 (Ev.bind g2 (Ev.bind g3 (Ev.pos rfl (Ev.pos rfl (Ev.pos rfl (Ev.bind (same_ev (by rw [tab_length]; omega)) (Ev.neg (by decide) (Ev.pos ?_ (same_l9 ha hb (by omega) (by omega) (by omega) (by omega) _ 0 rfl (Nat.zero_le _)))))))))))))))
 show ((bigs _ _).length : Int) = ((tab _ _).length : Int)
 rw [bigs_length, tab_length]
end Go.Proofs.YtkoeddgbhohggaaGreatDoor.Pure
end
section
namespace Go.Proofs.YtkoeddgbhohggaaGreatDoor.Pure
open Go.RowKit Go.Proofs.YtkoeddgbhohggaaGreatDoor.F Go.Proofs.YtkoeddgbhohggaaGreatDoorW.PrintWords Go.Proofs.YtkoeddgbhohggaaGreatDoorW.PrintLast Go.Proofs.YtkoeddgbhohggaaGreatDoorW.PrintMore
set_option linter.unusedVariables false
set_option linter.unusedSimpArgs false
def IsRow (k : IntKind) (w : World) (a : Option Addr) (len cap : Nat) (zs : List Int) : Prop :=
 (a = none ∧ len = 0 ∧ cap = 0 ∧ zs = []) ∨
 ∃ x, a = some x ∧ len ≤ cap ∧ cap ≤ maxLen ∧ zs.length = cap ∧ (∀ i, i < zs.length → w.cell? (x.add i) = some (.int k (zs.getD i 0))) ∧ ∀ n ∈ zs, (Lit.int k n).wf = true
theorem IsRow.words {w : World} {a : Option Addr} {len cap : Nat} {zs : List Int} (h : IsRow .u64 w a len cap zs) : WF (zs.take len) := by
 rcases h with ⟨_, _, _, rfl⟩ | ⟨x, _, _, _, _, _, h⟩
 ·intro y hy; simp at hy
 ·exact fun y hy => U_of_wf (h y (List.mem_of_mem_take hy))
theorem cell_lt {w : World} {p : Addr} {v : Value} (h : w.cell? p = some v) : p.block < w.heap.size := by
 apply Classical.byContradiction
 intro hn
 unfold World.cell? at h
 rw [Array.getElem?_eq_none (by omega)] at h
 simp at h
theorem IsRow.held {w : World} {a : Option Addr} {len cap : Nat} {zs : List Int} {k : IntKind} (h : IsRow k w a len cap zs) : E.HeldF w (fun _ => True) (.row k (zs.take len)) (.slice a len cap) := by
 intro W' hW
 unfold E.Den
 rcases h with ⟨rfl, rfl, rfl, rfl⟩ | ⟨x, rfl, hl, hm, hz, hc, _⟩
 ·exact ⟨none, 0, rfl, Nat.le_refl _, fun h => by simp at h⟩
 ·have hlen : (zs.take len).length = len := by rw [List.length_take]; omega
  refine ⟨some x, cap, by rw [hlen], by rw [hlen]; exact hl, fun _ => ⟨x, rfl, fun i hi => ?_⟩⟩
  rw [hlen] at hi
  have h1 := hc i (by omega)
  have h2 := cell_lt h1
  have e : (zs.take len).getD i 0 = zs.getD i 0 := by
   rw [List.getD_eq_getElem?_getD, List.getD_eq_getElem?_getD, List.getElem?_take_of_lt hi]
  rw [e, ← h1]
  exact E.cell_same (hW _ trivial h2)
theorem held_int {w : World} {ok : Nat → Prop} (k : IntKind) (n : Int) : E.HeldF w ok (.lit (.int k n)) (.int k n) := E.held_lit _
theorem runs {P : Program} {f : FuncId} {A : E.AK} {g : Nat → A.T → Option Bool} (hd : ∀ k, E.Does P f A (.p .bool .nil) (g k) fun b => ((b, ()), [])) {x : A.T} (he : Ev (fun k => g k x) true) {w : World} {us : List Value} (hg : E.GOk w fun _ => True) (hx : E.XAll w (fun _ => True) none (A.put x) us) :
  Calls P f us.toArray w fun e w' => e = .returned (.bool true) ∧ Below w.heap.size w w' := by
 obtain ⟨k, hk⟩ := he
 refine ((hd k x true (hk k (Nat.le_refl _))).2 (fun _ => True) none w us hg hx).mono fun e w' ⟨G, vs, h1, h2, h3, _⟩ => ?_
 refine ⟨?_, (show E.Fr (fun _ => False) w w' from ⟨h3.os, h3.tape, h3.output, h3.size, fun k hk _ => h3.block k hk (fun h => by cases h)⟩).below⟩
 rw [h1]
 match vs, h2 with
 | [v], h2 => exact congrArg _ (E.lit_of h2.1)
end Go.Proofs.YtkoeddgbhohggaaGreatDoor.Pure
end
section
namespace Go.Proofs.YtkoeddgbhohggaaGreatDoor.Pure
open Go.ChangeShapes Go.WideShapes Go.RowKit
set_option linter.unusedVariables false
end Go.Proofs.YtkoeddgbhohggaaGreatDoor.Pure
end
