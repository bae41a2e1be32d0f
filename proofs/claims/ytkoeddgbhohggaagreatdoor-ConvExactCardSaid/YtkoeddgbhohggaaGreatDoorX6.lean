/-
  Texts of this proof, one behind the other: RText, RRefB, RRefC, RRefD, RRefE, RInt, RRef2, RNum, RCrtM, RCrtA, RCrtB, RShl, RDbl, RCrtC, RSmall, RExact, RBox, RConvL, RConvX, RLaw, RArr. No condition of their own.
-/
import Derived.Test.YtkoeddgbhohggaaGreatDoorX5
import Derived.OpenShut
import Derived.Lib.SmallJoins
section
namespace Go.Proofs.YtkoeddgbhohggaaGreatDoor.Pure
open Go.RowKit Go.Proofs.YtkoeddgbhohggaaGreatDoor.F Go.Proofs.YtkoeddgbhohggaaGreatDoorW.PrintWords Go.Proofs.YtkoeddgbhohggaaGreatDoorW.PrintLast Go.Proofs.YtkoeddgbhohggaaGreatDoorW.PrintMore
open Go.Proofs.YtkoeddgbhohggaaGreatDoor.E (tEq tLt tApp tCut)
set_option linter.unusedVariables false
set_option linter.unusedSimpArgs false
theorem rd_get (l : List Int) (p : Nat) : rd l (p : Int) = l[p]?.getD 0 := by simp [rd, List.getD_eq_getElem?_getD]
theorem turn_l14 (l : List Int) (hl : l.length ≤ 1000000) : ∀ (d i : Nat) (c : List Int), l.length - i = d → c.length = l.length →
  (∀ p, p < l.length → c[p]? = if p < i ∨ l.length - 1 - i < p then l[l.length - 1 - p]? else l[p]?) → 2 * i ≤ l.length →
  Ev (fun k => Zz48.l14 k c (i : Int) ((l.length : Int) - 1 - (i : Int))) (strOfNums l.reverse) := by
 intro d
 induction d with
 | zero =>
  intro i c hd hc hp h2
  have h0 : l.length = 0 := by omega
  have hl0 : l = [] := List.length_eq_zero_iff.1 h0
  have hc0 : c = [] := List.length_eq_zero_iff.1 (by rw [hc, h0])
  subst hl0; subst hc0
  exact Ev.step (fun k => Zz48.l14_eq ..) (Ev.neg (by simp; omega) (Ev.pos (by decide) (Ev.now _)))
 | succ d ih =>
  intro i c hd hc hp h2
  by_cases h : (i : Int) < (l.length : Int) - 1 - (i : Int)
  ·have hk : (l.length : Int) - 1 - (i : Int) = ((l.length - 1 - i : Nat) : Int) := by omega
   have hki : l.length - 1 - i < c.length := by omega
   have hii : i < c.length := by omega
   have hp1 := hp i (by omega)
   have hp2 := hp (l.length - 1 - i) (by omega)
   rw [if_neg (by omega)] at hp1 hp2
   have r1 : rd c (i : Int) = rd l (i : Int) := by rw [rd_get, rd_get, hp1]
   have r2 : rd c ((l.length - 1 - i : Nat) : Int) = rd l ((l.length - 1 - i : Nat) : Int) := by rw [rd_get, rd_get, hp2]
   have g1 : l[i]? = some (rd l (i : Int)) := by rw [rd_get, List.getElem?_eq_getElem (by omega)]; rfl
   have g2 : l[l.length - 1 - i]? = some (rd l ((l.length - 1 - i : Nat) : Int)) := by rw [rd_get, List.getElem?_eq_getElem (by omega)]; rfl
   have g := ih (i + 1) ((c.set i (rd l ((l.length - 1 - i : Nat) : Int))).set (l.length - 1 - i) (rd l (i : Int))) (by omega) (by rw [List.length_set, List.length_set]; exact hc) (fun p hpl => by
    rw [List.getElem?_set, List.length_set]
    by_cases e1 : l.length - 1 - i = p
    ·rw [if_pos e1, if_pos hki, if_pos (by omega)]
     have : l.length - 1 - p = i := by omega
     rw [this, g1]
    ·rw [if_neg e1, List.getElem?_set]
     by_cases e2 : i = p
     ·rw [if_pos e2, if_pos hii, if_pos (by omega), ← e2, g2]
     ·rw [if_neg e2, hp p hpl]
      by_cases e3 : p < i ∨ l.length - 1 - i < p
      ·rw [if_pos e3, if_pos (by omega)]
      ·rw [if_neg e3, if_neg (by omega)]) (by omega)
   have w1 : wrap64 ((i : Int) + 1) = ((i + 1 : Nat) : Int) := w64_succ (by omega)
   have w2 : wrap64 (((l.length - 1 - i : Nat) : Int) - 1) = (l.length : Int) - 1 - ((i + 1 : Nat) : Int) := by
    rw [w64_dec (by clear w1; omega)]; clear w1; omega
   have q1 : (i : Int) < ((l.length - 1 - i : Nat) : Int) := by rw [← hk]; exact h
   refine Ev.step (fun k => Zz48.l14_eq ..) ?_
   rw [hk, w1, w2, r1, r2, Int.toNat_natCast, Int.toNat_natCast]
   refine Ev.pos q1 (Ev.pos (Int.natCast_nonneg _) (Ev.pos (Int.ofNat_lt.2 hki) (Ev.pos (Int.natCast_nonneg _) (Ev.pos (Int.ofNat_lt.2 hii) (Ev.pos (Int.natCast_nonneg _) (Ev.pos (Int.ofNat_lt.2 hii) (Ev.pos (Int.natCast_nonneg _) (Ev.pos ?_ g))))))))
   rw [List.length_set]; exact Int.ofNat_lt.2 hki
  ·have e : c = l.reverse := by
    apply List.ext_getElem?
    intro p
    by_cases hpl : p < l.length
    ·rw [hp p hpl, List.getElem?_reverse hpl]
     by_cases e3 : p < i ∨ l.length - 1 - i < p
     ·rw [if_pos e3]
     ·rw [if_neg e3]
      have : l.length - 1 - p = p := by omega
      rw [this]
    ·rw [List.getElem?_eq_none (by omega), List.getElem?_eq_none (by simp; omega)]
   subst e
   exact Ev.step (fun k => Zz48.l14_eq ..) (Ev.neg h (Ev.pos (by rw [List.length_reverse]; omega) (Ev.now _)))
theorem turn_ev {l : List Int} (hl : l.length ≤ 1000000) : Ev (fun k => Zz48.l14 k l 0 (wrap64 ((l.length : Int) - 1))) (strOfNums l.reverse) := by
 have g := turn_l14 l hl _ 0 l rfl rfl (fun p hp => by rw [if_neg (by omega)]) (Nat.zero_le _)
 have e : (l.length : Int) - 1 - ((0 : Nat) : Int) = wrap64 ((l.length : Int) - 1) := by rw [w64_dec (by omega)]; omega
 rw [e] at g
 exact g
def Lead (out : List Int) : Prop := out = [] ∨ 10 ^ (out.length - 1) ≤ dv out
theorem dig_int {n : Nat} (h : n < 18446744073709551616) : (IntKind.u64.wrap (48 + (Int.tmod (n : Int) 10))) % 256 = ((48 + n % 10 : Nat) : Int) := by
 rw [Int.tmod_eq_emod_of_nonneg (by omega), wu]; omega
theorem dig_next {n : Nat} (h : n < 18446744073709551616) : IntKind.u64.wrap (Int.tdiv (n : Int) 10) = ((n / 10 : Nat) : Int) := by
 rw [Int.tdiv_eq_ediv_of_nonneg (by omega), wu]; omega
theorem lt_digits {L T W D x : Nat} (h : x + 10 ^ L * T = W) (hT : T ≠ 0) (hW : W < 10 ^ D) : L < D := by
 have h1 : 10 ^ L ≤ 10 ^ L * T := Nat.le_mul_of_pos_right _ (Nat.pos_of_ne_zero hT)
 exact (Nat.pow_lt_pow_iff_right (by decide)).1 (Nat.lt_of_le_of_lt (show 10 ^ L ≤ W by omega) hW)
theorem split10 {a p m : Nat} : (a * 10 ^ (m + 1) + p) = 10 * (a * 10 ^ m + p / 10) + p % 10 := by
 rw [Nat.pow_succ]
 have := Nat.div_add_mod p 10
 have e : a * (10 ^ m * 10) = 10 * (a * 10 ^ m) := by grind
 rw [e, Nat.mul_add]; omega
theorem push_dv {x L T' d T W : Nat} (h : x + 10 ^ L * T = W) (hT : T = 10 * T' + d) : x + 10 ^ L * d + 10 ^ (L + 1) * T' = W := by
 rw [← h, hT, Nat.pow_succ]; grind
theorem print_l9 (a W D : Nat) (R : ByteArray) (hW : W < 10 ^ D) (hD : D ≤ 1000000) (H : ∀ out : List Int, DI out → dv out + 10 ^ out.length * a = W → (a ≠ 0 ∨ Lead out) → Ev (fun k => Zz48.l5 k (limbs a) out) R) :
  ∀ (m i part : Nat) (out : List Int), 19 - i = m → i ≤ 19 → part < 10 ^ m → part < 18446744073709551616 → DI out → dv out + 10 ^ out.length * (a * 10 ^ m + part) = W → (a * 10 ^ m + part ≠ 0 ∨ Lead out) →
  Ev (fun k => Zz48.l9 k (limbs a) out (part : Int) (i : Int)) R := by
 intro m
 induction m with
 | zero =>
  intro i part out hm hi hp hp64 hDI hv hz
  have hi19 : i = 19 := by clear hv hp; omega
  have hp0 : part = 0 := by rw [Nat.pow_zero] at hp; clear hv; omega
  subst hi19; subst hp0
  rw [Nat.pow_zero, Nat.mul_one, Nat.add_zero] at hv hz
  exact Ev.step (fun k => Zz48.l9_eq ..) (Ev.neg (by decide) (H out hDI hv hz))
 | succ m ih =>
  intro i part out hm hi hp hp64 hDI hv hz
  have hi19 : i < 19 := by clear hv hp; omega
  have hi19' : (i : Int) < 19 := by clear hv hp; omega
  have hm' : 19 - (i + 1) = m := by clear hv hp; omega
  have w1 : wrap64 ((i : Int) + 1) = ((i + 1 : Nat) : Int) := w64_succ (by clear hv hp; omega)
  by_cases hT : a * 10 ^ (m + 1) + part = 0
  ·have hp0 : part = 0 := by clear w1 hp; omega
   have ha0 : a = 0 := by
    have h1 : a * 10 ^ (m + 1) = 0 := by clear w1 hp; omega
    rcases Nat.mul_eq_zero.1 h1 with h | h
    ·exact h
    ·exact absurd h (Nat.ne_of_gt (Nat.pow_pos (by decide)))
   rw [hT, Nat.mul_zero, Nat.add_zero] at hv
   have hl := hz.resolve_left (fun h => h hT)
   have g := H out hDI (by rw [ha0, Nat.mul_zero, Nat.add_zero]; exact hv) (.inr hl)
   subst ha0; subst hp0
   rw [limbs_zero] at g ⊢
   exact Ev.step (fun k => Zz48.l9_eq ..) (Ev.pos hi19' (Ev.neg (by decide) (Ev.neg (by decide) g)))
  ·have hL := lt_digits hv hT hW
   have hol : out.length + 1 ≤ 140737488355328 := by clear w1 hv hp hW; omega
   have hp' : part / 10 < 10 ^ m := Nat.div_lt_of_lt_mul (by rw [Nat.pow_succ, Nat.mul_comm] at hp; exact hp)
   have hd : part % 10 < 10 := Nat.mod_lt _ (by decide)
   have hD1 : DI (out ++ [((48 + part % 10 : Nat) : Int)]) := hDI.snoc (by clear w1 hv hp hW; omega)
   have edv : dv (out ++ [((48 + part % 10 : Nat) : Int)]) = dv out + 10 ^ out.length * (part % 10) := by
    rw [dv_snoc, Int.toNat_natCast, Nat.add_sub_cancel_left]
   have hsp := split10 (a := a) (p := part) (m := m)
   have hv' : dv (out ++ [((48 + part % 10 : Nat) : Int)]) + 10 ^ (out ++ [((48 + part % 10 : Nat) : Int)]).length * (a * 10 ^ m + part / 10) = W := by
    rw [edv, List.length_append, List.length_singleton]
    exact push_dv hv hsp
   have hz' : a * 10 ^ m + part / 10 ≠ 0 ∨ Lead (out ++ [((48 + part % 10 : Nat) : Int)]) := by
    by_cases h : a * 10 ^ m + part / 10 = 0
    ·refine .inr (.inr ?_)
     rw [edv, List.length_append, List.length_singleton, Nat.add_sub_cancel]
     rw [h, Nat.mul_zero, Nat.zero_add] at hsp
     have h1 : 0 < part % 10 := Nat.pos_of_ne_zero fun h2 => hT (by rw [hsp, h2])
     exact Nat.le_trans (Nat.le_mul_of_pos_right _ h1) (Nat.le_add_left _ _)
    ·exact .inl h
   have g := ih (i + 1) (part / 10) (out ++ [((48 + part % 10 : Nat) : Int)]) hm' hi19 hp' (Nat.lt_of_le_of_lt (Nat.div_le_self _ _) hp64) hD1 hv' hz'
   refine Ev.step (fun k => Zz48.l9_eq ..) (Ev.pos hi19' ?_)
   rw [dig_int hp64, dig_next hp64, w1]
   by_cases hp0 : (part : Int) > 0
   ·exact Ev.pos hp0 (Ev.pos hol g)
   ·have ha0 : a ≠ 0 := fun h => hT (by
     rw [h, Nat.zero_mul, Nat.zero_add]; clear w1 hv hv' hp hW hsp edv; omega)
    have hlp := limbs_length_pos ha0
    exact Ev.neg hp0 (Ev.pos (by clear w1 hv hv' hp hW hsp edv; omega) (Ev.pos hol g))
theorem lead_ds {out : List Int} (hDI : DI out) (h : Lead out) (hne : out ≠ []) : tx (by8 out.reverse) = dec (dv out) := by
 have hd : DS (by8 out.reverse) := by8_DS (fun x hx => hDI x (by simpa using hx))
 have hl : (by8 out.reverse).length = out.length := by simp [by8]
 have hne' : by8 out.reverse ≠ [] := fun h1 => hne (List.length_eq_zero_iff.1 (by rw [← hl, h1]; rfl))
 have hs := sv_by8_reverse hDI
 have hge := h.resolve_left hne
 have e := ds_of hd hne' (by
  by_cases h1 : (by8 out.reverse).length = 1
  ·exact .inl h1
  ·refine .inr fun h2 h3 => ?_
   generalize by8 out.reverse = l at *
   cases l with
   | nil => exact h2 rfl
   | cons x xs =>
    rw [List.head_cons] at h3
    have h4 := sv_lt hd.tail
    rw [sv_cons, h3] at hs
    have h5 : ((48 : UInt8).toNat - 48) * 10 ^ xs.length = 0 := by
     have : (48 : UInt8).toNat - 48 = 0 := rfl
     rw [this, Nat.zero_mul]
    rw [h5, Nat.zero_add] at hs
    have h6 : xs.length = out.length - 1 := by rw [← hl]; rfl
    rw [h6, hs] at h4
    exact absurd hge (Nat.not_le.2 h4))
 rw [hs] at e
 rw [e]; rfl
theorem print_l5 (W D : Nat) (hW : W < 10 ^ D) (hD : D ≤ 1000000) (hW0 : W ≠ 0) : ∀ (a : Nat) (out : List Int), (limbs a).length ≤ 1000 → DI out → dv out + 10 ^ out.length * a = W → (a ≠ 0 ∨ Lead out) → Ev (fun k => Zz48.l5 k (limbs a) out) (dec W) := by
 intro a
 induction a using Nat.strongRecOn with
 | _ a ih =>
  intro out hl hDI hv hz
  by_cases h : a = 0
  ·have hlead := hz.resolve_left (fun h1 => h1 h)
   rw [h, Nat.mul_zero, Nat.add_zero] at hv
   have hne : out ≠ [] := fun h1 => hW0 (by rw [← hv, h1]; rfl)
   have hge := hlead.resolve_left hne
   have hlen : out.length ≤ 1000000 := by
    have h1 : out.length - 1 < D := (Nat.pow_lt_pow_iff_right (by decide)).1 (Nat.lt_of_le_of_lt hge (by rw [hv]; exact hW))
    clear hv hge hW; omega
   have g := turn_ev hlen
   rw [strOf_tx, lead_ds hDI hlead hne, hv] at g
   subst h
   rw [limbs_zero]
   exact Ev.step (fun k => Zz48.l5_eq ..) (Ev.neg (by decide) g)
  ·have hp := limbs_length_pos h
   have gd := divw_ev (limbs_WF a) (Nat.le_trans hl (by decide)) (show 0 < 10000000000000000000 by decide) (by decide)
   rw [nv_limbs] at gd
   have hlt : a / 10000000000000000000 < a := Nat.div_lt_self (Nat.pos_of_ne_zero h) (by decide)
   have hdm := Nat.div_add_mod a 10000000000000000000
   have hml := Nat.mod_lt a (show 10000000000000000000 > 0 by decide)
   have g := print_l9 (a / 10000000000000000000) W D (dec W) hW hD (fun out' h1 h2 h3 => ih _ hlt out' (Nat.le_trans (limbs_length_mono (Nat.le_of_lt hlt)) hl) h1 h2 h3) 19 0 (a % 10000000000000000000) out rfl (by decide) hml (Nat.lt_trans hml (by decide)) hDI (by
    rw [show (10 : Nat) ^ 19 = 10000000000000000000 from rfl, Nat.mul_comm (a / _), hdm]; exact hv) (by
    rw [show (10 : Nat) ^ 19 = 10000000000000000000 from rfl, Nat.mul_comm (a / _), hdm]; exact hz)
   exact Ev.step (fun k => Zz48.l5_eq ..) (Ev.pos (by clear hv hdm hml g; omega) (Ev.bind gd g))
theorem print_ev {x : List Int} (hx : WF x) (hl : x.length ≤ 1000) : Ev (fun k => Zz48.f k x) (dec (nv x)) := by
 refine Ev.congr (fun k => Zz48.f_eq ..) (Ev.bind (norm_ev hx (Nat.le_trans hl (by decide))) ?_)
 have hla := Nat.le_trans (limbs_length_le (nv_lt hx)) hl
 by_cases h : nv x = 0
 ·rw [h, limbs_zero]
  refine Ev.congr (fun k => if_pos rfl) ?_
  rw [dec_zero]
  exact Ev.now _
 ·have hp := limbs_length_pos h
  refine Ev.congr (fun k => if_neg (by omega)) ?_
  have hD : (20 * x.length + 1) ≤ 1000000 := by omega
  have hW : nv x < 10 ^ (20 * x.length + 1) := by
   refine Nat.lt_of_lt_of_le (nv_lt hx) ?_
   rw [Nat.pow_succ, Nat.pow_mul]
   exact Nat.le_trans (Nat.pow_le_pow_left (by decide) _) (Nat.le_mul_of_pos_right _ (by decide))
  exact print_l5 (nv x) _ hW hD h (nv x) [] hla (fun x hx => by cases hx) (by simp [dv]) (.inl h)
def Fine (l : List UInt8) : Prop := l ≠ [] ∧ DS l ∧ (l = [48] ∨ l.head? ≠ some 48)
def wv : List Int → Nat
 | [] => 0
 | x :: xs => x.toNat + 10 * wv xs
theorem wv_set (l : List Int) (n : Nat) (v : Int) (hn : n < l.length) : wv (l.set n v) + l[n].toNat * 10 ^ n = wv l + v.toNat * 10 ^ n := by
 induction l generalizing n with
 | nil => simp at hn
 | cons x xs ih =>
  cases n with
  | zero => simp [wv]; omega
  | succ n =>
   have h1 := ih n (by simpa using hn)
   simp only [List.set_cons_succ, wv, List.getElem_cons_succ, Nat.pow_succ]
   grind
theorem wv_zeros (n : Nat) : wv (List.replicate n 0) = 0 := by
 induction n with
 | zero => rfl
 | succ n ih => simp [List.replicate_succ, wv, ih]
theorem wv_drop (l : List Int) (n : Nat) (hn : n < l.length) : wv (l.drop n) = l[n].toNat + 10 * wv (l.drop (n + 1)) := by
 rw [List.drop_eq_getElem_cons hn]; rfl
def BD (S : Nat) (l : List Int) : Prop := ∀ x ∈ l, 0 ≤ x ∧ x ≤ (S : Int)
theorem BD.get {S : Nat} {l : List Int} (h : BD S l) {n : Nat} (hn : n < l.length) : 0 ≤ l[n] ∧ l[n] ≤ (S : Int) := h _ (List.getElem_mem hn)
theorem BD.set {S : Nat} {l : List Int} (h : BD S l) (n : Nat) {v : Int} (hv : 0 ≤ v ∧ v ≤ ((S + 81 : Nat) : Int)) : BD (S + 81) (l.set n v) := fun x hx => by
 rcases List.mem_or_eq_of_mem_set hx with hx | rfl
 ·have := h x hx; omega
 ·exact hv
theorem BD.mono {S T : Nat} {l : List Int} (h : BD S l) (hST : S ≤ T) : BD T l := fun x hx => by have := h x hx; omega
theorem out_inv {P v x c W T : Nat} (hv : v + P * c + P * (x + 10 * W) = T) : v + P * ((x + c) % 10) + P * 10 * ((x + c) / 10) + P * 10 * W = T := by
 have h4 := carry_dec P (x + c)
 rw [← hv, Nat.mul_add P x, Nat.mul_assoc P 10 W]
 rw [Nat.mul_add] at h4
 generalize P * (10 * W) = Q at *
 generalize P * ((x + c) % 10) = Q1 at *
 generalize P * 10 * ((x + c) / 10) = Q2 at *
 generalize P * x = Q3 at *
 generalize P * c = Q4 at *
 clear hv
 omega
theorem out_end {P v c T : Nat} (hv : v + P * c = T) (hT : T < P) : v = T := by
 rcases Nat.eq_zero_or_pos c with h2 | h2
 ·subst h2; rw [Nat.mul_zero] at hv; exact hv
 ·have h3 := Nat.mul_le_mul_left P h2
  generalize P * c = Q at *
  omega
theorem out_word {x c S : Nat} (hx : (x : Int) ≤ (S : Int)) (hc : c ≤ S) (hS : S ≤ 10000000000000000) : wrap64 ((x : Int) + (c : Int)) = ((x + c : Nat) : Int) ∧ x + c < 1000000000000000000 ∧ (x + c) / 10 ≤ S :=
 ⟨w64_sum (by omega), by omega, by omega⟩
theorem mul_out (s : List Int) (S : Nat) (hS : S ≤ 10000000000000000) (hB : BD S s) (hl : s.length ≤ 1000000000) (T : Nat) (hT : T < 10 ^ s.length) : ∀ (d i : Nat) (out : List Int) (c : Nat), s.length - i = d → out.length = i → i ≤ s.length → DI out → c ≤ S → dv out + 10 ^ i * c + 10 ^ i * wv (s.drop i) = T →
  Ev (fun k => Zz94.l12 k s out (c : Int) (i : Int)) (dec T) := by
 intro d
 induction d with
 | zero =>
  intro i out c hd ho hi hD hc hv
  have hi2 : i = s.length := by clear hv hT; omega
  have e : dv out = T := by
   rw [hi2, List.drop_length, ← hi2] at hv
   rw [← hi2] at hT
   exact out_end hv hT
  have ol : out.length ≤ 1099511627776 := by clear hv hT e; omega
  rw [← e]
  exact Ev.step (fun k => Zz94.l12_eq ..) (Ev.neg (by rw [hi2]; exact Int.lt_irrefl _) (out_ev hD ol))
 | succ d ih =>
  intro i out c hd ho hi hD hc hv
  have hi0 : i < s.length := by clear hv hT; omega
  have ol : out.length + 1 ≤ 140737488355328 := by clear hv hT; omega
  have e1 : wrap64 ((i : Int) + 1) = ((i + 1 : Nat) : Int) := w64_succ (by clear hv hT; omega)
  have hd' : s.length - (i + 1) = d := by clear hv hT; omega
  obtain ⟨b0, b1⟩ := hB.get hi0
  rw [wv_drop s i hi0] at hv
  have hr : rd s (i : Int) = s[i] := rd_of rfl hi0
  generalize s[i] = x at *
  obtain ⟨x, rfl⟩ := Int.eq_ofNat_of_zero_le b0
  obtain ⟨hsum, hn, hc'⟩ := out_word b1 hc hS
  have hlt : (x + c) % 10 < 10 := Nat.mod_lt _ (by decide)
  have hv' : dv (out ++ [((48 + (x + c) % 10 : Nat) : Int)]) + 10 ^ (i + 1) * ((x + c) / 10) + 10 ^ (i + 1) * wv (s.drop (i + 1)) = T := by
   rw [dv_step ho _ hlt, Nat.pow_succ]
   exact out_inv hv
  have g := ih (i + 1) _ _ hd' (by rw [List.length_append, ho]; rfl) hi0 (hD.step hlt) hc' hv'
  refine Ev.step (fun k => Zz94.l12_eq ..) ?_
  rw [hr, hsum, digit_byte hn, digit_carry hn, e1]
  exact Ev.pos (Int.ofNat_lt.2 hi0) (Ev.pos (Int.natCast_nonneg i) (Ev.pos (Int.ofNat_lt.2 hi0) (Ev.pos ol g)))
theorem mul_set {w' w x A B i j : Nat} (h : w' + x * 10 ^ (i + j) = w + (x + A * B) * 10 ^ (i + j)) : w' = w + 10 ^ i * A * (10 ^ j * B) := by
 rw [Nat.add_mul] at h
 have e : A * B * 10 ^ (i + j) = 10 ^ i * A * (10 ^ j * B) := by rw [Nat.pow_add]; grind
 rw [e] at h
 omega
theorem mul_word {x A B S : Nat} (hx : (x : Int) ≤ (S : Int)) (hA : A < 10) (hB : B < 10) (hS : S ≤ 10000000000000000) : wrap64 ((x : Int) + (wrap64 ((A : Int) * (B : Int)))) = ((x + A * B : Nat) : Int) ∧ x + A * B ≤ S + 81 := by
 have h1 : A * B ≤ 9 * 9 := Nat.mul_le_mul (by omega) (by omega)
 have e : (A : Int) * (B : Int) = ((A * B : Nat) : Int) := by simp
 rw [e]
 generalize A * B = m at *
 rw [w64_of (x := (m : Int)) (by omega) (by omega), w64_sum (by omega)]
 exact ⟨rfl, by omega⟩
theorem rmul_l6 (a b i L : Nat) (la : (ds a).length ≤ 10000000) (lb : (ds b).length ≤ 10000000) (hi : i < (ds a).length) (hL : L = (ds a).length + (ds b).length + 1) (R : ByteArray)
  (H : ∀ s', s'.length = L → BD (81 * ((i + 1) * (ds b).length)) s' → wv s' = a % 10 ^ (i + 1) * b → Ev (fun k => Zz94.l3 k (dec a) (dec b) s' ((i + 1 : Nat) : Int)) R) :
  ∀ (d j : Nat) (s : List Int), (ds b).length - j = d → j ≤ (ds b).length → s.length = L → BD (81 * (i * (ds b).length + j)) s → wv s = a % 10 ^ i * b + 10 ^ i * (a / 10 ^ i % 10) * (b % 10 ^ j) →
  Ev (fun k => Zz94.l6 k (dec a) (dec b) s (i : Int) (j : Int)) R := by
 intro d
 induction d with
 | zero =>
  intro j s hd hj hs hB hv
  have hj2 : j = (ds b).length := by clear hv hB H; omega
  have hv2 : wv s = a % 10 ^ (i + 1) * b := by
   rw [hv, mod_all (a := b) (by rw [hj2]; exact Nat.le_refl _), mod_pow_step a i, Nat.add_mul]
  have hB2 : BD (81 * ((i + 1) * (ds b).length)) s := by rw [Nat.add_mul, Nat.one_mul]; rw [hj2] at hB; exact hB
  have e1 : wrap64 ((i : Int) + 1) = ((i + 1 : Nat) : Int) := w64_succ (by clear hv hB H hv2 hB2; omega)
  refine Ev.step (fun k => Zz94.l6_eq ..) ?_
  rw [dec_size, e1]
  exact Ev.neg (by rw [hj2]; exact Int.lt_irrefl _) (H s hs hB2 hv2)
 | succ d ih =>
  intro j s hd hj hs hB hv
  have hA : a / 10 ^ i % 10 < 10 := Nat.mod_lt _ (by decide)
  have hBd : b / 10 ^ j % 10 < 10 := Nat.mod_lt _ (by decide)
  have sb := mod_pow_step b j
  have hj0 : j < (ds b).length := by clear hv hB H hA hBd sb; omega
  have hd' : (ds b).length - (j + 1) = d := by clear hv hB H hA hBd sb; omega
  have hij : i + j < s.length := by clear hv hB H hA hBd sb; omega
  have da : (ds a).length ≤ 1099511627776 := by clear hv hB H hA hBd sb; omega
  have db : (ds b).length ≤ 1099511627776 := by clear hv hB H hA hBd sb; omega
  have e1 : wrap64 ((j : Int) + 1) = ((j + 1 : Nat) : Int) := w64_succ (by clear hv hB H hA hBd sb; omega)
  have e2 : wrap64 ((i : Int) + (j : Int)) = ((i + j : Nat) : Int) := w64_sum (by clear hv hB H hA hBd sb e1; omega)
  have hS : 81 * (i * (ds b).length + j) ≤ 10000000000000000 := by
   have h1 : i * (ds b).length ≤ 10000000 * 10000000 := Nat.mul_le_mul (by clear hv hB H hA hBd sb e1 e2; omega) lb
   clear hv hB H hA hBd sb e1 e2
   generalize i * (ds b).length = m at *
   omega
  have dx := digit_ev a i da
  have dy := digit_ev b j db
  obtain ⟨b0, b1⟩ := hB.get hij
  have hr : rd s ((i + j : Nat) : Int) = s[i + j] := rd_of rfl hij
  have hset := wv_set s (i + j) (((s[i + j]).toNat + (a / 10 ^ i % 10) * (b / 10 ^ j % 10) : Nat) : Int) hij
  generalize s[i + j] = x at *
  obtain ⟨x, rfl⟩ := Int.eq_ofNat_of_zero_le b0
  obtain ⟨hsum, hbd⟩ := mul_word b1 hA hBd hS
  have hx : ((x : Nat) : Int).toNat = x := Int.toNat_natCast x
  rw [hx] at hset
  have hw := mul_set hset
  rw [hv, Nat.add_assoc, ← Nat.mul_add, ← sb] at hw
  have hB' := hB.set (i + j) (v := ((x + (a / 10 ^ i % 10) * (b / 10 ^ j % 10) : Nat) : Int)) ⟨Int.natCast_nonneg _, Int.ofNat_le.2 hbd⟩
  have e3 : 81 * (i * (ds b).length + j) + 81 = 81 * (i * (ds b).length + (j + 1)) := by rw [← Nat.add_assoc, Nat.mul_add 81 _ 1]
  rw [e3] at hB'
  have g := ih (j + 1) _ hd' hj0 (by rw [List.length_set]; exact hs) hB' hw
  refine Ev.step (fun k => Zz94.l6_eq ..) ?_
  rw [dec_size, e2]
  refine Ev.pos (Int.ofNat_lt.2 hj0) (Ev.pos (Int.natCast_nonneg (i + j)) (Ev.pos (Int.ofNat_lt.2 hij) (Ev.bind dx (Ev.bind dy (Ev.pos (Int.natCast_nonneg (i + j)) (Ev.pos (Int.ofNat_lt.2 hij) ?_))))))
  rw [hr, hsum, e1, Int.toNat_natCast]
  exact g
theorem rmul_l3 (a b L : Nat) (la : (ds a).length ≤ 10000000) (lb : (ds b).length ≤ 10000000) (hL : L = (ds a).length + (ds b).length + 1) :
  ∀ (d i : Nat) (s : List Int), (ds a).length - i = d → i ≤ (ds a).length → s.length = L → BD (81 * (i * (ds b).length)) s → wv s = a % 10 ^ i * b →
  Ev (fun k => Zz94.l3 k (dec a) (dec b) s (i : Int)) (dec (a * b)) := by
 intro d
 induction d with
 | zero =>
  intro i s hd hi hs hB hv
  have hi2 : i = (ds a).length := by clear hv hB; omega
  rw [mod_all (a := a) (by rw [hi2]; exact Nat.le_refl _)] at hv
  have hS : 81 * (i * (ds b).length) ≤ 10000000000000000 := by
   have h1 : i * (ds b).length ≤ 10000000 * 10000000 := Nat.mul_le_mul (by clear hv hB; omega) lb
   clear hv hB
   generalize i * (ds b).length = m at *
   omega
  have hT : a * b < 10 ^ s.length := by
   rw [hs, hL, Nat.pow_succ, Nat.pow_add]
   have h1 := Nat.mul_lt_mul'' (lt_pow_ds a) (lt_pow_ds b)
   generalize 10 ^ (ds a).length * 10 ^ (ds b).length = P at *
   generalize a * b = Q at *
   clear hv hB
   omega
  have ol : s.length ≤ 1000000000 := by clear hv hB hT hS; omega
  have hin : ¬ ((i : Int) < ((ds a).length : Int)) := by rw [hi2]; exact Int.lt_irrefl _
  have g := mul_out s _ hS hB ol _ hT _ 0 [] 0 rfl rfl (Nat.zero_le _) (fun x h => by cases h) (Nat.zero_le _) (by
    rw [List.drop_zero, hv, Nat.pow_zero]; simp [dv])
  refine Ev.step (fun k => Zz94.l3_eq ..) ?_
  rw [dec_size]
  exact Ev.neg hin g
 | succ d ih =>
  intro i s hd hi hs hB hv
  have hi0 : i < (ds a).length := by clear hv hB; omega
  have g := rmul_l6 a b i L la lb hi0 hL _ (fun s' h1 h2 h3 => ih (i + 1) s' (by clear hv hB h2 h3; omega) hi0 h1 h2 h3) _ 0 s rfl (Nat.zero_le _) hs (by rw [Nat.add_zero]; exact hB) (by rw [hv, Nat.pow_zero, Nat.mod_one, Nat.mul_zero, Nat.add_zero])
  refine Ev.step (fun k => Zz94.l3_eq ..) ?_
  rw [dec_size]
  exact Ev.pos (Int.ofNat_lt.2 hi0) g
theorem ref_mul {a b : Nat} (la : (ds a).length ≤ 10000000) (lb : (ds b).length ≤ 10000000) : Ev (fun k => Zz94.f k (dec a) (dec b)) (dec (a * b)) := by
 have e : wrap64 ((wrap64 (((ds a).length : Int) + ((ds b).length : Int))) + 1) = (((ds a).length + (ds b).length + 1 : Nat) : Int) := by
  rw [w64_sum (by omega), w64_succ (by omega)]
 have g := rmul_l3 a b ((ds a).length + (ds b).length + 1) la lb rfl _ 0 (List.replicate ((ds a).length + (ds b).length + 1) 0) rfl (Nat.zero_le _) (List.length_replicate ..) (fun x hx => by
  have := List.eq_of_mem_replicate hx
  subst this; exact ⟨by omega, by omega⟩) (by rw [wv_zeros, Nat.pow_zero, Nat.mod_one, Nat.zero_mul])
 refine Ev.congr (fun k => Zz94.f_eq ..) ?_
 rw [dec_size, dec_size, e, Int.toNat_natCast]
 exact Ev.pos (Int.natCast_nonneg _) (Ev.pos (by omega) g)

instance (l : List UInt8) : Decidable (DS l) := by unfold DS; infer_instance
theorem word_byte {n : Nat} (h : n < 18446744073709551616) : (IntKind.u64.wrap (48 + (Int.tmod (n : Int) 10))) % 256 = ((48 + n % 10 : Nat) : Int) := by
 rw [Int.tmod_eq_emod_of_nonneg (by omega), wu]; omega
theorem word_next {n : Nat} (h : n < 18446744073709551616) : IntKind.u64.wrap (Int.tdiv (n : Int) 10) = ((n / 10 : Nat) : Int) := by
 rw [Int.tdiv_eq_ediv_of_nonneg (by omega), wu]; omega
theorem word_l2 (W : Nat) : ∀ (m n : Nat) (out : List Int), n < 10 ^ m → n < 18446744073709551616 → out.length + m ≤ 1000 → DI out → dv out + 10 ^ out.length * n = W → Ev (fun k => Zz95.l2 k (n : Int) out) (dec W) := by
 intro m
 induction m with
 | zero =>
  intro n out hn hw hl hD hv
  have : n = 0 := by rw [Nat.pow_zero] at hn; omega
  subst this
  rw [Nat.mul_zero, Nat.add_zero] at hv
  rw [← hv]
  exact Ev.step (fun k => Zz95.l2_eq ..) (Ev.neg (by decide) (out_ev hD (by clear hv hn; omega)))
 | succ m ih =>
  intro n out hn hw hl hD hv
  by_cases h0 : n = 0
  ·subst h0
   rw [Nat.mul_zero, Nat.add_zero] at hv
   rw [← hv]
   exact Ev.step (fun k => Zz95.l2_eq ..) (Ev.neg (by decide) (out_ev hD (by clear hv hn; omega)))
  ·have hlt : n % 10 < 10 := Nat.mod_lt _ (by decide)
   have hn' : n / 10 < 10 ^ m := Nat.div_lt_of_lt_mul (by rw [Nat.pow_succ, Nat.mul_comm] at hn; exact hn)
   have hv' : dv (out ++ [((48 + n % 10 : Nat) : Int)]) + 10 ^ (out ++ [((48 + n % 10 : Nat) : Int)]).length * (n / 10) = W := by
    rw [dv_step rfl _ hlt, List.length_append, List.length_singleton, Nat.pow_succ, Nat.add_assoc, carry_dec, hv]
   have ol : out.length + 1 ≤ 140737488355328 := by clear hv hv' hn hn'; omega
   have g := ih (n / 10) _ hn' (by clear hv hv' hn hn'; omega) (by rw [List.length_append, List.length_singleton]; clear hv hv' hn hn'; omega) (hD.step hlt) hv'
   refine Ev.step (fun k => Zz95.l2_eq ..) ?_
   rw [word_byte hw, word_next hw]
   exact Ev.pos (by clear hv hv' hn hn'; omega) (Ev.pos ol g)
theorem ref_word {n : Nat} (h : n < 18446744073709551616) : Ev (fun k => Zz95.f k (n : Int)) (dec n) :=
 Ev.congr (fun k => Zz95.f_eq ..) (word_l2 n 20 n [] (Nat.lt_of_lt_of_le h (by decide)) h (by decide) (fun x h => by cases h) (by simp [dv]))
theorem ds_length_limbs {x : List Int} (hw : WF x) : (ds (nv x)).length ≤ 20 * x.length + 1 := by
 refine ds_length_le (Nat.lt_of_lt_of_le (nv_lt hw) ?_) (Nat.succ_pos _)
 rw [Nat.pow_succ, Nat.pow_mul]
 have h1 : 18446744073709551616 ^ x.length ≤ (10 ^ 20) ^ x.length := Nat.pow_le_pow_left (by decide) _
 exact Nat.le_trans h1 (Nat.le_mul_of_pos_right _ (by decide))
def code (l : List UInt8) : Int := if l = [] ∨ (1 < l.length ∧ l.head? = some 48) ∨ ¬ DS l then 16 else if 20000 < l.length then 13 else 0
def ng (z : Int) : Bool := decide (z < 0)
def sg (b : Bool) (n : Nat) : Int := if b then -(n : Int) else (n : Int)
theorem sg_abs (b : Bool) (n : Nat) : (sg b n).natAbs = n := by cases b <;> simp [sg]
theorem sg_ng (z : Int) : sg (ng z) z.natAbs = z := by
 unfold sg ng
 by_cases h : z < 0
 ·simp [h]; omega
 ·simp [h]; omega
theorem ng_sg (b : Bool) (n : Nat) : ng (sg b n) = (b && decide (0 < n)) := by
 unfold sg ng
 cases b <;> simp
theorem ng_true {z : Int} : ng z = true ↔ z < 0 := decide_eq_true_iff
theorem ng_false {z : Int} : ng z = false ↔ 0 ≤ z := by unfold ng; rw [decide_eq_false_iff_not]; omega
theorem sg_false (n : Nat) : sg false n = (n : Int) := rfl
theorem ng_nat (n : Nat) : ng (n : Int) = false := ng_false.2 (Int.natCast_nonneg n)
def Sz (p : Nat) (z : Int) : Prop := (limbs z.natAbs).length ≤ p
theorem Sz.lt {p : Nat} {z : Int} (h : Sz p z) : z.natAbs < 18446744073709551616 ^ p := pow_up (lt_pow_limbs _) h
theorem Sz.of {p : Nat} {z : Int} (h : z.natAbs < 18446744073709551616 ^ p) : Sz p z := limbs_length_le h
theorem Sz.up {p q : Nat} {z : Int} (h : Sz p z) (hpq : p ≤ q) : Sz q z := Nat.le_trans h hpq
theorem Sz.neg {p : Nat} {z : Int} (h : Sz p z) : Sz p (-z) := by unfold Sz at *; rwa [Int.natAbs_neg]
theorem Sz.add {p : Nat} {x y : Int} (hx : Sz p x) (hy : Sz p y) : Sz (p + 1) (x + y) :=
 Sz.of (Nat.lt_of_le_of_lt (Int.natAbs_add_le x y) (lt_add hx.lt hy.lt))
theorem Sz.sub {p : Nat} {x y : Int} (hx : Sz p x) (hy : Sz p y) : Sz (p + 1) (x - y) := by
 rw [Int.sub_eq_add_neg]; exact hx.add hy.neg
theorem Sz.mul {p q : Nat} {x y : Int} (hx : Sz p x) (hy : Sz q y) : Sz (p + q) (x * y) := Sz.of (by rw [Int.natAbs_mul]; exact lt_mul hx.lt hy.lt)
theorem Sz.mono {p : Nat} {x y : Int} (hy : Sz p y) (h : x.natAbs ≤ y.natAbs) : Sz p x := Nat.le_trans (limbs_length_mono h) hy
theorem made_ev (b : Bool) (n : Nat) : Ev (fun k => Zz12.f k b (limbs n)) (ng (sg b n), limbs n) := by
 refine Ev.congr (fun k => Zz12.f_eq ..) ?_
 rw [ng_sg]
 cases b with
 | false => exact Ev.neg (by decide) (Ev.now _)
 | true =>
  refine Ev.pos rfl (Ev.ret ?_)
  rw [Bool.true_and]
  congr 1
  apply decide_eq_decide.2
  by_cases h : n = 0
  ·subst h; rw [limbs_zero]; simp
  ·have := limbs_length_pos h
   omega
theorem made_of {b : Bool} {n : Nat} {z : Int} (h : sg b n = z) : Ev (fun k => Zz12.f k b (limbs n)) (ng z, limbs z.natAbs) := by
 have e : n = z.natAbs := by rw [← h, sg_abs]
 subst e
 have := made_ev b z.natAbs
 rwa [h] at this
theorem iof_ev {n : Int} (h1 : -9223372036854775808 ≤ n) (h2 : n ≤ 9223372036854775807) : Ev (fun k => Zz11.f k n) (ng n, limbs n.natAbs) := by
 have one : ∀ m : Nat, m ≠ 0 → m < 18446744073709551616 → limbs m = [(m : Int)] := fun m h0 h => by
  rw [limbs_pos h0, Nat.div_eq_of_lt h, limbs_zero, Nat.mod_eq_of_lt h]
 refine Ev.congr (fun k => Zz11.f_eq ..) ?_
 unfold ng
 by_cases h : n < 0
 ·refine Ev.pos h (Ev.ret ?_)
  rw [decide_eq_true h, one n.natAbs (by omega) (by omega)]
  congr 2
  rw [wu, wu]; omega
 ·refine Ev.neg h ?_
  rw [decide_eq_false h]
  by_cases h0 : n = 0
  ·refine Ev.pos h0 (Ev.ret ?_)
   rw [h0, show (0 : Int).natAbs = 0 from rfl, limbs_zero]
  ·refine Ev.neg h0 (Ev.ret ?_)
   rw [one n.natAbs (by omega) (by omega)]
   congr 2
   rw [wu]; omega
theorem sg_not (z : Int) : sg (!ng z) z.natAbs = -z := by
 have := sg_ng z
 cases e : ng z with
 | true => rw [e] at this; simp only [sg] at this ⊢; simp at this ⊢; omega
 | false => rw [e] at this; simp only [sg] at this ⊢; simp at this ⊢; omega
theorem ineg_ev (z : Int) : Ev (fun k => Zz6.f k (ng z) (limbs z.natAbs)) (ng (-z), limbs (-z).natAbs) :=
 Ev.congr (fun k => Zz6.f_eq ..) (Ev.bind (made_of (sg_not z)) (Ev.now _))
theorem isign_ev (z : Int) : Ev (fun k => Zz9.f k (ng z) (limbs z.natAbs)) z.sign := by
 refine Ev.congr (fun k => Zz9.f_eq ..) ?_
 by_cases h : z < 0
 ·exact Ev.pos (ng_true.2 h) (Ev.ret (Int.sign_eq_neg_one_of_neg h).symm)
 ·refine Ev.neg (fun h2 => h (ng_true.1 h2)) ?_
  by_cases h0 : z = 0
  ·subst h0
   rw [show (0 : Int).natAbs = 0 from rfl, limbs_zero]
   exact Ev.neg (by decide) (Ev.now _)
  ·have hp := limbs_length_pos (show z.natAbs ≠ 0 by omega)
   exact Ev.pos (by omega) (Ev.ret (Int.sign_eq_one_of_pos (by omega)).symm)
theorem same_ng {x y : Int} : ng x = ng y ↔ (x < 0 ↔ y < 0) := by
 unfold ng
 rw [decide_eq_decide]
theorem sg_same {x y : Int} (h : ng x = ng y) : sg (ng x) (x.natAbs + y.natAbs) = x + y := by
 have h1 := same_ng.1 h
 unfold sg
 by_cases hx : x < 0
 ·rw [if_pos (ng_true.2 hx)]; omega
 ·rw [if_neg (fun e => hx (ng_true.1 e))]; omega
theorem sg_diff {x y : Int} (h : ng x ≠ ng y) (hle : y.natAbs ≤ x.natAbs) : sg (ng x) (x.natAbs - y.natAbs) = x + y := by
 have h1 : ¬ (x < 0 ↔ y < 0) := fun e => h (same_ng.2 e)
 unfold sg
 by_cases hx : x < 0
 ·rw [if_pos (ng_true.2 hx)]; omega
 ·rw [if_neg (fun e => hx (ng_true.1 e))]; omega
theorem iadd_ev {x y : Int} (lx : Sz 1000 x) (ly : Sz 1000 y) : Ev (fun k => Zz1.f k (ng x) (limbs x.natAbs) (ng y) (limbs y.natAbs)) (ng (x + y), limbs (x + y).natAbs) := by
 refine Ev.congr (fun k => Zz1.f_eq ..) ?_
 by_cases h : ng x = ng y
 ·exact Ev.pos h (Ev.bind (addL lx ly) (Ev.bind (made_of (sg_same h)) (Ev.now _)))
 ·have gc := cmp_ev (limbs_WF x.natAbs) (limbs_WF y.natAbs) (Nat.le_trans lx (by decide)) (Nat.le_trans ly (by decide))
  rw [nv_limbs, nv_limbs] at gc
  refine Ev.neg h (Ev.bind gc ?_)
  by_cases hlt : x.natAbs < y.natAbs
  ·have gs := sub_ev (limbs_WF y.natAbs) (limbs_WF x.natAbs) ly lx
   rw [nv_limbs, nv_limbs, if_neg (by omega)] at gs
   have e := sg_diff (x := y) (y := x) (fun e => h e.symm) (by omega)
   rw [Int.add_comm] at e
   exact Ev.pos (cmpI_lt.2 hlt) (Ev.bind gs (Ev.bind (made_of e) (Ev.now _)))
  ·have gs := sub_ev (limbs_WF x.natAbs) (limbs_WF y.natAbs) lx ly
   rw [nv_limbs, nv_limbs, if_neg (by omega)] at gs
   exact Ev.neg (fun e => hlt (cmpI_lt.1 e)) (Ev.bind gs (Ev.bind (made_of (sg_diff h (by omega))) (Ev.now _)))
theorem isub_ev {x y : Int} (lx : Sz 1000 x) (ly : Sz 1000 y) : Ev (fun k => Zz10.f k (ng x) (limbs x.natAbs) (ng y) (limbs y.natAbs)) (ng (x - y), limbs (x - y).natAbs) := by
 have g := iadd_ev lx ly.neg
 rw [← Int.sub_eq_add_neg] at g
 exact Ev.congr (fun k => Zz10.f_eq ..) (Ev.bind (ineg_ev y) (Ev.bind g (Ev.now _)))
theorem sg_mul (x y : Int) : sg (!decide (ng x = ng y)) (x.natAbs * y.natAbs) = x * y := by
 have hx := sg_ng x; have hy := sg_ng y
 generalize x.natAbs = a at *
 generalize y.natAbs = b at *
 generalize ng x = p at *
 generalize ng y = q at *
 subst hx; subst hy
 cases p <;> cases q <;> simp [sg, Int.neg_mul, Int.mul_neg]
theorem imul_ev {x y : Int} (lx : Sz 1000 x) (ly : Sz 1000 y) : Ev (fun k => Zz4.f k (ng x) (limbs x.natAbs) (ng y) (limbs y.natAbs)) (ng (x * y), limbs (x * y).natAbs) :=
 Ev.congr (fun k => Zz4.f_eq ..) (Ev.bind (mulL lx ly) (Ev.bind (made_of (sg_mul x y)) (Ev.now _)))
theorem ifrom_ev {b : Bool} {l : List Int} (hw : WF l) (hl : l.length ≤ 1000) : Ev (fun k => Zz0.f k b l) (ng (sg b (nv l)), limbs (sg b (nv l)).natAbs) :=
 Ev.congr (fun k => Zz0.f_eq ..) (Ev.bind (norm_ev hw (Nat.le_trans hl (by decide))) (Ev.bind (made_of rfl) (Ev.now _)))
theorem inat_ev {z : Int} (h : Sz 1000 z) : Ev (fun k => Zz5.f k (ng z) (limbs z.natAbs)) (limbs z.natAbs) := by
 have g := norm_ev (limbs_WF z.natAbs) (Nat.le_trans h (by decide))
 rw [nv_limbs] at g
 exact Ev.congr (fun k => Zz5.f_eq ..) (Ev.bind g (Ev.now _))
theorem natAbs_tdiv (x y : Int) : sg (!decide (ng x = ng y)) (x.natAbs / y.natAbs) = Int.tdiv x y := by
 have hx := sg_ng x; have hy := sg_ng y
 generalize x.natAbs = a at *
 generalize y.natAbs = b at *
 generalize ng x = p at *
 generalize ng y = q at *
 subst hx; subst hy
 have e : Int.tdiv (a : Int) (b : Int) = ((a / b : Nat) : Int) := rfl
 cases p <;> cases q <;> simp [sg, Int.neg_tdiv, Int.tdiv_neg, e]
theorem natAbs_tmod (x y : Int) : sg (ng x) (x.natAbs % y.natAbs) = Int.tmod x y := by
 have hx := sg_ng x; have hy := sg_ng y
 generalize x.natAbs = a at *
 generalize y.natAbs = b at *
 generalize ng x = p at *
 generalize ng y = q at *
 subst hx; subst hy
 have e : Int.tmod (a : Int) (b : Int) = ((a % b : Nat) : Int) := rfl
 cases p <;> cases q <;> simp [sg, Int.neg_tmod, Int.tmod_neg, e]
theorem iqr_ev {x y : Int} (lx : Sz 1000 x) (ly : Sz 1000 y) (h : y ≠ 0) : Ev (fun k => Zz8.f k (ng x) (limbs x.natAbs) (ng y) (limbs y.natAbs)) (ng (Int.tdiv x y), limbs (Int.tdiv x y).natAbs, ng (Int.tmod x y), limbs (Int.tmod x y).natAbs, 0) := by
 have g := dm_ev (limbs_WF x.natAbs) (limbs_WF y.natAbs) (Nat.le_trans lx (by decide)) (Nat.le_trans ly (by decide)) (by rw [nv_limbs]; omega)
 rw [nv_limbs, nv_limbs] at g
 exact Ev.congr (fun k => Zz8.f_eq ..) (Ev.bind g (Ev.pos rfl (Ev.bind (made_of (natAbs_tdiv x y)) (Ev.bind (made_of (natAbs_tmod x y)) (Ev.now _)))))
theorem Sz.tdiv {p : Nat} {x : Int} (y : Int) (h : Sz p x) : Sz p (Int.tdiv x y) := h.mono (by
 rw [← natAbs_tdiv, sg_abs]; exact Nat.div_le_self _ _)
theorem Sz.tmod {p : Nat} {x y : Int} (hy : Sz p y) (h : y ≠ 0) : Sz p (Int.tmod x y) := hy.mono (by
 rw [← natAbs_tmod, sg_abs]; exact Nat.le_of_lt (Nat.mod_lt _ (by omega)))
def adj (x y : Int) : Int := if (Int.tmod x y).sign * y.sign < 0 then 1 else 0
def qd (x y : Int) : Int := Int.tdiv x y - adj x y
def rd' (x y : Int) : Int := Int.tmod x y + adj x y * y
theorem qd_eq (x y : Int) : qd x y * y + rd' x y = x := by
 unfold qd rd'
 have := Int.tdiv_mul_add_tmod x y
 generalize Int.tdiv x y = q at *
 generalize Int.tmod x y = r at *
 generalize adj x y = t
 grind
theorem sign_prod (r y : Int) : wrap64 (r.sign * y.sign) = r.sign * y.sign := by
 have : r.sign = -1 ∨ r.sign = 0 ∨ r.sign = 1 := by rcases Int.lt_trichotomy r 0 with h | h | h <;> simp [Int.sign_eq_neg_one_of_neg, Int.sign_eq_one_of_pos, h]
 have : y.sign = -1 ∨ y.sign = 0 ∨ y.sign = 1 := by rcases Int.lt_trichotomy y 0 with h | h | h <;> simp [Int.sign_eq_neg_one_of_neg, Int.sign_eq_one_of_pos, h]
 rcases ‹r.sign = -1 ∨ _› with h | h | h <;> rcases ‹y.sign = -1 ∨ _› with h2 | h2 | h2 <;> rw [h, h2] <;> exact w64_of (by decide) (by decide)
theorem Sz.one {p : Nat} (hp : 1 ≤ p) : Sz p 1 := Sz.of (by
 have : 18446744073709551616 ^ 1 ≤ 18446744073709551616 ^ p := Nat.pow_le_pow_right (by decide) hp
 have : (1 : Int).natAbs = 1 := rfl
 omega)
theorem idm_ev {x y : Int} (lx : Sz 990 x) (ly : Sz 990 y) (h : y ≠ 0) : Ev (fun k => Zz2.f k (ng x) (limbs x.natAbs) (ng y) (limbs y.natAbs)) (ng (qd x y), limbs (qd x y).natAbs, ng (rd' x y), limbs (rd' x y).natAbs, 0) := by
 have lx' := lx.up (show 990 ≤ 1000 by decide)
 have ly' := ly.up (show 990 ≤ 1000 by decide)
 refine Ev.congr (fun k => Zz2.f_eq ..) (Ev.bind (iqr_ev lx' ly' h) (Ev.bind (isign_ev _) (Ev.bind (isign_ev _) ?_)))
 rw [sign_prod]
 by_cases hs : (Int.tmod x y).sign * y.sign < 0
 ·have e : adj x y = 1 := if_pos hs
  have g1 := isub_ev (lx'.tdiv y) (Sz.one (p := 1000) (by decide))
  have g2 := iadd_ev ((ly'.tmod (x := x) h)) ly'
  have e1 : qd x y = Int.tdiv x y - 1 := by unfold qd; rw [e]
  have e2 : rd' x y = Int.tmod x y + y := by unfold rd'; rw [e, Int.one_mul]
  rw [e1, e2]
  exact Ev.pos hs (Ev.bind (iof_ev (by decide) (by decide)) (Ev.bind g1 (Ev.bind g2 (Ev.now _))))
 ·have e : adj x y = 0 := if_neg hs
  have e1 : qd x y = Int.tdiv x y := by unfold qd; rw [e, Int.sub_zero]
  have e2 : rd' x y = Int.tmod x y := by unfold rd'; rw [e, Int.zero_mul, Int.add_zero]
  rw [e1, e2]
  exact Ev.neg hs (Ev.now _)
theorem imod_ev {z : Int} {w : Nat} (lz : Sz 1000 z) (h0 : 0 < w) (hw : w < 18446744073709551616) : Ev (fun k => Zz3.f k (ng z) (limbs z.natAbs) (w : Int)) (z % (w : Int), 0) := by
 have g := divw_ev (limbs_WF z.natAbs) (Nat.le_trans lz (by decide)) h0 hw
 rw [nv_limbs] at g
 have hm := Nat.mod_lt z.natAbs h0
 refine Ev.congr (fun k => Zz3.f_eq ..) (Ev.bind g ?_)
 dsimp only
 by_cases h : z < 0
 ·have hz : z = -(z.natAbs : Int) := by omega
  have e1 := Int.mul_ediv_add_emod z (w : Int)
  have e2 := Int.emod_nonneg z (show (w : Int) ≠ 0 by omega)
  have e3 := Int.emod_lt_of_pos z (show (0 : Int) < (w : Int) by omega)
  have e4 := Nat.div_add_mod z.natAbs w
  have e5 : z % (w : Int) = (-((z.natAbs % w : Nat) : Int)) % (w : Int) := by
   have : z = -((z.natAbs % w : Nat) : Int) + (w : Int) * (-((z.natAbs / w : Nat) : Int)) := by
    have e6 : (z.natAbs : Int) = (w : Int) * ((z.natAbs / w : Nat) : Int) + ((z.natAbs % w : Nat) : Int) := by rw [← Int.natCast_mul, ← Int.natCast_add, e4]
    rw [Int.mul_neg]; omega
   rw [this, Int.add_mul_emod_self_left]
   congr 1
   rw [← this]
  refine Ev.pos (ng_true.2 h) ?_
  by_cases hl : ((z.natAbs % w : Nat) : Int) > 0
  ·refine Ev.pos hl (Ev.ret ?_)
   have e7 : IntKind.u64.wrap ((w : Int) - ((z.natAbs % w : Nat) : Int)) = (w : Int) - ((z.natAbs % w : Nat) : Int) := wu_of ⟨by omega, by omega⟩
   rw [e7, e5]
   congr 1
   rw [← Int.add_emod_right, Int.emod_eq_of_lt (by omega) (by omega)]; omega
  ·refine Ev.neg hl (Ev.ret ?_)
   rw [e5, show ((z.natAbs % w : Nat) : Int) = 0 by omega]; simp
 ·have hz : z = (z.natAbs : Int) := by omega
  refine Ev.neg (fun e => h (ng_true.1 e)) (Ev.ret ?_)
  have e5 : z % (w : Int) = ((z.natAbs % w : Nat) : Int) := by rw [Int.natCast_emod, ← hz]
  rw [e5]
theorem Sz.ds {p : Nat} {z : Int} (h : Sz p z) : (ds z.natAbs).length ≤ 20 * p + 1 := by
 have := ds_length_limbs (limbs_WF z.natAbs)
 rw [nv_limbs] at this
 unfold Sz at h
 omega
def ztx (z : Int) : ByteArray := if z < 0 then tx (45 :: ds z.natAbs) else dec z.natAbs
theorem neg_text {z : Int} (h : z < 0) : tApp (tx [45]) (dec z.natAbs) = ztx z := by
 unfold ztx dec
 rw [if_pos h, tApp_tx]; rfl
theorem iprint_ev {z : Int} (h : Sz 1000 z) : Ev (fun k => Zz7.f k (ng z) (limbs z.natAbs)) (ztx z) := by
 have g := print_ev (limbs_WF z.natAbs) h
 rw [nv_limbs] at g
 have hd := h.ds
 refine Ev.congr (fun k => Zz7.f_eq ..) (Ev.bind g ?_)
 by_cases hz : z < 0
 ·refine Ev.pos (ng_true.2 hz) (Ev.pos ?_ (Ev.ret ?_))
  ·rw [dec_size, mk_45, tx_size]; simp; omega
  ·rw [mk_45]; exact neg_text hz
 ·refine Ev.neg (fun e => hz (ng_true.1 e)) (Ev.ret ?_)
  unfold ztx; rw [if_neg hz]
theorem tEq_same (b : ByteArray) : tEq b b = true := by rw [← tx_eta b]; exact tEq_yes rfl
instance (l : List UInt8) : Decidable (Fine l) := by unfold Fine; infer_instance
theorem sz_small {z : Int} (h1 : -9223372036854775808 ≤ z) (h2 : z ≤ 9223372036854775807) : Sz 1 z := Sz.of (by rw [Nat.pow_one]; omega)
theorem ztx_nat (n : Nat) : ztx (n : Int) = dec n := by
 unfold ztx
 rw [if_neg (by omega), Int.natAbs_natCast]
theorem tmod_lt' {x y : Int} (h : y ≠ 0) : (Int.tmod x y).natAbs < y.natAbs := by
 rw [← natAbs_tmod, sg_abs]
 exact Nat.mod_lt _ (by omega)
theorem rd'_props {x y : Int} (h : y ≠ 0) : (rd' x y).natAbs < y.natAbs ∧ ((rd' x y).sign ≠ 0 → (rd' x y).sign = y.sign) := by
 have hlt := tmod_lt' (x := x) h
 unfold rd' adj
 generalize Int.tmod x y = r at *
 have sn : ∀ z : Int, z < 0 → z.sign = -1 := fun z h => Int.sign_eq_neg_one_of_neg h
 have sp : ∀ z : Int, 0 < z → z.sign = 1 := fun z h => Int.sign_eq_one_of_pos h
 rcases Int.lt_trichotomy r 0 with hr | hr | hr <;> rcases Int.lt_trichotomy y 0 with hy | hy | hy
 ·rw [sn r hr, sn y hy, if_neg (by decide), Int.zero_mul, Int.add_zero]; exact ⟨hlt, fun _ => sn r hr⟩
 ·exact absurd hy h
 ·rw [sn r hr, sp y hy, if_pos (by decide), Int.one_mul]; exact ⟨by omega, fun _ => sp _ (by omega)⟩
 ·subst hr; rw [Int.sign_zero, Int.zero_mul, if_neg (by decide), Int.zero_mul, Int.add_zero]; exact ⟨hlt, fun h => absurd rfl h⟩
 ·exact absurd hy h
 ·subst hr; rw [Int.sign_zero, Int.zero_mul, if_neg (by decide), Int.zero_mul, Int.add_zero]; exact ⟨hlt, fun h => absurd rfl h⟩
 ·rw [sp r hr, sn y hy, if_pos (by decide), Int.one_mul]; exact ⟨by omega, fun _ => sn _ (by omega)⟩
 ·exact absurd hy h
 ·rw [sp r hr, sp y hy, if_neg (by decide), Int.zero_mul, Int.add_zero]; exact ⟨hlt, fun _ => sp r hr⟩
theorem rd'_word {x : Int} {w : Nat} (h : 0 < w) : rd' x (w : Int) = x % (w : Int) := by
 obtain ⟨h1, h2⟩ := rd'_props (x := x) (y := (w : Int)) (by omega)
 have h3 := qd_eq x (w : Int)
 have h4 : 0 ≤ rd' x (w : Int) := by
  apply Classical.byContradiction
  intro hn
  have e : (rd' x (w : Int)).sign = -1 := Int.sign_eq_neg_one_of_neg (by omega)
  have := h2 (by rw [e]; decide)
  rw [e, Int.sign_eq_one_of_pos (by omega)] at this
  exact absurd this (by decide)
 generalize rd' x (w : Int) = r at *
 generalize qd x (w : Int) = q at *
 rw [← h3, Int.add_comm, Int.mul_comm, Int.add_mul_emod_self_left]
 exact (Int.emod_eq_of_lt h4 (by omega)).symm
end Go.Proofs.YtkoeddgbhohggaaGreatDoor.Pure
end
section
namespace Go.Proofs.YtkoeddgbhohggaaGreatDoor.Pure
set_option linter.unusedVariables false
set_option linter.unusedSimpArgs false
def prodTo (M : Nat → Nat) : Nat → Nat
 | 0 => 1
 | i + 1 => prodTo M i * M i
theorem prodTo_pos {M : Nat → Nat} : ∀ n, (∀ i, i < n → 2 ≤ M i) → 1 ≤ prodTo M n
 | 0, _ => Nat.le_refl _
 | n + 1, h => Nat.mul_pos (prodTo_pos n fun i hi => h i (by omega)) (by have := h n (Nat.lt_succ_self n); omega)
theorem prodTo_dvd {M : Nat → Nat} : ∀ {n i : Nat}, i < n → M i ∣ prodTo M n
 | 0, _, h => absurd h (Nat.not_lt_zero _)
 | n + 1, i, h => by
  by_cases he : i = n
  ·subst he; exact Nat.dvd_mul_left _ _
  ·exact Nat.dvd_trans (prodTo_dvd (n := n) (by omega)) (Nat.dvd_mul_right _ _)
theorem prodTo_lt {M : Nat → Nat} {B : Nat} (hB : 0 < B) : ∀ n, (∀ i, i < n → M i < B) → prodTo M n ≤ B ^ n
 | 0, _ => Nat.le_refl _
 | n + 1, h => by
  rw [Nat.pow_succ]
  exact Nat.mul_le_mul (prodTo_lt hB n fun i hi => h i (by omega)) (Nat.le_of_lt (h n (Nat.lt_succ_self n)))
theorem prodTo_gcd {M : Nat → Nat} {m : Nat} : ∀ n, Nat.gcd (prodTo M n) m = 1 ↔ ∀ i, i < n → Nat.gcd (M i) m = 1
 | 0 => ⟨fun _ i h => absurd h (Nat.not_lt_zero _), fun _ => Nat.gcd_one_left m⟩
 | n + 1 => by
  have h1 := prodTo_gcd (M := M) (m := m) n
  have h2 : Nat.Coprime (prodTo M n * M n) m ↔ Nat.Coprime (prodTo M n) m ∧ Nat.Coprime (M n) m := Nat.coprime_mul_iff_left
  constructor
  ·intro h i hi
   obtain ⟨h3, h4⟩ := h2.1 h
   by_cases he : i = n
   ·subst he; exact h4
   ·exact h1.1 h3 i (by omega)
  ·intro h
   exact h2.2 ⟨h1.2 fun i hi => h i (by omega), h n (Nat.lt_succ_self n)⟩
def Pair (M : Nat → Nat) (n : Nat) : Prop := ∀ i, i < n → ∀ k, k < i → Nat.gcd (M i) (M k) = 1
theorem Pair.less {M : Nat → Nat} {n m : Nat} (h : Pair M n) (hm : m ≤ n) : Pair M m := fun i hi k hk => h i (by omega) k hk
theorem Pair.succ {M : Nat → Nat} {n : Nat} (h : Pair M n) (hg : Nat.gcd (prodTo M n) (M n) = 1) : Pair M (n + 1) := fun i hi k hk => by
 by_cases he : i = n
 ·subst he; rw [Nat.gcd_comm]; exact (prodTo_gcd i).1 hg k hk
 ·exact h i (by omega) k hk
theorem Pair.gcd {M : Nat → Nat} {n i : Nat} (h : Pair M n) (hi : i < n) : Nat.gcd (prodTo M i) (M i) = 1 := (prodTo_gcd i).2 fun k hk => by
 rw [Nat.gcd_comm]; exact h i hi k hk
theorem Pair.dvd {M : Nat → Nat} {z : Nat} : ∀ n, Pair M n → (∀ i, i < n → M i ∣ z) → prodTo M n ∣ z
 | 0, _, _ => Nat.one_dvd z
 | n + 1, h, hd => Nat.Coprime.mul_dvd_of_dvd_of_dvd (h.gcd (Nat.lt_succ_self n)) (Pair.dvd n (h.less (Nat.le_succ n)) fun i hi => hd i (by omega)) (hd n (Nat.lt_succ_self n))
theorem crt_one {M : Nat → Nat} {n : Nat} {a b : Int} (h : Pair M n) (hd : ∀ i, i < n → a % (M i : Int) = b % (M i : Int)) : a % (prodTo M n : Int) = b % (prodTo M n : Int) := by
 have h1 : prodTo M n ∣ (a - b).natAbs := h.dvd n fun i hi => by
  have h2 : (M i : Int) ∣ a - b := Int.dvd_of_emod_eq_zero (Int.emod_eq_emod_iff_emod_sub_eq_zero.1 (hd i hi))
  exact Int.ofNat_dvd_left.1 h2
 have h3 : (prodTo M n : Int) ∣ a - b := Int.ofNat_dvd_left.2 h1
 exact Int.emod_eq_emod_iff_emod_sub_eq_zero.2 (Int.emod_eq_zero_of_dvd h3)
theorem step_law {x all : Int} {m r c : Nat} (h0 : 0 ≤ x) (h1 : x < all) (hm : 2 ≤ m) (hc : c * (all % (m : Int)).toNat % m = 1) :
  let t := subM r (x % (m : Int)).toNat m * c % m
  0 ≤ x + all * (t : Int) ∧ x + all * (t : Int) < all * (m : Int) ∧ (x + all * (t : Int)) % all = x ∧ (x + all * (t : Int)) % (m : Int) = (r % m : Nat) := by
 intro t
 have ht : t < m := Nat.mod_lt _ (by omega)
 have e0 : 0 ≤ all * (t : Int) := Int.mul_nonneg (by omega) (by omega)
 have e1 : all * (t : Int) + all ≤ all * (m : Int) := by
  have : all * ((t : Int) + 1) ≤ all * (m : Int) := Int.mul_le_mul_of_nonneg_left (by omega) (by omega)
  rwa [Int.mul_add, Int.mul_one] at this
 refine ⟨by omega, by omega, ?_, ?_⟩
 ·rw [Int.add_mul_emod_self_left]; exact Int.emod_eq_of_lt h0 h1
 ·have hX0 := Int.emod_nonneg x (show (m : Int) ≠ 0 by omega)
  have hA0 := Int.emod_nonneg all (show (m : Int) ≠ 0 by omega)
  obtain ⟨u1, hu1⟩ := subM_int r (x % (m : Int)).toNat (p := m) (by omega)
  obtain ⟨u2, hu2⟩ := mod_int (subM r (x % (m : Int)).toNat m * c) m
  have hX : (((x % (m : Int)).toNat : Nat) : Int) = x - (m : Int) * (x / (m : Int)) := by
   rw [Int.toNat_of_nonneg hX0]
   have := Int.mul_ediv_add_emod x (m : Int)
   omega
  have hA : (((all % (m : Int)).toNat : Nat) : Int) = all - (m : Int) * (all / (m : Int)) := by
   rw [Int.toNat_of_nonneg hA0]
   have := Int.mul_ediv_add_emod all (m : Int)
   omega
  have hc2 : (c : Int) * (((all % (m : Int)).toNat : Nat) : Int) = 1 + (m : Int) * ((c * (all % (m : Int)).toNat / m : Nat) : Int) := by
   have h5 := Nat.div_add_mod (c * (all % (m : Int)).toNat) m
   rw [hc] at h5
   rw [← Int.natCast_mul, ← Int.natCast_mul, ← h5]
   generalize c * (all % (m : Int)).toNat / m = q
   rw [Int.natCast_add, Int.add_comm, Int.natCast_one]
   congr 3
   rw [Nat.mul_add_div (by omega), Nat.div_eq_of_lt (by omega), Nat.add_zero]
  have htI : (t : Int) = ((subM r (x % (m : Int)).toNat m : Nat) : Int) * (c : Int) + (m : Int) * u2 := by
   show ((subM r (x % (m : Int)).toNat m * c % m : Nat) : Int) = _
   rw [hu2, Int.natCast_mul]
  have key : x + all * (t : Int) = (r : Int) + (m : Int) * (x / (m : Int) + u1 + ((subM r (x % (m : Int)).toNat m : Nat) : Int) * ((c * (all % (m : Int)).toNat / m : Nat) : Int) + (((all % (m : Int)).toNat : Nat) : Int) * u2 + (all / (m : Int)) * (t : Int)) := by
   have hAll : all = (((all % (m : Int)).toNat : Nat) : Int) + (m : Int) * (all / (m : Int)) := by omega
   generalize ((c * (all % (m : Int)).toNat / m : Nat) : Int) = u3 at *
   generalize (((all % (m : Int)).toNat : Nat) : Int) = A at *
   generalize all / (m : Int) = q2 at *
   generalize ((subM r (x % (m : Int)).toNat m : Nat) : Int) = s at *
   generalize (((x % (m : Int)).toNat : Nat) : Int) = X at *
   generalize x / (m : Int) = q at *
   generalize (t : Int) = T at *
   clear hX0 hA0 e0 e1 hu2 ht hc
   grind
  rw [key, Int.add_mul_emod_self_left, Int.natCast_emod]
end Go.Proofs.YtkoeddgbhohggaaGreatDoor.Pure
end
section
namespace Go.Proofs.YtkoeddgbhohggaaGreatDoor.Pure
open Go.RowKit Go.Proofs.YtkoeddgbhohggaaGreatDoor.F Go.Proofs.YtkoeddgbhohggaaGreatDoorW.PrintWords Go.Proofs.YtkoeddgbhohggaaGreatDoorW.PrintLast Go.Proofs.YtkoeddgbhohggaaGreatDoorW.PrintMore
open Go.Proofs.YtkoeddgbhohggaaGreatDoor.E (tEq tLt tApp tCut)
set_option linter.unusedVariables false
set_option linter.unusedSimpArgs false
def wd (l : List Int) (i : Nat) : Nat := (rd l (i : Int)).toNat
theorem wd_rd {l : List Int} (hw : WF l) (i : Nat) : rd l (i : Int) = ((wd l i : Nat) : Int) := by
 have := (hw.rdU (i : Int)).1
 unfold wd; omega
theorem wd_lt {l : List Int} (hw : WF l) (i : Nat) : wd l i < 18446744073709551616 := by
 have := (hw.rdU (i : Int)).1
 have := (hw.rdU (i : Int)).2
 unfold wd; omega
def May (m : Nat) : Prop := 2 ≤ m ∧ m < 9223372036854775808
instance (m : Nat) : Decidable (May m) := by unfold May; infer_instance
theorem may_body {m : Nat} {f : Nat → Option Bool} (h : ∀ k, f k = (if (m : Int) ≥ 2 then some (decide ((m : Int) < 9223372036854775808)) else some false)) : Ev f (decide (May m)) := by
 refine Ev.congr h ?_
 by_cases h2 : 2 ≤ m
 ·refine Ev.pos (by omega) (Ev.ret (decide_eq_decide.2 ?_))
  unfold May; omega
 ·refine Ev.neg (by omega) (Ev.ret (decide_eq_false ?_).symm)
  unfold May; omega
theorem cmay_ev (m : Nat) : Ev (fun k => Zz39.f k (m : Int)) (decide (May m)) := may_body fun k => Zz39.f_eq ..
theorem rmay_ev (m : Nat) : Ev (fun k => Zz100.f k (m : Int)) (decide (May m)) := may_body fun k => Zz100.f_eq ..
theorem cof_ev {w : Nat} (hw : w < 18446744073709551616) : Ev (fun k => Zz40.f k (w : Int)) (ng (w : Int), limbs (w : Int).natAbs) := by
 have g := ifrom_ev (b := false) (l := [(w : Int)]) (fun y hy => by simp at hy; subst hy; exact ⟨by omega, by omega⟩) (by simp)
 rw [nv_one, sg_false] at g
 exact Ev.congr (fun k => Zz40.f_eq ..) (Ev.bind g (Ev.now _))
theorem sign_le {z : Int} : z.sign ≤ 0 ↔ z ≤ 0 := by
 rcases Int.lt_trichotomy z 0 with h | h | h
 ·rw [Int.sign_eq_neg_one_of_neg h]; exact ⟨fun _ => by omega, fun _ => by decide⟩
 ·subst h; exact ⟨fun _ => by decide, fun _ => by decide⟩
 ·rw [Int.sign_eq_one_of_pos h]; exact ⟨fun h2 => absurd h2 (by decide), fun h2 => by omega⟩
theorem rd'_posi {x y : Int} (h : 0 < y) : rd' x y = x % y := by
 obtain ⟨w, rfl⟩ := Int.eq_ofNat_of_zero_le (show 0 ≤ y by omega)
 exact rd'_word (by omega)
theorem step_ev {x all : Int} {r m : Nat} (sx : Sz 400 x) (sa : Sz 400 all) (h0 : 0 < all) (hm : May m) (hr : r < 18446744073709551616) :
  (Nat.gcd (all % (m : Int)).toNat m ≠ 1 ∧ Ev (fun k => Zz38.f k (ng x) (limbs x.natAbs) (ng all) (limbs all.natAbs) (r : Int) (m : Int)) (false, [], false, [], 11)) ∨
  (Nat.gcd (all % (m : Int)).toNat m = 1 ∧ ∃ y : Int, 0 ≤ y ∧ y < all * (m : Int) ∧ y % all = x % all ∧ y % (m : Int) = ((r % m : Nat) : Int) ∧
   Ev (fun k => Zz38.f k (ng x) (limbs x.natAbs) (ng all) (limbs all.natAbs) (r : Int) (m : Int)) (ng y, limbs y.natAbs, ng (all * (m : Int)), limbs (all * (m : Int)).natAbs, 0)) := by
 obtain ⟨hm2, hm3⟩ := hm
 have hne : (m : Int) ≠ 0 := by omega
 have hx0 := Int.emod_nonneg x (show all ≠ 0 by omega)
 have hx1 := Int.emod_lt_of_pos x h0
 have hA0 := Int.emod_nonneg all hne
 have hA1 := Int.emod_lt_of_pos all (show (0 : Int) < (m : Int) by omega)
 have hX0 := Int.emod_nonneg (x % all) hne
 have sx' : Sz 400 (x % all) := sa.mono (by omega)
 have gm := cmay_ev m
 rw [decide_eq_true ⟨hm2, hm3⟩] at gm
 obtain ⟨s1, s2, gn⟩ := new_ev hm2 hm3
 have gd := idm_ev (x := x) (y := all) (sx.up (by decide)) (sa.up (by decide)) (by omega)
 rw [rd'_posi h0] at gd
 have ga := imod_ev (z := all) (w := m) (sa.up (by decide)) (by omega) (by omega)
 have gx := imod_ev (z := x % all) (w := m) (sx'.up (by decide)) (by omega) (by omega)
 have eA : all % (m : Int) = (((all % (m : Int)).toNat : Nat) : Int) := (Int.toNat_of_nonneg hA0).symm
 have eX : x % all % (m : Int) = (((x % all % (m : Int)).toNat : Nat) : Int) := (Int.toNat_of_nonneg hX0).symm
 have hAm : (all % (m : Int)).toNat < m := by omega
 have hAmod : (all % (m : Int)).toNat % m = (all % (m : Int)).toNat := Nat.mod_eq_of_lt hAm
 have law := fun c hc => step_law (x := x % all) (all := all) (m := m) (r := r) (c := c) hx0 hx1 hm2 hc
 have pre : ∀ R, Ev (fun k => (Zz109.f k (m : Int) s1 s2 (all % (m : Int))).bind fun t7 => (if t7.2 = 0 then ((Zz113.f k (m : Int) s1 s2 (r : Int) (x % all % (m : Int))).bind fun t8 => ((Zz110.f k (m : Int) s1 s2 t8 t7.1).bind fun t9 => ((Zz40.f k t9).bind fun t10 => ((Zz4.f k (ng all) (limbs all.natAbs) t10.1 t10.2).bind fun t11 => ((Zz1.f k (ng (x % all)) (limbs (x % all).natAbs) t11.1 t11.2).bind fun t12 => ((Zz40.f k (m : Int)).bind fun t13 => ((Zz4.f k (ng all) (limbs all.natAbs) t13.1 t13.2).bind fun t14 => some (t12.1, t12.2, t14.1, t14.2, 0)))))))) else some (false, ([] : List Int), false, ([] : List Int), 11))) R →
   Ev (fun k => Zz38.f k (ng x) (limbs x.natAbs) (ng all) (limbs all.natAbs) (r : Int) (m : Int)) R := fun R h =>
  Ev.congr (fun k => Zz38.f_eq ..) (Ev.bind (isign_ev all) (Ev.neg (fun e => by have := sign_le.1 e; omega) (Ev.bind gm (Ev.neg Bool.false_ne_true (Ev.bind gn (Ev.congr (fun q => elim_some _ _ _) (Ev.pos rfl (Ev.bind gd (Ev.bind ga (Ev.bind gx h))))))))))
 rw [eA, eX] at pre
 generalize hXd : (x % all % (m : Int)).toNat = X at *
 generalize hAd : (all % (m : Int)).toNat = A at *
 have hA64 : A < 18446744073709551616 := by omega
 rcases finv_ev (p := m) (x := A) (s1 := s1) (s2 := s2) hm2 (by omega) hA64 with ⟨h1, h2⟩ | ⟨h1, h2, h3⟩ | ⟨h1, h2, c, h3, h4, h5⟩
 ·refine .inl ⟨fun e => ?_, pre _ (Ev.bind h2 (Ev.neg (by decide) (Ev.now _)))⟩
  rw [hAmod] at h1
  rw [h1, Nat.gcd_zero_left] at e; omega
 ·rw [hAmod] at h2
  exact .inl ⟨h2, pre _ (Ev.bind h3 (Ev.neg (by decide) (Ev.now _)))⟩
 ·rw [hAmod] at h2
  refine .inr ⟨h2, ?_⟩
  obtain ⟨l1, l2, l3, l4⟩ := law c h4
  have ht : subM r X m * c % m < m := Nat.mod_lt _ (by omega)
  have gs := fsub_ev (p := m) (x := r) (y := X) (s1 := s1) (s2 := s2) (by omega) (by omega)
  have gt := fmul_ev (p := m) (x := subM r X m) (y := c) (s1 := s1) (s2 := s2) (by omega) (by omega)
  generalize subM r X m * c % m = t at *
  have st : Sz 1 (t : Int) := sz_small (by omega) (by omega)
  have sm : Sz 1 (m : Int) := sz_small (by omega) (by omega)
  have g1 := imul_ev (x := all) (y := (t : Int)) (sa.up (by decide)) (st.up (by decide))
  have g2 := iadd_ev (x := x % all) (y := all * (t : Int)) (sx'.up (by decide)) ((sa.mul st).up (by decide))
  have g3 := imul_ev (x := all) (y := (m : Int)) (sa.up (by decide)) (sm.up (by decide))
  exact ⟨_, l1, l2, by rw [l3], l4, pre _ (Ev.bind h5 (Ev.pos rfl (Ev.bind gs (Ev.bind gt (Ev.bind (cof_ev (by omega)) (Ev.bind g1 (Ev.bind g2 (Ev.bind (cof_ev (by omega)) (Ev.bind g3 (Ev.now _)))))))))) ⟩
theorem cwrong_l4 {m : List Int} (hw : WF m) (hl : m.length ≤ 1000) : ∀ (d i : Nat), m.length - i = d → i ≤ m.length →
  ((∀ j, i ≤ j → j < m.length → May (wd m j)) → Ev (fun k => Zz41.l4 k m m (m.length : Int) (i : Int)) 0) ∧ (¬ (∀ j, i ≤ j → j < m.length → May (wd m j)) → Ev (fun k => Zz41.l4 k m m (m.length : Int) (i : Int)) 1)
 | 0, i, hd, hi => ⟨fun _ => Ev.step (fun k => Zz41.l4_eq ..) (Ev.neg (by omega) (Ev.neg (by omega) (Ev.now _))), fun h => absurd (fun j h1 h2 => by omega) h⟩
 | d + 1, i, hd, hi => by
  obtain ⟨g1, g2⟩ := cwrong_l4 hw hl d (i + 1) (by omega) (by omega)
  have gm := cmay_ev (wd m i)
  rw [← wd_rd hw i] at gm
  rw [← w64_succ (a := i) (by omega)] at g1 g2
  by_cases hm : May (wd m i)
  ·rw [decide_eq_true hm] at gm
   refine ⟨fun h => ?_, fun h => ?_⟩
   ·exact Ev.step (fun k => Zz41.l4_eq ..) (Ev.pos (by omega) (Ev.pos (by omega) (Ev.pos (by omega) (Ev.bind gm (Ev.neg Bool.false_ne_true (g1 fun j h1 h2 => h j (by omega) h2))))))
   ·refine Ev.step (fun k => Zz41.l4_eq ..) (Ev.pos (by omega) (Ev.pos (by omega) (Ev.pos (by omega) (Ev.bind gm (Ev.neg Bool.false_ne_true (g2 fun h3 => h fun j h1 h2 => ?_))))))
    by_cases he : j = i
    ·subst he; exact hm
    ·exact h3 j (by omega) h2
  ·rw [decide_eq_false hm] at gm
   exact ⟨fun h => absurd (h i (Nat.le_refl _) (by omega)) hm, fun h => Ev.step (fun k => Zz41.l4_eq ..) (Ev.pos (by omega) (Ev.pos (by omega) (Ev.pos (by omega) (Ev.bind gm (Ev.pos rfl (Ev.now _))))))⟩
def Mays (m : List Int) : Prop := ∀ j, j < m.length → May (wd m j)
theorem cwrong_ok {l m : List Int} (hw : WF m) (hl : m.length ≤ 1000) (he : l.length = m.length) (h : Mays m) : Ev (fun k => Zz41.f k l m) 0 :=
 Ev.congr (fun k => Zz41.f_eq ..) (Ev.pos (by omega) ((cwrong_l4 hw hl _ 0 rfl (Nat.zero_le _)).1 fun j _ h2 => h j h2))
end Go.Proofs.YtkoeddgbhohggaaGreatDoor.Pure
end
section
namespace Go.Proofs.YtkoeddgbhohggaaGreatDoor.Pure
open Go.RowKit Go.Proofs.YtkoeddgbhohggaaGreatDoor.F Go.Proofs.YtkoeddgbhohggaaGreatDoorW.PrintWords Go.Proofs.YtkoeddgbhohggaaGreatDoorW.PrintLast Go.Proofs.YtkoeddgbhohggaaGreatDoorW.PrintMore
open Go.Proofs.YtkoeddgbhohggaaGreatDoor.E (adS adC sbS sbC)
set_option linter.unusedVariables false
set_option linter.unusedSimpArgs false
theorem up_ev {l : List Int} {n : Nat} (hl : l ≠ []) (h1 : l.length ≤ 1000001) (hn : n ≤ 1000000) : Ev (fun k => Zz61.f k l (n : Int)) (List.replicate n 0 ++ l) := by
 have hp : 0 < l.length := List.length_pos_iff.2 hl
 have e : wrap64 ((n : Int) + (l.length : Int)) = ((n + l.length : Nat) : Int) := w64_add (by omega)
 refine Ev.congr (fun k => Zz61.f_eq ..) ?_
 rw [e]
 exact Ev.neg (by clear e; omega) (Ev.pos (by clear e; omega) (Ev.pos (by clear e; omega) (Ev.pos (by rw [Int.toNat_natCast]; clear e; omega) (Ev.pos (by rw [List.length_replicate, Int.toNat_natCast]; clear e; omega) (Ev.ret (by rw [Int.toNat_natCast]))))))
theorem shl_ev {x : List Int} (hx : WF x) (hl : x.length ≤ 1000000) {n : Nat} (hn : n ≤ 262144) : Ev (fun k => Zz49.f k x (n : Int)) (limbs (nv x * 2 ^ n), 0) := by
 have hla := limbs_length_le (nv_lt hx)
 have t1 : wrap64 (Int.tdiv (n : Int) 64) = ((n / 64 : Nat) : Int) := by
  have : Int.tdiv (n : Int) 64 = ((n / 64 : Nat) : Int) := tdivN n 64
  rw [this, w64_nat (by omega)]
 have t2 : IntKind.u64.wrap (Int.tmod (n : Int) 64) = ((n % 64 : Nat) : Int) := by
  have : Int.tmod (n : Int) 64 = ((n % 64 : Nat) : Int) := tmodN n 64
  rw [this, wrapN _ (by omega)]
 have hdm : 2 ^ n = 18446744073709551616 ^ (n / 64) * 2 ^ (n % 64) := by rw [← pow_bits, Nat.div_add_mod]
 have hn1 : n / 64 ≤ 1000000 := by clear t1 t2 hdm; omega
 have hn2 : n % 64 ≤ 63 := by clear t1 t2 hdm; omega
 have hll : (limbs (nv x)).length ≤ 1000000 := Nat.le_trans hla hl
 obtain ⟨out, o1, o2, o3, o4⟩ := shifted_ev (limbs_WF (nv x)) hll hn2
 rw [nv_limbs] at o3
 have hol : out.length ≤ 1000001 := by rw [o1]; clear t1 t2 hdm; omega
 have hon : out ≠ [] := List.length_pos_iff.1 (by rw [o1]; exact Nat.succ_pos _)
 have hup := up_ev (n := n / 64) hon hol hn1
 have hW : WF (List.replicate (n / 64) 0 ++ out) := (WF.zeros _).append o2
 have g := trim_ev hW (by rw [List.length_append, List.length_replicate]; clear t1 t2 hdm; omega)
 have e : nv (List.replicate (n / 64) 0 ++ out) = nv x * 2 ^ n := by
  rw [nv_append, nv_zeros, List.length_replicate, o3, hdm, Nat.zero_add]; grind
 rw [e] at g
 refine Ev.congr (fun k => Zz49.f_eq ..) (Ev.neg (by omega) (Ev.neg (by omega) (Ev.bind (trim_ev hx (Nat.le_trans hl (by decide))) ?_)))
 rw [t1, t2]
 exact Ev.bind o4 (Ev.bind hup (Ev.bind g (Ev.now _)))
end Go.Proofs.YtkoeddgbhohggaaGreatDoor.Pure
end
section
namespace Go.Proofs.YtkoeddgbhohggaaGreatDoor.Pure
open Go.RowKit Go.Proofs.YtkoeddgbhohggaaGreatDoor.F Go.Proofs.YtkoeddgbhohggaaGreatDoorW.PrintWords Go.Proofs.YtkoeddgbhohggaaGreatDoorW.PrintLast Go.Proofs.YtkoeddgbhohggaaGreatDoorW.PrintMore
open Go.Proofs.YtkoeddgbhohggaaGreatDoor.E (tEq tLt tApp tCut)
set_option linter.unusedVariables false
set_option linter.unusedSimpArgs false
def pz (m : List Int) (i : Nat) : Int := ((prodTo (wd m) i : Nat) : Int)
theorem pz_pos {m : List Int} (hm : Mays m) {i : Nat} (hi : i ≤ m.length) : 0 < pz m i := by
 have := prodTo_pos (M := wd m) i fun j hj => (hm j (by omega)).1
 unfold pz; omega
theorem pz_succ (m : List Int) (i : Nat) : pz m (i + 1) = pz m i * ((wd m i : Nat) : Int) := by unfold pz; rw [prodTo, Int.natCast_mul]
theorem pz_sz {m : List Int} (hw : WF m) (i : Nat) : Sz (i + 1) (pz m i) := Sz.of (by
 unfold pz
 rw [Int.natAbs_natCast]
 exact Nat.lt_of_le_of_lt (prodTo_lt (by decide) i fun j _ => wd_lt hw j) (Nat.pow_lt_pow_right (by decide) (Nat.lt_succ_self i)))
def Leaves (l m : List Int) (i : Nat) (x : Int) : Prop := 0 ≤ x ∧ x < pz m i ∧ ∀ j, j < i → x % ((wd m j : Nat) : Int) = ((wd l j % wd m j : Nat) : Int)
theorem lift_step {l m : List Int} (hl : WF l) (hm : WF m) (he : l.length = m.length) (h100 : m.length ≤ 100) (hM : Mays m) {i : Nat} (hi : i < m.length) {x : Int} (hx : Leaves l m i x) (hP : Pair (wd m) i) :
  (¬ Pair (wd m) m.length ∧ Ev (fun k => Zz38.f k (ng x) (limbs x.natAbs) (ng (pz m i)) (limbs (pz m i).natAbs) (rd l (i : Int)) (rd m (i : Int))) (false, [], false, [], 11)) ∨
  (Pair (wd m) (i + 1) ∧ ∃ y, Leaves l m (i + 1) y ∧ Ev (fun k => Zz38.f k (ng x) (limbs x.natAbs) (ng (pz m i)) (limbs (pz m i).natAbs) (rd l (i : Int)) (rd m (i : Int))) (ng y, limbs y.natAbs, ng (pz m (i + 1)), limbs (pz m (i + 1)).natAbs, 0)) := by
 obtain ⟨h0, h1, h2⟩ := hx
 have hp := pz_pos hM (i := i) (by omega)
 have sp := pz_sz hm i
 have sx : Sz 400 x := Sz.up (p := i + 1) (sp.mono (by omega)) (by omega)
 have hmi := hM i hi
 rw [wd_rd hl i, wd_rd hm i]
 have eg : Nat.gcd (pz m i % ((wd m i : Nat) : Int)).toNat (wd m i) = Nat.gcd (prodTo (wd m) i) (wd m i) := by
  unfold pz
  rw [← Int.natCast_emod, Int.toNat_natCast, Nat.gcd_comm (prodTo (wd m) i), Nat.gcd_rec (wd m i)]
 rcases step_ev (x := x) (all := pz m i) (r := wd l i) (m := wd m i) sx (sp.up (by omega)) hp hmi (wd_lt hl i) with ⟨g1, g2⟩ | ⟨g1, y, y0, y1, y2, y3, g2⟩
 ·rw [eg] at g1
  exact .inl ⟨fun h => g1 (h.gcd hi), g2⟩
 ·rw [eg] at g1
  rw [← pz_succ] at y1 g2
  refine .inr ⟨hP.succ g1, y, ⟨y0, y1, fun j hj => ?_⟩, g2⟩
  by_cases hji : j = i
  ·subst hji; exact y3
  ·have hd : ((wd m j : Nat) : Int) ∣ pz m i := Int.natCast_dvd_natCast.2 (prodTo_dvd (show j < i by omega))
   rw [← h2 j (by omega), ← Int.emod_emod_of_dvd y hd, y2, Int.emod_emod_of_dvd x hd]
theorem lift_l {l m : List Int} (hl : WF l) (hm : WF m) (he : l.length = m.length) (h100 : m.length ≤ 100) (hM : Mays m) : ∀ (d i : Nat) (x : Int), m.length - i = d → i ≤ m.length → Leaves l m i x → Pair (wd m) i →
  (¬ Pair (wd m) m.length ∧ Ev (fun k => Zz37.l1000 k l m false [] false [] (ng x) (limbs x.natAbs) (ng (pz m i)) (limbs (pz m i).natAbs) (i : Int)) (false, [], false, [], 11)) ∨
  (Pair (wd m) m.length ∧ ∃ y, Leaves l m m.length y ∧ Ev (fun k => Zz37.l1000 k l m false [] false [] (ng x) (limbs x.natAbs) (ng (pz m i)) (limbs (pz m i).natAbs) (i : Int)) (ng y, limbs y.natAbs, ng (pz m m.length), limbs (pz m m.length).natAbs, 0))
 | 0, i, x, hd, hi, hx, hP => by
  have : i = m.length := by omega
  subst this
  exact .inr ⟨hP, x, hx, Ev.step (fun k => Zz37.l1000_eq ..) (Ev.neg (by omega) (Ev.now _))⟩
 | d + 1, i, x, hd, hi, hx, hP => by
  rcases lift_step hl hm he h100 hM (by omega) hx hP with ⟨g1, g2⟩ | ⟨g1, y, g2, g3⟩
  ·exact .inl ⟨g1, Ev.step (fun k => Zz37.l1000_eq ..) (Ev.pos (by omega) (Ev.pos (by omega) (Ev.pos (by omega) (Ev.pos (by omega) (Ev.pos (by omega) (Ev.bind g2 (Ev.neg (by decide) (Ev.now _))))))))⟩
  ·have pre : ∀ R, Ev (fun k => Zz37.l1000 k l m false [] false [] (ng y) (limbs y.natAbs) (ng (pz m (i + 1))) (limbs (pz m (i + 1)).natAbs) ((i + 1 : Nat) : Int)) R → Ev (fun k => Zz37.l1000 k l m false [] false [] (ng x) (limbs x.natAbs) (ng (pz m i)) (limbs (pz m i).natAbs) (i : Int)) R := fun R g => by
    rw [← w64_succ (a := i) (by omega)] at g
    exact Ev.step (fun k => Zz37.l1000_eq ..) (Ev.pos (by omega) (Ev.pos (by omega) (Ev.pos (by omega) (Ev.pos (by omega) (Ev.pos (by omega) (Ev.bind g3 (Ev.pos rfl g)))))))
   rcases lift_l hl hm he h100 hM d (i + 1) y (by omega) (by omega) g2 g1 with ⟨h1, h2⟩ | ⟨h1, z, h2, h3⟩
   ·exact .inl ⟨h1, pre _ h2⟩
   ·exact .inr ⟨h1, z, h2, pre _ h3⟩
theorem lift_ev {l m : List Int} (hl : WF l) (hm : WF m) (he : l.length = m.length) (h100 : m.length ≤ 100) (hM : Mays m) :
  (¬ Pair (wd m) m.length ∧ Ev (fun k => Zz37.f k l m) (false, [], false, [], 11)) ∨ (Pair (wd m) m.length ∧ ∃ y, Leaves l m m.length y ∧ Ev (fun k => Zz37.f k l m) (ng y, limbs y.natAbs, ng (pz m m.length), limbs (pz m m.length).natAbs, 0)) := by
 have gw := cwrong_ok hm (by omega) he hM
 have go := iof_ev (n := 1) (by decide) (by decide)
 have x0 : Leaves l m 0 0 := ⟨Int.le_refl _, (show (0 : Int) < ((1 : Nat) : Int) by decide), fun j hj => absurd hj (Nat.not_lt_zero _)⟩
 have P0 : Pair (wd m) 0 := fun i hi => absurd hi (Nat.not_lt_zero _)
 have e0 : (limbs (0 : Int).natAbs) = [] := by rw [show (0 : Int).natAbs = 0 from rfl, limbs_zero]
 by_cases hn : m.length = 0
 ·refine .inr ⟨by rw [hn]; exact P0, 0, by rw [hn]; exact x0, ?_⟩
  rw [hn, e0]
  exact Ev.congr (fun k => Zz37.f_eq ..) (Ev.bind gw (Ev.pos rfl (Ev.bind go (Ev.neg (by omega) (Ev.now _)))))
 ·have hs := lift_step hl hm he h100 hM (i := 0) (by omega) x0 P0
  rw [e0] at hs
  rcases hs with ⟨g1, g2⟩ | ⟨g1, y, g2, g3⟩
  ·exact .inl ⟨g1, Ev.congr (fun k => Zz37.f_eq ..) (Ev.bind gw (Ev.pos rfl (Ev.bind go (Ev.pos (by omega) (Ev.pos (by omega) (Ev.pos (by omega) (Ev.bind g2 (Ev.neg (by decide) (Ev.now _)))))))))⟩
  ·have pre : ∀ R, Ev (fun k => Zz37.l1000 k l m false [] false [] (ng y) (limbs y.natAbs) (ng (pz m (0 + 1))) (limbs (pz m (0 + 1)).natAbs) ((0 + 1 : Nat) : Int)) R → Ev (fun k => Zz37.f k l m) R := fun R g => by
    rw [← w64_succ (a := 0) (by omega)] at g
    exact Ev.congr (fun k => Zz37.f_eq ..) (Ev.bind gw (Ev.pos rfl (Ev.bind go (Ev.pos (by omega) (Ev.pos (by omega) (Ev.pos (by omega) (Ev.bind g3 (Ev.pos rfl g))))))))
   rcases lift_l hl hm he h100 hM _ (0 + 1) y rfl (by omega) g2 g1 with ⟨h1, h2⟩ | ⟨h1, z, h2, h3⟩
   ·exact .inl ⟨h1, pre _ h2⟩
   ·exact .inr ⟨h1, z, h2, pre _ h3⟩
theorem Leaves.sz {l m : List Int} {n : Nat} {y : Int} (hm : WF m) (h : Leaves l m n y) : Sz (n + 1) y := (pz_sz hm n).mono (by have := h.1; have := h.2.1; omega)
end Go.Proofs.YtkoeddgbhohggaaGreatDoor.Pure
end
section
namespace Go.Proofs.YtkoeddgbhohggaaGreatDoor.Pure
open Go.RowKit Go.Proofs.YtkoeddgbhohggaaGreatDoor.F Go.Proofs.YtkoeddgbhohggaaGreatDoorW.PrintWords Go.Proofs.YtkoeddgbhohggaaGreatDoorW.PrintLast Go.Proofs.YtkoeddgbhohggaaGreatDoorW.PrintMore
open Go.Proofs.YtkoeddgbhohggaaGreatDoor.E (cdB dcB dcB_eq cdR dcR dcR_eq)
set_option linter.unusedVariables false
set_option linter.unusedSimpArgs false
noncomputable def bigs (n : Nat) (f : Nat → Nat) : List Int := (List.range n).map fun q => cdB (false, limbs (f q))
theorem bigs_length (n : Nat) (f : Nat → Nat) : (bigs n f).length = n := by simp [bigs]
theorem bigs_get {n : Nat} (f : Nat → Nat) {q : Nat} (h : q < n) : (bigs n f)[q]? = some (cdB (false, limbs (f q))) := by simp [bigs, h]
theorem rd_bigs {n : Nat} (f : Nat → Nat) {q : Nat} (h : q < n) : rd (bigs n f) (q : Int) = cdB (false, limbs (f q)) := by
 simp [rd, List.getD_eq_getElem?_getD, bigs_get f h]
theorem bigs_ext {n : Nat} {f g : Nat → Nat} (h : ∀ q, q < n → f q = g q) : bigs n f = bigs n g := by
 unfold bigs
 exact List.map_congr_left fun q hq => by rw [h q (List.mem_range.1 hq)]
theorem bigs_set (n : Nat) (f : Nat → Nat) (q v : Nat) : (bigs n f).set q (cdB (false, limbs v)) = bigs n fun j => if j = q then v else f j := by
 refine List.ext_getElem? fun j => ?_
 rw [List.getElem?_set]
 by_cases hj : j < n
 ·rw [bigs_get _ hj]
  by_cases e : q = j
  ·subst e; rw [if_pos rfl, if_pos (by rw [bigs_length]; exact hj), bigs_get _ hj, if_pos rfl]
  ·rw [if_neg e, bigs_get _ hj, if_neg (fun h => e h.symm)]
 ·have e1 : (bigs n fun j => if j = q then v else f j)[j]? = none := List.getElem?_eq_none (by rw [bigs_length]; omega)
  rw [e1]
  by_cases e : q = j
  ·subst e; rw [if_pos rfl, if_neg (by rw [bigs_length]; exact hj)]
  ·rw [if_neg e]; exact List.getElem?_eq_none (by rw [bigs_length]; omega)
theorem bigs_snoc (n : Nat) (f : Nat → Nat) : bigs n f ++ [cdB (false, limbs (f n))] = bigs (n + 1) f := by simp [bigs, List.range_succ]
theorem bigs_zero (n : Nat) : List.replicate n (cdB (false, ([] : List Int))) = bigs n fun _ => 0 := by
 refine List.ext_getElem? fun j => ?_
 by_cases hj : j < n
 ·rw [bigs_get _ hj, limbs_zero]; simp [hj]
 ·rw [List.getElem?_eq_none (by simp; omega), List.getElem?_eq_none (by rw [bigs_length]; omega)]
theorem nadd_ev {x y : Nat} (lx : Sz 1000 (x : Int)) (ly : Sz 1000 (y : Int)) : Ev (fun k => Zz1.f k false (limbs x) false (limbs y)) (false, limbs (x + y)) := by
 have := iadd_ev lx ly
 rwa [← Int.natCast_add, ng_nat, ng_nat, ng_nat, Int.natAbs_natCast, Int.natAbs_natCast, Int.natAbs_natCast] at this
theorem nmod_ev {x m : Nat} (lx : Sz 1000 (x : Int)) (h0 : 0 < m) (hm : m < 18446744073709551616) : Ev (fun k => Zz3.f k false (limbs x) (m : Int)) (((x % m : Nat) : Int), 0) := by
 have := imod_ev lx h0 hm
 rwa [ng_nat, Int.natAbs_natCast, ← Int.natCast_emod] at this
theorem sz_nat {p n : Nat} (h : n < 18446744073709551616 ^ p) : Sz p (n : Int) := Sz.of (by rw [Int.natAbs_natCast]; exact h)
theorem sz_zero {p : Nat} : Sz p ((0 : Nat) : Int) := sz_nat (Nat.pow_pos (by decide))
theorem mul_pow_lt {p x n : Nat} (lx : Sz p (x : Int)) (hn : n ≤ 64) : x * 2 ^ n < 18446744073709551616 ^ (p + 1) := by
 have h2 := lx.lt
 rw [Int.natAbs_natCast] at h2
 have h3 : 2 ^ n ≤ 2 ^ 64 := Nat.pow_le_pow_right (by decide) hn
 rw [show (2 : Nat) ^ 64 = 18446744073709551616 by decide] at h3
 rw [Nat.pow_succ]
 exact Nat.lt_of_le_of_lt (Nat.mul_le_mul_left _ h3) (Nat.mul_lt_mul_of_pos_right h2 (by decide))
theorem moved_ev {x n : Nat} (lx : Sz 900 (x : Int)) (hn : n ≤ 64) : Ev (fun k => Zz32.f k false (limbs x) (n : Int)) (false, limbs (x * 2 ^ n)) := by
 have g1 := inat_ev (lx.up (show 900 ≤ 1000 by decide))
 have g2 := shl_ev (limbs_WF x) (by have := lx; unfold Sz at this; rw [Int.natAbs_natCast] at this; omega) (n := n) (by omega)
 rw [nv_limbs] at g2
 have l2 : (limbs (x * 2 ^ n)).length ≤ 1000 := by
  have h1 := mul_pow_lt lx hn
  exact Nat.le_trans (limbs_length_le h1) (by decide)
 have g3 := ifrom_ev (b := false) (limbs_WF (x * 2 ^ n)) l2
 rw [nv_limbs, sg_false, ng_nat, Int.natAbs_natCast] at g3
 rw [ng_nat, Int.natAbs_natCast] at g1
 exact Ev.congr (fun k => Zz32.f_eq ..) (Ev.bind g1 (Ev.bind g2 (Ev.bind g3 (Ev.now _))))
theorem halves_l3 {l : List Int} (hw : WF l) (hl : l.length ≤ 1099511627770) : ∀ (d i : Nat), l.length - i = d → i ≤ l.length → Ev (fun k => Zz30.l3 k (tab i fun q => at0 l q / 4294967296) (tab i fun q => at0 l q % 4294967296) l (l.length : Int) (i : Int)) (tab l.length fun q => at0 l q / 4294967296, tab l.length fun q => at0 l q % 4294967296)
 | 0, i, hd, hi => by
  have : i = l.length := by omega
  subst this
  exact Ev.step (fun k => Zz30.l3_eq ..) (Ev.neg (by omega) (Ev.now _))
 | d + 1, i, hd, hi => by
  have g := halves_l3 hw hl d (i + 1) (by omega) (by omega)
  have hu := (hw.rdU (i : Int)).2
  have h64 : at0 l i < 18446744073709551616 := by rw [at0_rd hw i] at hu; omega
  rw [← tab_snoc i fun q => at0 l q / 4294967296, ← tab_snoc i fun q => at0 l q % 4294967296, ← w64_succ (a := i) (by omega)] at g
  refine Ev.step (fun k => Zz30.l3_eq ..) ?_
  rw [at0_rd hw i, shr32, maskN _ h64]
  exact Ev.pos (by omega) (Ev.pos (by omega) (Ev.pos (by omega) (Ev.pos (by rw [tab_length]; show i + 1 ≤ _; omega) (Ev.pos (by rw [tab_length]; show i + 1 ≤ _; omega) g))))
theorem halves_ev {l : List Int} (hw : WF l) (hl : l.length ≤ 1099511627770) : Ev (fun k => Zz30.f k l) (tab l.length fun q => at0 l q / 4294967296, tab l.length fun q => at0 l q % 4294967296) :=
 Ev.congr (fun k => Zz30.f_eq ..) (halves_l3 hw hl _ 0 rfl (Nat.zero_le _))
theorem cleft_l3 {l : List Int} {p : Nat} {s1 s2 : Int} (hw : WF l) (h0 : 0 < p) (hl : l.length ≤ 1099511627770) : ∀ (d i : Nat), l.length - i = d → i ≤ l.length → Ev (fun k => Zz31.l3 k (p : Int) s1 s2 (tab l.length fun q => if q < i then at0 l q % p else 0) l (l.length : Int) (i : Int)) (tab l.length fun q => at0 l q % p)
 | 0, i, hd, hi => by
  have : i = l.length := by omega
  subst this
  refine Ev.step (fun k => Zz31.l3_eq ..) (Ev.neg (by omega) ?_)
  rw [tab_ext (n := l.length) (g := fun q => at0 l q % p) fun q hq => if_pos hq]
  exact Ev.now _
 | d + 1, i, hd, hi => by
  have g := cleft_l3 (s1 := s1) (s2 := s2) hw h0 hl d (i + 1) (by omega) (by omega)
  have go := fof_ev (p := p) (x := at0 l i) (s1 := s1) (s2 := s2) h0
  rw [← w64_succ (a := i) (by omega)] at g
  refine Ev.step (fun k => Zz31.l3_eq ..) ?_
  rw [at0_rd hw i]
  refine Ev.pos (by omega) (Ev.pos (by omega) (Ev.pos (by omega) (Ev.bind go (Ev.pos (by omega) (Ev.pos (by rw [tab_length]; omega) ?_)))))
  rw [Int.toNat_natCast, tab_set, tab_ext (n := l.length) (g := fun q => if q < i + 1 then at0 l q % p else 0) fun q hq => ?_]
  ·exact g
  ·by_cases e : q = i
   ·subst e; rw [if_pos rfl, if_pos (Nat.lt_succ_self q)]
   ·rw [if_neg e]
    by_cases h : q < i
    ·rw [if_pos h, if_pos (by omega)]
    ·rw [if_neg h, if_neg (by omega)]
theorem cleft_ev {l : List Int} {p : Nat} {s1 s2 : Int} (hw : WF l) (h0 : 0 < p) (hl : l.length ≤ 1099511627770) : Ev (fun k => Zz31.f k (p : Int) s1 s2 l) (tab l.length fun q => at0 l q % p) := by
 have g := cleft_l3 (s1 := s1) (s2 := s2) hw h0 hl _ 0 rfl (Nat.zero_le _)
 rw [tab_ext (n := l.length) (g := fun _ => 0) fun q hq => if_neg (by omega), ← tab_zero] at g
 refine Ev.congr (fun k => Zz31.f_eq ..) (Ev.pos (by omega) (Ev.pos (by omega) ?_))
 rw [Int.toNat_natCast]
 exact g
theorem Pr.cop {p q : Nat} (hp : Pr p) (hq : Pr q) (h : p ≠ q) : Nat.gcd p q = 1 := by
 rcases hp.2 _ (Nat.gcd_dvd_left p q) with h1 | h1
 ·exact h1
 ·rcases hq.2 _ (Nat.gcd_dvd_right p q) with h2 | h2
  ·exact h2
  ·exact absurd (h1.symm.trans h2) h
theorem three_lift {n K p0 p1 p2 r0 r1 r2 h0 h1 h2 : Nat} (T : Three n K p0 p1 p2 r0 r1 r2 h0 h1 h2) {c : Nat} (hc : c ≤ 2 ^ 187) :
  ∃ A : Bool × List Int, Ev (fun k => Zz37.f k [((c % p0 : Nat) : Int), ((c % p1 : Nat) : Int), ((c % p2 : Nat) : Int)] (ints [p0, p1, p2])) (false, limbs c, A.1, A.2, 0) := by
 have q0 := T.pl0.pr; have q1 := T.pl1.pr; have q2 := T.pl2.pr
 have l0 := T.pl0.lt; have l1 := T.pl1.lt; have l2 := T.pl2.lt
 have o1 := T.lt1; have o2 := T.lt2
 have g0 := q0.1; have g1 := q1.1; have g2 := q2.1
 obtain ⟨m, hm⟩ : ∃ m, m = ints [p0, p1, p2] := ⟨_, rfl⟩
 obtain ⟨l, hl⟩ : ∃ l, l = ints [c % p0, c % p1, c % p2] := ⟨_, rfl⟩
 have e0 : wd m 0 = p0 := by rw [hm]; rfl
 have e1 : wd m 1 = p1 := by rw [hm]; rfl
 have e2 : wd m 2 = p2 := by rw [hm]; rfl
 have f0 : wd l 0 = c % p0 := by rw [hl]; rfl
 have f1 : wd l 1 = c % p1 := by rw [hl]; rfl
 have f2 : wd l 2 = c % p2 := by rw [hl]; rfl
 have hml : m.length = 3 := by rw [hm]; rfl
 have hll : l.length = 3 := by rw [hl]; rfl
 have wm : WF m := by
  rw [hm]; intro x hx; simp [ints] at hx
  rcases hx with rfl | rfl | rfl <;> exact ⟨by omega, by omega⟩
 have wl : WF l := by
  have c0 := Nat.mod_lt c (show 0 < p0 by omega); have c1 := Nat.mod_lt c (show 0 < p1 by omega); have c2 := Nat.mod_lt c (show 0 < p2 by omega)
  generalize c % p0 = u0 at *; generalize c % p1 = u1 at *; generalize c % p2 = u2 at *
  rw [hl]; intro x hx; simp [ints] at hx
  rcases hx with rfl | rfl | rfl <;> exact ⟨by omega, by omega⟩
 have hM : Mays m := fun j hj => by
  have : j = 0 ∨ j = 1 ∨ j = 2 := by omega
  rcases this with rfl | rfl | rfl
  ·rw [e0]; exact ⟨by omega, by omega⟩
  ·rw [e1]; exact ⟨by omega, by omega⟩
  ·rw [e2]; exact ⟨by omega, by omega⟩
 have hP : Pair (wd m) 3 := fun i hi k hk => by
  have : (i = 1 ∧ k = 0) ∨ (i = 2 ∧ k = 0) ∨ (i = 2 ∧ k = 1) := by omega
  rcases this with ⟨rfl, rfl⟩ | ⟨rfl, rfl⟩ | ⟨rfl, rfl⟩
  ·rw [e0, e1]; exact q1.cop q0 (by omega)
  ·rw [e0, e2]; exact q2.cop q0 (by omega)
  ·rw [e1, e2]; exact q2.cop q1 (by omega)
 have hprod : prodTo (wd m) 3 = p0 * p1 * p2 := by
  show 1 * wd m 0 * wd m 1 * wd m 2 = _
  rw [e0, e1, e2, Nat.one_mul]
 rcases lift_ev wl wm (by omega) (by omega) hM with ⟨h, _⟩ | ⟨_, y, hy, g⟩
 ·rw [hml] at h; exact absurd hP h
 ·rw [hml] at hy g
  obtain ⟨y0, y1, y2⟩ := hy
  have hcr : y % (prodTo (wd m) 3 : Int) = (c : Int) % (prodTo (wd m) 3 : Int) := crt_one hP fun j hj => by
   rw [y2 j hj]
   have : j = 0 ∨ j = 1 ∨ j = 2 := by omega
   rcases this with rfl | rfl | rfl
   ·rw [e0, f0, Nat.mod_mod, Int.natCast_emod]
   ·rw [e1, f1, Nat.mod_mod, Int.natCast_emod]
   ·rw [e2, f2, Nat.mod_mod, Int.natCast_emod]
  have hbig := T.big
  unfold pz at y1
  rw [Int.emod_eq_of_lt y0 y1, Int.emod_eq_of_lt (by omega) (by rw [hprod]; omega)] at hcr
  subst hcr
  rw [ng_nat, Int.natAbs_natCast] at g
  rw [hl, hm] at g
  refine ⟨(ng (pz (ints [p0, p1, p2]) 3), limbs (pz (ints [p0, p1, p2]) 3).natAbs), ?_⟩
  exact g
theorem small_l8 {n K p0 p1 p2 r0 r1 r2 h0 h1 h2 : Nat} (T : Three n K p0 p1 p2 r0 r1 r2 h0 h1 h2) {F : Nat → Nat} {N : Nat} (hN : N ≤ 1048576) (hF : ∀ t, t < N → F t ≤ 2 ^ 187) : ∀ (d i : Nat), N - i = d → i ≤ N →
  Ev (fun k => Zz35.l8 k (tab N fun t => F t % p0) (tab N fun t => F t % p1) (tab N fun t => F t % p2) (ints [p0, p1, p2]) (bigs i F) (N : Int) (i : Int)) (bigs N F, 0)
 | 0, i, hd, hi => by
  have : i = N := by omega
  subst this
  exact Ev.step (fun k => Zz35.l8_eq ..) (Ev.neg (by omega) (Ev.now _))
 | d + 1, i, hd, hi => by
  have g := small_l8 T hN hF d (i + 1) (by omega) (by omega)
  obtain ⟨A, gl⟩ := three_lift T (hF i (by omega))
  rw [← bigs_snoc, ← w64_succ (a := i) (by omega)] at g
  refine Ev.step (fun k => Zz35.l8_eq ..) ?_
  rw [rd_tab _ (by omega), rd_tab _ (by omega), rd_tab _ (by omega)]
  exact Ev.pos (by omega) (Ev.pos (by omega) (Ev.pos (by rw [tab_length]; omega) (Ev.pos (by omega) (Ev.pos (by rw [tab_length]; omega) (Ev.pos (by omega) (Ev.pos (by rw [tab_length]; omega) (Ev.bind gl (Ev.pos rfl (Ev.pos (by rw [bigs_length]; show i + 1 ≤ _; omega) g)))))))))
def plen (a b : List Int) : Nat := if a.length = 0 ∨ b.length = 0 then 0 else a.length + b.length - 1
theorem cf_le {a b : List Int} (ha : WF a) (hb : WF b) (hn : a.length ≤ 131072) (t : Nat) : cf a b t ≤ 131072 * (18446744073709551615 * 18446744073709551615) := by
 refine Nat.le_trans (conv_le (A := 18446744073709551615) (B := 18446744073709551615) ?_ ?_) (Nat.mul_le_mul_right _ hn)
 ·intro i _; have h1 := (ha.rdU (i : Int)).2; rw [at0_rd ha i] at h1; omega
 ·intro i _; have h1 := (hb.rdU (i : Int)).2; rw [at0_rd hb i] at h1; omega
theorem small_ev {a b : List Int} (ha : WF a) (hb : WF b) (hn : plen a b ≤ 131072) : Ev (fun k => Zz35.f k a b) (bigs (plen a b) (cf a b), 0) := by
 by_cases h : a.length = 0 ∨ b.length = 0
 ·have e : plen a b = 0 := if_pos h
  rw [e]
  by_cases h1 : a.length = 0
  ·exact Ev.congr (fun k => Zz35.f_eq ..) (Ev.pos (by omega) (Ev.now _))
  ·exact Ev.congr (fun k => Zz35.f_eq ..) (Ev.neg (by omega) (Ev.pos (by omega) (Ev.now _)))
 ·have e : plen a b = a.length + b.length - 1 := if_neg h
  rw [e] at hn ⊢
  obtain ⟨K, p0, p1, p2, r0, r1, r2, h0, h1, h2, T, gp⟩ := parts_ev ha hb (by omega) (by omega) hn
  have g := small_l8 T (F := cf a b) (N := a.length + b.length - 1) (by omega) (fun t _ => Nat.le_trans (cf_le ha hb (by omega) t) (by decide)) _ 0 rfl (Nat.zero_le _)
  refine Ev.congr (fun k => Zz35.f_eq ..) (Ev.neg (by omega) (Ev.neg (by omega) (Ev.bind gp (Ev.pos rfl ?_))))
  show Ev (fun k => Zz35.l8 k (tab (a.length + b.length - 1) fun t => cf a b t % p0) (tab (a.length + b.length - 1) fun t => cf a b t % p1) (tab (a.length + b.length - 1) fun t => cf a b t % p2) (ints [p0, p1, p2]) [] ((tab (a.length + b.length - 1) fun t => cf a b t % p0).length : Int) 0) _
  rw [tab_length]
  exact g
theorem plen_eq {a b a' b' : List Int} (ha : a'.length = a.length) (hb : b'.length = b.length) : plen a' b' = plen a b := by unfold plen; rw [ha, hb]
theorem WF_tab64 {n : Nat} {f : Nat → Nat} (h : ∀ q, q < n → f q < 18446744073709551616) : WF (tab n f) := fun x hx => by
 obtain ⟨q, hq, rfl⟩ := List.mem_map.1 hx
 have := h q (List.mem_range.1 hq)
 exact ⟨by omega, by omega⟩
theorem at0_lt {l : List Int} (hw : WF l) (i : Nat) : at0 l i < 18446744073709551616 := by
 have h1 := (hw.rdU (i : Int)).2
 rw [at0_rd hw i] at h1; omega
theorem cf_tab {a b : List Int} {n m : Nat} {f g : Nat → Nat} (ha : a.length = n) (hb : b.length = m) (t : Nat) : cf (tab n f) (tab m g) t = conv n m f g t := by
 unfold cf
 rw [tab_length, tab_length]
 exact conv_congr (fun i hi => at0_tab hi) fun i hi => at0_tab hi
theorem conv_halfy {n m t c : Nat} (z y : Nat → Nat) : conv n m z y t = conv n m z (fun j => y j % c) t + conv n m z (fun j => y j / c) t * c := by
 rw [← conv_muly, ← conv_addy]
 exact conv_congr (fun _ _ => rfl) fun j _ => by rw [Nat.mul_comm]; exact (Nat.mod_add_div _ _).symm
theorem conv_halfx {n m t c : Nat} (x z : Nat → Nat) : conv n m x z t = conv n m (fun j => x j % c) z t + conv n m (fun j => x j / c) z t * c := by
 rw [← conv_mulx, ← conv_addx]
 exact conv_congr (fun j _ => by rw [Nat.mul_comm]; exact (Nat.mod_add_div _ _).symm) fun _ _ => rfl
theorem small32_l7 {N : Nat} {X Y : Nat → Nat} (hN : N ≤ 1048576) (hX : ∀ t, t < N → Sz 500 ((X t : Nat) : Int)) (hY : ∀ t, t < N → Sz 500 ((Y t : Nat) : Int)) : ∀ (d i : Nat), N - i = d → i ≤ N →
  Ev (fun k => Zz36.l7 k (bigs N fun t => if t < i then X t + Y t * 4294967296 else X t) 0 (bigs N Y) (N : Int) (i : Int)) (bigs N (fun t => X t + Y t * 4294967296), 0)
 | 0, i, hd, hi => by
  have : i = N := by omega
  subst this
  refine Ev.step (fun k => Zz36.l7_eq ..) (Ev.neg (by omega) ?_)
  rw [bigs_ext (n := i) (g := fun t => X t + Y t * 4294967296) fun q hq => if_pos hq]
  exact Ev.now _
 | d + 1, i, hd, hi => by
  have g := small32_l7 hN hX hY d (i + 1) (by omega) (by omega)
  have e1 : rd (bigs N fun t => if t < i then X t + Y t * 4294967296 else X t) (i : Int) = cdB (false, limbs (X i)) := (rd_bigs _ (by omega)).trans (by rw [if_neg (Nat.lt_irrefl i)])
  have e2 : rd (bigs N Y) (i : Int) = cdB (false, limbs (Y i)) := rd_bigs _ (by omega)
  have gm : Ev (fun k => Zz32.f k false (limbs (Y i)) 32) (false, limbs (Y i * 4294967296)) := moved_ev (n := 32) ((hY i (by omega)).up (by decide)) (by decide)
  have sY : Sz 1000 ((Y i * 4294967296 : Nat) : Int) := by
   have h1 : Sz (500 + 1) ((Y i : Int) * (4294967296 : Int)) := (hY i (by omega)).mul (Sz.of (p := 1) (by decide))
   exact Sz.up (p := 501) (by rw [Int.natCast_mul]; exact h1) (by decide)
  have ga := nadd_ev (x := X i) (y := Y i * 4294967296) ((hX i (by omega)).up (by decide)) sY
  rw [← w64_succ (a := i) (by omega)] at g
  refine Ev.step (fun k => Zz36.l7_eq ..) ?_
  rw [e1, e2, dcB_eq, dcB_eq]
  refine Ev.pos (by omega) (Ev.pos (by omega) (Ev.pos (by rw [bigs_length]; omega) (Ev.pos (by omega) (Ev.pos (by rw [bigs_length]; omega) (Ev.bind gm (Ev.bind ga (Ev.pos (by omega) (Ev.pos (by rw [bigs_length]; omega) ?_))))))))
  show Ev (fun k => Zz36.l7 k ((bigs N fun t => if t < i then X t + Y t * 4294967296 else X t).set ((i : Int)).toNat (cdB (false, limbs (X i + Y i * 4294967296)))) 0 (bigs N Y) (N : Int) (wrap64 ((i : Int) + 1))) _
  rw [Int.toNat_natCast, bigs_set, bigs_ext (n := N) (g := fun t => if t < i + 1 then X t + Y t * 4294967296 else X t) fun q hq => ?_]
  ·exact g
  ·by_cases e : q = i
   ·subst e; rw [if_pos rfl, if_pos (Nat.lt_succ_self q)]
   ·rw [if_neg e]
    by_cases h : q < i
    ·rw [if_pos h, if_pos (by omega)]
    ·rw [if_neg h, if_neg (by omega)]
theorem cf_sz {a b : List Int} (ha : WF a) (hb : WF b) (hn : a.length ≤ 131072) (t : Nat) : Sz 3 ((cf a b t : Nat) : Int) := sz_nat (Nat.lt_of_le_of_lt (cf_le ha hb hn t) (by decide))
theorem plen_le {a b : List Int} {t : Nat} (h : t < plen a b) : a.length ≤ plen a b ∧ b.length ≤ plen a b := by
 unfold plen at *
 split at h
 ·omega
 ·rename_i h1; rw [if_neg h1]; omega
theorem small32_ev {a b : List Int} (ha : WF a) (hb : WF b) (hn : plen a b ≤ 131072) (hb1 : b.length ≤ 1099511627770) : Ev (fun k => Zz36.f k a b) (bigs (plen a b) (cf a b), 0) := by
 have gh := halves_ev hb hb1
 have wl : WF (tab b.length fun q => at0 b q % 4294967296) := WF_tab64 fun q _ => Nat.lt_of_lt_of_le (Nat.mod_lt _ (by decide)) (by decide)
 have wh : WF (tab b.length fun q => at0 b q / 4294967296) := WF_tab64 fun q _ => Nat.lt_of_le_of_lt (Nat.div_le_self _ _) (at0_lt hb q)
 have el : plen a (tab b.length fun q => at0 b q % 4294967296) = plen a b := plen_eq rfl (tab_length _ _)
 have eh : plen a (tab b.length fun q => at0 b q / 4294967296) = plen a b := plen_eq rfl (tab_length _ _)
 have g1 := small_ev ha wl (by rw [el]; exact hn)
 have g2 := small_ev ha wh (by rw [eh]; exact hn)
 rw [el] at g1
 rw [eh] at g2
 have g := small32_l7 (N := plen a b) (X := cf a (tab b.length fun q => at0 b q % 4294967296)) (Y := cf a (tab b.length fun q => at0 b q / 4294967296)) (by omega) (fun t ht => (cf_sz ha wl (by have := (plen_le ht).1; omega) t).up (by decide)) (fun t ht => (cf_sz ha wh (by have := (plen_le ht).1; omega) t).up (by decide)) _ 0 rfl (Nat.zero_le _)
 rw [bigs_ext (n := plen a b) (f := fun t => if t < 0 then cf a (tab b.length fun q => at0 b q % 4294967296) t + cf a (tab b.length fun q => at0 b q / 4294967296) t * 4294967296 else cf a (tab b.length fun q => at0 b q % 4294967296) t) (g := cf a (tab b.length fun q => at0 b q % 4294967296)) fun q hq => if_neg (by omega),
  bigs_ext (n := plen a b) (f := fun t => cf a (tab b.length fun q => at0 b q % 4294967296) t + cf a (tab b.length fun q => at0 b q / 4294967296) t * 4294967296) (g := cf a b) fun q hq => ?_] at g
 ·refine Ev.congr (fun k => Zz36.f_eq ..) (Ev.bind gh (Ev.bind g1 (Ev.pos rfl (Ev.bind g2 ?_))))
  show Ev (fun k => Zz36.l7 k (bigs (plen a b) (cf a (tab b.length fun q => at0 b q % 4294967296))) 0 (bigs (plen a b) (cf a (tab b.length fun q => at0 b q / 4294967296))) ((bigs (plen a b) (cf a (tab b.length fun q => at0 b q % 4294967296))).length : Int) 0) _
  rw [bigs_length]
  exact g
 ·unfold cf
  rw [tab_length, tab_length, conv_congr (fun i hi => rfl) fun i hi => at0_tab hi, conv_congr (y := at0 (tab b.length fun q => at0 b q / 4294967296)) (fun i hi => rfl) fun i hi => at0_tab hi]
  exact (conv_halfy (c := 4294967296) _ _).symm
theorem fits_ok {a b : List Int} (h : plen a b ≤ 131072) (ha : a.length ≤ 1099511627770) (hb : b.length ≤ 1099511627770) : Ev (fun k => Zz29.f k a b) 0 := by
 refine Ev.congr (fun k => Zz29.f_eq ..) ?_
 by_cases h1 : a.length = 0
 ·exact Ev.neg (by omega) (Ev.now _)
 ·by_cases h2 : b.length = 0
  ·exact Ev.pos (by omega) (Ev.neg (by omega) (Ev.now _))
  ·have e : plen a b = a.length + b.length - 1 := if_neg (by omega)
   rw [w64_of (by omega) (by omega)]
   exact Ev.pos (by omega) (Ev.pos (by omega) (Ev.neg (by omega) (Ev.now _)))
theorem exact_l15 {N s : Nat} {X Y : Nat → Nat} {b H : List Int} {i1 i2 i3 : Int} {R : List Int × Int} (hs : s ≤ 64) (he : wrap64 (32 * i1) = (s : Int)) (hN : N ≤ 1048576) (hX : ∀ t, t < N → Sz 500 ((X t : Nat) : Int)) (hY : ∀ t, t < N → Sz 500 ((Y t : Nat) : Int))
  (g : Ev (fun k => Zz23.l15 k b (bigs N fun t => X t + Y t * 2 ^ s) i1 H i2 i3 (bigs N Y) (N : Int) (N : Int)) R) : ∀ (d i : Nat), N - i = d → i ≤ N →
  Ev (fun k => Zz23.l15 k b (bigs N fun t => if t < i then X t + Y t * 2 ^ s else X t) i1 H i2 i3 (bigs N Y) (N : Int) (i : Int)) R
 | 0, i, hd, hi => by
  have : i = N := by omega
  subst this
  rw [bigs_ext (n := i) (g := fun t => X t + Y t * 2 ^ s) fun q hq => if_pos hq]
  exact g
 | d + 1, i, hd, hi => by
  have g := exact_l15 hs he hN hX hY g d (i + 1) (by omega) (by omega)
  have e1 : rd (bigs N fun t => if t < i then X t + Y t * 2 ^ s else X t) (i : Int) = cdB (false, limbs (X i)) := (rd_bigs _ (by omega)).trans (by rw [if_neg (Nat.lt_irrefl i)])
  have e2 : rd (bigs N Y) (i : Int) = cdB (false, limbs (Y i)) := rd_bigs _ (by omega)
  have gm : Ev (fun k => Zz32.f k false (limbs (Y i)) (s : Int)) (false, limbs (Y i * 2 ^ s)) := moved_ev ((hY i (by omega)).up (by decide)) hs
  have sY : Sz 1000 ((Y i * 2 ^ s : Nat) : Int) := by
   have h3 : 2 ^ s ≤ 2 ^ 64 := Nat.pow_le_pow_right (by decide) hs
   have h1 : Sz (500 + 2) ((Y i : Int) * ((2 ^ s : Nat) : Int)) := (hY i (by omega)).mul (sz_nat (p := 2) (Nat.lt_of_le_of_lt h3 (by decide)))
   exact Sz.up (p := 502) (by rw [Int.natCast_mul]; exact h1) (by decide)
  have ga := nadd_ev (x := X i) (y := Y i * 2 ^ s) ((hX i (by omega)).up (by decide)) sY
  rw [← w64_succ (a := i) (by omega)] at g
  refine Ev.step (fun k => Zz23.l15_eq ..) ?_
  rw [e1, e2, dcB_eq, dcB_eq, he]
  refine Ev.pos (by omega) (Ev.pos (by omega) (Ev.pos (by rw [bigs_length]; omega) (Ev.pos (by omega) (Ev.pos (by rw [bigs_length]; omega) (Ev.bind gm (Ev.bind ga (Ev.pos (by omega) (Ev.pos (by rw [bigs_length]; omega) ?_))))))))
  show Ev (fun k => Zz23.l15 k b ((bigs N fun t => if t < i then X t + Y t * 2 ^ s else X t).set ((i : Int)).toNat (cdB (false, limbs (X i + Y i * 2 ^ s)))) i1 H i2 i3 (bigs N Y) (N : Int) (wrap64 ((i : Int) + 1))) _
  rw [Int.toNat_natCast, bigs_set, bigs_ext (n := N) (g := fun t => if t < i + 1 then X t + Y t * 2 ^ s else X t) fun q hq => ?_]
  ·exact g
  ·by_cases e : q = i
   ·subst e; rw [if_pos rfl, if_pos (Nat.lt_succ_self q)]
   ·rw [if_neg e]
    by_cases h : q < i
    ·rw [if_pos h, if_pos (by omega)]
    ·rw [if_neg h, if_neg (by omega)]
theorem exact_ev {a b : List Int} (ha : WF a) (hb : WF b) (hn : plen a b ≤ 131072) (ha1 : a.length ≤ 1099511627770) (hb1 : b.length ≤ 1099511627770) : Ev (fun k => Zz23.f k a b) (bigs (plen a b) (cf a b), 0) := by
 obtain ⟨al, hal⟩ : ∃ al, al = tab a.length fun q => at0 a q % 4294967296 := ⟨_, rfl⟩
 obtain ⟨ah, hah⟩ : ∃ ah, ah = tab a.length fun q => at0 a q / 4294967296 := ⟨_, rfl⟩
 have gh := halves_ev ha ha1
 rw [← hal, ← hah] at gh
 have wl : WF al := by rw [hal]; exact WF_tab64 fun q _ => Nat.lt_of_lt_of_le (Nat.mod_lt _ (by decide)) (by decide)
 have wh : WF ah := by rw [hah]; exact WF_tab64 fun q _ => Nat.lt_of_le_of_lt (Nat.div_le_self _ _) (at0_lt ha q)
 have ll : al.length = a.length := by rw [hal, tab_length]
 have lh : ah.length = a.length := by rw [hah, tab_length]
 have el : plen al b = plen a b := plen_eq ll rfl
 have eh : plen ah b = plen a b := plen_eq lh rfl
 have g1 := small32_ev wl hb (by rw [el]; exact hn) hb1
 have g2 := small32_ev wh hb (by rw [eh]; exact hn) hb1
 rw [el] at g1
 rw [eh] at g2
 obtain ⟨N, hN⟩ : ∃ N, N = plen a b := ⟨_, rfl⟩
 have w1 : wrap64 ((0 : Int) + 1) = 1 := by unfold wrap64; omega
 have w2 : wrap64 ((1 : Int) + 1) = 2 := by unfold wrap64; omega
 have s1 : ∀ t, t < N → Sz 500 ((cf al b t : Nat) : Int) := fun t ht => (cf_sz wl hb (by have := (plen_le (hN ▸ ht)).1; omega) t).up (by decide)
 have s2 : ∀ t, t < N → Sz 500 ((cf ah b t : Nat) : Int) := fun t ht => (cf_sz wh hb (by have := (plen_le (hN ▸ ht)).1; omega) t).up (by decide)
 rw [← hN] at g1 g2 hn ⊢
 have hcf : (bigs N fun t => (0 + cf al b t * 2 ^ 0) + cf ah b t * 2 ^ 32) = bigs N (cf a b) := bigs_ext fun q hq => by
  unfold cf
  rw [ll, lh, hal, hah, conv_congr (x := at0 (tab a.length fun q => at0 a q % 4294967296)) (fun i hi => at0_tab hi) (fun i hi => rfl), conv_congr (x := at0 (tab a.length fun q => at0 a q / 4294967296)) (fun i hi => at0_tab hi) (fun i hi => rfl), Nat.zero_add, Nat.pow_zero, Nat.mul_one]
  exact (conv_halfx (c := 4294967296) _ _).symm
 have g5 : Ev (fun k => Zz23.l15 k b (bigs N fun t => (0 + cf al b t * 2 ^ 0) + cf ah b t * 2 ^ 32) 1 [cdR al, cdR ah] 2 1 (bigs N (cf ah b)) (N : Int) (N : Int)) (bigs N (cf a b), 0) := by
  rw [hcf]
  refine Ev.step (fun k => Zz23.l15_eq ..) (Ev.neg (by omega) ?_)
  rw [w2]
  exact Ev.neg (by decide) (Ev.now _)
 have g4 := exact_l15 (s := 32) (by decide) (by unfold wrap64; omega) (by omega) (X := fun t => 0 + cf al b t * 2 ^ 0) (Y := cf ah b) (fun t ht => by
  rw [Nat.zero_add, Nat.pow_zero, Nat.mul_one]; exact s1 t ht) s2 g5 _ 0 rfl (Nat.zero_le _)
 rw [bigs_ext (n := N) (f := fun t => if t < 0 then (0 + cf al b t * 2 ^ 0) + cf ah b t * 2 ^ 32 else 0 + cf al b t * 2 ^ 0) (g := fun t => 0 + cf al b t * 2 ^ 0) fun q hq => if_neg (by omega)] at g4
 have g3 : Ev (fun k => Zz23.l15 k b (bigs N fun t => 0 + cf al b t * 2 ^ 0) 0 [cdR al, cdR ah] 2 0 (bigs N (cf al b)) (N : Int) (N : Int)) (bigs N (cf a b), 0) := by
  refine Ev.step (fun k => Zz23.l15_eq ..) (Ev.neg (by omega) ?_)
  rw [w1]
  refine Ev.pos (by decide) (Ev.pos (by decide) (Ev.pos (show (1 : Int) < 2 by decide) ?_))
  rw [show rd [cdR al, cdR ah] 1 = cdR ah from rfl, dcR_eq]
  refine Ev.bind g2 (Ev.pos rfl ?_)
  show Ev (fun k => Zz23.l15 k b (bigs N fun t => 0 + cf al b t * 2 ^ 0) 1 [cdR al, cdR ah] 2 1 (bigs N (cf ah b)) ((bigs N (cf ah b)).length : Int) 0) _
  rw [bigs_length]
  exact g4
 have g := exact_l15 (s := 0) (by decide) (by unfold wrap64; omega) (by omega) (X := fun t => 0) (Y := cf al b) (fun t ht => sz_zero) s1 g3 _ 0 rfl (Nat.zero_le _)
 rw [bigs_ext (n := N) (f := fun t => if t < 0 then 0 + cf al b t * 2 ^ 0 else 0) (g := fun t => 0) fun q hq => if_neg (by omega), ← bigs_zero] at g
 refine Ev.congr (fun k => Zz23.f_eq ..) (Ev.bind (fits_ok (hN ▸ hn) ha1 hb1) (Ev.pos rfl (Ev.bind gh (Ev.pos (show (0 : Int) < 2 by decide) (Ev.pos (show (0 : Int) < 2 by decide) ?_)))))
 show Ev (fun k => (Zz36.f k (dcR (rd [cdR al, cdR ah] 0)) b).bind _) _
 rw [show rd [cdR al, cdR ah] 0 = cdR al from rfl, dcR_eq]
 refine Ev.bind g1 (Ev.pos rfl ?_)
 show Ev (fun k => (if 0 ≤ ((bigs N (cf al b)).length : Int) then (if (((bigs N (cf al b)).length : Int)).toNat ≤ 8796093022208 then Zz23.l15 k b (List.replicate (((bigs N (cf al b)).length : Int)).toNat (cdB (false, ([] : List Int)))) 0 [cdR al, cdR ah] 2 0 (bigs N (cf al b)) ((bigs N (cf al b)).length : Int) 0 else none) else none)) _
 rw [bigs_length, Int.toNat_natCast]
 exact Ev.pos (by omega) (Ev.pos (by omega) g)
theorem conv_l12 {N m : Nat} {F : Nat → Nat} {e : Int} (h0 : 0 < m) (hm : m < 18446744073709551616) (hN : N ≤ 1048576) (hF : ∀ t, t < N → Sz 1000 ((F t : Nat) : Int)) : ∀ (d i : Nat), N - i = d → i ≤ N →
  Ev (fun k => Zz22.l12 k (m : Int) (tab i fun t => F t % m) (bigs N F) (N : Int) (i : Int)) (tab N fun t => F t % m, 0)
 | 0, i, hd, hi => by
  have : i = N := by omega
  subst this
  exact Ev.step (fun k => Zz22.l12_eq ..) (Ev.neg (by omega) (Ev.now _))
 | d + 1, i, hd, hi => by
  have g := conv_l12 (e := e) h0 hm hN hF d (i + 1) (by omega) (by omega)
  have gm := nmod_ev (hF i (by omega)) h0 hm
  rw [← tab_snoc i fun t => F t % m, ← w64_succ (a := i) (by omega)] at g
  refine Ev.step (fun k => Zz22.l12_eq ..) ?_
  rw [rd_bigs F (by omega), dcB_eq]
  exact Ev.pos (by omega) (Ev.pos (by omega) (Ev.pos (by rw [bigs_length]; omega) (Ev.bind gm (Ev.pos rfl (Ev.pos (by rw [tab_length]; show i + 1 ≤ _; omega) g)))))
theorem conv_ev {a b : List Int} {m : Nat} (ha : WF a) (hb : WF b) (h2 : 2 ≤ m) (hm : m < 9223372036854775808) (hn : plen a b ≤ 131072) (ha1 : a.length ≤ 1099511627770) (hb1 : b.length ≤ 1099511627770) :
  Ev (fun k => Zz22.f k a b (m : Int)) (tab (plen a b) fun t => cf a b t % m, 0) := by
 obtain ⟨s1, s2, gn⟩ := new_ev h2 hm
 have gl := cleft_ev (s1 := s1) (s2 := s2) ha (show 0 < m by omega) ha1
 have gr := cleft_ev (s1 := s1) (s2 := s2) hb (show 0 < m by omega) hb1
 have wl : ∀ l : List Int, WF (tab l.length fun q => at0 l q % m) := fun l => WF_tab64 fun q _ => Nat.lt_of_lt_of_le (Nat.mod_lt _ (by omega)) (by omega)
 have ep : plen (tab a.length fun q => at0 a q % m) (tab b.length fun q => at0 b q % m) = plen a b := plen_eq (tab_length _ _) (tab_length _ _)
 have gs := small_ev (wl a) (wl b) (by rw [ep]; exact hn)
 rw [ep] at gs
 obtain ⟨F, hF⟩ : ∃ F, F = cf (tab a.length fun q => at0 a q % m) (tab b.length fun q => at0 b q % m) := ⟨_, rfl⟩
 rw [← hF] at gs
 have g := conv_l12 (e := 0) (N := plen a b) (m := m) (F := F) (by omega) (by omega) (by omega) (fun t ht => by
  rw [hF]; exact (cf_sz (wl a) (wl b) (by rw [tab_length]; have := (plen_le ht).1; omega) t).up (by decide)) _ 0 rfl (Nat.zero_le _)
 rw [tab_ext (n := plen a b) (g := fun t => cf a b t % m) fun q hq => by rw [hF, cf_tab rfl rfl]; exact conv_mod _ _] at g
 refine Ev.congr (fun k => Zz22.f_eq ..) (Ev.bind gn (Ev.congr (fun q => elim_some _ _ _) (Ev.pos rfl (Ev.bind (fits_ok hn ha1 hb1) (Ev.pos rfl (Ev.bind gl (Ev.bind gr (Ev.bind gs (Ev.pos rfl ?_)))))))))
 show Ev (fun k => Zz22.l12 k (m : Int) [] (bigs (plen a b) F) ((bigs (plen a b) F).length : Int) 0) _
 rw [bigs_length]
 exact g
theorem conv_bad {a b : List Int} {m : Nat} (h : m < 2 ∨ 9223372036854775808 ≤ m) : Ev (fun k => Zz22.f k a b (m : Int)) ([], 1) :=
 Ev.congr (fun k => Zz22.f_eq ..) (Ev.bind (new_no h) (Ev.congr (fun q => elim_none _ _) (Ev.neg (by decide) (Ev.now _))))
end Go.Proofs.YtkoeddgbhohggaaGreatDoor.Pure
end
section
namespace Go.Proofs.YtkoeddgbhohggaaGreatDoor.Pure
open Go.RowKit Go.Proofs.YtkoeddgbhohggaaGreatDoor.F Go.Proofs.YtkoeddgbhohggaaGreatDoorW.PrintWords Go.Proofs.YtkoeddgbhohggaaGreatDoorW.PrintLast Go.Proofs.YtkoeddgbhohggaaGreatDoorW.PrintMore
set_option linter.unusedVariables false
set_option linter.unusedSimpArgs false
theorem rd_drop {l : List Int} {i : Nat} (h : i < l.length) : l.drop i = rd l (i : Int) :: l.drop (i + 1) := by
 rw [List.drop_eq_getElem_cons h]
 congr 1
 simp [rd, List.getD_eq_getElem?_getD, h]
def szL : Int → List Int → Int × Int
 | n, [] => (n, 0)
 | n, d :: r => if n * d > 65536 then (0, 13) else szL (n * d) r
def lowB (l : List Int) : Bool := l.any fun d => decide (d < 1)
def szF (D : List Int) : Int × Int := if D.length > 8 then (0, 1) else if lowB D = true then (0, 1) else szL 1 D
theorem lowB_drop {l : List Int} {i : Nat} (h : i < l.length) : lowB (l.drop i) = (decide (rd l (i : Int) < 1) || lowB (l.drop (i + 1))) := by
 rw [rd_drop h]
 rfl
theorem index_l2 {l : List Int} (hl : l.length ≤ 1000) : ∀ (d i : Nat), l.length - i = d → i ≤ l.length → ∃ r : Int, Ev (fun q => Zz72.l2 q l (l.length : Int) (i : Int)) r ∧ (r ≥ 0 ↔ lowB (l.drop i) = true)
 | 0, i, hd, hi => by
  have : i = l.length := by omega
  subst this
  refine ⟨-1, Ev.step (fun q => Zz72.l2_eq ..) (Ev.neg (by omega) (Ev.now _)), ?_⟩
  rw [List.drop_length]
  exact ⟨fun h => by omega, fun h => by cases h⟩
 | d + 1, i, hd, hi => by
  obtain ⟨r, g, hr⟩ := index_l2 hl d (i + 1) (by omega) (by omega)
  rw [← w64_succ (a := i) (by omega)] at g
  have gs : Ev (fun q => Zz27.f q (rd l (i : Int))) (decide (rd l (i : Int) < 1)) := Ev.congr (fun q => Zz27.f_eq ..) (Ev.now _)
  rw [lowB_drop (by omega)]
  by_cases h : rd l (i : Int) < 1
  ·refine ⟨(i : Int), Ev.step (fun q => Zz72.l2_eq ..) (Ev.pos (by omega) (Ev.pos (by omega) (Ev.pos (by omega) (Ev.bind gs (Ev.pos (decide_eq_true h) (Ev.now _)))))), ?_⟩
   rw [decide_eq_true h]
   exact ⟨fun _ => rfl, fun _ => by omega⟩
  ·refine ⟨r, Ev.step (fun q => Zz72.l2_eq ..) (Ev.pos (by omega) (Ev.pos (by omega) (Ev.pos (by omega) (Ev.bind gs (Ev.neg (by simpa using h) g))))), ?_⟩
   rw [decide_eq_false h, Bool.false_or]
   exact hr
theorem contains_ev {l : List Int} (hl : l.length ≤ 1000) : Ev (fun q => Zz71.f q l) (lowB l) := by
 obtain ⟨r, g, hr⟩ := index_l2 hl _ 0 rfl (Nat.zero_le _)
 rw [List.drop_zero] at hr
 refine Ev.congr (fun q => Zz71.f_eq ..) (Ev.bind (Ev.congr (fun q => Zz72.f_eq ..) g) (Ev.ret ?_))
 cases h : lowB l with
 | true => exact decide_eq_true (hr.2 h)
 | false => exact decide_eq_false fun h1 => by rw [hr.1 h1] at h; cases h
theorem low_pos {l : List Int} (h : lowB l = false) {i : Nat} (hi : i < l.length) : 1 ≤ rd l (i : Int) := by
 refine Classical.byContradiction fun hn => ?_
 have h1 : lowB l = true := List.any_eq_true.2 ⟨rd l (i : Int), by rw [rd_of rfl hi]; exact List.getElem_mem hi, decide_eq_true (by omega)⟩
 rw [h] at h1; cases h1
theorem tdiv_lt {n d : Int} (h1 : 1 ≤ n) (hn : n ≤ 65536) : d > wrap64 (Int.tdiv 65536 n) ↔ n * d > 65536 := by
 obtain ⟨m, rfl⟩ : ∃ m : Nat, n = (m : Int) := ⟨n.toNat, by omega⟩
 have e : Int.tdiv 65536 (m : Int) = ((65536 / m : Nat) : Int) := by
  rw [show (65536 : Int) = ((65536 : Nat) : Int) from rfl]; exact (Int.ofNat_tdiv 65536 m).symm
 have hq : 65536 / m ≤ 65536 := Nat.div_le_self _ _
 rw [e, w64_nat (by omega)]
 have a1 : m * (65536 / m) ≤ 65536 := Nat.mul_div_le _ _
 have a2 : 65536 < m * (65536 / m + 1) := Nat.lt_mul_div_succ _ (by omega)
 constructor
 ·intro h
  have h2 : ((65536 / m + 1 : Nat) : Int) ≤ d := by omega
  have h3 : (m : Int) * ((65536 / m + 1 : Nat) : Int) ≤ (m : Int) * d := Int.mul_le_mul_of_nonneg_left h2 (by omega)
  rw [← Int.natCast_mul] at h3
  omega
 ·intro h
  refine Classical.byContradiction fun hn => ?_
  have h3 : (m : Int) * d ≤ (m : Int) * ((65536 / m : Nat) : Int) := Int.mul_le_mul_of_nonneg_left (by omega) (by omega)
  rw [← Int.natCast_mul] at h3
  omega
theorem mul_pos' {n d : Int} (h1 : 1 ≤ n) (h2 : 1 ≤ d) : 1 ≤ n * d := by
 have := Int.mul_le_mul_of_nonneg_left h2 (show 0 ≤ n by omega)
 omega
theorem size_l5 {l : List Int} (hl : l.length ≤ 1000) (h0 : lowB l = false) : ∀ (d i : Nat) (n : Int), l.length - i = d → i ≤ l.length → 1 ≤ n → n ≤ 65536 → Ev (fun q => Zz26.l5 q n l (l.length : Int) (i : Int)) (szL n (l.drop i))
 | 0, i, n, hd, hi, n1, n2 => by
  have : i = l.length := by omega
  subst this
  rw [List.drop_length]
  exact Ev.step (fun q => Zz26.l5_eq ..) (Ev.neg (by omega) (Ev.now _))
 | d + 1, i, n, hd, hi, n1, n2 => by
  have hp := low_pos h0 (i := i) (by omega)
  rw [rd_drop (by omega)]
  unfold szL
  by_cases h : n * rd l (i : Int) > 65536
  ·rw [if_pos h]
   exact Ev.step (fun q => Zz26.l5_eq ..) (Ev.pos (by omega) (Ev.pos (by omega) (Ev.pos (by omega) (Ev.neg (by omega) (Ev.pos ((tdiv_lt n1 n2).2 h) (Ev.now _))))))
  ·rw [if_neg h]
   have g := size_l5 hl h0 d (i + 1) (n * rd l (i : Int)) (by omega) (by omega) (mul_pos' n1 hp) (by omega)
   have hw : wrap64 (n * rd l (i : Int)) = n * rd l (i : Int) := w64_of (by have := mul_pos' n1 hp; omega) (by omega)
   rw [← w64_succ (a := i) (by omega)] at g
   exact Ev.step (fun q => Zz26.l5_eq ..) (Ev.pos (by omega) (Ev.pos (by omega) (Ev.pos (by omega) (Ev.neg (by omega) (Ev.neg (fun e => h ((tdiv_lt n1 n2).1 e)) (by rw [hw]; exact g))))))
theorem size_ev {D : List Int} (hD : D.length ≤ 1000) : Ev (fun q => Zz26.f q D) (szF D) := by
 unfold szF
 by_cases h8 : D.length > 8
 ·rw [if_pos h8]; exact Ev.congr (fun q => Zz26.f_eq ..) (Ev.pos (by omega) (Ev.now _))
 ·rw [if_neg h8]
  cases h : lowB D with
  | true => rw [if_pos rfl]; exact Ev.congr (fun q => Zz26.f_eq ..) (Ev.neg (by omega) (Ev.bind (contains_ev hD) (Ev.pos h (Ev.now _))))
  | false =>
   rw [if_neg Bool.false_ne_true]
   have g := size_l5 hD h _ 0 1 rfl (Nat.zero_le _) (by decide) (by decide)
   rw [List.drop_zero] at g
   exact Ev.congr (fun q => Zz26.f_eq ..) (Ev.neg (by omega) (Ev.bind (contains_ev hD) (Ev.neg (by rw [h]; exact Bool.false_ne_true) g)))
def plL (D E : List Int) : Nat → Nat → Int → Int × Int
 | 0, _, t => (t, 0)
 | m + 1, i, t => if rd E (i : Int) < 0 then (0, 1) else if rd E (i : Int) ≥ rd D (i : Int) then (0, 1) else plL D E m (i + 1) (wrap64 (wrap64 (t * rd D (i : Int)) + rd E (i : Int)))
def plF (D E : List Int) : Int × Int := if (szF D).2 = 0 then (if E.length = D.length then plL D E D.length 0 0 else (0, 1)) else (0, (szF D).2)
theorem place_l8 {D E : List Int} (hD : D.length ≤ 1000) (he : E.length = D.length) : ∀ (d i : Nat) (t : Int), D.length - i = d → i ≤ D.length → Ev (fun q => Zz25.l8 q E t D (D.length : Int) (i : Int)) (plL D E d i t)
 | 0, i, t, hd, hi => Ev.step (fun q => Zz25.l8_eq ..) (Ev.neg (by omega) (Ev.now _))
 | d + 1, i, t, hd, hi => by
  have g := place_l8 hD he d (i + 1) (wrap64 (wrap64 (t * rd D (i : Int)) + rd E (i : Int))) (by omega) (by omega)
  rw [← w64_succ (a := i) (by omega)] at g
  unfold plL
  refine Ev.step (fun q => Zz25.l8_eq ..) (Ev.pos (by omega) (Ev.pos (by omega) (Ev.pos (by omega) (Ev.pos (by omega) (Ev.pos (by omega) ?_)))))
  by_cases h1 : rd E (i : Int) < 0
  ·rw [if_pos h1]; exact Ev.pos h1 (Ev.now _)
  ·rw [if_neg h1]
   refine Ev.neg h1 (Ev.pos (by omega) (Ev.pos (by omega) ?_))
   by_cases h2 : rd E (i : Int) ≥ rd D (i : Int)
   ·rw [if_pos h2]; exact Ev.pos h2 (Ev.now _)
   ·rw [if_neg h2]
    exact Ev.neg h2 (Ev.pos (by omega) (Ev.pos (by omega) g))
theorem place_ev {D E : List Int} (hD : D.length ≤ 1000) : Ev (fun q => Zz25.f q D E) (plF D E) := by
 unfold plF
 refine Ev.congr (fun q => Zz25.f_eq ..) (Ev.bind (size_ev hD) ?_)
 by_cases h : (szF D).2 = 0
 ·rw [if_pos h]
  by_cases he : E.length = D.length
  ·rw [if_pos he]
   exact Ev.pos h (Ev.pos (by omega) (place_l8 hD he _ 0 0 rfl (Nat.zero_le _)))
  ·rw [if_neg he]
   exact Ev.pos h (Ev.neg (by omega) (Ev.now _))
 ·rw [if_neg h]
  exact Ev.neg h (Ev.now _)
end Go.Proofs.YtkoeddgbhohggaaGreatDoor.Pure
end
section
namespace Go.Proofs.YtkoeddgbhohggaaGreatDoor.Pure
open Go.RowKit Go.Proofs.YtkoeddgbhohggaaGreatDoor.F Go.Proofs.YtkoeddgbhohggaaGreatDoorW.PrintWords Go.Proofs.YtkoeddgbhohggaaGreatDoorW.PrintLast Go.Proofs.YtkoeddgbhohggaaGreatDoorW.PrintMore
open Go.Proofs.YtkoeddgbhohggaaGreatDoor.E (tEq tLt tApp tCut cdB dcB dcB_eq)
set_option linter.unusedVariables false
set_option linter.unusedSimpArgs false
theorem WF_of_two {a b : Int} (ha : U a) (hb : U b) : WF [a, b] := WF.cons ha (WF.cons hb WF.nil)
theorem nprint_ev {n : Nat} (h : Sz 1000 (n : Int)) : Ev (fun k => Zz7.f k false (limbs n)) (dec n) := by
 have := iprint_ev h
 rwa [ng_nat, Int.natAbs_natCast, ztx_nat] at this
theorem dec_awake : dec 36893488147419103230 = tx [51, 54, 56, 57, 51, 52, 56, 56, 49, 52, 55, 52, 49, 57, 49, 48, 51, 50, 51, 48] := by
 have h := ds_of (l := [51, 54, 56, 57, 51, 52, 56, 56, 49, 52, 55, 52, 49, 57, 49, 48, 51, 50, 51, 48]) (by unfold DS; decide) (by decide) (.inr fun h => show (51 : UInt8) ≠ 48 by decide)
 rw [show sv [51, 54, 56, 57, 51, 52, 56, 56, 49, 52, 55, 52, 49, 57, 49, 48, 51, 50, 51, 48] = 36893488147419103230 by decide] at h
 unfold dec
 rw [← h]
theorem awake_ev : Ev (fun k => Zz90.f k) true := by
 have w1 : WF [1, 2] := WF_of_two ⟨by decide, by decide⟩ ⟨by decide, by decide⟩
 have w2 : WF [3, 4] := WF_of_two ⟨by decide, by decide⟩ ⟨by decide, by decide⟩
 have w3 : WF [18446744073709551615] := WF.cons ⟨by decide, by decide⟩ WF.nil
 have w4 : WF [2] := WF.cons ⟨by decide, by decide⟩ WF.nil
 have g1 := conv_ev (a := [1, 2]) (b := [3, 4]) (m := 5) w1 w2 (by decide) (by decide) (by decide) (by decide) (by decide)
 have g2 := exact_ev (a := [18446744073709551615]) (b := [2]) w3 w4 (by decide) (by decide) (by decide)
 have g3 := place_ev (D := [2, 3]) (E := [1, 2]) (by decide)
 rw [show tab (plen [1, 2] [3, 4]) (fun t => cf [1, 2] [3, 4] t % 5) = [3, 0, 3] by decide +kernel] at g1
 rw [show plen [18446744073709551615] [2] = 1 by decide] at g2
 rw [show plF [2, 3] [1, 2] = (5, 0) by
  unfold plF
  rw [show szF [2, 3] = (6, 0) by decide]
  rw [if_pos rfl, if_pos (show ([1, 2] : List Int).length = ([2, 3] : List Int).length from rfl)]
  have e1 : wrap64 (wrap64 (0 * 2) + 1) = 1 := by unfold wrap64; omega
  have e2 : wrap64 (wrap64 (1 * 3) + 2) = 5 := by unfold wrap64; omega
  show plL [2, 3] [1, 2] 2 0 0 = _
  unfold plL
  rw [show rd [1, 2] ((0 : Nat) : Int) = 1 from rfl, show rd [2, 3] ((0 : Nat) : Int) = 2 from rfl, if_neg (by decide), if_neg (by decide), e1]
  unfold plL
  rw [show rd [1, 2] ((0 + 1 : Nat) : Int) = 2 from rfl, show rd [2, 3] ((0 + 1 : Nat) : Int) = 3 from rfl, if_neg (by decide), if_neg (by decide), e2]
  rfl] at g3
 have hr : rd (bigs 1 (cf [18446744073709551615] [2])) 0 = cdB (false, limbs 36893488147419103230) := by
  have := rd_bigs (n := 1) (cf [18446744073709551615] [2]) (q := 0) (by decide)
  rwa [show cf [18446744073709551615] [2] 0 = 36893488147419103230 by decide +kernel] at this
 have gp := nprint_ev (n := 36893488147419103230) (Sz.up (p := 2) (sz_nat (by decide)) (by decide))
 refine Ev.congr (fun k => Zz90.f_eq ..) (Ev.bind g1 (Ev.bind g2 (Ev.bind g3 (Ev.bind (same_ev (l := [3, 0, 3]) (by decide)) (Ev.pos rfl (Ev.pos rfl ?_))))))
 show Ev (fun k => if ((bigs 1 (cf [18446744073709551615] [2])).length : Int) = 1 then _ else _) _
 rw [hr, dcB_eq, bigs_length]
 exact Ev.pos rfl (Ev.pos (by decide) (Ev.bind gp (Ev.pos (by rw [dec_awake]; exact tEq_yes rfl) (Ev.pos rfl (Ev.pos rfl (Ev.ret (by decide)))))))
theorem awake_some : Ev (fun k => (Zz90.f k).bind fun t0 => some t0) true := Ev.bind awake_ev (Ev.now _)
end Go.Proofs.YtkoeddgbhohggaaGreatDoor.Pure
end
section
namespace Go.Proofs.YtkoeddgbhohggaaGreatDoor.Pure
open Go.RowKit Go.Proofs.YtkoeddgbhohggaaGreatDoor.F Go.Proofs.YtkoeddgbhohggaaGreatDoorW.PrintWords Go.Proofs.YtkoeddgbhohggaaGreatDoorW.PrintLast Go.Proofs.YtkoeddgbhohggaaGreatDoorW.PrintMore
open Go.Proofs.YtkoeddgbhohggaaGreatDoor.E (tEq tLt tApp tCut cdB dcB dcB_eq cdT dcT dcT_eq)
set_option linter.unusedVariables false
set_option linter.unusedSimpArgs false
theorem ConvMuls {a b : List Int} {m : Int} (ha : WF a) (hb : WF b) (hm : U m) : Ev (fun k => Zz87.f k a b m) true := by
 by_cases h1 : (a.length : Int) > 60
 ·exact Ev.congr (fun k => Zz87.f_eq ..) (Ev.pos h1 awake_some)
 by_cases h2 : (b.length : Int) > 60
 ·exact Ev.congr (fun k => Zz87.f_eq ..) (Ev.neg h1 (Ev.pos h2 awake_some))
 obtain ⟨m0, m1⟩ := hm
 obtain ⟨m, rfl⟩ : ∃ n : Nat, m = (n : Int) := ⟨m.toNat, by omega⟩
 refine Ev.congr (fun k => Zz87.f_eq ..) (Ev.neg h1 (Ev.neg h2 ?_))
 by_cases hM : May m
 ·obtain ⟨k1, k2⟩ := hM
  have g := conv_ev ha hb k1 k2 (by unfold plen; split <;> omega) (by omega) (by omega)
  have gr := rmulp_ev (p := m) ha hb (by omega) (by omega) (by omega)
  have e : (if a.length = 0 ∨ b.length = 0 then [] else tab (a.length + b.length - 1) fun t => conv a.length b.length (at0 a) (at0 b) t % m) = tab (plen a b) fun t => cf a b t % m := by
   unfold plen
   split
   ·rfl
   ·rfl
  rw [e] at gr
  exact Ev.bind g (Ev.bind (rmay_ev m) (Ev.neg (by rw [decide_eq_true (show May m from ⟨k1, k2⟩)]; decide) (Ev.pos rfl (Ev.bind gr (Ev.bind (same_ev (by rw [tab_length]; unfold plen; split <;> omega)) (Ev.pos rfl awake_some))))))
 ·exact Ev.bind (conv_bad (by unfold May at hM; omega)) (Ev.bind (rmay_ev m) (Ev.pos (by rw [decide_eq_false hM]; rfl) (Ev.pos rfl (Ev.pos rfl awake_some))))
noncomputable def txts (n : Nat) (f : Nat → Nat) : List Int := (List.range n).map fun q => cdT (dec (f q))
theorem txts_length (n : Nat) (f : Nat → Nat) : (txts n f).length = n := by simp [txts]
theorem txts_get {n : Nat} (f : Nat → Nat) {q : Nat} (h : q < n) : (txts n f)[q]? = some (cdT (dec (f q))) := by simp [txts, h]
theorem rd_txts {n : Nat} (f : Nat → Nat) {q : Nat} (h : q < n) : rd (txts n f) (q : Int) = cdT (dec (f q)) := by simp [rd, List.getD_eq_getElem?_getD, txts_get f h]
theorem txts_ext {n : Nat} {f g : Nat → Nat} (h : ∀ q, q < n → f q = g q) : txts n f = txts n g := by
 unfold txts
 exact List.map_congr_left fun q hq => by rw [h q (List.mem_range.1 hq)]
theorem txts_set (n : Nat) (f : Nat → Nat) (q v : Nat) : (txts n f).set q (cdT (dec v)) = txts n fun j => if j = q then v else f j := by
 refine List.ext_getElem? fun j => ?_
 rw [List.getElem?_set]
 by_cases hj : j < n
 ·rw [txts_get _ hj]
  by_cases e : q = j
  ·subst e; rw [if_pos rfl, if_pos (by rw [txts_length]; exact hj), txts_get _ hj, if_pos rfl]
  ·rw [if_neg e, txts_get _ hj, if_neg (fun h => e h.symm)]
 ·have e1 : (txts n fun j => if j = q then v else f j)[j]? = none := List.getElem?_eq_none (by rw [txts_length]; omega)
  rw [e1]
  by_cases e : q = j
  ·subst e; rw [if_pos rfl, if_neg (by rw [txts_length]; exact hj)]
  ·rw [if_neg e]; exact List.getElem?_eq_none (by rw [txts_length]; omega)
theorem acc_bound {x y : Nat → Nat} {m C : Nat} (hc : ∀ p q, x p * y q ≤ C) (hm : m ≤ 20) {i j : Nat} (hi : i ≤ 20) (hj : j ≤ 20) (t : Nat) : acc (fun a b => a + b) x y m i j t ≤ 420 * C := by
 have hc' : ∀ p q, (if p + q = t then x p * y q else 0) ≤ C := fun p q => by
  split
  ·exact hc p q
  ·exact Nat.zero_le _
 have g1 := sumTo_le (f := fun p => sumTo (fun q => if p + q = t then x p * y q else 0) m) (c := 20 * C) i fun p _ =>
  Nat.le_trans (sumTo_le m fun q _ => hc' p q) (Nat.mul_le_mul_right _ hm)
 have g2 := sumTo_le (f := fun q => if i + q = t then x i * y q else 0) (c := C) j fun q _ => hc' i q
 have g3 := Nat.mul_le_mul_right (20 * C) hi
 have g4 := Nat.mul_le_mul_right C hj
 have g5 : acc (fun a b => a + b) x y m i j t = sumTo (fun p => sumTo (fun q => if p + q = t then x p * y q else 0) m) i + sumTo (fun q => if i + q = t then x i * y q else 0) j := rfl
 rw [g5]
 omega
theorem acc_small {a b : List Int} (ha : WF a) (hb : WF b) (h1 : a.length ≤ 20) (h2 : b.length ≤ 20) {i j : Nat} (hi : i ≤ 20) (hj : j ≤ 20) (t : Nat) : acc (fun a b => a + b) (at0 a) (at0 b) b.length i j t ≤ 420 * (18446744073709551615 * 18446744073709551615) :=
 acc_bound (fun p q => Nat.mul_le_mul (by have := at0_lt ha p; omega) (by have := at0_lt hb q; omega)) h2 hi hj t
mutual
theorem rexact_l9 {a b : List Int} {N : Nat} (ha : WF a) (hb : WF b) (h1 : a.length ≤ 20) (h2 : b.length ≤ 20) (hN : N = a.length + b.length - 1) : ∀ (d i : Nat), a.length - i = d → i ≤ a.length →
  Ev (fun k => Zz104.l9 k a b (txts N fun t => acc (fun a b => a + b) (at0 a) (at0 b) b.length i 0 t) (i : Int)) (txts N (cf a b))
 | 0, i, hd, hi => by
  have : i = a.length := by omega
  subst this
  exact Ev.step (fun k => Zz104.l9_eq ..) (Ev.neg (by omega) (Ev.now _))
 | d + 1, i, hd, hi => by
  have g := rexact_l12 ha hb h1 h2 hN d i hd (by omega) b.length 0 rfl (Nat.zero_le _)
  exact Ev.step (fun k => Zz104.l9_eq ..) (Ev.pos (by omega) g)
theorem rexact_l12 {a b : List Int} {N : Nat} (ha : WF a) (hb : WF b) (h1 : a.length ≤ 20) (h2 : b.length ≤ 20) (hN : N = a.length + b.length - 1) : ∀ (d i : Nat), a.length - i = d + 1 → i < a.length → ∀ (e j : Nat), b.length - j = e → j ≤ b.length →
  Ev (fun k => Zz104.l12 k a b (txts N fun t => acc (fun a b => a + b) (at0 a) (at0 b) b.length i j t) (i : Int) (j : Int)) (txts N (cf a b))
 | d, i, hd, hi, 0, j, he, hj => by
  have : j = b.length := by omega
  subst this
  have g := rexact_l9 ha hb h1 h2 hN d (i + 1) (by omega) (by omega)
  rw [← w64_succ (a := i) (by omega)] at g
  exact Ev.step (fun k => Zz104.l12_eq ..) (Ev.neg (by omega) g)
 | d, i, hd, hi, e + 1, j, he, hj => by
  have g := rexact_l12 ha hb h1 h2 hN d i hd hi e (j + 1) (by omega) (by omega)
  have e1 : (txts N fun t => acc (fun a b => a + b) (at0 a) (at0 b) b.length i j t).set ((i + j : Nat) : Int).toNat (cdT (dec (acc (fun a b => a + b) (at0 a) (at0 b) b.length i j (i + j) + at0 a i * at0 b j))) = txts N fun t => acc (fun a b => a + b) (at0 a) (at0 b) b.length i (j + 1) t := by
   rw [Int.toNat_natCast, txts_set]
   refine txts_ext fun q hq => ?_
   rw [acc_step]
   by_cases h : q = i + j
   ·subst h; rw [if_pos rfl, if_pos rfl]
   ·rw [if_neg h, if_neg (fun e => h e.symm), Nat.add_zero]
  have la := at0_lt ha i
  have lb := at0_lt hb j
  have sm := acc_small ha hb h1 h2 (i := i) (j := j) (by omega) (by omega) (i + j)
  have d1 : (ds (at0 a i)).length ≤ 10000000 := Nat.le_trans (ds_length_le (m := 20) (by omega) (by decide)) (by decide)
  have d2 : (ds (at0 b j)).length ≤ 10000000 := Nat.le_trans (ds_length_le (m := 20) (by omega) (by decide)) (by decide)
  have hmul : at0 a i * at0 b j ≤ 18446744073709551615 * 18446744073709551615 := Nat.mul_le_mul (by omega) (by omega)
  have d3 : (ds (acc (fun a b => a + b) (at0 a) (at0 b) b.length i j (i + j))).length ≤ 1000000000 := Nat.le_trans (ds_length_le (m := 60) (Nat.lt_of_le_of_lt sm (by decide)) (by decide)) (by decide)
  have d4 : (ds (at0 a i * at0 b j)).length ≤ 1000000000 := Nat.le_trans (ds_length_le (m := 60) (Nat.lt_of_le_of_lt hmul (by decide)) (by decide)) (by decide)
  have gm := ref_mul d1 d2
  have ga := ref_add d3 d4
  rw [← w64_succ (a := j) (by omega)] at g
  refine Ev.step (fun k => Zz104.l12_eq ..) ?_
  rw [w64_add (show i + j ≤ 1099511627780 by omega), at0_rd ha, at0_rd hb, rd_txts (fun t => acc (fun a b => a + b) (at0 a) (at0 b) b.length i j t) (show i + j < N by omega), dcT_eq]
  refine Ev.pos (by omega) (Ev.pos (by omega) (Ev.pos (by rw [txts_length]; omega) (Ev.pos (by omega) (Ev.pos (by omega) (Ev.bind (ref_word la) (Ev.pos (by omega) (Ev.pos (by omega) (Ev.bind (ref_word lb) (Ev.bind gm (Ev.bind ga (Ev.pos (by omega) (Ev.pos (by rw [txts_length]; omega) ?_))))))))))))
  rw [e1]
  exact g
end
theorem rexact_l5 {a b : List Int} {N : Nat} (ha : WF a) (hb : WF b) (h1 : a.length ≤ 20) (h2 : b.length ≤ 20) (hN : N = a.length + b.length - 1) : ∀ (d i : Nat) (l : List Int), N - i = d → i ≤ N → l.length = N → (∀ j, j < i → l[j]? = some (cdT (dec 0))) → Ev (fun k => Zz104.l5 k a b l (i : Int)) (txts N (cf a b))
 | 0, i, l, hd, hi, hl, hj => by
  have : i = N := by omega
  subst this
  have e : l = txts i fun t => acc (fun a b => a + b) (at0 a) (at0 b) b.length 0 0 t := by
   refine List.ext_getElem? fun j => ?_
   by_cases h : j < i
   ·rw [hj j h, txts_get _ h]; rfl
   ·rw [List.getElem?_eq_none (by omega), List.getElem?_eq_none (by rw [txts_length]; omega)]
  rw [e]
  exact Ev.step (fun k => Zz104.l5_eq ..) (Ev.neg (by rw [txts_length]; omega) (rexact_l9 ha hb h1 h2 hN _ 0 rfl (Nat.zero_le _)))
 | d + 1, i, l, hd, hi, hl, hj => by
  have g := rexact_l5 ha hb h1 h2 hN d (i + 1) (l.set i (cdT (dec 0))) (by omega) (by omega) (by rw [List.length_set]; exact hl) fun j h => by
   rw [List.getElem?_set]
   by_cases e : i = j
   ·rw [if_pos e, if_pos (by omega)]
   ·rw [if_neg e]; exact hj j (by omega)
  rw [← w64_succ (a := i) (by omega), dec_zero] at g
  exact Ev.step (fun k => Zz104.l5_eq ..) (Ev.pos (by omega) (Ev.pos (by omega) (Ev.pos (by omega) g)))
theorem rexact_ev {a b : List Int} (ha : WF a) (hb : WF b) (h1 : a.length ≤ 20) (h2 : b.length ≤ 20) : Ev (fun k => Zz104.f k a b) (txts (plen a b) (cf a b)) := by
 by_cases ha0 : a.length = 0
 ·rw [show plen a b = 0 from if_pos (.inl ha0)]
  exact Ev.congr (fun k => Zz104.f_eq ..) (Ev.pos (by omega) (Ev.now _))
 by_cases hb0 : b.length = 0
 ·rw [show plen a b = 0 from if_pos (.inr hb0)]
  exact Ev.congr (fun k => Zz104.f_eq ..) (Ev.neg (by omega) (Ev.pos (by omega) (Ev.now _)))
 rw [show plen a b = a.length + b.length - 1 from if_neg (by omega)]
 have e1 : wrap64 (wrap64 ((a.length : Int) + (b.length : Int)) - 1) = ((a.length + b.length - 1 : Nat) : Int) := by
  rw [w64_add (by omega), w64_of (by omega) (by omega)]; omega
 refine Ev.congr (fun k => Zz104.f_eq ..) (Ev.neg (by omega) (Ev.neg (by omega) ?_))
 rw [e1, Int.toNat_natCast]
 exact Ev.pos (by omega) (Ev.pos (by omega) (rexact_l5 ha hb h1 h2 rfl _ 0 _ rfl (Nat.zero_le _) List.length_replicate fun j h => by omega))
theorem lexact_l8 {N : Nat} {F : Nat → Nat} (hN : N ≤ 1000) (hF : ∀ t, t < N → Sz 1000 ((F t : Nat) : Int)) : ∀ (d i : Nat), N - i = d → i ≤ N → Ev (fun k => Zz86.l8 k (bigs N F) (txts N F) (i : Int)) true
 | 0, i, hd, hi => Ev.step (fun k => Zz86.l8_eq ..) (Ev.neg (by rw [bigs_length]; omega) awake_some)
 | d + 1, i, hd, hi => by
  have g := lexact_l8 hN hF d (i + 1) (by omega) (by omega)
  rw [← w64_succ (a := i) (by omega)] at g
  refine Ev.step (fun k => Zz86.l8_eq ..) ?_
  rw [rd_bigs F (by omega), rd_txts F (by omega), dcB_eq, dcT_eq]
  exact Ev.pos (by rw [bigs_length]; omega) (Ev.pos (by omega) (Ev.pos (by rw [bigs_length]; omega) (Ev.bind (nprint_ev (hF i (by omega))) (Ev.pos (by omega) (Ev.pos (by rw [txts_length]; omega) (Ev.pos (tEq_same _) g))))))
theorem ConvExact {a b : List Int} (ha : WF a) (hb : WF b) : Ev (fun k => Zz86.f k a b) true := by
 by_cases h1 : (a.length : Int) > 20
 ·exact Ev.congr (fun k => Zz86.f_eq ..) (Ev.pos h1 awake_some)
 by_cases h2 : (b.length : Int) > 20
 ·exact Ev.congr (fun k => Zz86.f_eq ..) (Ev.neg h1 (Ev.pos h2 awake_some))
 have hp : plen a b ≤ 40 := by unfold plen; split <;> omega
 refine Ev.congr (fun k => Zz86.f_eq ..) (Ev.neg h1 (Ev.neg h2 (Ev.bind (exact_ev ha hb (by omega) (by omega) (by omega)) (Ev.bind (rexact_ev ha hb (by omega) (by omega)) (Ev.pos rfl (Ev.pos ?_ (lexact_l8 (by omega) (fun t ht => (cf_sz ha hb (by omega) t).up (by decide)) _ 0 rfl (Nat.zero_le _))))))))
 show ((bigs _ _).length : Int) = ((txts _ _).length : Int)
 rw [bigs_length, txts_length]
end Go.Proofs.YtkoeddgbhohggaaGreatDoor.Pure
end
section
namespace Go.Proofs.YtkoeddgbhohggaaGreatDoor.Pure
open Go.RowKit Go.Proofs.YtkoeddgbhohggaaGreatDoor.F Go.Proofs.YtkoeddgbhohggaaGreatDoorW.PrintWords Go.Proofs.YtkoeddgbhohggaaGreatDoorW.PrintLast Go.Proofs.YtkoeddgbhohggaaGreatDoorW.PrintMore
set_option linter.unusedVariables false
set_option linter.unusedSimpArgs false
def IsRow (k : IntKind) (w : World) (a : Option Addr) (len cap : Nat) (zs : List Int) : Prop :=
 (a = none ∧ len = 0 ∧ cap = 0 ∧ zs = []) ∨
 ∃ x, a = some x ∧ len ≤ cap ∧ cap ≤ maxLen ∧ zs.length = cap ∧ (∀ i, i < zs.length → w.cell? (x.add i) = some (.int k (zs.getD i 0))) ∧ ∀ n ∈ zs, (Lit.int k n).wf = true
theorem IsRow.words {w : World} {a : Option Addr} {len cap : Nat} {zs : List Int} (h : IsRow .u64 w a len cap zs) : WF (zs.take len) := by
 rcases h with ⟨_, _, _, rfl⟩ | ⟨x, _, _, _, _, _, h⟩
 ·intro y hy; simp at hy
 ·exact fun y hy => U_of_wf (h y (List.mem_of_mem_take hy))
theorem cell_lt {w : World} {p : Addr} {v : Value} (h : w.cell? p = some v) : p.block < w.heap.size := by
 apply Classical.byContradiction
 intro hn
 unfold World.cell? at h
 rw [Array.getElem?_eq_none (by omega)] at h
 simp at h
theorem IsRow.held {w : World} {a : Option Addr} {len cap : Nat} {zs : List Int} {k : IntKind} (h : IsRow k w a len cap zs) : E.HeldF w (fun _ => True) (.row k (zs.take len)) (.slice a len cap) := by
 intro W' hW
 unfold E.Den
 rcases h with ⟨rfl, rfl, rfl, rfl⟩ | ⟨x, rfl, hl, hm, hz, hc, _⟩
 ·exact ⟨none, 0, rfl, Nat.le_refl _, fun h => by simp at h⟩
 ·have hlen : (zs.take len).length = len := by rw [List.length_take]; omega
  refine ⟨some x, cap, by rw [hlen], by rw [hlen]; exact hl, fun _ => ⟨x, rfl, fun i hi => ?_⟩⟩
  rw [hlen] at hi
  have h1 := hc i (by omega)
  have h2 := cell_lt h1
  have e : (zs.take len).getD i 0 = zs.getD i 0 := by
   rw [List.getD_eq_getElem?_getD, List.getD_eq_getElem?_getD, List.getElem?_take_of_lt hi]
  rw [e, ← h1]
  exact E.cell_same (hW _ trivial h2)
theorem held_int {w : World} {ok : Nat → Prop} (k : IntKind) (n : Int) : E.HeldF w ok (.lit (.int k n)) (.int k n) := E.held_lit _
theorem runs {P : Program} {f : FuncId} {A : E.AK} {g : Nat → A.T → Option Bool} (hd : ∀ k, E.Does P f A (.p .bool .nil) (g k) fun b => ((b, ()), [])) {x : A.T} (he : Ev (fun k => g k x) true) {w : World} {us : List Value} (hg : E.GOk w fun _ => True) (hx : E.XAll w (fun _ => True) none (A.put x) us) :
  Calls P f us.toArray w fun e w' => e = .returned (.bool true) ∧ Below w.heap.size w w' := by
 obtain ⟨k, hk⟩ := he
 refine ((hd k x true (hk k (Nat.le_refl _))).2 (fun _ => True) none w us hg hx).mono fun e w' ⟨G, vs, h1, h2, h3, _⟩ => ?_
 refine ⟨?_, (show E.Fr (fun _ => False) w w' from ⟨h3.os, h3.tape, h3.output, h3.size, fun k hk _ => h3.block k hk (fun h => by cases h)⟩).below⟩
 rw [h1]
 match vs, h2 with
 | [v], h2 => exact congrArg _ (E.lit_of h2.1)
end Go.Proofs.YtkoeddgbhohggaaGreatDoor.Pure
end
section
namespace Go.Proofs.YtkoeddgbhohggaaGreatDoor.Pure
open Go.ChangeShapes Go.WideShapes Go.RowKit
set_option linter.unusedVariables false
end Go.Proofs.YtkoeddgbhohggaaGreatDoor.Pure
end
