/-
  Numbers and texts: what nat.Print, nat.right and nat.Parse compute. Conditions: no list is longer than 1000 words, no text longer than a million bytes.
-/
import Derived.Test.YtdomplmilbkaeaaDoorPDivW
import Derived.Test.YtdomplmilbkaeaaDoorPNatM
import Derived.Test.YtdomplmilbkaeaaDoorPRefA
import Derived.Test.YtdomplmilbkaeaaDoorGNx0
import Derived.Test.YtdomplmilbkaeaaDoorGNx7
import Derived.Test.YtdomplmilbkaeaaDoorGNx8
namespace Go.Proofs.YtdomplmilbkaeaaDoor.Pure
open Go.RowKit Go.Proofs.YtdomplmilbkaeaaDoor.GN Go.Proofs.YtdomplmilbkaeaaDoorW.PrintWords Go.Proofs.YtdomplmilbkaeaaDoorW.PrintLast Go.Proofs.YtdomplmilbkaeaaDoorW.PrintMore
set_option linter.unusedVariables false
set_option linter.unusedSimpArgs false

/-! ### a list turned, in place -/
theorem rd_get (l : List Int) (p : Nat) : rd l (p : Int) = l[p]?.getD 0 := by simp [rd, List.getD_eq_getElem?_getD]
theorem turn_l2 (l : List Int) (hl : l.length ≤ 1000000) : ∀ (d i : Nat) (c : List Int), l.length - i = d → c.length = l.length →
    (∀ p, p < l.length → c[p]? = if p < i ∨ l.length - 1 - i < p then l[l.length - 1 - p]? else l[p]?) → 2 * i ≤ l.length →
    Ev (fun k => nat_Print.l2 k c (i : Int) ((l.length : Int) - 1 - (i : Int))) (strOfNums l.reverse) := by
  intro d
  induction d with
  | zero =>
    intro i c hd hc hp h2
    have h0 : l.length = 0 := by omega
    have hl0 : l = [] := List.length_eq_zero_iff.1 h0
    have hc0 : c = [] := List.length_eq_zero_iff.1 (by rw [hc, h0])
    subst hl0; subst hc0
    refine Ev.step (f := fun k => some (strOfNums ([] : List Int).reverse)) (fun k => ?_) (Ev.now _)
    simp only [nat_Print.l2]
    rw [if_neg (by simp; omega)]; rfl
  | succ d ih =>
    intro i c hd hc hp h2
    by_cases h : (i : Int) < (l.length : Int) - 1 - (i : Int)
    · have hk : (l.length : Int) - 1 - (i : Int) = ((l.length - 1 - i : Nat) : Int) := by omega
      have hki : l.length - 1 - i < c.length := by omega
      have hii : i < c.length := by omega
      have hp1 := hp i (by omega)
      have hp2 := hp (l.length - 1 - i) (by omega)
      rw [if_neg (by omega)] at hp1 hp2
      have r1 : rd c (i : Int) = rd l (i : Int) := by rw [rd_get, rd_get, hp1]
      have r2 : rd c ((l.length - 1 - i : Nat) : Int) = rd l ((l.length - 1 - i : Nat) : Int) := by rw [rd_get, rd_get, hp2]
      have g1 : l[i]? = some (rd l (i : Int)) := by rw [rd_get, List.getElem?_eq_getElem (by omega)]; rfl
      have g2 : l[l.length - 1 - i]? = some (rd l ((l.length - 1 - i : Nat) : Int)) := by rw [rd_get, List.getElem?_eq_getElem (by omega)]; rfl
      have g := ih (i + 1) ((c.set i (rd l ((l.length - 1 - i : Nat) : Int))).set (l.length - 1 - i) (rd l (i : Int))) (by omega) (by rw [List.length_set, List.length_set]; exact hc) (fun p hpl => by
        rw [List.getElem?_set, List.length_set]
        by_cases e1 : l.length - 1 - i = p
        · rw [if_pos e1, if_pos hki, if_pos (by omega)]
          have : l.length - 1 - p = i := by omega
          rw [this, g1]
        · rw [if_neg e1, List.getElem?_set]
          by_cases e2 : i = p
          · rw [if_pos e2, if_pos hii, if_pos (by omega), ← e2, g2]
          · rw [if_neg e2, hp p hpl]
            by_cases e3 : p < i ∨ l.length - 1 - i < p
            · rw [if_pos e3, if_pos (by omega)]
            · rw [if_neg e3, if_neg (by omega)]) (by omega)
      have w1 : wrap64 ((i : Int) + 1) = ((i + 1 : Nat) : Int) := w64_succ (by omega)
      have w2 : wrap64 (((l.length - 1 - i : Nat) : Int) - 1) = (l.length : Int) - 1 - ((i + 1 : Nat) : Int) := by
        rw [w64_dec (by clear w1; omega)]; clear w1; omega
      refine Ev.step (fun k => ?_) g
      have q1 : (i : Int) < ((l.length - 1 - i : Nat) : Int) := by rw [← hk]; exact h
      simp only [nat_Print.l2]
      rw [hk, if_pos q1, if_pos (Int.natCast_nonneg _), if_pos (Int.ofNat_lt.2 hki), if_pos (Int.natCast_nonneg _), if_pos (Int.ofNat_lt.2 hii), w1, w2, r1, r2, Int.toNat_natCast, Int.toNat_natCast]
    · have e : c = l.reverse := by
        apply List.ext_getElem?
        intro p
        by_cases hpl : p < l.length
        · rw [hp p hpl, List.getElem?_reverse hpl]
          by_cases e3 : p < i ∨ l.length - 1 - i < p
          · rw [if_pos e3]
          · rw [if_neg e3]
            have : l.length - 1 - p = p := by omega
            rw [this]
        · rw [List.getElem?_eq_none (by omega), List.getElem?_eq_none (by simp; omega)]
      subst e
      refine Ev.step (f := fun k => some (strOfNums l.reverse)) (fun k => ?_) (Ev.now _)
      simp only [nat_Print.l2]
      rw [if_neg h]
theorem turn_ev {l : List Int} (hl : l.length ≤ 1000000) : Ev (fun k => nat_Print.l2 k l 0 (wrap64 ((l.length : Int) - 1))) (strOfNums l.reverse) := by
  have g := turn_l2 l hl _ 0 l rfl rfl (fun p hp => by rw [if_neg (by omega)]) (Nat.zero_le _)
  have e : (l.length : Int) - 1 - ((0 : Nat) : Int) = wrap64 ((l.length : Int) - 1) := by rw [w64_dec (by omega)]; omega
  rw [e] at g
  exact g

/-! ### Print -/
/-- Digits so far, the lowest one first: the highest is not 0. -/
def Lead (out : List Int) : Prop := out = [] ∨ 10 ^ (out.length - 1) ≤ dv out
theorem dig_int {n : Nat} (h : n < 18446744073709551616) : (IntKind.u64.wrap (48 + (Int.tmod (n : Int) 10))) % 256 = ((48 + n % 10 : Nat) : Int) := by
  rw [Int.tmod_eq_emod_of_nonneg (by omega), wu]; omega
theorem dig_next {n : Nat} (h : n < 18446744073709551616) : IntKind.u64.wrap (Int.tdiv (n : Int) 10) = ((n / 10 : Nat) : Int) := by
  rw [Int.tdiv_eq_ediv_of_nonneg (by omega), wu]; omega
theorem lt_digits {L T W D x : Nat} (h : x + 10 ^ L * T = W) (hT : T ≠ 0) (hW : W < 10 ^ D) : L < D := by
  have h1 : 10 ^ L ≤ 10 ^ L * T := Nat.le_mul_of_pos_right _ (Nat.pos_of_ne_zero hT)
  exact (Nat.pow_lt_pow_iff_right (by decide)).1 (Nat.lt_of_le_of_lt (show 10 ^ L ≤ W by omega) hW)
theorem split10 {a p m : Nat} : (a * 10 ^ (m + 1) + p) = 10 * (a * 10 ^ m + p / 10) + p % 10 := by
  rw [Nat.pow_succ]
  have := Nat.div_add_mod p 10
  have e : a * (10 ^ m * 10) = 10 * (a * 10 ^ m) := by grind
  rw [e, Nat.mul_add]; omega
theorem push_dv {x L T' d T W : Nat} (h : x + 10 ^ L * T = W) (hT : T = 10 * T' + d) : x + 10 ^ L * d + 10 ^ (L + 1) * T' = W := by
  rw [← h, hT, Nat.pow_succ]; grind
theorem print_l1 (a W D : Nat) (R : ByteArray) (hW : W < 10 ^ D) (hD : D ≤ 1000000) (H : ∀ out : List Int, DI out → dv out + 10 ^ out.length * a = W → (a ≠ 0 ∨ Lead out) → Ev (fun k => nat_Print.l0 k (limbs a) out) R) :
    ∀ (m i part : Nat) (out : List Int), 19 - i = m → i ≤ 19 → part < 10 ^ m → part < 18446744073709551616 → DI out → dv out + 10 ^ out.length * (a * 10 ^ m + part) = W → (a * 10 ^ m + part ≠ 0 ∨ Lead out) →
    Ev (fun k => nat_Print.l1 k (limbs a) out (part : Int) (i : Int)) R := by
  intro m
  induction m with
  | zero =>
    intro i part out hm hi hp hp64 hDI hv hz
    have hi19 : i = 19 := by clear hv hp; omega
    have hp0 : part = 0 := by rw [Nat.pow_zero] at hp; clear hv; omega
    subst hi19; subst hp0
    rw [Nat.pow_zero, Nat.mul_one, Nat.add_zero] at hv hz
    refine Ev.step (fun k => ?_) (H out hDI hv hz)
    simp only [nat_Print.l1]
    rw [if_neg (by decide)]
  | succ m ih =>
    intro i part out hm hi hp hp64 hDI hv hz
    have hi19 : i < 19 := by clear hv hp; omega
    have hi19' : (i : Int) < 19 := by clear hv hp; omega
    have hm' : 19 - (i + 1) = m := by clear hv hp; omega
    have w1 : wrap64 ((i : Int) + 1) = ((i + 1 : Nat) : Int) := w64_succ (by clear hv hp; omega)
    by_cases hT : a * 10 ^ (m + 1) + part = 0
    · have hp0 : part = 0 := by clear w1 hp; omega
      have ha0 : a = 0 := by
        have h1 : a * 10 ^ (m + 1) = 0 := by clear w1 hp; omega
        rcases Nat.mul_eq_zero.1 h1 with h | h
        · exact h
        · exact absurd h (Nat.ne_of_gt (Nat.pow_pos (by decide)))
      rw [hT, Nat.mul_zero, Nat.add_zero] at hv
      have hl := hz.resolve_left (fun h => h hT)
      have g := H out hDI (by rw [ha0, Nat.mul_zero, Nat.add_zero]; exact hv) (.inr hl)
      subst ha0; subst hp0
      refine Ev.step (fun k => ?_) g
      simp only [nat_Print.l1]
      rw [if_pos hi19', if_neg (by decide), limbs_zero, if_neg (by decide)]
    · have hL := lt_digits hv hT hW
      have hol : out.length < 140737488355328 := by clear w1 hv hp hW; omega
      have hp' : part / 10 < 10 ^ m := Nat.div_lt_of_lt_mul (by rw [Nat.pow_succ, Nat.mul_comm] at hp; exact hp)
      have hd : part % 10 < 10 := Nat.mod_lt _ (by decide)
      have hD1 : DI (out ++ [((48 + part % 10 : Nat) : Int)]) := hDI.snoc (by clear w1 hv hp hW; omega)
      have edv : dv (out ++ [((48 + part % 10 : Nat) : Int)]) = dv out + 10 ^ out.length * (part % 10) := by
        rw [dv_snoc, Int.toNat_natCast, Nat.add_sub_cancel_left]
      have hsp := split10 (a := a) (p := part) (m := m)
      have hv' : dv (out ++ [((48 + part % 10 : Nat) : Int)]) + 10 ^ (out ++ [((48 + part % 10 : Nat) : Int)]).length * (a * 10 ^ m + part / 10) = W := by
        rw [edv, List.length_append, List.length_singleton]
        exact push_dv hv hsp
      have hz' : a * 10 ^ m + part / 10 ≠ 0 ∨ Lead (out ++ [((48 + part % 10 : Nat) : Int)]) := by
        by_cases h : a * 10 ^ m + part / 10 = 0
        · refine .inr (.inr ?_)
          rw [edv, List.length_append, List.length_singleton, Nat.add_sub_cancel]
          rw [h, Nat.mul_zero, Nat.zero_add] at hsp
          have h1 : 0 < part % 10 := Nat.pos_of_ne_zero fun h2 => hT (by rw [hsp, h2])
          exact Nat.le_trans (Nat.le_mul_of_pos_right _ h1) (Nat.le_add_left _ _)
        · exact .inl h
      have g := ih (i + 1) (part / 10) (out ++ [((48 + part % 10 : Nat) : Int)]) hm' hi19 hp' (Nat.lt_of_le_of_lt (Nat.div_le_self _ _) hp64) hD1 hv' hz'
      refine Ev.step (fun k => ?_) g
      simp only [nat_Print.l1]
      rw [if_pos hi19', dig_int hp64, dig_next hp64, w1]
      by_cases hp0 : (part : Int) > 0
      · rw [if_pos hp0, if_pos hol]
      · have ha0 : a ≠ 0 := fun h => hT (by
          rw [h, Nat.zero_mul, Nat.zero_add]; clear w1 hv hv' hp hW hsp edv; omega)
        have hlp := limbs_length_pos ha0
        rw [if_neg hp0, if_pos (by clear w1 hv hv' hp hW hsp edv; omega), if_pos hol]
theorem lead_ds {out : List Int} (hDI : DI out) (h : Lead out) (hne : out ≠ []) : tx (by8 out.reverse) = dec (dv out) := by
  have hd : DS (by8 out.reverse) := by8_DS (fun x hx => hDI x (by simpa using hx))
  have hl : (by8 out.reverse).length = out.length := by simp [by8]
  have hne' : by8 out.reverse ≠ [] := fun h1 => hne (List.length_eq_zero_iff.1 (by rw [← hl, h1]; rfl))
  have hs := sv_by8_reverse hDI
  have hge := h.resolve_left hne
  have e := ds_of hd hne' (by
    by_cases h1 : (by8 out.reverse).length = 1
    · exact .inl h1
    · refine .inr fun h2 h3 => ?_
      generalize by8 out.reverse = l at *
      cases l with
      | nil => exact h2 rfl
      | cons x xs =>
        rw [List.head_cons] at h3
        have h4 := sv_lt hd.tail
        rw [sv_cons, h3] at hs
        have h5 : ((48 : UInt8).toNat - 48) * 10 ^ xs.length = 0 := by
          have : (48 : UInt8).toNat - 48 = 0 := rfl
          rw [this, Nat.zero_mul]
        rw [h5, Nat.zero_add] at hs
        have h6 : xs.length = out.length - 1 := by rw [← hl]; rfl
        rw [h6, hs] at h4
        exact absurd hge (Nat.not_le.2 h4))
  rw [hs] at e
  rw [e]; rfl
theorem print_l0 (W D : Nat) (hW : W < 10 ^ D) (hD : D ≤ 1000000) (hW0 : W ≠ 0) : ∀ (a : Nat) (out : List Int), (limbs a).length ≤ 1000 → DI out → dv out + 10 ^ out.length * a = W → (a ≠ 0 ∨ Lead out) → Ev (fun k => nat_Print.l0 k (limbs a) out) (dec W) := by
  intro a
  induction a using Nat.strongRecOn with
  | _ a ih =>
    intro out hl hDI hv hz
    by_cases h : a = 0
    · have hlead := hz.resolve_left (fun h1 => h1 h)
      rw [h, Nat.mul_zero, Nat.add_zero] at hv
      have hne : out ≠ [] := fun h1 => hW0 (by rw [← hv, h1]; rfl)
      have hge := hlead.resolve_left hne
      have hlen : out.length ≤ 1000000 := by
        have h1 : out.length - 1 < D := (Nat.pow_lt_pow_iff_right (by decide)).1 (Nat.lt_of_le_of_lt hge (by rw [hv]; exact hW))
        clear hv hge hW; omega
      have g := turn_ev hlen
      rw [strOf_tx, lead_ds hDI hlead hne, hv] at g
      subst h
      rw [limbs_zero]
      refine Ev.step (fun k => ?_) g
      simp only [nat_Print.l0]
      rw [if_neg (by decide)]
    · have hp := limbs_length_pos h
      have gd := divw_ev (limbs_WF a) (Nat.le_trans hl (by decide)) (show 0 < 10000000000000000000 by decide) (by decide)
      rw [nv_limbs] at gd
      have hlt : a / 10000000000000000000 < a := Nat.div_lt_self (Nat.pos_of_ne_zero h) (by decide)
      have hdm := Nat.div_add_mod a 10000000000000000000
      have hml := Nat.mod_lt a (show 10000000000000000000 > 0 by decide)
      have g := print_l1 (a / 10000000000000000000) W D (dec W) hW hD (fun out' h1 h2 h3 => ih _ hlt out' (Nat.le_trans (limbs_length_mono (Nat.le_of_lt hlt)) hl) h1 h2 h3) 19 0 (a % 10000000000000000000) out rfl (by decide) hml (Nat.lt_trans hml (by decide)) hDI (by
        rw [show (10 : Nat) ^ 19 = 10000000000000000000 from rfl, Nat.mul_comm (a / _), hdm]; exact hv) (by
        rw [show (10 : Nat) ^ 19 = 10000000000000000000 from rfl, Nat.mul_comm (a / _), hdm]; exact hz)
      refine Ev.step (f := fun k => (nat_DivWord.f k (limbs a) ((10000000000000000000 : Nat) : Int)).bind fun bt236 => nat_Print.l1 k bt236.1 out bt236.2.1 0) (fun k => ?_) (Ev.bind gd g)
      simp only [nat_Print.l0]
      rw [if_pos (by clear hv hdm hml g; omega)]; rfl
theorem print_ev {x : List Int} (hx : WF x) (hl : x.length ≤ 1000) : Ev (fun k => nat_Print.f k x) (dec (nv x)) := by
  unfold nat_Print.f
  refine Ev.bind (norm_ev hx (Nat.le_trans hl (by decide))) ?_
  have hla := Nat.le_trans (limbs_length_le (nv_lt hx)) hl
  by_cases h : nv x = 0
  · rw [h, limbs_zero]
    refine Ev.congr (fun k => if_pos rfl) ?_
    rw [dec_zero]
    exact Ev.now _
  · have hp := limbs_length_pos h
    refine Ev.congr (fun k => if_neg (by omega)) ?_
    have hD : (20 * x.length + 1) ≤ 1000000 := by omega
    have hW : nv x < 10 ^ (20 * x.length + 1) := by
      refine Nat.lt_of_lt_of_le (nv_lt hx) ?_
      rw [Nat.pow_succ, Nat.pow_mul]
      exact Nat.le_trans (Nat.pow_le_pow_left (by decide) _) (Nat.le_mul_of_pos_right _ (by decide))
    exact print_l0 (nv x) _ hW hD h (nv x) [] hla (fun x hx => by cases hx) (by simp [dv]) (.inl h)

/-! ### right, Parse -/
theorem digit_set (b : UInt8) : ([48, 49, 50, 51, 52, 53, 54, 55, 56, 57] : List UInt8).contains b = true ↔ 48 ≤ b.toNat ∧ b.toNat ≤ 57 := by
  have key : ∀ n : Fin 256, ([48, 49, 50, 51, 52, 53, 54, 55, 56, 57] : List UInt8).contains (UInt8.ofNat n.val) = decide (48 ≤ n.val ∧ n.val ≤ 57) := by decide +kernel
  have h := key ⟨b.toNat, b.toNat_lt⟩
  rw [UInt8.ofNat_toNat] at h
  rw [h, decide_eq_true_iff]
theorem dropWhile_nil (p : UInt8 → Bool) (l : List UInt8) : l.dropWhile p = [] ↔ ∀ x ∈ l, p x = true := by
  induction l with
  | nil => simp
  | cons x xs ih =>
    rw [List.dropWhile_cons]
    by_cases h : p x = true
    · rw [if_pos h, ih]; simp [h]
    · rw [if_neg h]; simp [h]
theorem trim_digits (l : List UInt8) : Go.Lib.trimS l [48, 49, 50, 51, 52, 53, 54, 55, 56, 57] = [] ↔ DS l := by
  unfold Go.Lib.trimS Go.Lib.trimRightS Go.Lib.trimLeftS
  rw [dropWhile_nil]
  constructor
  · intro h
    have h1 : l.reverse.dropWhile (([48, 49, 50, 51, 52, 53, 54, 55, 56, 57] : List UInt8).contains ·) = [] := by
      cases e : l.reverse.dropWhile (([48, 49, 50, 51, 52, 53, 54, 55, 56, 57] : List UInt8).contains ·) with
      | nil => rfl
      | cons x xs =>
        exfalso
        have h2 := h x (by rw [e]; simp)
        have h3 := List.head_dropWhile_not (([48, 49, 50, 51, 52, 53, 54, 55, 56, 57] : List UInt8).contains ·) (l := l.reverse) (by rw [e]; simp)
        simp only [e, List.head_cons] at h3
        rw [h2] at h3; cases h3
    rw [dropWhile_nil] at h1
    exact fun b hb => (digit_set b).1 (h1 b (List.mem_reverse.2 hb))
  · intro h x hx
    exact (digit_set x).2 (h x (List.mem_reverse.1 ((List.dropWhile_sublist _).subset (List.mem_reverse.1 hx))))
/-- A text that is a number's. -/
def Fine (l : List UInt8) : Prop := l ≠ [] ∧ DS l ∧ (l = [48] ∨ l.head? ≠ some 48)
theorem trim_f (l : List UInt8) (hl : l.length ≤ 1000000) : strings_Trim.f (tx l) (⟨#[48, 49, 50, 51, 52, 53, 54, 55, 56, 57]⟩ : ByteArray) = some (tx (Go.Lib.trimS l [48, 49, 50, 51, 52, 53, 54, 55, 56, 57])) := by
  unfold strings_Trim.f
  rw [if_pos (by rw [tx_size]; omega), if_pos (by decide), if_pos (by decide)]
  simp [tx]
theorem right_yes {l : List UInt8} (hl : l.length ≤ 1000000) (h : Fine l) : nat_right.f (tx l) = some true := by
  unfold nat_right.f
  have hp : 0 < l.length := List.length_pos_iff.2 h.1
  rw [tx_toList, if_neg h.1, trim_f l hl, Option.bind_some, tx_toList, if_pos ((trim_digits l).2 h.2.1)]
  by_cases h1 : l = [48]
  · rw [if_pos h1]
  · rw [if_neg h1, tx_size, if_pos (by omega)]
    have hb := tx_bt l 0 hp
    have e0 : ((0 : Nat) : Int) = (0 : Int) := rfl
    rw [e0] at hb
    have h2 := h.2.2.resolve_left h1
    have hh : l.head? = some l[0] := by cases l with
      | nil => exact absurd rfl h.1
      | cons x xs => rfl
    have h3 : ¬ ((l[0]).toNat : Int) = 48 := fun h4 => h2 (by
      rw [hh]; congr 1
      apply UInt8.toNat.inj
      have : (48 : UInt8).toNat = 48 := rfl
      omega)
    rw [hb]
    simp [h3]
theorem right_no {l : List UInt8} (hl : l.length ≤ 1000000) (h : ¬ Fine l) : nat_right.f (tx l) = some false := by
  unfold nat_right.f
  rw [tx_toList]
  by_cases h0 : l = []
  · rw [if_pos h0]
  have hp : 0 < l.length := List.length_pos_iff.2 h0
  rw [if_neg h0, trim_f l hl, Option.bind_some, tx_toList]
  by_cases hd : DS l
  · rw [if_pos ((trim_digits l).2 hd)]
    have h1 : ¬ l = [48] := fun h2 => h ⟨h0, hd, .inl h2⟩
    have h2 : l.head? = some 48 := Decidable.not_not.1 fun h3 => h ⟨h0, hd, .inr h3⟩
    rw [if_neg h1, tx_size, if_pos (by omega)]
    have hb := tx_bt l 0 hp
    have e0 : ((0 : Nat) : Int) = (0 : Int) := rfl
    rw [e0] at hb
    have hh : l.head? = some l[0] := by cases l with
      | nil => exact absurd rfl h0
      | cons x xs => rfl
    rw [hh] at h2
    rw [hb, Option.some.inj h2]; rfl
  · rw [if_neg fun h2 => hd ((trim_digits l).1 h2)]
theorem dig_byte {b : UInt8} (h : 48 ≤ b.toNat ∧ b.toNat ≤ 57) : (((b.toNat : Nat) : Int) - 48) % 256 = ((b.toNat - 48 : Nat) : Int) := by omega
theorem sv_take_succ (l : List UInt8) (i : Nat) (h : i < l.length) : sv (l.take (i + 1)) = sv (l.take i) * 10 + ((l[i]).toNat - 48) := by
  rw [List.take_succ_eq_append_getElem h, sv_snoc, Nat.mul_comm]
theorem short_limbs {n i : Nat} (h : n < 10 ^ i) (hi : i ≤ 990) : (limbs n).length ≤ 990 :=
  Nat.le_trans (limbs_length_le (Nat.lt_of_lt_of_le h (Nat.pow_le_pow_left (by decide) i))) hi
theorem parse_l0n (l : List UInt8) (hd : DS l) (hl : l.length ≤ 980) : ∀ (d i : Nat), l.length - i = d → i ≤ l.length → Ev (fun k => nat_Parse.l0 k (limbs (sv (l.take i))) (l.map fun b => (b.toNat : Int)) (l.length : Int) (i : Int)) (limbs (sv l), 0) := by
  intro d
  induction d with
  | zero =>
    intro i hi0 hi
    have : i = l.length := by omega
    subst this
    rw [List.take_length]
    refine Ev.step (f := fun k => some (limbs (sv l), 0)) (fun k => ?_) (Ev.now _)
    simp only [nat_Parse.l0]
    rw [if_neg (Int.lt_irrefl _)]
  | succ d ih =>
    intro i hi0 hi
    have hil : i < l.length := by omega
    have hb := hd _ (List.getElem_mem hil)
    have hbe := dig_byte hb
    have hsv := sv_lt (fun b h => hd b (List.mem_of_mem_take h) : DS (l.take i))
    rw [List.length_take, Nat.min_eq_left hi] at hsv
    have hs := short_limbs hsv (by clear hsv; omega)
    have gm := mulXX (limbs_WF (sv (l.take i))) (WF.cons (x := (10 : Int)) ⟨by decide, by decide⟩ WF.nil) (Nat.le_trans hs (by decide)) (by decide)
    have e10 : nv [(10 : Int)] = 10 := rfl
    rw [nv_limbs, e10] at gm
    have hsv2 : sv (l.take i) * 10 < 10 ^ (i + 1) := by rw [Nat.pow_succ]; exact Nat.mul_lt_mul_of_pos_right hsv (by decide)
    have hs2 := short_limbs hsv2 (by clear hsv hsv2; omega)
    have hUd : U (((l[i]).toNat - 48 : Nat) : Int) := ⟨Int.natCast_nonneg _, by clear hsv hsv2; omega⟩
    have ga := addXX (limbs_WF (sv (l.take i) * 10)) (WF.cons hUd WF.nil) (Nat.le_trans hs2 (by decide)) (by simp)
    have e1 : nv [(((l[i]).toNat - 48 : Nat) : Int)] = (l[i]).toNat - 48 := by rw [nv, nv, Int.toNat_natCast, Nat.mul_zero, Nat.add_zero]
    rw [nv_limbs, e1, ← sv_take_succ l i hil] at ga
    have g := ih (i + 1) (by clear hsv hsv2; omega) hil
    have hr : rd (l.map fun b => (b.toNat : Int)) (i : Int) = ((l[i]).toNat : Int) := by
      rw [rd_of rfl (by rw [List.length_map]; exact hil), List.getElem_map]
    have hil2 : (i : Int) < ((l.map fun b => (b.toNat : Int)).length : Int) := by rw [List.length_map]; exact Int.ofNat_lt.2 hil
    clear hsv hsv2
    have w1 : wrap64 ((i : Int) + 1) = ((i + 1 : Nat) : Int) := w64_succ (by omega)
    refine Ev.step (f := fun k => (nat_Mul.f k (limbs (sv (l.take i))) [(10 : Int)]).bind fun t291 => ((nat_Add.f k t291 [(((l[i]).toNat - 48 : Nat) : Int)]).bind fun t297 => nat_Parse.l0 k t297 (l.map fun b => (b.toNat : Int)) (l.length : Int) ((i + 1 : Nat) : Int))) (fun k => ?_) (Ev.bind gm (Ev.bind ga g))
    simp only [nat_Parse.l0]
    rw [if_pos (Int.ofNat_lt.2 hil), if_pos (Int.natCast_nonneg i), if_pos hil2, hr, hbe, w1]
theorem parse_fine {l : List UInt8} (hl : l.length ≤ 980) (h : Fine l) : Ev (fun k => nat_Parse.f k (tx l)) (limbs (sv l), 0) := by
  unfold nat_Parse.f
  rw [right_yes (by omega) h]
  refine Ev.congr (fun k => Option.bind_some _ _) (Ev.congr (fun k => if_pos rfl) ?_)
  rw [tx_size]
  refine Ev.congr (fun k => if_neg (by omega)) (Ev.congr (fun k => if_pos (by omega)) (Ev.congr (fun k => Option.bind_some _ _) ?_))
  have e : bytesOf (tx l) = l.map fun b => (b.toNat : Int) := by simp [bytesOf, tx]
  rw [e, List.length_map]
  have g := parse_l0n l h.2.1 hl _ 0 rfl (Nat.zero_le _)
  rw [List.take_zero, sv_nil, limbs_zero] at g
  exact g
theorem parse_long {l : List UInt8} (hl : l.length ≤ 1000000) (h2 : 20000 < l.length) (h : Fine l) : Ev (fun k => nat_Parse.f k (tx l)) ([], 13) := by
  unfold nat_Parse.f
  rw [right_yes hl h]
  refine Ev.congr (fun k => Option.bind_some _ _) (Ev.congr (fun k => if_pos rfl) ?_)
  rw [tx_size]
  exact Ev.congr (fun k => if_pos (by omega)) (Ev.now _)
theorem parse_bad {l : List UInt8} (hl : l.length ≤ 1000000) (h : ¬ Fine l) : Ev (fun k => nat_Parse.f k (tx l)) ([], 16) := by
  unfold nat_Parse.f
  rw [right_no hl h]
  exact Ev.congr (fun k => Option.bind_some _ _) (Ev.congr (fun k => if_neg (by decide)) (Ev.now _))
theorem fine_ds (n : Nat) : Fine (ds n) := by
  refine ⟨ds_ne n, ds_DS n, ?_⟩
  by_cases h : n < 10
  · by_cases h0 : n = 0
    · exact .inl (by rw [h0, ds_zero])
    · refine .inr fun h1 => ?_
      rw [ds_small h, List.head?_cons] at h1
      have h2 := congrArg UInt8.toNat (Option.some.inj h1)
      rw [dg_toNat] at h2
      have : (48 : UInt8).toNat = 48 := rfl
      omega
  · refine .inr fun h1 => ?_
    rw [List.head?_eq_some_head (ds_ne n)] at h1
    exact ds_head (Nat.le_of_not_lt h) (ds_ne n) (Option.some.inj h1)
theorem ds_of_fine {l : List UInt8} (h : Fine l) : l = ds (sv l) :=
  ds_of h.2.1 h.1 (by
    rcases h.2.2 with h1 | h1
    · exact .inl (by rw [h1]; rfl)
    · refine .inr fun h2 h3 => h1 ?_
      rw [List.head?_eq_some_head h2, h3])
end Go.Proofs.YtdomplmilbkaeaaDoor.Pure
