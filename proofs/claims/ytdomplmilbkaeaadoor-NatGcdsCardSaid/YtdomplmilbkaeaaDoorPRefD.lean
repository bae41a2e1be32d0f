/-
  What the printed functions of the reference compute on decimal digits: DivMod. Conditions: no text is longer than stated.
-/
import Derived.Test.YtdomplmilbkaeaaDoorPRefC
import Derived.Test.YtdomplmilbkaeaaDoorPRefS
import Derived.Test.YtdomplmilbkaeaaDoorGNx0
import Derived.Test.YtdomplmilbkaeaaDoorGNx17
namespace Go.Proofs.YtdomplmilbkaeaaDoor.Pure
open Go.RowKit Go.Proofs.YtdomplmilbkaeaaDoor.GN Go.Proofs.YtdomplmilbkaeaaDoorW.PrintWords Go.Proofs.YtdomplmilbkaeaaDoorW.PrintLast Go.Proofs.YtdomplmilbkaeaaDoorW.PrintMore
set_option linter.unusedVariables false
set_option linter.unusedSimpArgs false

/-! ### DivMod -/
theorem by8_snoc (l : List Int) (m : Nat) (hm : m < 10) : by8 (l ++ [((48 + m : Nat) : Int)]) = by8 l ++ [dg m] := by
  unfold by8
  rw [List.map_append]
  have : ((48 + m : Nat) : Int).toNat = 48 + m % 10 := by omega
  simp only [List.map_cons, List.map_nil, this, dg]
theorem sv_by8_snoc (l : List Int) (m : Nat) (hm : m < 10) : sv (by8 (l ++ [((48 + m : Nat) : Int)])) = 10 * sv (by8 l) + m := by
  rw [by8_snoc l m hm, sv_snoc, dg_toNat]; omega
theorem div_word {n : Nat} (h : n < 10) : (wrap64 (48 + (n : Int))) % 256 = ((48 + n : Nat) : Int) := by
  rw [w64_of (by omega) (by omega)]; omega
theorem w64_up {n : Nat} (h : n < 1000) : wrap64 ((n : Int) + 1) = ((n + 1 : Nat) : Int) := w64_succ (by omega)
/-- The inner loop: y is taken off as often as it goes. -/
theorem div_l1 (x : ByteArray) (b : Nat) (hb : 0 < b) (i : Nat) (out : List Int) (lb : (ds b).length ≤ 100000000) (ho : out.length < 140737488355328) (hi : i < 1000000000) (R : ByteArray × ByteArray) (N : Nat) (hN : N < 10 * b)
    (H : Ev (fun k => vinculumref01_DivMod.l0 k x (dec b) (out ++ [((48 + N / b : Nat) : Int)]) (dec (N % b)) ((i + 1 : Nat) : Int)) R) :
    ∀ (d n : Nat), N / b - n = d → n ≤ N / b → Ev (fun k => vinculumref01_DivMod.l1 k x (dec b) out (dec (N - n * b)) (i : Int) (n : Int)) R := by
  have hq : N / b < 10 := Nat.div_lt_of_lt_mul (by rw [Nat.mul_comm]; exact hN)
  intro d
  induction d with
  | zero =>
    intro n hd hn
    have e : n = N / b := by clear H; omega
    subst e
    have e2 : N - N / b * b = N % b := by have := Nat.div_add_mod N b; rw [Nat.mul_comm] at this; generalize N / b * b = m at *; omega
    rw [e2]
    refine Ev.step (f := fun k => vinculumref01_DivMod.l0 k x (dec b) (out ++ [((48 + N / b : Nat) : Int)]) (dec (N % b)) ((i + 1 : Nat) : Int)) (fun k => ?_) H
    simp only [vinculumref01_DivMod.l1]
    rw [ref_cmp]
    rw [Option.bind_some]
    rw [if_neg (cmpI_neg.2 (Nat.mod_lt N hb)), if_pos ho, div_word hq, w64_succ (by omega)]
  | succ d ih =>
    intro n hd hn
    have h1 : n + 1 ≤ N / b := by clear H ih; omega
    have h2 := Nat.mul_le_of_le_div b (n + 1) N h1
    rw [Nat.add_mul, Nat.one_mul] at h2
    have hge : b ≤ N - n * b := by generalize n * b = m at *; clear H ih hd hn hq h1; omega
    have e2 : N - n * b - b = N - (n + 1) * b := by rw [Nat.add_mul, Nat.one_mul, Nat.sub_sub]
    have hlen : (ds (N - n * b)).length ≤ 1000000000 := by
      have h3 : N - n * b < 10 ^ ((ds b).length + 1) := by
        rw [Nat.pow_succ]
        have h4 := lt_pow_ds b
        generalize 10 ^ (ds b).length = P at *
        generalize n * b = m at *
        clear H ih hd hn hq h1
        omega
      have := ds_length_le h3 (Nat.succ_pos _)
      clear H ih hd hn hq h1 h2
      omega
    have hs := ref_sub hge hlen
    rw [e2] at hs
    have hn2 : n < 1000 := by clear H ih; omega
    refine Ev.step (f := fun k => (vinculumref01_Sub.f k (dec (N - n * b)) (dec b)).bind fun t => vinculumref01_DivMod.l1 k x (dec b) out t (i : Int) ((n + 1 : Nat) : Int)) (fun k => ?_) ?_
    · simp only [vinculumref01_DivMod.l1]
      rw [ref_cmp]
      rw [Option.bind_some]
      rw [if_pos (Decidable.not_not.1 fun h => by have := cmpI_neg.1 h; omega), w64_up hn2]
    · exact Ev.bind hs (ih (n + 1) (by clear H ih; omega) h1)
/-- The number of the first digits. -/
theorem sv_take_succ (a i : Nat) (h : i < (ds a).length) : sv ((ds a).take (i + 1)) = 10 * sv ((ds a).take i) + (((ds a)[i]).toNat - 48) := by
  rw [List.take_succ_eq_append_getElem h, sv_snoc]
theorem div_bound {p b d : Nat} (hb : 0 < b) (hd : d < 10) : 10 * (p % b) + d < 10 * b := by
  have := Nat.mod_lt p hb; omega
theorem div_next (p b d : Nat) (hb : 0 < b) : (10 * p + d) / b = 10 * (p / b) + (10 * (p % b) + d) / b ∧ (10 * p + d) % b = (10 * (p % b) + d) % b := by
  have e : 10 * p + d = (10 * (p % b) + d) + b * (10 * (p / b)) := by
    have := Nat.mod_add_div p b
    calc 10 * p + d = 10 * (p % b + b * (p / b)) + d := by rw [this]
      _ = _ := by grind
  rw [e, Nat.add_mul_div_left _ _ hb, Nat.add_mul_mod_self_left]
  exact ⟨Nat.add_comm _ _, rfl⟩
theorem extract_one (l : List UInt8) (i : Nat) (h : i < l.length) : (tx l).extract i (i + 1) = tx [l[i]] := by
  rw [tx_extract]
  congr 1
  rw [List.drop_eq_getElem_cons h]
  have : i + 1 - i = 1 := by omega
  rw [this]; rfl
theorem div_l0 (a b : Nat) (hb : 0 < b) (la : (ds a).length ≤ 100000000) (lb : (ds b).length ≤ 100000000) :
    ∀ (d i : Nat) (out : List Int), (ds a).length - i = d → i ≤ (ds a).length → out.length = i → DI out → sv (by8 out) = sv ((ds a).take i) / b →
    Ev (fun k => vinculumref01_DivMod.l0 k (dec a) (dec b) out (dec (sv ((ds a).take i) % b)) (i : Int)) (dec (a / b), dec (a % b)) := by
  intro d
  induction d with
  | zero =>
    intro i out hd hi ho hD hv
    have e : i = (ds a).length := by clear hv; omega
    have hin : ¬ ((i : Int) < ((ds a).length : Int)) := by rw [e]; exact Int.lt_irrefl _
    rw [e, List.take_length, sv_ds] at hv ⊢
    refine Ev.step (f := fun k => (vinculumref01_strip.f k (strOfNums out)).bind fun t => some (t, dec (a % b))) (fun k => ?_) ?_
    · simp only [vinculumref01_DivMod.l0]
      rw [dec_size, if_neg (Int.lt_irrefl _)]
    · rw [strOf_tx]
      have g := strip_ev (by8_DS hD)
      rw [hv] at g
      exact Ev.bind g (Ev.now _)
  | succ d ih =>
    intro i out hd hi ho hD hv
    have hi0 : i < (ds a).length := by clear hv; omega
    have hi1 : i < 1000000000 := by clear hv; omega
    have ol : out.length < 140737488355328 := by clear hv; omega
    have hd1 := ds_DS a _ (List.getElem_mem hi0)
    have ht := sv_take_succ a i hi0
    have hx := extract_one (ds a) i hi0
    have hlt : ((ds a)[i]).toNat - 48 < 10 := by clear hv ht; omega
    generalize (ds a)[i] = g at *
    have hN := div_bound (p := sv ((ds a).take i)) hb hlt
    have hnx := div_next (sv ((ds a).take i)) b (g.toNat - 48) hb
    rw [← ht] at hnx
    have hq : (10 * (sv ((ds a).take i) % b) + (g.toNat - 48)) / b < 10 := Nat.div_lt_of_lt_mul (by rw [Nat.mul_comm b 10]; exact hN)
    have hl0 : (ds (sv ((ds a).take i) % b)).length ≤ 100000000 := Nat.le_trans (ds_length_mono (Nat.le_of_lt (Nat.mod_lt _ hb))) lb
    have hstrip : Ev (fun k => vinculumref01_strip.f k (tx (ds (sv ((ds a).take i) % b) ++ [g]))) (dec (10 * (sv ((ds a).take i) % b) + (g.toNat - 48))) := by
      have := strip_ev (l := ds (sv ((ds a).take i) % b) ++ [g]) ((ds_DS _).append (fun x hx => by rw [List.mem_singleton.1 hx]; exact hd1))
      rwa [sv_snoc, sv_ds] at this
    have H := ih (i + 1) (out ++ [((48 + (10 * (sv ((ds a).take i) % b) + (g.toNat - 48)) / b : Nat) : Int)]) (by clear hv hnx hq hN ht hx; omega) hi0 (by rw [List.length_append, ho]; rfl) (hD.step hq) (by rw [sv_by8_snoc _ _ hq, hv, hnx.1])
    rw [hnx.2] at H
    have g1 := div_l1 (dec a) b hb i out lb ol hi1 _ _ hN H _ 0 rfl (Nat.zero_le _)
    rw [Nat.zero_mul, Nat.sub_zero] at g1
    refine Ev.step (f := fun k => (vinculumref01_strip.f k (tx (ds (sv ((ds a).take i) % b) ++ [g]))).bind fun t => vinculumref01_DivMod.l1 k (dec a) (dec b) out t (i : Int) ((0 : Nat) : Int)) (fun k => ?_) (Ev.bind hstrip g1)
    have e1 : wrap64 ((i : Int) + 1) = ((i + 1 : Nat) : Int) := w64_succ (by clear hv hnx hq hN ht hx; omega)
    have es : (dec a).extract i (i + 1) = tx [g] := hx
    simp only [vinculumref01_DivMod.l0]
    rw [dec_size, e1, if_pos (Int.ofNat_lt.2 hi0), if_pos (Int.natCast_nonneg i), if_pos (Int.ofNat_le.2 (Nat.le_succ i)), if_pos (Int.ofNat_le.2 hi0), Int.toNat_natCast, Int.toNat_natCast, es, dec_size]
    rw [if_pos (by rw [tx_size, List.length_singleton]; clear hv hnx hq hN ht hx e1; omega)]
    rw [show dec (sv ((ds a).take i) % b) ++ tx [g] = tx (ds (sv ((ds a).take i) % b) ++ [g]) from tx_append _ _]; rfl
theorem ref_divmod {a b : Nat} (hb : 0 < b) (la : (ds a).length ≤ 100000000) (lb : (ds b).length ≤ 100000000) : Ev (fun k => vinculumref01_DivMod.f k (dec a) (dec b)) (dec (a / b), dec (a % b)) := by
  have g := div_l0 a b hb la lb _ 0 [] rfl (Nat.zero_le _) rfl (fun x h => by cases h) (by rw [List.take_zero, sv_nil, Nat.zero_div]; rfl)
  rw [List.take_zero, sv_nil, Nat.zero_mod, dec_zero] at g
  exact g
end Go.Proofs.YtdomplmilbkaeaaDoor.Pure
