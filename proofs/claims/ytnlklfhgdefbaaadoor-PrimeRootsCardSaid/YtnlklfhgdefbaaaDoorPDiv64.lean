/-
  Two words by one: what bits.Div64 computes. Condition: the high word is below the divisor.
-/
import Derived.Test.YtnlklfhgdefbaaaDoorPBits
import Derived.Test.YtnlklfhgdefbaaaDoorPMul64
import Derived.Test.YtnlklfhgdefbaaaDoorGNx0
import Derived.Test.YtnlklfhgdefbaaaDoorGNx1
namespace Go.Proofs.YtnlklfhgdefbaaaDoor.Pure
open Go.RowKit Go.Proofs.YtnlklfhgdefbaaaDoor.GN Go.Proofs.YtnlklfhgdefbaaaDoorW.PrintWords Go.Proofs.YtnlklfhgdefbaaaDoorW.PrintLast Go.Proofs.YtnlklfhgdefbaaaDoorW.PrintMore
set_option linter.unusedVariables false
set_option linter.unusedSimpArgs false

/-- The facts of a half: V = p·b + o, u below V, a digit d; a guess t with rest r. -/
structure Half (V p o u d t r : Nat) : Prop where
  hV : V = p * 4294967296 + o
  hp : 2147483648 ≤ p
  hp2 : p < 4294967296
  ho : o < 4294967296
  hu : u < V
  hd : d < 4294967296
  inv : t * p + r = u
  le : (u * 4294967296 + d) / V ≤ t
  top : t ≤ 4294967297
theorem half_mul {V p o u d t r : Nat} (h : Half V p o u d t r) : t * V = (u - r) * 4294967296 + t * o ∧ r ≤ u := by
  have h1 := h.inv
  have e : t * V = t * p * 4294967296 + t * o := by rw [h.hV, Nat.mul_add, Nat.mul_assoc]
  rw [e]
  generalize t * p = m at *
  constructor
  · have : m = u - r := by omega
    rw [this]
  · omega
theorem half_over {V p o u d t r : Nat} (h : Half V p o u d t r) (c : 4294967296 * r + d < t * o) : (u * 4294967296 + d) / V < t := by
  obtain ⟨e, hr⟩ := half_mul h
  have hV : 0 < V := Nat.lt_of_le_of_lt (Nat.zero_le _) h.hu
  rw [Nat.div_lt_iff_lt_mul hV, e]
  generalize t * o = m at *
  clear e h
  omega
theorem half_fit {V p o u d t r : Nat} (h : Half V p o u d t r) (c : t * o ≤ 4294967296 * r + d) : (u * 4294967296 + d) / V = t := by
  obtain ⟨e, hr⟩ := half_mul h
  have hV : 0 < V := Nat.lt_of_le_of_lt (Nat.zero_le _) h.hu
  apply Nat.le_antisymm h.le
  rw [Nat.le_div_iff_mul_le hV, e]
  generalize t * o = m at *
  clear e h
  omega
theorem half_lt {V u d : Nat} (hu : u < V) (hd : d < 4294967296) : (u * 4294967296 + d) / V < 4294967296 := by
  rw [Nat.div_lt_iff_lt_mul (Nat.lt_of_le_of_lt (Nat.zero_le _) hu)]
  omega
/-- One less, where the guess was too great. -/
theorem half_next {V p o u d t r : Nat} (h : Half V p o u d t r) (c : 4294967296 ≤ t ∨ 4294967296 * r + d < t * o) : ∃ t', t = t' + 1 ∧ Half V p o u d t' (r + p) ∧ t' ≤ 4294967296 := by
  have hlt : (u * 4294967296 + d) / V < t := by
    rcases c with c | c
    · exact Nat.lt_of_lt_of_le (half_lt h.hu h.hd) c
    · exact half_over h c
  obtain ⟨t', rfl⟩ : ∃ m, t = m + 1 := ⟨t - 1, by have := Nat.lt_of_le_of_lt (Nat.zero_le _) hlt; clear hlt c; omega⟩
  have h1 := h.inv
  have h2 := h.top
  rw [Nat.add_mul, Nat.one_mul] at h1
  exact ⟨t', rfl, ⟨h.hV, h.hp, h.hp2, h.ho, h.hu, h.hd, by clear hlt c; omega, Nat.le_of_lt_succ hlt, by clear hlt c; omega⟩, by clear hlt c; omega⟩
theorem half_big {V p o u d t r : Nat} (h : Half V p o u d t r) (ht : t ≤ 4294967296) (hr : 4294967296 ≤ r) : (u * 4294967296 + d) / V = t := by
  apply half_fit h
  have h1 : t * o ≤ 4294967296 * 4294967295 := Nat.mul_le_mul ht (by have := h.ho; omega)
  generalize t * o = m at *
  clear h
  omega
/-- The first guess. -/
theorem half_first {V p o u d : Nat} (hV : V = p * 4294967296 + o) (hp : 2147483648 ≤ p) (hp2 : p < 4294967296) (ho : o < 4294967296) (hu : u < V) (hd : d < 4294967296) : Half V p o u d (u / p) (u % p) := by
  have hp0 : 0 < p := by omega
  have e := Nat.div_add_mod u p
  have hm := Nat.mod_lt u hp0
  refine ⟨hV, hp, hp2, ho, hu, hd, by rw [Nat.mul_comm]; exact e, ?_, ?_⟩
  · have hVp : p * 4294967296 ≤ V := by omega
    refine Nat.le_of_lt_succ ((Nat.div_lt_iff_lt_mul (by omega)).2 ?_)
    have h1 : (u / p + 1) * (p * 4294967296) ≤ (u / p + 1) * V := Nat.mul_le_mul_left _ hVp
    refine Nat.lt_of_lt_of_le ?_ h1
    have h2 : (u / p + 1) * (p * 4294967296) = (p * (u / p) + p) * 4294967296 := by grind
    rw [h2]
    generalize p * (u / p) = m at *
    clear h1 h2 hVp
    omega
  · refine Nat.le_of_lt_succ ((Nat.div_lt_iff_lt_mul hp0).2 ?_)
    clear e hm
    omega
theorem half_word {V p o u d t r : Nat} (h : Half V p o u d t r) (hr : r < 4294967296) : t * o < 18446744073709551616 ∧ 4294967296 * r + d < 18446744073709551616 := by
  have h1 : t * o ≤ 4294967297 * 4294967295 := Nat.mul_le_mul h.top (by have := h.ho; omega)
  have := h.hd
  constructor
  · generalize t * o = m at *
    clear h
    omega
  · clear h h1
    omega
theorem wrap_lt {t p r o d : Nat} (h1 : t * o < 18446744073709551616) (h2 : 4294967296 * r + d < 18446744073709551616) :
    IntKind.u64.wrap ((t : Int) * (o : Int)) = ((t * o : Nat) : Int) ∧ IntKind.u64.wrap ((IntKind.u64.wrap (4294967296 * (r : Int))) + (d : Int)) = ((4294967296 * r + d : Nat) : Int) := by
  constructor
  · rw [mulN, wrapN _ h1]
  · have e : (4294967296 : Int) * (r : Int) = ((4294967296 * r : Nat) : Int) := by omega
    rw [e, wrapN _ (by omega), addN, wrapN _ h2]
theorem wrap_dec {t' : Nat} (h : t' ≤ 4294967296) : IntKind.u64.wrap (((t' + 1 : Nat) : Int) - 1) = (t' : Int) := by
  have e : ((t' + 1 : Nat) : Int) - 1 = (t' : Int) := by omega
  rw [e, wrapN _ (by omega)]
theorem wrap_inc {r p : Nat} (h : r < 4294967296) (h2 : p < 4294967296) : IntKind.u64.wrap ((r : Int) + (p : Int)) = ((r + p : Nat) : Int) := by
  rw [addN, wrapN _ (by omega)]
theorem d64_l0 {V s p o u d un0 : Nat} (R : Int × Int) (H : Ev (fun k => bits_Div64.j2 k (V : Int) (s : Int) (p : Int) (o : Int) (u : Int) (d : Int) (un0 : Int) (((u * 4294967296 + d) / V : Nat) : Int)) R) :
    ∀ (n t r : Nat), 4294967296 - r ≤ n → r < 4294967296 → Half V p o u d t r → Ev (fun k => bits_Div64.l0 k (V : Int) (s : Int) (p : Int) (o : Int) (u : Int) (d : Int) (un0 : Int) (t : Int) (r : Int)) R := by
  intro n
  induction n with
  | zero => intro t r hn hr; omega
  | succ n ih =>
    intro t r hn hr h
    obtain ⟨w1, w2⟩ := half_word h hr
    obtain ⟨e1, e2⟩ := wrap_lt (p := p) w1 w2
    have down : (4294967296 ≤ t ∨ 4294967296 * r + d < t * o) → Ev (fun k => bits_Div64.j1 k (V : Int) (s : Int) (p : Int) (o : Int) (u : Int) (d : Int) (un0 : Int) (t : Int) (r : Int) true) R := fun c => by
      obtain ⟨t', rfl, h', ht'⟩ := half_next h c
      have e3 := wrap_dec ht'
      have e4 := wrap_inc hr h.hp2
      have hp := h.hp
      by_cases hb : r + p ≥ 4294967296
      · rw [half_big h' ht' hb] at H
        refine Ev.step (fun k => ?_) H
        simp only [bits_Div64.j1]
        rw [if_pos trivial, e4, if_pos (by clear e1 e2 e3 e4; omega), e3]
      · refine Ev.step (fun k => ?_) (ih t' (r + p) (by clear e1 e2 e3 e4; omega) (by clear e1 e2 e3 e4; omega) h')
        simp only [bits_Div64.j1]
        rw [if_pos trivial, e4, if_neg (by clear e1 e2 e3 e4; omega), e3]
    by_cases c1 : 4294967296 ≤ t
    · exact Ev.step (fun k => by simp only [bits_Div64.l0]; exact if_pos (Int.ofNat_le.2 c1)) (down (.inl c1))
    · have c1' : ¬ ((t : Int) ≥ 4294967296) := by clear e1 e2; omega
      by_cases c2 : 4294967296 * r + d < t * o
      · refine Ev.step (fun k => ?_) (down (.inr c2))
        simp only [bits_Div64.l0]
        rw [if_neg c1', e1, e2, decide_eq_true (Int.ofNat_lt.2 c2)]
      · rw [half_fit h (Nat.le_of_not_lt c2)] at H
        refine Ev.step (f := fun k => bits_Div64.j1 k (V : Int) (s : Int) (p : Int) (o : Int) (u : Int) (d : Int) (un0 : Int) (t : Int) (r : Int) false) (fun k => ?_) (Ev.step (fun k => ?_) H)
        · simp only [bits_Div64.l0]
          rw [if_neg c1', e1, e2, decide_eq_false (fun h3 => c2 (Int.ofNat_lt.1 h3))]
        · simp only [bits_Div64.j1]
          rw [if_neg (by decide)]
/-- What the second half answers. -/
theorem d64_l1 {V s p o u d q1 : Nat} (R : Int × Int) (hR : R = (IntKind.u64.wrap ((IntKind.u64.wrap ((q1 : Int) * 4294967296)) + (((u * 4294967296 + d) / V : Nat) : Int)), shr .u64 (IntKind.u64.wrap ((IntKind.u64.wrap ((IntKind.u64.wrap ((u : Int) * 4294967296)) + (d : Int))) - (IntKind.u64.wrap ((((u * 4294967296 + d) / V : Nat) : Int) * (V : Int))))) (s : Int))) :
    ∀ (n t r : Nat), 4294967296 - r ≤ n → r < 4294967296 → Half V p o u d t r → Ev (fun k => bits_Div64.l1 k (V : Int) (s : Int) (p : Int) (o : Int) (d : Int) (q1 : Int) (r : Int) (u : Int) (t : Int)) R := by
  intro n
  induction n with
  | zero => intro t r hn hr; omega
  | succ n ih =>
    intro t r hn hr h
    obtain ⟨w1, w2⟩ := half_word h hr
    obtain ⟨e1, e2⟩ := wrap_lt (p := p) w1 w2
    have down : (4294967296 ≤ t ∨ 4294967296 * r + d < t * o) → Ev (fun k => bits_Div64.j4 k (V : Int) (s : Int) (p : Int) (o : Int) (d : Int) (q1 : Int) (r : Int) (u : Int) (t : Int) true) R := fun c => by
      obtain ⟨t', rfl, h', ht'⟩ := half_next h c
      have e3 := wrap_dec ht'
      have e4 := wrap_inc hr h.hp2
      have hp := h.hp
      by_cases hb : r + p ≥ 4294967296
      · rw [half_big h' ht' hb] at hR
        refine Ev.step (f := fun k => some R) (fun k => ?_) (Ev.now _)
        simp only [bits_Div64.j4]
        rw [if_pos trivial, e4, if_pos (by clear e1 e2 e3 e4 hR; omega), if_pos (Int.natCast_nonneg s), e3, hR]
      · refine Ev.step (fun k => ?_) (ih t' (r + p) (by clear e1 e2 e3 e4 hR; omega) (by clear e1 e2 e3 e4 hR; omega) h')
        simp only [bits_Div64.j4]
        rw [if_pos trivial, e4, if_neg (by clear e1 e2 e3 e4 hR; omega), e3]
    by_cases c1 : 4294967296 ≤ t
    · exact Ev.step (fun k => by simp only [bits_Div64.l1]; exact if_pos (Int.ofNat_le.2 c1)) (down (.inl c1))
    · have c1' : ¬ ((t : Int) ≥ 4294967296) := by clear e1 e2 hR; omega
      by_cases c2 : 4294967296 * r + d < t * o
      · refine Ev.step (fun k => ?_) (down (.inr c2))
        simp only [bits_Div64.l1]
        rw [if_neg c1', e1, e2, decide_eq_true (Int.ofNat_lt.2 c2)]
      · rw [half_fit h (Nat.le_of_not_lt c2)] at hR
        refine Ev.step (f := fun k => bits_Div64.j4 k (V : Int) (s : Int) (p : Int) (o : Int) (d : Int) (q1 : Int) (r : Int) (u : Int) (t : Int) false) (fun k => ?_) (Ev.step (f := fun k => some R) (fun k => ?_) (Ev.now _))
        · simp only [bits_Div64.l1]
          rw [if_neg c1', e1, e2, decide_eq_false (fun h3 => c2 (Int.ofNat_lt.1 h3))]
        · simp only [bits_Div64.j4]
          rw [if_neg (by decide), if_pos (Int.natCast_nonneg s), hR]
/-! ### shifts and their sums -/
theorem shl_nat (a : Nat) {s : Nat} (hs : s ≤ 64) : shl .u64 (a : Int) (s : Int) = ((a * 2 ^ s % 18446744073709551616 : Nat) : Int) := by
  unfold shl
  have e : min ((s : Int).toNat) (IntKind.bits .u64) = s := by rw [Int.toNat_natCast]; exact Nat.min_eq_left hs
  rw [e, wu]
  have e2 : (a : Int) * 2 ^ s = ((a * 2 ^ s : Nat) : Int) := by simp
  rw [e2]; rfl
theorem shr_nat (a : Nat) {s : Nat} (hs : s ≤ 64) : shr .u64 (a : Int) (s : Int) = ((a / 2 ^ s : Nat) : Int) := by
  unfold shr
  have e : min ((s : Int).toNat) (IntKind.bits .u64) = s := by rw [Int.toNat_natCast]; exact Nat.min_eq_left hs
  rw [e]
  have e2 : (2 : Int) ^ s = ((2 ^ s : Nat) : Int) := by simp
  rw [e2]; rfl
theorem or_add {a b s : Nat} (hb : b < 2 ^ s) (h : a * 2 ^ s + b < 18446744073709551616) : Go.bits .or .u64 ((a * 2 ^ s : Nat) : Int) (b : Int) = ((a * 2 ^ s + b : Nat) : Int) := by
  rw [bits_or_u64_nat _ _ (by omega) (by omega), Nat.mul_comm a, Nat.two_pow_add_eq_or_of_lt hb]
theorem shift_split {lo s : Nat} (hs : s ≤ 64) : lo * 2 ^ s = lo / 2 ^ (64 - s) * 18446744073709551616 + lo * 2 ^ s % 18446744073709551616 := by
  have e : (18446744073709551616 : Nat) = 2 ^ (64 - s) * 2 ^ s := by rw [← Nat.pow_add, Nat.sub_add_cancel hs]
  have h := Nat.div_add_mod (lo * 2 ^ s) 18446744073709551616
  have h2 : lo * 2 ^ s / 18446744073709551616 = lo / 2 ^ (64 - s) := by
    rw [e, Nat.mul_div_mul_right _ _ (Nat.pow_pos (by decide))]
  rw [h2] at h
  rw [Nat.mul_comm (lo / 2 ^ (64 - s))]
  exact h.symm
theorem norm_y {y : Nat} (h0 : 0 < y) (h : y < 18446744073709551616) : 9223372036854775808 ≤ y * 2 ^ (64 - bits y) ∧ y * 2 ^ (64 - bits y) < 18446744073709551616 ∧ 64 - bits y ≤ 63 := by
  have hb := bits_le64 h
  have h1 := lt_bits y
  have hb0 : bits y ≠ 0 := by unfold bits; rw [if_neg (by omega)]; omega
  have h2 := bits_le hb0
  have e1 : (18446744073709551616 : Nat) = 2 ^ bits y * 2 ^ (64 - bits y) := by rw [← Nat.pow_add, Nat.add_sub_cancel' hb]
  have e2 : (9223372036854775808 : Nat) = 2 ^ (bits y - 1) * 2 ^ (64 - bits y) := by
    rw [← Nat.pow_add, show bits y - 1 + (64 - bits y) = 63 by omega]
  have hp : 0 < 2 ^ (64 - bits y) := Nat.pow_pos (by decide)
  refine ⟨?_, ?_, by omega⟩
  · rw [e2]; exact Nat.mul_le_mul_right _ h2
  · rw [e1]; exact Nat.mul_lt_mul_of_pos_right h1 hp
theorem wrap3 (a c e : Int) : IntKind.u64.wrap ((IntKind.u64.wrap ((IntKind.u64.wrap a) + c)) - (IntKind.u64.wrap e)) = (a + c - e) % 18446744073709551616 := by
  rw [wu, wu, wu, wu]; omega
theorem wrap_rest {u V d : Nat} (hV : V ≤ 18446744073709551616) (hu : u < V) : IntKind.u64.wrap ((IntKind.u64.wrap ((IntKind.u64.wrap ((u : Int) * 4294967296)) + (d : Int))) - (IntKind.u64.wrap ((((u * 4294967296 + d) / V : Nat) : Int) * (V : Int)))) = (((u * 4294967296 + d) % V : Nat) : Int) := by
  rw [wrap3]
  have h := Nat.div_add_mod (u * 4294967296 + d) V
  have hm := Nat.mod_lt (u * 4294967296 + d) (show 0 < V by omega)
  have e : (((u * 4294967296 + d) / V : Nat) : Int) * (V : Int) = ((V * ((u * 4294967296 + d) / V) : Nat) : Int) := by rw [mulN, Nat.mul_comm]
  rw [e]
  generalize V * ((u * 4294967296 + d) / V) = m at *
  generalize (u * 4294967296 + d) % V = r at *
  clear e
  omega
theorem wrap_mod {u p : Nat} (hu : u < 18446744073709551616) : IntKind.u64.wrap ((u : Int) - (IntKind.u64.wrap (((u / p : Nat) : Int) * (p : Int)))) = ((u % p : Nat) : Int) := by
  have h := Nat.div_add_mod u p
  rw [mulN, Nat.mul_comm]
  rw [wu, wu]
  generalize p * (u / p) = m at *
  generalize u % p = r at *
  omega
theorem tdivN (a b : Nat) : Int.tdiv (a : Int) (b : Int) = ((a / b : Nat) : Int) := rfl
theorem tmodN (a b : Nat) : Int.tmod (a : Int) (b : Int) = ((a % b : Nat) : Int) := rfl
theorem join_core {V u un q1 u2 q0 r M2 : Nat} (h1 : V * q1 + u2 = u * 4294967296 + un / 4294967296) (h2 : V * q0 + r = u2 * 4294967296 + un % 4294967296) (hM : M2 = u * 18446744073709551616 + un) : M2 = V * (q1 * 4294967296 + q0) + r := by
  rw [hM, Nat.mul_add, ← Nat.mul_assoc]
  generalize V * q1 = a at *
  generalize V * q0 = b at *
  omega
theorem join_end {V M2 Q r y s M : Nat} (hM : M * 2 ^ s = V * Q + r) (hV : V = y * 2 ^ s) (hy : 0 < y) (hr : r < V) : Q = M / y ∧ r / 2 ^ s = M % y := by
  have hp : 0 < 2 ^ s := Nat.pow_pos (by decide)
  have hV0 : 0 < V := by rw [hV]; exact Nat.mul_pos hy hp
  have d1 : M * 2 ^ s / (y * 2 ^ s) = M / y := Nat.mul_div_mul_right _ _ hp
  have m1 : M * 2 ^ s % (y * 2 ^ s) = M % y * 2 ^ s := Nat.mul_mod_mul_right _ _ _
  rw [hM, ← hV] at d1 m1
  rw [Nat.mul_add_div hV0, Nat.div_eq_of_lt hr] at d1
  rw [Nat.mul_add_mod, Nat.mod_eq_of_lt hr] at m1
  exact ⟨by rw [← d1]; rfl, by rw [m1, Nat.mul_div_cancel _ hp]⟩
theorem join_shift {hi lo s u un : Nat} (hs : s ≤ 64) (hu : u = hi * 2 ^ s + lo / 2 ^ (64 - s)) (hun : un = lo * 2 ^ s % 18446744073709551616) : (hi * 18446744073709551616 + lo) * 2 ^ s = u * 18446744073709551616 + un := by
  have := shift_split (lo := lo) hs
  rw [Nat.add_mul, this, ← hun, hu, Nat.add_mul (hi * 2 ^ s)]
  have e : hi * 18446744073709551616 * 2 ^ s = hi * 2 ^ s * 18446744073709551616 := by rw [Nat.mul_assoc, Nat.mul_comm 18446744073709551616, Nat.mul_assoc]
  rw [e, Nat.add_assoc]
theorem d64_j2 {V s p o u d un0 u2 : Nat} (hp0 : 0 < p) (hV1 : V ≤ 18446744073709551616) (hu : u < V) (hu2 : u2 = (u * 4294967296 + d) % V) (R : Int × Int) (H : Ev (fun k => bits_Div64.l1 k (V : Int) (s : Int) (p : Int) (o : Int) (un0 : Int) (((u * 4294967296 + d) / V : Nat) : Int) ((u2 % p : Nat) : Int) (u2 : Int) ((u2 / p : Nat) : Int)) R) :
    Ev (fun k => bits_Div64.j2 k (V : Int) (s : Int) (p : Int) (o : Int) (u : Int) (d : Int) (un0 : Int) (((u * 4294967296 + d) / V : Nat) : Int)) R := by
  have hlt : u2 < 18446744073709551616 := by rw [hu2]; exact Nat.lt_of_lt_of_le (Nat.mod_lt _ (by omega)) hV1
  refine Ev.step (fun k => ?_) H
  have e1 := wrap_rest (d := d) hV1 hu
  rw [← hu2] at e1
  have e2 : IntKind.u64.wrap (Int.tdiv (u2 : Int) (p : Int)) = ((u2 / p : Nat) : Int) := by
    rw [tdivN]; exact wrapN _ (Nat.lt_of_le_of_lt (Nat.div_le_self _ _) hlt)
  have e3 := wrap_mod (p := p) hlt
  have hpne : ¬ (p : Int) = 0 := by clear e1 e2 e3; omega
  simp only [bits_Div64.j2]
  rw [if_neg hpne, e1, e2, e3]
theorem d64_core {V s p o u d1 d0 u2 : Nat} (hV : V = p * 4294967296 + o) (hp : 2147483648 ≤ p) (hp2 : p < 4294967296) (ho : o < 4294967296) (hV1 : V ≤ 18446744073709551616) (hu : u < V) (hd1 : d1 < 4294967296) (hd0 : d0 < 4294967296) (hs : s ≤ 64) (hu2 : u2 = (u * 4294967296 + d1) % V) :
    Ev (fun k => bits_Div64.l0 k (V : Int) (s : Int) (p : Int) (o : Int) (u : Int) (d1 : Int) (d0 : Int) ((u / p : Nat) : Int) ((u % p : Nat) : Int)) (IntKind.u64.wrap ((IntKind.u64.wrap ((((u * 4294967296 + d1) / V : Nat) : Int) * 4294967296)) + (((u2 * 4294967296 + d0) / V : Nat) : Int)), (((u2 * 4294967296 + d0) % V / 2 ^ s : Nat) : Int)) := by
  have hp0 : 0 < p := by omega
  have hu2V : u2 < V := by rw [hu2]; exact Nat.mod_lt _ (Nat.lt_of_le_of_lt (Nat.zero_le _) hu)
  have er := wrap_rest (d := d0) hV1 hu2V
  have es := shr_nat ((u2 * 4294967296 + d0) % V) hs
  have m1 := Nat.mod_lt u hp0
  have m2 := Nat.mod_lt u2 hp0
  refine d64_l0 _ (d64_j2 hp0 hV1 hu hu2 _ (d64_l1 _ ?_ 4294967296 _ _ (Nat.sub_le _ _) (Nat.lt_trans m2 hp2) (half_first hV hp hp2 ho hu2V hd0))) 4294967296 _ _ (Nat.sub_le _ _) (Nat.lt_trans m1 hp2) (half_first hV hp hp2 ho hu hd1)
  rw [er, es]
theorem d64_nat {hi lo y : Nat} (hy : hi < y) (hy2 : y < 18446744073709551616) (hlo : lo < 18446744073709551616) : Ev (fun k => bits_Div64.f k (hi : Int) (lo : Int) (y : Int)) ((((hi * 18446744073709551616 + lo) / y : Nat) : Int), (((hi * 18446744073709551616 + lo) % y : Nat) : Int)) := by
  unfold bits_Div64.f
  have y0 : 0 < y := by omega
  refine Ev.congr (fun k => if_neg (show ¬ (y : Int) = 0 by omega)) (Ev.congr (fun k => if_neg (show ¬ (y : Int) ≤ (hi : Int) by omega)) ?_)
  by_cases h0 : hi = 0
  · subst h0
    refine Ev.congr (fun k => if_pos rfl) ?_
    have e1 : IntKind.u64.wrap (Int.tdiv (lo : Int) (y : Int)) = ((lo / y : Nat) : Int) := by
      rw [tdivN]; exact wrapN _ (Nat.lt_of_le_of_lt (Nat.div_le_self _ _) hlo)
    rw [e1, tmodN, Nat.zero_mul, Nat.zero_add]
    exact Ev.now _
  · refine Ev.congr (fun k => if_neg (show ¬ (hi : Int) = 0 by omega)) (Ev.bind (lz64_ev hy2) ?_)
    obtain ⟨n1, n2, n3⟩ := norm_y y0 hy2
    have hsplit := shift_split (lo := lo) (s := 64 - bits y) (by omega)
    generalize hs : 64 - bits y = s at *
    have hs64 : s ≤ 64 := by omega
    have ws : IntKind.u64.wrap (s : Int) = (s : Int) := wrapN _ (by omega)
    have ws2 : IntKind.u64.wrap (64 - (s : Int)) = ((64 - s : Nat) : Int) := by
      have e : (64 : Int) - (s : Int) = ((64 - s : Nat) : Int) := by omega
      rw [e, wrapN _ (by omega)]
    have hpos : 0 < 2 ^ s := Nat.pow_pos (by decide)
    have hlt : lo / 2 ^ (64 - s) < 2 ^ s := by
      rw [Nat.div_lt_iff_lt_mul (Nat.pow_pos (by decide)), ← Nat.pow_add, Nat.add_sub_cancel' hs64]; exact hlo
    have hule : (hi + 1) * 2 ^ s ≤ y * 2 ^ s := Nat.mul_le_mul_right _ hy
    rw [Nat.add_mul, Nat.one_mul] at hule
    have huV : hi * 2 ^ s + lo / 2 ^ (64 - s) < y * 2 ^ s := by omega
    have hhi : hi * 2 ^ s < 18446744073709551616 := by omega
    have ev : shl .u64 (y : Int) (s : Int) = ((y * 2 ^ s : Nat) : Int) := by rw [shl_nat y hs64, Nat.mod_eq_of_lt n2]
    have eh : shl .u64 (hi : Int) (s : Int) = ((hi * 2 ^ s : Nat) : Int) := by rw [shl_nat hi hs64, Nat.mod_eq_of_lt hhi]
    have el : shr .u64 (lo : Int) ((64 - s : Nat) : Int) = ((lo / 2 ^ (64 - s) : Nat) : Int) := shr_nat lo (by omega)
    have eo := or_add hlt (Nat.lt_trans huV n2)
    have en : shl .u64 (lo : Int) (s : Int) = ((lo * 2 ^ s % 18446744073709551616 : Nat) : Int) := shl_nat lo hs64
    rw [ws, ws2, ev, eh, el, eo, en]
    clear ws ws2 ev eh el eo en
    have hun : lo * 2 ^ s % 18446744073709551616 < 18446744073709551616 := Nat.mod_lt _ (by decide)
    have hM := join_shift (hi := hi) (lo := lo) (un := lo * 2 ^ s % 18446744073709551616) hs64 rfl rfl
    generalize hu : hi * 2 ^ s + lo / 2 ^ (64 - s) = u at *
    generalize hue : lo * 2 ^ s % 18446744073709551616 = un at *
    generalize hV : y * 2 ^ s = V at *
    have hV64 : V ≤ 18446744073709551616 := Nat.le_of_lt n2
    have hsplitV : V = V / 4294967296 * 4294967296 + V % 4294967296 := by omega
    have hp : 2147483648 ≤ V / 4294967296 := by omega
    have hp2 : V / 4294967296 < 4294967296 := by omega
    have ho : V % 4294967296 < 4294967296 := Nat.mod_lt _ (by decide)
    have hpne : ¬ ((V : Int) / 4294967296 = 0) := by omega
    have hd1 : un / 4294967296 < 4294967296 := by omega
    have hd0 : un % 4294967296 < 4294967296 := Nat.mod_lt _ (by decide)
    have hu64 : u < 18446744073709551616 := by omega
    have core := d64_core (s := s) hsplitV hp hp2 ho hV64 huV hd1 hd0 hs64 rfl
    have j1 := Nat.div_add_mod (u * 4294967296 + un / 4294967296) V
    have j2 := Nat.div_add_mod ((u * 4294967296 + un / 4294967296) % V * 4294967296 + un % 4294967296) V
    have hK := join_core j1 j2 hM
    have hr := Nat.mod_lt ((u * 4294967296 + un / 4294967296) % V * 4294967296 + un % 4294967296) (show 0 < V by omega)
    obtain ⟨f1, f2⟩ := join_end (M2 := 0) hK hV.symm y0 hr
    have q1lt := half_lt huV hd1
    have hQ : (hi * 18446744073709551616 + lo) / y < 18446744073709551616 := by
      rw [Nat.div_lt_iff_lt_mul y0]; omega
    rw [← f1] at hQ
    have eq1 : IntKind.u64.wrap ((IntKind.u64.wrap ((((u * 4294967296 + un / 4294967296) / V : Nat) : Int) * 4294967296)) + ((((u * 4294967296 + un / 4294967296) % V * 4294967296 + un % 4294967296) / V : Nat) : Int)) = (((hi * 18446744073709551616 + lo) / y : Nat) : Int) := by
      rw [← f1]
      have e : (((u * 4294967296 + un / 4294967296) / V : Nat) : Int) * 4294967296 = (((u * 4294967296 + un / 4294967296) / V * 4294967296 : Nat) : Int) := mulN _ 4294967296
      rw [e, wrapN _ (Nat.lt_of_le_of_lt (Nat.le_add_right _ _) hQ), addN, wrapN _ hQ]
    rw [eq1, f2] at core
    have em : Go.bits .and .u64 (V : Int) 4294967295 = ((V % 4294967296 : Nat) : Int) := maskN V n2
    have em2 : Go.bits .and .u64 (un : Int) 4294967295 = ((un % 4294967296 : Nat) : Int) := maskN un hun
    have et : IntKind.u64.wrap (Int.tdiv (u : Int) ((V / 4294967296 : Nat) : Int)) = ((u / (V / 4294967296) : Nat) : Int) := by
      rw [tdivN]; exact wrapN _ (Nat.lt_of_le_of_lt (Nat.div_le_self _ _) hu64)
    have ew := wrap_mod (p := V / 4294967296) hu64
    refine Ev.congr (fun k => if_pos (Int.natCast_nonneg s)) (Ev.congr (fun k => if_pos (Int.natCast_nonneg (64 - s))) (Ev.congr (fun k => if_neg hpne) ?_))
    rw [em, em2, divN V, divN un, et, ew]
    exact core
theorem div64 {hi lo y : Int} (h0 : 0 ≤ hi) (hy : hi < y) (hy2 : y < 18446744073709551616) (hlo : U lo) : Ev (fun k => bits_Div64.f k hi lo y) ((hi * 18446744073709551616 + lo) / y, (hi * 18446744073709551616 + lo) % y) := by
  obtain ⟨a, rfl⟩ := Int.eq_ofNat_of_zero_le h0
  obtain ⟨b, rfl⟩ := Int.eq_ofNat_of_zero_le hlo.1
  obtain ⟨c, rfl⟩ := Int.eq_ofNat_of_zero_le (show 0 ≤ y by omega)
  have := hlo.2
  have g := d64_nat (hi := a) (lo := b) (y := c) (by omega) (by omega) (by omega)
  simpa using g
end Go.Proofs.YtnlklfhgdefbaaaDoor.Pure
