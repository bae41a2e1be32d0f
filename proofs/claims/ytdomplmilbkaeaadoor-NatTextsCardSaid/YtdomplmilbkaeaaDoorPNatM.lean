/-
  Helpers: products of short numbers. Conditions: no list is longer than 1000 words.
-/
import Derived.Test.YtdomplmilbkaeaaDoorPNatB
import Derived.Test.YtdomplmilbkaeaaDoorPNatH
import Derived.Test.YtdomplmilbkaeaaDoorGNx0
namespace Go.Proofs.YtdomplmilbkaeaaDoor.Pure
open Go.RowKit Go.Proofs.YtdomplmilbkaeaaDoor.GN Go.Proofs.YtdomplmilbkaeaaDoorW.PrintWords Go.Proofs.YtdomplmilbkaeaaDoorW.PrintLast Go.Proofs.YtdomplmilbkaeaaDoorW.PrintMore

theorem mulX {l : List Int} (hw : WF l) {b : Nat} (ha : l.length ≤ 1000) (hb : (limbs b).length ≤ 1000) : Ev (fun k => nat_Mul.f k l (limbs b)) (limbs (nv l * b)) := by
  have := mul_ev hw (limbs_WF b) (Nat.le_trans ha (by decide)) (Nat.le_trans hb (by decide))
  rwa [nv_limbs] at this
theorem mulY {l : List Int} (hw : WF l) {b : Nat} (ha : l.length ≤ 1000) (hb : (limbs b).length ≤ 1000) : Ev (fun k => nat_Mul.f k (limbs b) l) (limbs (b * nv l)) := by
  have := mul_ev (limbs_WF b) hw (Nat.le_trans hb (by decide)) (Nat.le_trans ha (by decide))
  rwa [nv_limbs] at this
theorem mulXX {x y : List Int} (hx : WF x) (hy : WF y) (lx : x.length ≤ 1000) (ly : y.length ≤ 1000) : Ev (fun k => nat_Mul.f k x y) (limbs (nv x * nv y)) := mul_ev hx hy (Nat.le_trans lx (by decide)) (Nat.le_trans ly (by decide))
theorem mulL {a b : Nat} (ha : (limbs a).length ≤ 1000) (hb : (limbs b).length ≤ 1000) : Ev (fun k => nat_Mul.f k (limbs a) (limbs b)) (limbs (a * b)) := by
  have := mul_ev (limbs_WF a) (limbs_WF b) (Nat.le_trans ha (by decide)) (Nat.le_trans hb (by decide))
  rwa [nv_limbs, nv_limbs] at this
end Go.Proofs.YtdomplmilbkaeaaDoor.Pure
