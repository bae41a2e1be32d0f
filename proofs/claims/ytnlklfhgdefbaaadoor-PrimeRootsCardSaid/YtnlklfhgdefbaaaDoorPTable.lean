/-
  Up to 1000003 what passes the test is a prime: by the kernel's run over the products. No condition.
-/
import Derived.Test.YtnlklfhgdefbaaaDoorPStrong
namespace Go.Proofs.YtnlklfhgdefbaaaDoor.Pure
open Go.RowKit Go.Proofs.YtnlklfhgdefbaaaDoor.GN Go.Proofs.YtnlklfhgdefbaaaDoorW.PrintWords Go.Proofs.YtnlklfhgdefbaaaDoorW.PrintLast Go.Proofs.YtnlklfhgdefbaaaDoorW.PrintMore
set_option linter.unusedVariables false
set_option linter.unusedSimpArgs false
set_option maxRecDepth 100000 in
theorem table1 : allOk 1000003 60 59 = true := by decide +kernel
set_option maxRecDepth 100000 in
theorem table2 : allOk 1000003 120 60 = true := by decide +kernel
set_option maxRecDepth 100000 in
theorem table3 : allOk 1000003 300 180 = true := by decide +kernel
set_option maxRecDepth 100000 in
theorem table4 : allOk 1000003 1001 701 = true := by decide +kernel
theorem table {d m : Nat} (h2 : 2 ≤ d) (hd : d ≤ 1001) (hdm : d ≤ m) (hN : d * m ≤ 1000003) : smallF d = true ∨ smallF m = true ∨ fails (d * m) = true := by
  have key : smallF d = true ∨ ∀ m, d ≤ m → d * m ≤ 1000003 → smallF m = true ∨ fails (d * m) = true := by
    by_cases h3 : d ≤ 60
    · exact allOk_spec _ table1 d h3 (by omega)
    · by_cases h4 : d ≤ 120
      · exact allOk_spec _ table2 d h4 (by omega)
      · by_cases h5 : d ≤ 300
        · exact allOk_spec _ table3 d h5 (by omega)
        · exact allOk_spec _ table4 d hd (by omega)
  rcases key with h | h
  · exact .inl h
  · exact .inr (h m hdm hN)
end Go.Proofs.YtnlklfhgdefbaaaDoor.Pure
