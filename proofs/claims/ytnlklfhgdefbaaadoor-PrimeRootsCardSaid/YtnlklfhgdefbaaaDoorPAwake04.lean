/-
  The chapter's examples are true: by the kernel's run. No condition.
-/
import Derived.Test.YtnlklfhgdefbaaaDoorPBase
import Derived.Test.YtnlklfhgdefbaaaDoorGNx0
import Derived.Test.YtnlklfhgdefbaaaDoorGNx3
namespace Go.Proofs.YtnlklfhgdefbaaaDoor.Pure
open Go.RowKit Go.Proofs.YtnlklfhgdefbaaaDoor.GN Go.Proofs.YtnlklfhgdefbaaaDoorW.PrintWords Go.Proofs.YtnlklfhgdefbaaaDoorW.PrintLast Go.Proofs.YtnlklfhgdefbaaaDoorW.PrintMore
set_option maxRecDepth 100000 in
theorem awake_run : vinculumlaw04_awake.f 100 = some true := by decide +kernel
theorem awake_ev : Ev (fun k => vinculumlaw04_awake.f k) true := Ev.of vinculumlaw04_awake.mono awake_run
end Go.Proofs.YtnlklfhgdefbaaaDoor.Pure
