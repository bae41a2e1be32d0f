/-
  The chapter's examples are true: by the kernel's run. No condition.
-/
import Derived.Test.YtdomplmilbkaeaaDoorPBase
import Derived.Test.YtdomplmilbkaeaaDoorGNx0
import Derived.Test.YtdomplmilbkaeaaDoorGNx8
import Derived.KernelRfl
namespace Go.Proofs.YtdomplmilbkaeaaDoor.Pure
open Go.RowKit Go.Proofs.YtdomplmilbkaeaaDoor.GN Go.Proofs.YtdomplmilbkaeaaDoorW.PrintWords Go.Proofs.YtdomplmilbkaeaaDoorW.PrintLast Go.Proofs.YtdomplmilbkaeaaDoorW.PrintMore
set_option maxRecDepth 100000 in
theorem awake_run : vinculumlaw01_awake.f 100 = some true := by decide +kernel
theorem awake_ev : Ev (fun k => vinculumlaw01_awake.f k) true := Ev.of vinculumlaw01_awake.mono awake_run
end Go.Proofs.YtdomplmilbkaeaaDoor.Pure
