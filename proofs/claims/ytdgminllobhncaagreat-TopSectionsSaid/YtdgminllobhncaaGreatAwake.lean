/-
  The sanity check of the laws across layers ends with true, in any world: the interpreter's run, by the kernel.
-/
import Derived.Test.YtdgminllobhncaaGreatProg
import Derived.Test.YtdgminllobhncaaGreatInt8
namespace Go.Hy
set_option linter.unusedVariables false
set_option linter.unusedSimpArgs false
set_option maxHeartbeats 2000000
set_option maxRecDepth 10000
open Go.Hy.Ix (runx runx_ok)
theorem awake_x : runx Go.Proofs.Tryz.prog 10000 12 = some (.bool true) := by kernel_rfl
theorem awake_g (w : World) : Gives Go.Proofs.Tryz.prog 12 [] w (.bool true) := runx_ok awake_x (fun _ => rfl) w
end Go.Hy
