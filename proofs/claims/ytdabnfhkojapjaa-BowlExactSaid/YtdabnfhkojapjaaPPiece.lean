/-
  The maker of a number for a place, and of paths.
-/
import Derived.Test.YtdabnfhkojapjaaPPath
namespace Go.Hy
set_option linter.unusedVariables false
set_option linter.unusedSimpArgs false
set_option maxHeartbeats 2000000
set_option maxRecDepth 10000
theorem Place_ok {v n : Int} (hn : 1 ≤ n ∧ n ≤ 1000000000000) : Ok (yardgen_Place v n) fun r => 0 ≤ r ∧ r < n := by
  unfold yardgen_Place
  have := tmod_rng v n hn.1
  refine ok_if0 (by omega) (ok_ck (by omega) (ok_if (fun h => ok_some ?_) (fun h => ok_some ?_)))
  · rw [w64_eq (by omega)]; omega
  · omega

end Go.Hy
