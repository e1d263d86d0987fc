/-
  What a pass of a class answers, for any path and motion.
-/
import Derived.Test.YtdabnfhkojapjaaPRef
namespace Go.Hy
set_option linter.unusedVariables false
set_option linter.unusedSimpArgs false
set_option maxHeartbeats 2000000
set_option maxRecDepth 10000
open Go.Hy.Iv

theorem Pass_e {ps : List Piece} {m : Motion} : runoff_Pass ps m = some (psOut ps m) := by
  by_cases hv : vE ps = 0
  · by_cases hm : mE ps m = 0
    · rw [Pass_m (vE_ok hv) (mE_ok hm)]
      unfold psOut
      rw [if_neg (by simp [hv]), if_neg (by simp [hm])]
    · refine Ok.eq (?_ : Ok _ _)
      unfold runoff_Pass psOut
      rw [if_neg (by simp [hv]), if_pos hm]
      refine ok_bde check_e ?_
      rw [if_neg (by simp [hv])]
      exact ok_if1 hm (ok_some rfl)
  · refine Ok.eq (?_ : Ok _ _)
    unfold runoff_Pass psOut
    rw [if_pos hv]
    refine ok_bde check_e ?_
    rw [if_pos hv]
    exact ok_if1 hv (ok_some rfl)
end Go.Hy
