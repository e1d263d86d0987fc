/-
  The functions give what their models give. Printed by a program.
-/
import Derived.Test.YtjeegociagchnaaFacts
import Derived.Test.YtjeegociagchnaaMod
import Derived.Test.YtjeegociagchnaaW0
namespace Go.Proofs.Ytjeegociagchnaa
open Go.Hy
set_option linter.unusedVariables false
set_option linter.unusedSimpArgs false
set_option maxHeartbeats 2000000
set_option maxRecDepth 100000
theorem r09_sound_c {w : World} {a0 : Element}  {v : Bool} (hm : r09_sound a0 = some v) : Gives Try.prog 88 [.agg #[.int .i64 a0.Kind, .string a0.Name, .int .i64 a0.Parent, .int .i64 a0.Side, .int .i64 a0.Length, .int .i64 a0.Grade, .int .i64 a0.Curve, .int .i64 a0.Power]] w (.bool v) := by
  refine j_gives (vs := [.agg #[.int .i64 a0.Kind, .string a0.Name, .int .i64 a0.Parent, .int .i64 a0.Side, .int .i64 a0.Length, .int .i64 a0.Grade, .int .i64 a0.Curve, .int .i64 a0.Power]]) (U := fun (v : Bool) => .bool v) Try.func88 rfl Try.ntmps88 rfl rfl hm ?_
  unfold r09_sound
  clear hm
  refine jn_seq ?_
  refine jn_reg 0 ?_
  refine jg_box rfl (l8 rfl) rfl rfl fun g1 => ?_
  refine jg_as rfl rfl rfl ?_
  refine jg_nils [(1, _)] ⟨rfl, trivial⟩ ?_
  refine jk_sn ?_
  refine jn_seq ?_
  refine jn_seq ?_
  refine jn_reg 1 ?_
  refine jg_y (fun w hs => yv_fieldAddr rfl) rfl rfl ?_
  refine jg_y (fun w hs => yv_load rfl (ld1B (hs.blkL (i := 0) rfl) rfl)) rfl rfl ?_
  refine jg_c0 rfl (fun v w hs hm => r06_Name_c hm ) rfl rfl fun v2 => ?_
  refine jg_y (fun w hs => yv_not rfl) rfl rfl ?_
  refine jg_nils [(1, _), (6, _)] ⟨rfl, rfl, trivial⟩ ?_
  refine jk_sn ?_
  refine jn_cond rfl ?_ ?_
  · refine jn_seq ?_
    refine jn_reg 2 ?_
    refine jg_as rfl rfl rfl ?_
    refine jg_nils [(2, _)] ⟨rfl, trivial⟩ ?_
    refine jk_sn ?_
    refine jn_ret ?_
    refine jk_sr ?_
    exact jk_ret1 rfl (fun w hs => .tmp rfl) (fun w hs => ⟨rfl, hs.drop⟩)
  refine jn_skip ?_
  refine jk_sn ?_
  refine jn_seq ?_
  refine jn_seq ?_
  refine jn_reg 3 ?_
  refine jg_y (fun w hs => yv_fieldAddr rfl) rfl rfl ?_
  refine jg_y (fun w hs => yv_load rfl (ld1B (hs.blkL (i := 0) rfl) rfl)) rfl rfl ?_
  refine jg_y (fun w hs => yv_eql rfl rfl) rfl rfl ?_
  refine jg_nils [(1, _), (9, _)] ⟨rfl, rfl, trivial⟩ ?_
  refine jk_sn ?_
  refine jn_cond rfl ?_ ?_
  · refine jn_seq ?_
    refine jn_reg 4 ?_
    refine jg_y (fun w hs => yv_fieldAddr rfl) rfl rfl ?_
    refine jg_y (fun w hs => yv_load rfl (ld1B (hs.blkL (i := 0) rfl) rfl)) rfl rfl ?_
    refine jg_y (fun w hs => yv_eql rfl rfl) rfl rfl ?_
    refine jg_mv rfl rfl rfl ?_
    refine jg_split 13 rfl ?_ ?_
    rotate_left
    · refine jg_skip rfl rfl ?_
      refine jg_skip rfl rfl ?_
      refine jg_skip rfl rfl ?_
      refine jg_y (fun w hs => yv_pick_f rfl rfl) rfl rfl ?_
      refine jg_mv rfl rfl rfl ?_
      refine jg_skip rfl rfl ?_
      refine jg_skip rfl rfl ?_
      refine jg_skip rfl rfl ?_
      refine jg_y (fun w hs => yv_pick_f rfl rfl) rfl rfl ?_
      refine jg_mv rfl rfl rfl ?_
      refine jg_skip rfl rfl ?_
      refine jg_skip rfl rfl ?_
      refine jg_skip rfl rfl ?_
      refine jg_y (fun w hs => yv_pick_f rfl rfl) rfl rfl ?_
      refine jg_mv rfl rfl rfl ?_
      refine jg_skip rfl rfl ?_
      refine jg_skip rfl rfl ?_
      refine jg_skip rfl rfl ?_
      refine jg_y (fun w hs => yv_pick_f rfl rfl) rfl rfl ?_
      refine jg_mv rfl rfl rfl ?_
      refine jg_skip rfl rfl ?_
      refine jg_skip rfl rfl ?_
      refine jg_skip rfl rfl ?_
      refine jg_y (fun w hs => yv_pick_f rfl rfl) rfl rfl ?_
      refine jg_as rfl rfl rfl ?_
      refine jg_nils [(2, _)] ⟨rfl, trivial⟩ ?_
      refine jk_sn ?_
      refine jn_ret ?_
      refine jk_sr ?_
      exact jk_ret1 rfl (fun w hs => .tmp rfl) (fun w hs => ⟨rfl, hs.drop⟩)
    refine jg_y (fun w hs => yv_fieldAddr rfl) rfl rfl ?_
    refine jg_y (fun w hs => yv_load rfl (ld1B (hs.blkL (i := 0) rfl) rfl)) rfl rfl ?_
    refine jg_y (fun w hs => yv_eql rfl rfl) rfl rfl ?_
    refine jg_y (fun w hs => yv_pick_t rfl rfl) rfl rfl ?_
    refine jg_mv rfl rfl rfl ?_
    refine jg_split 18 rfl ?_ ?_
    rotate_left
    · refine jg_skip rfl rfl ?_
      refine jg_skip rfl rfl ?_
      refine jg_skip rfl rfl ?_
      refine jg_y (fun w hs => yv_pick_f rfl rfl) rfl rfl ?_
      refine jg_mv rfl rfl rfl ?_
      refine jg_skip rfl rfl ?_
      refine jg_skip rfl rfl ?_
      refine jg_skip rfl rfl ?_
      refine jg_y (fun w hs => yv_pick_f rfl rfl) rfl rfl ?_
      refine jg_mv rfl rfl rfl ?_
      refine jg_skip rfl rfl ?_
      refine jg_skip rfl rfl ?_
      refine jg_skip rfl rfl ?_
      refine jg_y (fun w hs => yv_pick_f rfl rfl) rfl rfl ?_
      refine jg_mv rfl rfl rfl ?_
      refine jg_skip rfl rfl ?_
      refine jg_skip rfl rfl ?_
      refine jg_skip rfl rfl ?_
      refine jg_y (fun w hs => yv_pick_f rfl rfl) rfl rfl ?_
      refine jg_as rfl rfl rfl ?_
      refine jg_nils [(2, _)] ⟨rfl, trivial⟩ ?_
      refine jk_sn ?_
      refine jn_ret ?_
      refine jk_sr ?_
      exact jk_ret1 rfl (fun w hs => .tmp rfl) (fun w hs => ⟨rfl, hs.drop⟩)
    refine jg_y (fun w hs => yv_fieldAddr rfl) rfl rfl ?_
    refine jg_y (fun w hs => yv_load rfl (ld1B (hs.blkL (i := 0) rfl) rfl)) rfl rfl ?_
    refine jg_y (fun w hs => yv_eql rfl rfl) rfl rfl ?_
    refine jg_y (fun w hs => yv_pick_t rfl rfl) rfl rfl ?_
    refine jg_mv rfl rfl rfl ?_
    refine jg_split 23 rfl ?_ ?_
    rotate_left
    · refine jg_skip rfl rfl ?_
      refine jg_skip rfl rfl ?_
      refine jg_skip rfl rfl ?_
      refine jg_y (fun w hs => yv_pick_f rfl rfl) rfl rfl ?_
      refine jg_mv rfl rfl rfl ?_
      refine jg_skip rfl rfl ?_
      refine jg_skip rfl rfl ?_
      refine jg_skip rfl rfl ?_
      refine jg_y (fun w hs => yv_pick_f rfl rfl) rfl rfl ?_
      refine jg_mv rfl rfl rfl ?_
      refine jg_skip rfl rfl ?_
      refine jg_skip rfl rfl ?_
      refine jg_skip rfl rfl ?_
      refine jg_y (fun w hs => yv_pick_f rfl rfl) rfl rfl ?_
      refine jg_as rfl rfl rfl ?_
      refine jg_nils [(2, _)] ⟨rfl, trivial⟩ ?_
      refine jk_sn ?_
      refine jn_ret ?_
      refine jk_sr ?_
      exact jk_ret1 rfl (fun w hs => .tmp rfl) (fun w hs => ⟨rfl, hs.drop⟩)
    refine jg_y (fun w hs => yv_fieldAddr rfl) rfl rfl ?_
    refine jg_y (fun w hs => yv_load rfl (ld1B (hs.blkL (i := 0) rfl) rfl)) rfl rfl ?_
    refine jg_y (fun w hs => yv_eql rfl rfl) rfl rfl ?_
    refine jg_y (fun w hs => yv_pick_t rfl rfl) rfl rfl ?_
    refine jg_mv rfl rfl rfl ?_
    refine jg_split 28 rfl ?_ ?_
    rotate_left
    · refine jg_skip rfl rfl ?_
      refine jg_skip rfl rfl ?_
      refine jg_skip rfl rfl ?_
      refine jg_y (fun w hs => yv_pick_f rfl rfl) rfl rfl ?_
      refine jg_mv rfl rfl rfl ?_
      refine jg_skip rfl rfl ?_
      refine jg_skip rfl rfl ?_
      refine jg_skip rfl rfl ?_
      refine jg_y (fun w hs => yv_pick_f rfl rfl) rfl rfl ?_
      refine jg_as rfl rfl rfl ?_
      refine jg_nils [(2, _)] ⟨rfl, trivial⟩ ?_
      refine jk_sn ?_
      refine jn_ret ?_
      refine jk_sr ?_
      exact jk_ret1 rfl (fun w hs => .tmp rfl) (fun w hs => ⟨rfl, hs.drop⟩)
    refine jg_y (fun w hs => yv_fieldAddr rfl) rfl rfl ?_
    refine jg_y (fun w hs => yv_load rfl (ld1B (hs.blkL (i := 0) rfl) rfl)) rfl rfl ?_
    refine jg_y (fun w hs => yv_eql rfl rfl) rfl rfl ?_
    refine jg_y (fun w hs => yv_pick_t rfl rfl) rfl rfl ?_
    refine jg_mv rfl rfl rfl ?_
    refine jg_split 33 rfl ?_ ?_
    · refine jg_y (fun w hs => yv_fieldAddr rfl) rfl rfl ?_
      refine jg_y (fun w hs => yv_load rfl (ld1B (hs.blkL (i := 0) rfl) rfl)) rfl rfl ?_
      refine jg_y (fun w hs => yv_eql rfl rfl) rfl rfl ?_
      refine jg_y (fun w hs => yv_pick_t rfl rfl) rfl rfl ?_
      refine jg_as rfl rfl rfl ?_
      refine jg_nils [(2, _)] ⟨rfl, trivial⟩ ?_
      refine jk_sn ?_
      refine jn_ret ?_
      refine jk_sr ?_
      exact jk_ret1 rfl (fun w hs => .tmp rfl) (fun w hs => ⟨rfl, hs.drop⟩)
    refine jg_skip rfl rfl ?_
    refine jg_skip rfl rfl ?_
    refine jg_skip rfl rfl ?_
    refine jg_y (fun w hs => yv_pick_f rfl rfl) rfl rfl ?_
    refine jg_as rfl rfl rfl ?_
    refine jg_nils [(2, _)] ⟨rfl, trivial⟩ ?_
    refine jk_sn ?_
    refine jn_ret ?_
    refine jk_sr ?_
    exact jk_ret1 rfl (fun w hs => .tmp rfl) (fun w hs => ⟨rfl, hs.drop⟩)
  refine jn_skip ?_
  refine jk_sn ?_
  refine jn_seq ?_
  refine jn_seq ?_
  refine jn_reg 5 ?_
  refine jg_y (fun w hs => yv_fieldAddr rfl) rfl rfl ?_
  refine jg_y (fun w hs => yv_load rfl (ld1B (hs.blkL (i := 0) rfl) rfl)) rfl rfl ?_
  refine jg_y (fun w hs => yv_lss rfl rfl) rfl rfl ?_
  refine jg_mv rfl rfl rfl ?_
  refine jg_split 41 rfl ?_ ?_
  · refine jg_skip rfl rfl ?_
    refine jg_skip rfl rfl ?_
    refine jg_skip rfl rfl ?_
    refine jg_y (fun w hs => yv_pick_t rfl rfl) rfl rfl ?_
    refine jg_mv rfl rfl rfl ?_
    refine jg_skip rfl rfl ?_
    refine jg_skip rfl rfl ?_
    refine jg_skip rfl rfl ?_
    refine jg_y (fun w hs => yv_pick_t rfl rfl) rfl rfl ?_
    refine jg_mv rfl rfl rfl ?_
    refine jg_skip rfl rfl ?_
    refine jg_skip rfl rfl ?_
    refine jg_skip rfl rfl ?_
    refine jg_y (fun w hs => yv_pick_t rfl rfl) rfl rfl ?_
    refine jg_mv rfl rfl rfl ?_
    refine jg_skip rfl rfl ?_
    refine jg_skip rfl rfl ?_
    refine jg_skip rfl rfl ?_
    refine jg_y (fun w hs => yv_pick_t rfl rfl) rfl rfl ?_
    refine jg_mv rfl rfl rfl ?_
    refine jg_skip rfl rfl ?_
    refine jg_skip rfl rfl ?_
    refine jg_skip rfl rfl ?_
    refine jg_y (fun w hs => yv_pick_t rfl rfl) rfl rfl ?_
    refine jg_mv rfl rfl rfl ?_
    refine jg_skip rfl rfl ?_
    refine jg_skip rfl rfl ?_
    refine jg_skip rfl rfl ?_
    refine jg_y (fun w hs => yv_pick_t rfl rfl) rfl rfl ?_
    refine jg_mv rfl rfl rfl ?_
    refine jg_skip rfl rfl ?_
    refine jg_skip rfl rfl ?_
    refine jg_skip rfl rfl ?_
    refine jg_y (fun w hs => yv_pick_t rfl rfl) rfl rfl ?_
    refine jg_mv rfl rfl rfl ?_
    refine jg_skip rfl rfl ?_
    refine jg_skip rfl rfl ?_
    refine jg_skip rfl rfl ?_
    refine jg_y (fun w hs => yv_pick_t rfl rfl) rfl rfl ?_
    refine jg_mv rfl rfl rfl ?_
    refine jg_skip rfl rfl ?_
    refine jg_skip rfl rfl ?_
    refine jg_skip rfl rfl ?_
    refine jg_y (fun w hs => yv_pick_t rfl rfl) rfl rfl ?_
    refine jg_nils [(1, _), (85, _)] ⟨rfl, rfl, trivial⟩ ?_
    refine jk_sn ?_
    refine jn_ct rfl ?_
    refine jn_seq ?_
    refine jn_reg 6 ?_
    refine jg_as rfl rfl rfl ?_
    refine jg_nils [(2, _)] ⟨rfl, trivial⟩ ?_
    refine jk_sn ?_
    refine jn_ret ?_
    refine jk_sr ?_
    exact jk_ret1 rfl (fun w hs => .tmp rfl) (fun w hs => ⟨rfl, hs.drop⟩)
  refine jg_y (fun w hs => yv_fieldAddr rfl) rfl rfl ?_
  refine jg_y (fun w hs => yv_load rfl (ld1B (hs.blkL (i := 0) rfl) rfl)) rfl rfl ?_
  refine jg_y (fun w hs => yv_gtr rfl rfl) rfl rfl ?_
  refine jg_y (fun w hs => yv_pick_f rfl rfl) rfl rfl ?_
  refine jg_mv rfl rfl rfl ?_
  refine jg_split 46 rfl ?_ ?_
  · refine jg_skip rfl rfl ?_
    refine jg_skip rfl rfl ?_
    refine jg_skip rfl rfl ?_
    refine jg_y (fun w hs => yv_pick_t rfl rfl) rfl rfl ?_
    refine jg_mv rfl rfl rfl ?_
    refine jg_skip rfl rfl ?_
    refine jg_skip rfl rfl ?_
    refine jg_skip rfl rfl ?_
    refine jg_y (fun w hs => yv_pick_t rfl rfl) rfl rfl ?_
    refine jg_mv rfl rfl rfl ?_
    refine jg_skip rfl rfl ?_
    refine jg_skip rfl rfl ?_
    refine jg_skip rfl rfl ?_
    refine jg_y (fun w hs => yv_pick_t rfl rfl) rfl rfl ?_
    refine jg_mv rfl rfl rfl ?_
    refine jg_skip rfl rfl ?_
    refine jg_skip rfl rfl ?_
    refine jg_skip rfl rfl ?_
    refine jg_y (fun w hs => yv_pick_t rfl rfl) rfl rfl ?_
    refine jg_mv rfl rfl rfl ?_
    refine jg_skip rfl rfl ?_
    refine jg_skip rfl rfl ?_
    refine jg_skip rfl rfl ?_
    refine jg_y (fun w hs => yv_pick_t rfl rfl) rfl rfl ?_
    refine jg_mv rfl rfl rfl ?_
    refine jg_skip rfl rfl ?_
    refine jg_skip rfl rfl ?_
    refine jg_skip rfl rfl ?_
    refine jg_y (fun w hs => yv_pick_t rfl rfl) rfl rfl ?_
    refine jg_mv rfl rfl rfl ?_
    refine jg_skip rfl rfl ?_
    refine jg_skip rfl rfl ?_
    refine jg_skip rfl rfl ?_
    refine jg_y (fun w hs => yv_pick_t rfl rfl) rfl rfl ?_
    refine jg_mv rfl rfl rfl ?_
    refine jg_skip rfl rfl ?_
    refine jg_skip rfl rfl ?_
    refine jg_skip rfl rfl ?_
    refine jg_y (fun w hs => yv_pick_t rfl rfl) rfl rfl ?_
    refine jg_nils [(1, _), (85, _)] ⟨rfl, rfl, trivial⟩ ?_
    refine jk_sn ?_
    refine jn_ct rfl ?_
    refine jn_seq ?_
    refine jn_reg 6 ?_
    refine jg_as rfl rfl rfl ?_
    refine jg_nils [(2, _)] ⟨rfl, trivial⟩ ?_
    refine jk_sn ?_
    refine jn_ret ?_
    refine jk_sr ?_
    exact jk_ret1 rfl (fun w hs => .tmp rfl) (fun w hs => ⟨rfl, hs.drop⟩)
  refine jg_y (fun w hs => yv_fieldAddr rfl) rfl rfl ?_
  refine jg_y (fun w hs => yv_load rfl (ld1B (hs.blkL (i := 0) rfl) rfl)) rfl rfl ?_
  refine jg_y (fun w hs => yv_lss rfl rfl) rfl rfl ?_
  refine jg_y (fun w hs => yv_pick_f rfl rfl) rfl rfl ?_
  refine jg_mv rfl rfl rfl ?_
  refine jg_split 51 rfl ?_ ?_
  · refine jg_skip rfl rfl ?_
    refine jg_skip rfl rfl ?_
    refine jg_skip rfl rfl ?_
    refine jg_y (fun w hs => yv_pick_t rfl rfl) rfl rfl ?_
    refine jg_mv rfl rfl rfl ?_
    refine jg_skip rfl rfl ?_
    refine jg_skip rfl rfl ?_
    refine jg_skip rfl rfl ?_
    refine jg_y (fun w hs => yv_pick_t rfl rfl) rfl rfl ?_
    refine jg_mv rfl rfl rfl ?_
    refine jg_skip rfl rfl ?_
    refine jg_skip rfl rfl ?_
    refine jg_skip rfl rfl ?_
    refine jg_y (fun w hs => yv_pick_t rfl rfl) rfl rfl ?_
    refine jg_mv rfl rfl rfl ?_
    refine jg_skip rfl rfl ?_
    refine jg_skip rfl rfl ?_
    refine jg_skip rfl rfl ?_
    refine jg_y (fun w hs => yv_pick_t rfl rfl) rfl rfl ?_
    refine jg_mv rfl rfl rfl ?_
    refine jg_skip rfl rfl ?_
    refine jg_skip rfl rfl ?_
    refine jg_skip rfl rfl ?_
    refine jg_y (fun w hs => yv_pick_t rfl rfl) rfl rfl ?_
    refine jg_mv rfl rfl rfl ?_
    refine jg_skip rfl rfl ?_
    refine jg_skip rfl rfl ?_
    refine jg_skip rfl rfl ?_
    refine jg_y (fun w hs => yv_pick_t rfl rfl) rfl rfl ?_
    refine jg_mv rfl rfl rfl ?_
    refine jg_skip rfl rfl ?_
    refine jg_skip rfl rfl ?_
    refine jg_skip rfl rfl ?_
    refine jg_y (fun w hs => yv_pick_t rfl rfl) rfl rfl ?_
    refine jg_nils [(1, _), (85, _)] ⟨rfl, rfl, trivial⟩ ?_
    refine jk_sn ?_
    refine jn_ct rfl ?_
    refine jn_seq ?_
    refine jn_reg 6 ?_
    refine jg_as rfl rfl rfl ?_
    refine jg_nils [(2, _)] ⟨rfl, trivial⟩ ?_
    refine jk_sn ?_
    refine jn_ret ?_
    refine jk_sr ?_
    exact jk_ret1 rfl (fun w hs => .tmp rfl) (fun w hs => ⟨rfl, hs.drop⟩)
  refine jg_y (fun w hs => yv_fieldAddr rfl) rfl rfl ?_
  refine jg_y (fun w hs => yv_load rfl (ld1B (hs.blkL (i := 0) rfl) rfl)) rfl rfl ?_
  refine jg_y (fun w hs => yv_gtr rfl rfl) rfl rfl ?_
  refine jg_y (fun w hs => yv_pick_f rfl rfl) rfl rfl ?_
  refine jg_mv rfl rfl rfl ?_
  refine jg_split 56 rfl ?_ ?_
  · refine jg_skip rfl rfl ?_
    refine jg_skip rfl rfl ?_
    refine jg_skip rfl rfl ?_
    refine jg_y (fun w hs => yv_pick_t rfl rfl) rfl rfl ?_
    refine jg_mv rfl rfl rfl ?_
    refine jg_skip rfl rfl ?_
    refine jg_skip rfl rfl ?_
    refine jg_skip rfl rfl ?_
    refine jg_y (fun w hs => yv_pick_t rfl rfl) rfl rfl ?_
    refine jg_mv rfl rfl rfl ?_
    refine jg_skip rfl rfl ?_
    refine jg_skip rfl rfl ?_
    refine jg_skip rfl rfl ?_
    refine jg_y (fun w hs => yv_pick_t rfl rfl) rfl rfl ?_
    refine jg_mv rfl rfl rfl ?_
    refine jg_skip rfl rfl ?_
    refine jg_skip rfl rfl ?_
    refine jg_skip rfl rfl ?_
    refine jg_y (fun w hs => yv_pick_t rfl rfl) rfl rfl ?_
    refine jg_mv rfl rfl rfl ?_
    refine jg_skip rfl rfl ?_
    refine jg_skip rfl rfl ?_
    refine jg_skip rfl rfl ?_
    refine jg_y (fun w hs => yv_pick_t rfl rfl) rfl rfl ?_
    refine jg_mv rfl rfl rfl ?_
    refine jg_skip rfl rfl ?_
    refine jg_skip rfl rfl ?_
    refine jg_skip rfl rfl ?_
    refine jg_y (fun w hs => yv_pick_t rfl rfl) rfl rfl ?_
    refine jg_nils [(1, _), (85, _)] ⟨rfl, rfl, trivial⟩ ?_
    refine jk_sn ?_
    refine jn_ct rfl ?_
    refine jn_seq ?_
    refine jn_reg 6 ?_
    refine jg_as rfl rfl rfl ?_
    refine jg_nils [(2, _)] ⟨rfl, trivial⟩ ?_
    refine jk_sn ?_
    refine jn_ret ?_
    refine jk_sr ?_
    exact jk_ret1 rfl (fun w hs => .tmp rfl) (fun w hs => ⟨rfl, hs.drop⟩)
  refine jg_y (fun w hs => yv_fieldAddr rfl) rfl rfl ?_
  refine jg_y (fun w hs => yv_load rfl (ld1B (hs.blkL (i := 0) rfl) rfl)) rfl rfl ?_
  refine jg_y (fun w hs => yv_lss rfl rfl) rfl rfl ?_
  refine jg_y (fun w hs => yv_pick_f rfl rfl) rfl rfl ?_
  refine jg_mv rfl rfl rfl ?_
  refine jg_split 61 rfl ?_ ?_
  · refine jg_skip rfl rfl ?_
    refine jg_skip rfl rfl ?_
    refine jg_skip rfl rfl ?_
    refine jg_y (fun w hs => yv_pick_t rfl rfl) rfl rfl ?_
    refine jg_mv rfl rfl rfl ?_
    refine jg_skip rfl rfl ?_
    refine jg_skip rfl rfl ?_
    refine jg_skip rfl rfl ?_
    refine jg_y (fun w hs => yv_pick_t rfl rfl) rfl rfl ?_
    refine jg_mv rfl rfl rfl ?_
    refine jg_skip rfl rfl ?_
    refine jg_skip rfl rfl ?_
    refine jg_skip rfl rfl ?_
    refine jg_y (fun w hs => yv_pick_t rfl rfl) rfl rfl ?_
    refine jg_mv rfl rfl rfl ?_
    refine jg_skip rfl rfl ?_
    refine jg_skip rfl rfl ?_
    refine jg_skip rfl rfl ?_
    refine jg_y (fun w hs => yv_pick_t rfl rfl) rfl rfl ?_
    refine jg_mv rfl rfl rfl ?_
    refine jg_skip rfl rfl ?_
    refine jg_skip rfl rfl ?_
    refine jg_skip rfl rfl ?_
    refine jg_y (fun w hs => yv_pick_t rfl rfl) rfl rfl ?_
    refine jg_nils [(1, _), (85, _)] ⟨rfl, rfl, trivial⟩ ?_
    refine jk_sn ?_
    refine jn_ct rfl ?_
    refine jn_seq ?_
    refine jn_reg 6 ?_
    refine jg_as rfl rfl rfl ?_
    refine jg_nils [(2, _)] ⟨rfl, trivial⟩ ?_
    refine jk_sn ?_
    refine jn_ret ?_
    refine jk_sr ?_
    exact jk_ret1 rfl (fun w hs => .tmp rfl) (fun w hs => ⟨rfl, hs.drop⟩)
  refine jg_y (fun w hs => yv_fieldAddr rfl) rfl rfl ?_
  refine jg_y (fun w hs => yv_load rfl (ld1B (hs.blkL (i := 0) rfl) rfl)) rfl rfl ?_
  refine jg_y (fun w hs => yv_gtr rfl rfl) rfl rfl ?_
  refine jg_y (fun w hs => yv_pick_f rfl rfl) rfl rfl ?_
  refine jg_mv rfl rfl rfl ?_
  refine jg_split 66 rfl ?_ ?_
  · refine jg_skip rfl rfl ?_
    refine jg_skip rfl rfl ?_
    refine jg_skip rfl rfl ?_
    refine jg_y (fun w hs => yv_pick_t rfl rfl) rfl rfl ?_
    refine jg_mv rfl rfl rfl ?_
    refine jg_skip rfl rfl ?_
    refine jg_skip rfl rfl ?_
    refine jg_skip rfl rfl ?_
    refine jg_y (fun w hs => yv_pick_t rfl rfl) rfl rfl ?_
    refine jg_mv rfl rfl rfl ?_
    refine jg_skip rfl rfl ?_
    refine jg_skip rfl rfl ?_
    refine jg_skip rfl rfl ?_
    refine jg_y (fun w hs => yv_pick_t rfl rfl) rfl rfl ?_
    refine jg_mv rfl rfl rfl ?_
    refine jg_skip rfl rfl ?_
    refine jg_skip rfl rfl ?_
    refine jg_skip rfl rfl ?_
    refine jg_y (fun w hs => yv_pick_t rfl rfl) rfl rfl ?_
    refine jg_nils [(1, _), (85, _)] ⟨rfl, rfl, trivial⟩ ?_
    refine jk_sn ?_
    refine jn_ct rfl ?_
    refine jn_seq ?_
    refine jn_reg 6 ?_
    refine jg_as rfl rfl rfl ?_
    refine jg_nils [(2, _)] ⟨rfl, trivial⟩ ?_
    refine jk_sn ?_
    refine jn_ret ?_
    refine jk_sr ?_
    exact jk_ret1 rfl (fun w hs => .tmp rfl) (fun w hs => ⟨rfl, hs.drop⟩)
  refine jg_y (fun w hs => yv_fieldAddr rfl) rfl rfl ?_
  refine jg_y (fun w hs => yv_load rfl (ld1B (hs.blkL (i := 0) rfl) rfl)) rfl rfl ?_
  refine jg_y (fun w hs => yv_lss rfl rfl) rfl rfl ?_
  refine jg_y (fun w hs => yv_pick_f rfl rfl) rfl rfl ?_
  refine jg_mv rfl rfl rfl ?_
  refine jg_split 71 rfl ?_ ?_
  · refine jg_skip rfl rfl ?_
    refine jg_skip rfl rfl ?_
    refine jg_skip rfl rfl ?_
    refine jg_y (fun w hs => yv_pick_t rfl rfl) rfl rfl ?_
    refine jg_mv rfl rfl rfl ?_
    refine jg_skip rfl rfl ?_
    refine jg_skip rfl rfl ?_
    refine jg_skip rfl rfl ?_
    refine jg_y (fun w hs => yv_pick_t rfl rfl) rfl rfl ?_
    refine jg_mv rfl rfl rfl ?_
    refine jg_skip rfl rfl ?_
    refine jg_skip rfl rfl ?_
    refine jg_skip rfl rfl ?_
    refine jg_y (fun w hs => yv_pick_t rfl rfl) rfl rfl ?_
    refine jg_nils [(1, _), (85, _)] ⟨rfl, rfl, trivial⟩ ?_
    refine jk_sn ?_
    refine jn_ct rfl ?_
    refine jn_seq ?_
    refine jn_reg 6 ?_
    refine jg_as rfl rfl rfl ?_
    refine jg_nils [(2, _)] ⟨rfl, trivial⟩ ?_
    refine jk_sn ?_
    refine jn_ret ?_
    refine jk_sr ?_
    exact jk_ret1 rfl (fun w hs => .tmp rfl) (fun w hs => ⟨rfl, hs.drop⟩)
  refine jg_y (fun w hs => yv_fieldAddr rfl) rfl rfl ?_
  refine jg_y (fun w hs => yv_load rfl (ld1B (hs.blkL (i := 0) rfl) rfl)) rfl rfl ?_
  refine jg_y (fun w hs => yv_gtr rfl rfl) rfl rfl ?_
  refine jg_y (fun w hs => yv_pick_f rfl rfl) rfl rfl ?_
  refine jg_mv rfl rfl rfl ?_
  refine jg_split 76 rfl ?_ ?_
  · refine jg_skip rfl rfl ?_
    refine jg_skip rfl rfl ?_
    refine jg_skip rfl rfl ?_
    refine jg_y (fun w hs => yv_pick_t rfl rfl) rfl rfl ?_
    refine jg_mv rfl rfl rfl ?_
    refine jg_skip rfl rfl ?_
    refine jg_skip rfl rfl ?_
    refine jg_skip rfl rfl ?_
    refine jg_y (fun w hs => yv_pick_t rfl rfl) rfl rfl ?_
    refine jg_nils [(1, _), (85, _)] ⟨rfl, rfl, trivial⟩ ?_
    refine jk_sn ?_
    refine jn_ct rfl ?_
    refine jn_seq ?_
    refine jn_reg 6 ?_
    refine jg_as rfl rfl rfl ?_
    refine jg_nils [(2, _)] ⟨rfl, trivial⟩ ?_
    refine jk_sn ?_
    refine jn_ret ?_
    refine jk_sr ?_
    exact jk_ret1 rfl (fun w hs => .tmp rfl) (fun w hs => ⟨rfl, hs.drop⟩)
  refine jg_y (fun w hs => yv_fieldAddr rfl) rfl rfl ?_
  refine jg_y (fun w hs => yv_load rfl (ld1B (hs.blkL (i := 0) rfl) rfl)) rfl rfl ?_
  refine jg_y (fun w hs => yv_lss rfl rfl) rfl rfl ?_
  refine jg_y (fun w hs => yv_pick_f rfl rfl) rfl rfl ?_
  refine jg_mv rfl rfl rfl ?_
  refine jg_split 81 rfl ?_ ?_
  · refine jg_skip rfl rfl ?_
    refine jg_skip rfl rfl ?_
    refine jg_skip rfl rfl ?_
    refine jg_y (fun w hs => yv_pick_t rfl rfl) rfl rfl ?_
    refine jg_nils [(1, _), (85, _)] ⟨rfl, rfl, trivial⟩ ?_
    refine jk_sn ?_
    refine jn_ct rfl ?_
    refine jn_seq ?_
    refine jn_reg 6 ?_
    refine jg_as rfl rfl rfl ?_
    refine jg_nils [(2, _)] ⟨rfl, trivial⟩ ?_
    refine jk_sn ?_
    refine jn_ret ?_
    refine jk_sr ?_
    exact jk_ret1 rfl (fun w hs => .tmp rfl) (fun w hs => ⟨rfl, hs.drop⟩)
  refine jg_y (fun w hs => yv_fieldAddr rfl) rfl rfl ?_
  refine jg_y (fun w hs => yv_load rfl (ld1B (hs.blkL (i := 0) rfl) rfl)) rfl rfl ?_
  refine jg_y (fun w hs => yv_gtr rfl rfl) rfl rfl ?_
  refine jg_y (fun w hs => yv_pick_f rfl rfl) rfl rfl ?_
  refine jg_nils [(1, _), (85, _)] ⟨rfl, rfl, trivial⟩ ?_
  refine jk_sn ?_
  refine jn_cond rfl ?_ ?_
  · refine jn_seq ?_
    refine jn_reg 6 ?_
    refine jg_as rfl rfl rfl ?_
    refine jg_nils [(2, _)] ⟨rfl, trivial⟩ ?_
    refine jk_sn ?_
    refine jn_ret ?_
    refine jk_sr ?_
    exact jk_ret1 rfl (fun w hs => .tmp rfl) (fun w hs => ⟨rfl, hs.drop⟩)
  refine jn_skip ?_
  refine jk_sn ?_
  refine jn_seq ?_
  refine jn_seq ?_
  refine jn_reg 7 ?_
  refine jg_y (fun w hs => yv_fieldAddr rfl) rfl rfl ?_
  refine jg_y (fun w hs => yv_load rfl (ld1B (hs.blkL (i := 0) rfl) rfl)) rfl rfl ?_
  refine jg_y (fun w hs => yv_eql rfl rfl) rfl rfl ?_
  refine jg_nils [(1, _), (88, _)] ⟨rfl, rfl, trivial⟩ ?_
  refine jk_sn ?_
  refine jn_cond rfl ?_ ?_
  rotate_left
  · refine jn_skip ?_
    refine jk_sn ?_
    refine jn_seq ?_
    refine jn_reg 9 ?_
    refine jg_y (fun w hs => yv_fieldAddr rfl) rfl rfl ?_
    refine jg_y (fun w hs => yv_load rfl (ld1B (hs.blkL (i := 0) rfl) rfl)) rfl rfl ?_
    refine jg_y (fun w hs => yv_eql rfl rfl) rfl rfl ?_
    refine jg_as rfl rfl rfl ?_
    refine jg_nils [(2, _)] ⟨rfl, trivial⟩ ?_
    refine jk_sn ?_
    refine jn_ret ?_
    exact jk_ret1 rfl (fun w hs => .tmp rfl) (fun w hs => ⟨rfl, hs.drop⟩)
  refine jn_seq ?_
  refine jn_reg 8 ?_
  refine jg_y (fun w hs => yv_fieldAddr rfl) rfl rfl ?_
  refine jg_y (fun w hs => yv_load rfl (ld1B (hs.blkL (i := 0) rfl) rfl)) rfl rfl ?_
  refine jg_y (fun w hs => yv_geq rfl rfl) rfl rfl ?_
  refine jg_mv rfl rfl rfl ?_
  refine jg_split 92 rfl ?_ ?_
  · refine jg_y (fun w hs => yv_fieldAddr rfl) rfl rfl ?_
    refine jg_y (fun w hs => yv_load rfl (ld1B (hs.blkL (i := 0) rfl) rfl)) rfl rfl ?_
    refine jg_y (fun w hs => yv_leq rfl rfl) rfl rfl ?_
    refine jg_y (fun w hs => yv_pick_t rfl rfl) rfl rfl ?_
    refine jg_as rfl rfl rfl ?_
    refine jg_nils [(2, _)] ⟨rfl, trivial⟩ ?_
    refine jk_sn ?_
    refine jn_ret ?_
    refine jk_sr ?_
    exact jk_ret1 rfl (fun w hs => .tmp rfl) (fun w hs => ⟨rfl, hs.drop⟩)
  refine jg_skip rfl rfl ?_
  refine jg_skip rfl rfl ?_
  refine jg_skip rfl rfl ?_
  refine jg_y (fun w hs => yv_pick_f rfl rfl) rfl rfl ?_
  refine jg_as rfl rfl rfl ?_
  refine jg_nils [(2, _)] ⟨rfl, trivial⟩ ?_
  refine jk_sn ?_
  refine jn_ret ?_
  refine jk_sr ?_
  exact jk_ret1 rfl (fun w hs => .tmp rfl) (fun w hs => ⟨rfl, hs.drop⟩)
theorem r09_fits_c {w : World} {a0 : (List Element)} {a1 : Int} {ha0 : Hd} {v : Int} (hm : r09_fits a0 a1 = some v) (Rha0 : Sl w ha0 Element.enc a0) : Gives Try.prog 84 [ha0.v, .int .i64 a1] w (.int .i64 v) := by
  refine j_gives (vs := [ha0.v, .int .i64 a1]) (U := fun (v : Int) => .int .i64 v) Try.func84 rfl Try.ntmps84 rfl rfl hm ?_
  unfold r09_fits
  clear hm
  refine jn_seq ?_
  refine jn_reg 0 ?_
  refine jg_as rfl rfl rfl ?_
  refine jg_nils [(0, _), (1, _)] ⟨rfl, rfl, trivial⟩ ?_
  refine jk_sn ?_
  refine jn_seq ?_
  refine jn_reg 1 ?_
  refine jg_mv rfl rfl rfl ?_
  refine jg_mv rfl rfl rfl ?_
  refine jg_ix fun x1 h2 => ?_
  refine jg_y (fun w hs => yv_ix rfl rfl (hs.arg Rha0) h2) rfl rfl ?_
  refine jg_y (fun w hs => yv_eS rfl (hs.arg Rha0) h2.1 (l8 rfl) rfl) rfl rfl ?_
  refine jg_alloc (l8 rfl) rfl rfl fun g3 => ?_
  refine jg_store 0 rfl rfl rfl (l8 rfl) rfl rfl rfl rfl (l8 rfl) (r1 rfl) ?_
  refine jg_nils [(0, _), (1, _), (5, _)] ⟨rfl, rfl, rfl, trivial⟩ ?_
  refine jk_sn ?_
  refine jn_seq ?_
  refine jn_seq ?_
  refine jn_reg 2 ?_
  refine jg_y (fun w hs => yv_load rfl (ldBB (hs.blkL (i := 0) rfl) rfl)) rfl rfl ?_
  refine jg_c0 rfl (fun v w hs hm => r09_sound_c (a0 := x1) hm ) rfl rfl fun v4 => ?_
  refine jg_y (fun w hs => yv_not rfl) rfl rfl ?_
  refine jg_mv rfl rfl rfl ?_
  refine jg_split 16 rfl ?_ ?_
  · refine jg_skip rfl rfl ?_
    refine jg_skip rfl rfl ?_
    refine jg_skip rfl rfl ?_
    refine jg_skip rfl rfl ?_
    refine jg_skip rfl rfl ?_
    refine jg_skip rfl rfl ?_
    refine jg_y (fun w hs => yv_pick_t rfl rfl) rfl rfl ?_
    refine jg_nils [(0, _), (1, _), (5, _), (23, _)] ⟨rfl, rfl, rfl, rfl, trivial⟩ ?_
    refine jk_sn ?_
    refine jn_ct rfl ?_
    refine jn_seq ?_
    refine jn_reg 3 ?_
    refine jg_as rfl rfl rfl ?_
    refine jg_nils [(4, _)] ⟨rfl, trivial⟩ ?_
    refine jk_sn ?_
    refine jn_ret ?_
    refine jk_sr ?_
    exact jk_ret1 rfl (fun w hs => .tmp rfl) (fun w hs => ⟨rfl, hs.drop⟩)
  refine jg_y (fun w hs => yv_fieldAddr rfl) rfl rfl ?_
  refine jg_y (fun w hs => yv_load rfl (ld1B (hs.blkL (i := 0) rfl) rfl)) rfl rfl ?_
  refine jg_y (fun w hs => yv_eql rfl rfl) rfl rfl ?_
  refine jg_mv rfl rfl rfl ?_
  refine jg_y (fun w hs => yv_eql rfl rfl) rfl rfl ?_
  refine jg_y (fun w hs => yv_neqb Try.underlying4 rfl rfl) rfl rfl ?_
  refine jg_y (fun w hs => yv_pick_f rfl rfl) rfl rfl ?_
  refine jg_nils [(0, _), (1, _), (5, _), (23, _)] ⟨rfl, rfl, rfl, rfl, trivial⟩ ?_
  refine jk_sn ?_
  refine jn_cond rfl ?_ ?_
  · refine jn_seq ?_
    refine jn_reg 3 ?_
    refine jg_as rfl rfl rfl ?_
    refine jg_nils [(4, _)] ⟨rfl, trivial⟩ ?_
    refine jk_sn ?_
    refine jn_ret ?_
    refine jk_sr ?_
    exact jk_ret1 rfl (fun w hs => .tmp rfl) (fun w hs => ⟨rfl, hs.drop⟩)
  refine jn_skip ?_
  refine jk_sn ?_
  refine jn_join (fun (s : Unit) (g : Unit) => [(0, ha0.v), (1, .int .i64 a1), (5, .pointer (some ⟨g3, 0, none⟩))]) (fun (s : Unit) (g : Unit) => []) (fun (s : Unit) (g : Unit) => [(Res.blk g3 85 [.int .i64 x1.Kind, .string x1.Name, .int .i64 x1.Parent, .int .i64 x1.Side, .int .i64 x1.Length, .int .i64 x1.Grade, .int .i64 x1.Curve, .int .i64 x1.Power])]) ?_ ?_
  rotate_left
  · intro k7 H8
    refine jn_seq ?_
    refine jn_reg 4 ?_
    refine jg_as rfl rfl rfl ?_
    refine jg_nils [(0, _), (1, _), (5, _), (6, _)] ⟨rfl, rfl, rfl, rfl, trivial⟩ ?_
    refine jk_sn ?_
    refine jn_block ?_
    refine jn_lp (n := big) (fun (s : Int) (g : Unit) => [(0, ha0.v), (1, .int .i64 a1), (5, .pointer (some ⟨g3, 0, none⟩)), (6, .int .i64 s)]) (fun (s : Int) (g : Unit) => []) (fun (s : Int) (g : Unit) => [(Res.blk g3 85 [.int .i64 x1.Kind, .string x1.Name, .int .i64 x1.Parent, .int .i64 x1.Side, .int .i64 x1.Length, .int .i64 x1.Grade, .int .i64 x1.Curve, .int .i64 x1.Power])]) 0 () [0] ⟨rfl, rfl, rfl, rfl, trivial⟩ rfl rfl rfl ?_
    intro z20 q21 n24 k22 H23
    refine jn_seq ?_
    refine jn_seq ?_
    refine jn_reg 5 ?_
    refine jg_mv rfl rfl rfl ?_
    refine jg_mv rfl rfl rfl ?_
    refine jg_y (fun w hs => yv_lss rfl rfl) rfl rfl ?_
    refine jg_nils [(0, _), (1, _), (5, _), (6, _), (26, _)] ⟨rfl, rfl, rfl, rfl, rfl, trivial⟩ ?_
    refine jk_sn ?_
    refine jn_cond rfl ?_ ?_
    rotate_left
    · refine jn_exit ?_
      refine jk_se (jk_le (jk_bh ?_))
      exact jk_use H8 () () [0] ⟨rfl, rfl, rfl, trivial⟩ rfl rfl rfl
    refine jn_skip ?_
    refine jk_sn ?_
    refine jn_seq ?_
    refine jn_block ?_
    refine jn_seq ?_
    refine jn_draw (L' := [_]) 7 [0] [0, 1, 2, 3, 4, 5, 6, 7] 255 255 [0, 0, 3, 4, 8, 0, 32, 80] [0, 0, 3, 7, 15, 0, 32, 127] [(0, true), (1, true), (2, true), (3, true), (4, true), (5, true), (6, true), (7, true)] rfl (np_seq (np_blk (np_seq (np_rnd (np_blk (np_seq np_rt)))))) (by kernel_rfl) (by kernel_rfl) (by kernel_rfl) (by kernel_rfl) (by kernel_rfl) (by kernel_rfl) (by kernel_rfl) (by kernel_rfl) ?_
    refine jd_mv rfl rfl rfl rfl ?_
    refine jd_mv rfl rfl rfl rfl ?_
    refine jd_ix fun x25 h26 => ?_
    refine jd_y rfl (fun w hs => yv_ix rfl rfl (hs.arg Rha0) h26) rfl rfl ?_
    refine jd_y rfl (fun w hs => yv_ef rfl (hs.arg Rha0) h26.1) rfl rfl ?_
    refine jd_y rfl (fun w hs => yv_e1 rfl (hs.arg Rha0) h26.1 rfl) rfl rfl ?_
    refine jd_y rfl (fun w hs => yv_fieldAddr rfl) rfl rfl ?_
    refine jd_y rfl (fun w hs => yv_load rfl (ld1B (hs.blk (i := 0) rfl) rfl)) rfl rfl ?_
    refine jd_y rfl (fun w hs => yv_eqlz Try.underlying9 rfl rfl) rfl rfl ?_
    refine jd_nils [(0, _), (1, _), (5, _), (6, _), (36, _)] ⟨rfl, rfl, rfl, rfl, rfl, trivial⟩ ?_
    refine jk_sn ?_
    refine jn_cond rfl ?_ ?_
    · refine jn_seq ?_
      refine jn_reg 8 ?_
      refine jg_as rfl rfl rfl ?_
      refine jg_nils [(4, _)] ⟨rfl, trivial⟩ ?_
      refine jk_sn ?_
      refine jn_ret ?_
      refine jk_br (jk_sr (jk_lr (jk_br (jk_sr ?_))))
      exact jk_ret1 rfl (fun w hs => .tmp rfl) (fun w hs => ⟨rfl, hs.drop⟩)
    refine jn_skip ?_
    refine jk_bn (jk_sn ?_)
    refine jn_reg 6 ?_
    refine jg_mv rfl rfl rfl ?_
    refine jg_y (fun w hs => yv_add_w rfl rfl) rfl rfl ?_
    refine jg_as rfl rfl rfl ?_
    refine jg_nils [(0, _), (1, _), (5, _), (6, _)] ⟨rfl, rfl, rfl, rfl, trivial⟩ ?_
    exact jk_use H23 (w64 (z20 + 1)) () [0] ⟨rfl, rfl, rfl, rfl, trivial⟩ rfl rfl rfl
  intro z5 q6
  refine jn_seq ?_
  refine jn_seq ?_
  refine jn_reg 9 ?_
  refine jg_mv rfl rfl rfl ?_
  refine jg_y (fun w hs => yv_eql rfl rfl) rfl rfl ?_
  refine jg_nils [(0, _), (1, _), (5, _), (38, _)] ⟨rfl, rfl, rfl, rfl, trivial⟩ ?_
  refine jk_sn ?_
  refine jn_cond rfl ?_ ?_
  · refine jn_seq ?_
    refine jn_reg 10 ?_
    refine jg_as rfl rfl rfl ?_
    refine jg_nils [(4, _)] ⟨rfl, trivial⟩ ?_
    refine jk_sn ?_
    refine jn_ret ?_
    refine jk_sr ?_
    exact jk_ret1 rfl (fun w hs => .tmp rfl) (fun w hs => ⟨rfl, hs.drop⟩)
  refine jn_skip ?_
  refine jk_sn ?_
  refine jn_seq ?_
  refine jn_seq ?_
  refine jn_reg 11 ?_
  refine jg_y (fun w hs => yv_fieldAddr rfl) rfl rfl ?_
  refine jg_y (fun w hs => yv_load rfl (ld1B (hs.blkL (i := 0) rfl) rfl)) rfl rfl ?_
  refine jg_y (fun w hs => yv_lss rfl rfl) rfl rfl ?_
  refine jg_mv rfl rfl rfl ?_
  refine jg_split 42 rfl ?_ ?_
  · refine jg_skip rfl rfl ?_
    refine jg_skip rfl rfl ?_
    refine jg_skip rfl rfl ?_
    refine jg_skip rfl rfl ?_
    refine jg_y (fun w hs => yv_pick_t rfl rfl) rfl rfl ?_
    refine jg_nils [(0, _), (1, _), (5, _), (47, _)] ⟨rfl, rfl, rfl, rfl, trivial⟩ ?_
    refine jk_sn ?_
    refine jn_ct rfl ?_
    refine jn_seq ?_
    refine jn_reg 12 ?_
    refine jg_as rfl rfl rfl ?_
    refine jg_nils [(4, _)] ⟨rfl, trivial⟩ ?_
    refine jk_sn ?_
    refine jn_ret ?_
    refine jk_sr ?_
    exact jk_ret1 rfl (fun w hs => .tmp rfl) (fun w hs => ⟨rfl, hs.drop⟩)
  refine jg_y (fun w hs => yv_fieldAddr rfl) rfl rfl ?_
  refine jg_y (fun w hs => yv_load rfl (ld1B (hs.blkL (i := 0) rfl) rfl)) rfl rfl ?_
  refine jg_mv rfl rfl rfl ?_
  refine jg_y (fun w hs => yv_geq rfl rfl) rfl rfl ?_
  refine jg_y (fun w hs => yv_pick_f rfl rfl) rfl rfl ?_
  refine jg_nils [(0, _), (1, _), (5, _), (47, _)] ⟨rfl, rfl, rfl, rfl, trivial⟩ ?_
  refine jk_sn ?_
  refine jn_cond rfl ?_ ?_
  · refine jn_seq ?_
    refine jn_reg 12 ?_
    refine jg_as rfl rfl rfl ?_
    refine jg_nils [(4, _)] ⟨rfl, trivial⟩ ?_
    refine jk_sn ?_
    refine jn_ret ?_
    refine jk_sr ?_
    exact jk_ret1 rfl (fun w hs => .tmp rfl) (fun w hs => ⟨rfl, hs.drop⟩)
  refine jn_skip ?_
  refine jk_sn ?_
  refine jn_seq ?_
  refine jn_reg 13 ?_
  refine jg_mv rfl rfl rfl ?_
  refine jg_y (fun w hs => yv_fieldAddr rfl) rfl rfl ?_
  refine jg_y (fun w hs => yv_load rfl (ld1B (hs.blkL (i := 0) rfl) rfl)) rfl rfl ?_
  refine jg_ix fun x9 h10 => ?_
  refine jg_y (fun w hs => yv_ix rfl rfl (hs.arg Rha0) h10) rfl rfl ?_
  refine jg_y (fun w hs => yv_ef rfl (hs.arg Rha0) h10.1) rfl rfl ?_
  refine jg_y (fun w hs => yv_e1 rfl (hs.arg Rha0) h10.1 rfl) rfl rfl ?_
  refine jg_as rfl rfl rfl ?_
  refine jg_nils [(0, _), (1, _), (5, _), (7, _)] ⟨rfl, rfl, rfl, rfl, trivial⟩ ?_
  refine jk_sn ?_
  refine jn_seq ?_
  refine jn_seq ?_
  refine jn_reg 14 ?_
  refine jg_mv rfl rfl rfl ?_
  refine jg_y (fun w hs => yv_eql rfl rfl) rfl rfl ?_
  refine jg_mv rfl rfl rfl ?_
  refine jg_split 56 rfl ?_ ?_
  · refine jg_skip rfl rfl ?_
    refine jg_skip rfl rfl ?_
    refine jg_skip rfl rfl ?_
    refine jg_skip rfl rfl ?_
    refine jg_skip rfl rfl ?_
    refine jg_skip rfl rfl ?_
    refine jg_y (fun w hs => yv_pick_t rfl rfl) rfl rfl ?_
    refine jg_nils [(0, _), (1, _), (5, _), (63, _)] ⟨rfl, rfl, rfl, rfl, trivial⟩ ?_
    refine jk_sn ?_
    refine jn_ct rfl ?_
    refine jn_seq ?_
    refine jn_reg 15 ?_
    refine jg_as rfl rfl rfl ?_
    refine jg_nils [(4, _)] ⟨rfl, trivial⟩ ?_
    refine jk_sn ?_
    refine jn_ret ?_
    refine jk_sr ?_
    exact jk_ret1 rfl (fun w hs => .tmp rfl) (fun w hs => ⟨rfl, hs.drop⟩)
  refine jg_mv rfl rfl rfl ?_
  refine jg_y (fun w hs => yv_eql rfl rfl) rfl rfl ?_
  refine jg_y (fun w hs => yv_fieldAddr rfl) rfl rfl ?_
  refine jg_y (fun w hs => yv_load rfl (ld1B (hs.blkL (i := 0) rfl) rfl)) rfl rfl ?_
  refine jg_y (fun w hs => yv_eql rfl rfl) rfl rfl ?_
  refine jg_y (fun w hs => yv_eqlb Try.underlying4 rfl rfl) rfl rfl ?_
  refine jg_y (fun w hs => yv_pick_f rfl rfl) rfl rfl ?_
  refine jg_nils [(0, _), (1, _), (5, _), (63, _)] ⟨rfl, rfl, rfl, rfl, trivial⟩ ?_
  refine jk_sn ?_
  refine jn_cond rfl ?_ ?_
  · refine jn_seq ?_
    refine jn_reg 15 ?_
    refine jg_as rfl rfl rfl ?_
    refine jg_nils [(4, _)] ⟨rfl, trivial⟩ ?_
    refine jk_sn ?_
    refine jn_ret ?_
    refine jk_sr ?_
    exact jk_ret1 rfl (fun w hs => .tmp rfl) (fun w hs => ⟨rfl, hs.drop⟩)
  refine jn_skip ?_
  refine jk_sn ?_
  refine jn_seq ?_
  refine jn_seq ?_
  refine jn_reg 16 ?_
  refine jg_as rfl rfl rfl ?_
  refine jg_nils [(0, _), (1, _), (5, _), (8, _)] ⟨rfl, rfl, rfl, rfl, trivial⟩ ?_
  refine jk_sn ?_
  refine jn_block ?_
  refine jn_lp (n := big) (fun (s : Int) (g : Unit) => [(0, ha0.v), (1, .int .i64 a1), (5, .pointer (some ⟨g3, 0, none⟩)), (8, .int .i64 s)]) (fun (s : Int) (g : Unit) => []) (fun (s : Int) (g : Unit) => [(Res.blk g3 85 [.int .i64 x1.Kind, .string x1.Name, .int .i64 x1.Parent, .int .i64 x1.Side, .int .i64 x1.Length, .int .i64 x1.Grade, .int .i64 x1.Curve, .int .i64 x1.Power])]) 1 () [0] ⟨rfl, rfl, rfl, rfl, trivial⟩ rfl rfl rfl ?_
  intro z11 q12 n15 k13 H14
  refine jn_seq ?_
  refine jn_seq ?_
  refine jn_reg 17 ?_
  refine jg_mv rfl rfl rfl ?_
  refine jg_mv rfl rfl rfl ?_
  refine jg_y (fun w hs => yv_lss rfl rfl) rfl rfl ?_
  refine jg_nils [(0, _), (1, _), (5, _), (8, _), (66, _)] ⟨rfl, rfl, rfl, rfl, rfl, trivial⟩ ?_
  refine jk_sn ?_
  refine jn_cond rfl ?_ ?_
  rotate_left
  · refine jn_exit ?_
    refine jk_se (jk_le (jk_bh (jk_sn ?_)))
    refine jn_seq ?_
    refine jn_reg 21 ?_
    refine jg_as rfl rfl rfl ?_
    refine jg_nils [(4, _)] ⟨rfl, trivial⟩ ?_
    refine jk_sn ?_
    refine jn_ret ?_
    exact jk_ret1 rfl (fun w hs => .tmp rfl) (fun w hs => ⟨rfl, hs.drop⟩)
  refine jn_skip ?_
  refine jk_sn ?_
  refine jn_seq ?_
  refine jn_block ?_
  refine jn_seq ?_
  refine jn_draw (L' := [_]) 19 [0] [0, 1, 2, 3, 4, 5, 6, 7, 8, 9, 10, 11, 12, 13, 14, 15, 16, 17] 262143 262143 [0, 0, 3, 4, 8, 0, 32, 80, 128, 256, 256, 1792, 2304, 4352, 256, 16640, 41216, 65792] [0, 0, 3, 7, 15, 0, 32, 127, 255, 511, 511, 2047, 4095, 8191, 511, 16895, 65535, 131071] [(0, true), (1, true), (2, true), (3, true), (4, true), (5, true), (6, true), (7, true), (8, true), (9, true), (10, true), (11, true), (12, true), (13, true), (14, true), (15, true), (16, true), (17, true)] rfl (np_seq (np_blk (np_seq (np_rnd (np_blk (np_seq np_rt)))))) (by kernel_rfl) (by kernel_rfl) (by kernel_rfl) (by kernel_rfl) (by kernel_rfl) (by kernel_rfl) (by kernel_rfl) (by kernel_rfl) ?_
  refine jd_mv rfl rfl rfl rfl ?_
  refine jd_mv rfl rfl rfl rfl ?_
  refine jd_ix fun x16 h17 => ?_
  refine jd_y rfl (fun w hs => yv_ix rfl rfl (hs.arg Rha0) h17) rfl rfl ?_
  refine jd_y rfl (fun w hs => yv_ef rfl (hs.arg Rha0) h17.1) rfl rfl ?_
  refine jd_y rfl (fun w hs => yv_e1 rfl (hs.arg Rha0) h17.1 rfl) rfl rfl ?_
  refine jd_y rfl (fun w hs => yv_fieldAddr rfl) rfl rfl ?_
  refine jd_y rfl (fun w hs => yv_load rfl (ld1B (hs.blk (i := 0) rfl) rfl)) rfl rfl ?_
  refine jd_y rfl (fun w hs => yv_eql rfl rfl) rfl rfl ?_
  refine jd_mv rfl rfl rfl rfl ?_
  refine jd_split 77 rfl ?_ ?_
  rotate_left
  · refine jd_skip rfl rfl rfl ?_
    refine jd_skip rfl rfl rfl ?_
    refine jd_skip rfl rfl rfl ?_
    refine jd_skip rfl rfl rfl ?_
    refine jd_skip rfl rfl rfl ?_
    refine jd_skip rfl rfl rfl ?_
    refine jd_skip rfl rfl rfl ?_
    refine jd_skip rfl rfl rfl ?_
    refine jd_y rfl (fun w hs => yv_pick_f rfl rfl) rfl rfl ?_
    refine jd_nils [(0, _), (1, _), (5, _), (8, _), (86, _)] ⟨rfl, rfl, rfl, rfl, rfl, trivial⟩ ?_
    refine jk_sn ?_
    refine jn_cf rfl ?_
    refine jn_skip ?_
    refine jk_bn (jk_sn ?_)
    refine jn_reg 18 ?_
    refine jg_mv rfl rfl rfl ?_
    refine jg_y (fun w hs => yv_add_w rfl rfl) rfl rfl ?_
    refine jg_as rfl rfl rfl ?_
    refine jg_nils [(0, _), (1, _), (5, _), (8, _)] ⟨rfl, rfl, rfl, rfl, trivial⟩ ?_
    exact jk_use H14 (w64 (z11 + 1)) () [0] ⟨rfl, rfl, rfl, rfl, trivial⟩ rfl rfl rfl
  refine jd_mv rfl rfl rfl rfl ?_
  refine jd_mv rfl rfl rfl rfl ?_
  refine jd_ix fun x18 h19 => ?_
  refine jd_y rfl (fun w hs => yv_ix rfl rfl (hs.arg Rha0) h19) rfl rfl ?_
  refine jd_y rfl (fun w hs => yv_ef rfl (hs.arg Rha0) h19.1) rfl rfl ?_
  refine jd_y rfl (fun w hs => yv_e1 rfl (hs.arg Rha0) h19.1 rfl) rfl rfl ?_
  refine jd_y rfl (fun w hs => yv_fieldAddr rfl) rfl rfl ?_
  refine jd_y rfl (fun w hs => yv_load rfl (ld1B (hs.blk (i := 0) rfl) rfl)) rfl rfl ?_
  refine jd_y rfl (fun w hs => yv_eql rfl rfl) rfl rfl ?_
  refine jd_y rfl (fun w hs => yv_pick_t rfl rfl) rfl rfl ?_
  refine jd_nils [(0, _), (1, _), (5, _), (8, _), (86, _)] ⟨rfl, rfl, rfl, rfl, rfl, trivial⟩ ?_
  refine jk_sn ?_
  refine jn_cond rfl ?_ ?_
  · refine jn_seq ?_
    refine jn_reg 20 ?_
    refine jg_as rfl rfl rfl ?_
    refine jg_nils [(4, _)] ⟨rfl, trivial⟩ ?_
    refine jk_sn ?_
    refine jn_ret ?_
    refine jk_br (jk_sr (jk_lr (jk_br (jk_sr ?_))))
    exact jk_ret1 rfl (fun w hs => .tmp rfl) (fun w hs => ⟨rfl, hs.drop⟩)
  refine jn_skip ?_
  refine jk_bn (jk_sn ?_)
  refine jn_reg 18 ?_
  refine jg_mv rfl rfl rfl ?_
  refine jg_y (fun w hs => yv_add_w rfl rfl) rfl rfl ?_
  refine jg_as rfl rfl rfl ?_
  refine jg_nils [(0, _), (1, _), (5, _), (8, _)] ⟨rfl, rfl, rfl, rfl, trivial⟩ ?_
  exact jk_use H14 (w64 (z11 + 1)) () [0] ⟨rfl, rfl, rfl, rfl, trivial⟩ rfl rfl rfl
theorem r09_Valid_c {w : World} {a0 : (List Element)} {ha0 : Hd} {v : Int} (hm : r09_Valid a0 = some v) (Rha0 : Sl w ha0 Element.enc a0) : Gives Try.prog 73 [ha0.v] w (.int .i64 v) := by
  refine j_gives (vs := [ha0.v]) (U := fun (v : Int) => .int .i64 v) Try.func73 rfl Try.ntmps73 rfl rfl hm ?_
  unfold r09_Valid
  clear hm
  refine jn_seq ?_
  refine jn_reg 0 ?_
  refine jg_as rfl rfl rfl ?_
  refine jg_nils [(0, _)] ⟨rfl, trivial⟩ ?_
  refine jk_sn ?_
  refine jn_seq ?_
  refine jn_seq ?_
  refine jn_reg 1 ?_
  refine jg_mv rfl rfl rfl ?_
  refine jg_y (fun w hs => yv_ln rfl (hs.arg Rha0)) rfl rfl ?_
  refine jg_y (fun w hs => yv_gtr rfl rfl) rfl rfl ?_
  refine jg_nils [(0, _), (12, _)] ⟨rfl, rfl, trivial⟩ ?_
  refine jk_sn ?_
  refine jn_cond rfl ?_ ?_
  · refine jn_seq ?_
    refine jn_reg 2 ?_
    refine jg_as rfl rfl rfl ?_
    refine jg_nils [(2, _)] ⟨rfl, trivial⟩ ?_
    refine jk_sn ?_
    refine jn_ret ?_
    refine jk_sr ?_
    exact jk_ret1 rfl (fun w hs => .tmp rfl) (fun w hs => ⟨rfl, hs.drop⟩)
  refine jn_skip ?_
  refine jk_sn ?_
  refine jn_seq ?_
  refine jn_seq ?_
  refine jn_reg 3 ?_
  refine jg_mv rfl rfl rfl ?_
  refine jg_y (fun w hs => yv_ln rfl (hs.arg Rha0)) rfl rfl ?_
  refine jg_y (fun w hs => yv_eql rfl rfl) rfl rfl ?_
  refine jg_nils [(0, _), (15, _)] ⟨rfl, rfl, trivial⟩ ?_
  refine jk_sn ?_
  refine jn_cond rfl ?_ ?_
  · refine jn_seq ?_
    refine jn_reg 4 ?_
    refine jg_as rfl rfl rfl ?_
    refine jg_nils [(2, _)] ⟨rfl, trivial⟩ ?_
    refine jk_sn ?_
    refine jn_ret ?_
    refine jk_sr ?_
    exact jk_ret1 rfl (fun w hs => .tmp rfl) (fun w hs => ⟨rfl, hs.drop⟩)
  refine jn_skip ?_
  refine jk_sn ?_
  refine jn_seq ?_
  refine jn_reg 5 ?_
  refine jg_as rfl rfl rfl ?_
  refine jg_nils [(0, _), (3, _)] ⟨rfl, rfl, trivial⟩ ?_
  refine jk_sn ?_
  refine jn_join (fun (s : Int) (g : Unit) => [(0, ha0.v), (3, .int .i64 s)]) (fun (s : Int) (g : Unit) => []) (fun (s : Int) (g : Unit) => []) ?_ ?_
  rotate_left
  · intro k3 H4
    refine jn_seq ?_
    refine jn_reg 6 ?_
    refine jg_as rfl rfl rfl ?_
    refine jg_nils [(0, _), (3, _), (4, _)] ⟨rfl, rfl, rfl, trivial⟩ ?_
    refine jk_sn ?_
    refine jn_block ?_
    refine jn_lp (n := big) (fun (s : (Int × Int)) (g : Unit) => [(0, ha0.v), (3, .int .i64 s.1), (4, .int .i64 s.2)]) (fun (s : (Int × Int)) (g : Unit) => []) (fun (s : (Int × Int)) (g : Unit) => []) (0, 0) () [] ⟨rfl, rfl, rfl, trivial⟩ rfl rfl rfl ?_
    intro z23 q24 n27 k25 H26
    refine jn_seq ?_
    refine jn_seq ?_
    refine jn_reg 7 ?_
    refine jg_mv rfl rfl rfl ?_
    refine jg_mv rfl rfl rfl ?_
    refine jg_y (fun w hs => yv_ln rfl (hs.arg Rha0)) rfl rfl ?_
    refine jg_y (fun w hs => yv_lss rfl rfl) rfl rfl ?_
    refine jg_nils [(0, _), (3, _), (4, _), (19, _)] ⟨rfl, rfl, rfl, rfl, trivial⟩ ?_
    refine jk_sn ?_
    refine jn_cond rfl ?_ ?_
    rotate_left
    · refine jn_exit ?_
      refine jk_se (jk_le (jk_bh ?_))
      exact jk_use H4 z23.1 () [] ⟨rfl, rfl, trivial⟩ rfl rfl rfl
    refine jn_skip ?_
    refine jk_sn ?_
    refine jn_seq ?_
    refine jn_block ?_
    refine jn_seq ?_
    refine jn_seq ?_
    refine jn_reg 9 ?_
    refine jg_mv rfl rfl rfl ?_
    refine jg_mv rfl rfl rfl ?_
    refine jg_c0 rfl (fun v w hs hm => r09_fits_c hm (hs.arg Rha0)) rfl rfl fun v28 => ?_
    refine jg_as rfl rfl rfl ?_
    refine jg_nils [(0, _), (3, _), (4, _), (5, _)] ⟨rfl, rfl, rfl, rfl, trivial⟩ ?_
    refine jk_sn ?_
    refine jn_seq ?_
    refine jn_reg 10 ?_
    refine jg_mv rfl rfl rfl ?_
    refine jg_y (fun w hs => yv_neq rfl rfl) rfl rfl ?_
    refine jg_nils [(0, _), (3, _), (4, _), (5, _), (26, _)] ⟨rfl, rfl, rfl, rfl, rfl, trivial⟩ ?_
    refine jk_sn ?_
    refine jn_cond rfl ?_ ?_
    · refine jn_seq ?_
      refine jn_reg 11 ?_
      refine jg_mv rfl rfl rfl ?_
      refine jg_as rfl rfl rfl ?_
      refine jg_nils [(2, _)] ⟨rfl, trivial⟩ ?_
      refine jk_sn ?_
      refine jn_ret ?_
      refine jk_sr (jk_br (jk_sr (jk_lr (jk_br (jk_sr ?_)))))
      exact jk_ret1 rfl (fun w hs => .tmp rfl) (fun w hs => ⟨rfl, hs.drop⟩)
    refine jn_skip ?_
    refine jk_sn ?_
    refine jn_seq ?_
    refine jn_reg 12 ?_
    refine jg_mv rfl rfl rfl ?_
    refine jg_mv rfl rfl rfl ?_
    refine jg_ix fun x29 h30 => ?_
    refine jg_y (fun w hs => yv_ix rfl rfl (hs.arg Rha0) h30) rfl rfl ?_
    refine jg_y (fun w hs => yv_ef rfl (hs.arg Rha0) h30.1) rfl rfl ?_
    refine jg_y (fun w hs => yv_e1 rfl (hs.arg Rha0) h30.1 rfl) rfl rfl ?_
    refine jg_y (fun w hs => yv_eql rfl rfl) rfl rfl ?_
    refine jg_nils [(0, _), (3, _), (4, _), (33, _)] ⟨rfl, rfl, rfl, rfl, trivial⟩ ?_
    refine jk_sn ?_
    refine jn_cond rfl ?_ ?_
    rotate_left
    · refine jn_skip ?_
      refine jk_bn (jk_sn ?_)
      refine jn_reg 8 ?_
      refine jg_mv rfl rfl rfl ?_
      refine jg_y (fun w hs => yv_add_w rfl rfl) rfl rfl ?_
      refine jg_as rfl rfl rfl ?_
      refine jg_nils [(0, _), (3, _), (4, _)] ⟨rfl, rfl, rfl, trivial⟩ ?_
      exact jk_use H26 (z23.1, w64 (z23.2 + 1)) () [] ⟨rfl, rfl, rfl, trivial⟩ rfl rfl rfl
    refine jn_reg 13 ?_
    refine jg_mv rfl rfl rfl ?_
    refine jg_y (fun w hs => yv_add_w rfl rfl) rfl rfl ?_
    refine jg_as rfl rfl rfl ?_
    refine jg_nils [(0, _), (3, _), (4, _)] ⟨rfl, rfl, rfl, trivial⟩ ?_
    refine jk_bn (jk_sn ?_)
    refine jn_reg 8 ?_
    refine jg_mv rfl rfl rfl ?_
    refine jg_y (fun w hs => yv_add_w rfl rfl) rfl rfl ?_
    refine jg_as rfl rfl rfl ?_
    refine jg_nils [(0, _), (3, _), (4, _)] ⟨rfl, rfl, rfl, trivial⟩ ?_
    exact jk_use H26 (w64 (z23.1 + 1), w64 (z23.2 + 1)) () [] ⟨rfl, rfl, rfl, trivial⟩ rfl rfl rfl
  intro z1 q2
  refine jn_seq ?_
  refine jn_seq ?_
  refine jn_reg 14 ?_
  refine jg_as rfl rfl rfl ?_
  refine jg_nils [(0, _), (3, _), (6, _)] ⟨rfl, rfl, rfl, trivial⟩ ?_
  refine jk_sn ?_
  refine jn_block ?_
  refine jn_lp (n := big) (fun (s : Int) (g : Unit) => [(0, ha0.v), (3, .int .i64 z1), (6, .int .i64 s)]) (fun (s : Int) (g : Unit) => []) (fun (s : Int) (g : Unit) => []) 0 () [] ⟨rfl, rfl, rfl, trivial⟩ rfl rfl rfl ?_
  intro z5 q6 n9 k7 H8
  refine jn_seq ?_
  refine jn_seq ?_
  refine jn_reg 15 ?_
  refine jg_mv rfl rfl rfl ?_
  refine jg_mv rfl rfl rfl ?_
  refine jg_y (fun w hs => yv_ln rfl (hs.arg Rha0)) rfl rfl ?_
  refine jg_y (fun w hs => yv_lss rfl rfl) rfl rfl ?_
  refine jg_nils [(0, _), (3, _), (6, _), (39, _)] ⟨rfl, rfl, rfl, rfl, trivial⟩ ?_
  refine jk_sn ?_
  refine jn_cond rfl ?_ ?_
  rotate_left
  · refine jn_exit ?_
    refine jk_se (jk_le (jk_bh (jk_sn ?_)))
    refine jn_seq ?_
    refine jn_seq ?_
    refine jn_reg 31 ?_
    refine jg_mv rfl rfl rfl ?_
    refine jg_y (fun w hs => yv_gtr rfl rfl) rfl rfl ?_
    refine jg_nils [(70, _)] ⟨rfl, trivial⟩ ?_
    refine jk_sn ?_
    refine jn_cond rfl ?_ ?_
    · refine jn_seq ?_
      refine jn_reg 32 ?_
      refine jg_as rfl rfl rfl ?_
      refine jg_nils [(2, _)] ⟨rfl, trivial⟩ ?_
      refine jk_sn ?_
      refine jn_ret ?_
      refine jk_sr ?_
      exact jk_ret1 rfl (fun w hs => .tmp rfl) (fun w hs => ⟨rfl, hs.drop⟩)
    refine jn_skip ?_
    refine jk_sn ?_
    refine jn_seq ?_
    refine jn_reg 33 ?_
    refine jg_as rfl rfl rfl ?_
    refine jg_nils [(2, _)] ⟨rfl, trivial⟩ ?_
    refine jk_sn ?_
    refine jn_ret ?_
    exact jk_ret1 rfl (fun w hs => .tmp rfl) (fun w hs => ⟨rfl, hs.drop⟩)
  refine jn_skip ?_
  refine jk_sn ?_
  refine jn_seq ?_
  refine jn_block ?_
  refine jn_seq ?_
  refine jn_reg 17 ?_
  refine jg_as rfl rfl rfl ?_
  refine jg_nils [(0, _), (3, _), (6, _), (7, _)] ⟨rfl, rfl, rfl, rfl, trivial⟩ ?_
  refine jk_sn ?_
  refine jn_join (fun (s : Int) (g : Unit) => [(0, ha0.v), (3, .int .i64 z1), (6, .int .i64 z5), (7, .int .i64 s)]) (fun (s : Int) (g : Unit) => []) (fun (s : Int) (g : Unit) => []) ?_ ?_
  rotate_left
  · intro k12 H13
    refine jn_seq ?_
    refine jn_reg 18 ?_
    refine jg_as rfl rfl rfl ?_
    refine jg_nils [(0, _), (3, _), (6, _), (7, _), (8, _)] ⟨rfl, rfl, rfl, rfl, rfl, trivial⟩ ?_
    refine jk_sn ?_
    refine jn_block ?_
    refine jn_lp (n := big) (fun (s : (Int × Int)) (g : Unit) => [(0, ha0.v), (3, .int .i64 z1), (6, .int .i64 z5), (7, .int .i64 s.1), (8, .int .i64 s.2)]) (fun (s : (Int × Int)) (g : Unit) => []) (fun (s : (Int × Int)) (g : Unit) => []) (0, 1) () [] ⟨rfl, rfl, rfl, rfl, rfl, trivial⟩ rfl rfl rfl ?_
    intro z16 q17 n20 k18 H19
    refine jn_seq ?_
    refine jn_seq ?_
    refine jn_reg 19 ?_
    refine jg_mv rfl rfl rfl ?_
    refine jg_mv rfl rfl rfl ?_
    refine jg_y (fun w hs => yv_ln rfl (hs.arg Rha0)) rfl rfl ?_
    refine jg_y (fun w hs => yv_lss rfl rfl) rfl rfl ?_
    refine jg_nils [(0, _), (3, _), (6, _), (7, _), (8, _), (45, _)] ⟨rfl, rfl, rfl, rfl, rfl, rfl, trivial⟩ ?_
    refine jk_sn ?_
    refine jn_cond rfl ?_ ?_
    rotate_left
    · refine jn_exit ?_
      refine jk_se (jk_le (jk_bh ?_))
      exact jk_use H13 z16.1 () [] ⟨rfl, rfl, rfl, rfl, trivial⟩ rfl rfl rfl
    refine jn_skip ?_
    refine jk_sn ?_
    refine jn_seq ?_
    refine jn_block ?_
    refine jn_seq ?_
    refine jn_reg 21 ?_
    refine jg_mv rfl rfl rfl ?_
    refine jg_mv rfl rfl rfl ?_
    refine jg_ix fun x21 h22 => ?_
    refine jg_y (fun w hs => yv_ix rfl rfl (hs.arg Rha0) h22) rfl rfl ?_
    refine jg_y (fun w hs => yv_ef rfl (hs.arg Rha0) h22.1) rfl rfl ?_
    refine jg_y (fun w hs => yv_e1 rfl (hs.arg Rha0) h22.1 rfl) rfl rfl ?_
    refine jg_mv rfl rfl rfl ?_
    refine jg_y (fun w hs => yv_eql rfl rfl) rfl rfl ?_
    refine jg_nils [(0, _), (3, _), (6, _), (7, _), (8, _), (54, _)] ⟨rfl, rfl, rfl, rfl, rfl, rfl, trivial⟩ ?_
    refine jk_sn ?_
    refine jn_cond rfl ?_ ?_
    rotate_left
    · refine jn_skip ?_
      refine jk_bn (jk_sn ?_)
      refine jn_reg 20 ?_
      refine jg_mv rfl rfl rfl ?_
      refine jg_y (fun w hs => yv_add_w rfl rfl) rfl rfl ?_
      refine jg_as rfl rfl rfl ?_
      refine jg_nils [(0, _), (3, _), (6, _), (7, _), (8, _)] ⟨rfl, rfl, rfl, rfl, rfl, trivial⟩ ?_
      exact jk_use H19 (z16.1, w64 (z16.2 + 1)) () [] ⟨rfl, rfl, rfl, rfl, rfl, trivial⟩ rfl rfl rfl
    refine jn_reg 22 ?_
    refine jg_mv rfl rfl rfl ?_
    refine jg_y (fun w hs => yv_add_w rfl rfl) rfl rfl ?_
    refine jg_as rfl rfl rfl ?_
    refine jg_nils [(0, _), (3, _), (6, _), (7, _), (8, _)] ⟨rfl, rfl, rfl, rfl, rfl, trivial⟩ ?_
    refine jk_bn (jk_sn ?_)
    refine jn_reg 20 ?_
    refine jg_mv rfl rfl rfl ?_
    refine jg_y (fun w hs => yv_add_w rfl rfl) rfl rfl ?_
    refine jg_as rfl rfl rfl ?_
    refine jg_nils [(0, _), (3, _), (6, _), (7, _), (8, _)] ⟨rfl, rfl, rfl, rfl, rfl, trivial⟩ ?_
    exact jk_use H19 (w64 (z16.1 + 1), w64 (z16.2 + 1)) () [] ⟨rfl, rfl, rfl, rfl, rfl, trivial⟩ rfl rfl rfl
  intro z10 q11
  refine jn_seq ?_
  refine jn_reg 23 ?_
  refine jg_as rfl rfl rfl ?_
  refine jg_nils [(0, _), (3, _), (6, _), (7, _), (9, _)] ⟨rfl, rfl, rfl, rfl, rfl, trivial⟩ ?_
  refine jk_sn ?_
  refine jn_seq ?_
  refine jn_seq ?_
  refine jn_reg 24 ?_
  refine jg_mv rfl rfl rfl ?_
  refine jg_mv rfl rfl rfl ?_
  refine jg_ix fun x14 h15 => ?_
  refine jg_y (fun w hs => yv_ix rfl rfl (hs.arg Rha0) h15) rfl rfl ?_
  refine jg_y (fun w hs => yv_ef rfl (hs.arg Rha0) h15.1) rfl rfl ?_
  refine jg_y (fun w hs => yv_e1 rfl (hs.arg Rha0) h15.1 rfl) rfl rfl ?_
  refine jg_nils [(0, _), (3, _), (6, _), (7, _), (9, _), (61, _)] ⟨rfl, rfl, rfl, rfl, rfl, rfl, trivial⟩ ?_
  refine jk_sn ?_
  refine jn_block ?_
  refine jn_seq ?_
  refine jn_reg 25 ?_
  refine jg_y (fun w hs => yv_eql rfl rfl) rfl rfl ?_
  refine jg_as rfl rfl rfl ?_
  refine jg_nils [(0, _), (3, _), (6, _), (7, _), (9, _), (61, _), (62, _)] ⟨rfl, rfl, rfl, rfl, rfl, rfl, rfl, trivial⟩ ?_
  refine jk_sn ?_
  refine jn_cond rfl ?_ ?_
  · refine jn_reg 26 ?_
    refine jg_as rfl rfl rfl ?_
    refine jg_nils [(0, _), (3, _), (6, _), (7, _), (9, _)] ⟨rfl, rfl, rfl, rfl, rfl, trivial⟩ ?_
    refine jk_bn (jk_sn ?_)
    refine jn_seq ?_
    refine jn_reg 29 ?_
    refine jg_mv rfl rfl rfl ?_
    refine jg_mv rfl rfl rfl ?_
    refine jg_y (fun w hs => yv_lss rfl rfl) rfl rfl ?_
    refine jg_nils [(0, _), (3, _), (6, _), (68, _)] ⟨rfl, rfl, rfl, rfl, trivial⟩ ?_
    refine jk_sn ?_
    refine jn_cond rfl ?_ ?_
    · refine jn_seq ?_
      refine jn_reg 30 ?_
      refine jg_as rfl rfl rfl ?_
      refine jg_nils [(2, _)] ⟨rfl, trivial⟩ ?_
      refine jk_sn ?_
      refine jn_ret ?_
      refine jk_br (jk_sr (jk_lr (jk_br (jk_sr ?_))))
      exact jk_ret1 rfl (fun w hs => .tmp rfl) (fun w hs => ⟨rfl, hs.drop⟩)
    refine jn_skip ?_
    refine jk_bn (jk_sn ?_)
    refine jn_reg 16 ?_
    refine jg_mv rfl rfl rfl ?_
    refine jg_y (fun w hs => yv_add_w rfl rfl) rfl rfl ?_
    refine jg_as rfl rfl rfl ?_
    refine jg_nils [(0, _), (3, _), (6, _)] ⟨rfl, rfl, rfl, trivial⟩ ?_
    exact jk_use H8 (w64 (z5 + 1)) () [] ⟨rfl, rfl, rfl, trivial⟩ rfl rfl rfl
  refine jn_seq ?_
  refine jn_reg 27 ?_
  refine jg_y (fun w hs => yv_eql rfl rfl) rfl rfl ?_
  refine jg_as rfl rfl rfl ?_
  refine jg_nils [(0, _), (3, _), (6, _), (7, _), (9, _), (64, _)] ⟨rfl, rfl, rfl, rfl, rfl, rfl, trivial⟩ ?_
  refine jk_sn ?_
  refine jn_cond rfl ?_ ?_
  rotate_left
  · refine jn_skip ?_
    refine jk_bn (jk_sn ?_)
    refine jn_seq ?_
    refine jn_reg 29 ?_
    refine jg_mv rfl rfl rfl ?_
    refine jg_mv rfl rfl rfl ?_
    refine jg_y (fun w hs => yv_lss rfl rfl) rfl rfl ?_
    refine jg_nils [(0, _), (3, _), (6, _), (68, _)] ⟨rfl, rfl, rfl, rfl, trivial⟩ ?_
    refine jk_sn ?_
    refine jn_cond rfl ?_ ?_
    · refine jn_seq ?_
      refine jn_reg 30 ?_
      refine jg_as rfl rfl rfl ?_
      refine jg_nils [(2, _)] ⟨rfl, trivial⟩ ?_
      refine jk_sn ?_
      refine jn_ret ?_
      refine jk_br (jk_sr (jk_lr (jk_br (jk_sr ?_))))
      exact jk_ret1 rfl (fun w hs => .tmp rfl) (fun w hs => ⟨rfl, hs.drop⟩)
    refine jn_skip ?_
    refine jk_bn (jk_sn ?_)
    refine jn_reg 16 ?_
    refine jg_mv rfl rfl rfl ?_
    refine jg_y (fun w hs => yv_add_w rfl rfl) rfl rfl ?_
    refine jg_as rfl rfl rfl ?_
    refine jg_nils [(0, _), (3, _), (6, _)] ⟨rfl, rfl, rfl, trivial⟩ ?_
    exact jk_use H8 (w64 (z5 + 1)) () [] ⟨rfl, rfl, rfl, trivial⟩ rfl rfl rfl
  refine jn_reg 28 ?_
  refine jg_as rfl rfl rfl ?_
  refine jg_nils [(0, _), (3, _), (6, _), (7, _), (9, _)] ⟨rfl, rfl, rfl, rfl, rfl, trivial⟩ ?_
  refine jk_bn (jk_sn ?_)
  refine jn_seq ?_
  refine jn_reg 29 ?_
  refine jg_mv rfl rfl rfl ?_
  refine jg_mv rfl rfl rfl ?_
  refine jg_y (fun w hs => yv_lss rfl rfl) rfl rfl ?_
  refine jg_nils [(0, _), (3, _), (6, _), (68, _)] ⟨rfl, rfl, rfl, rfl, trivial⟩ ?_
  refine jk_sn ?_
  refine jn_cond rfl ?_ ?_
  · refine jn_seq ?_
    refine jn_reg 30 ?_
    refine jg_as rfl rfl rfl ?_
    refine jg_nils [(2, _)] ⟨rfl, trivial⟩ ?_
    refine jk_sn ?_
    refine jn_ret ?_
    refine jk_br (jk_sr (jk_lr (jk_br (jk_sr ?_))))
    exact jk_ret1 rfl (fun w hs => .tmp rfl) (fun w hs => ⟨rfl, hs.drop⟩)
  refine jn_skip ?_
  refine jk_bn (jk_sn ?_)
  refine jn_reg 16 ?_
  refine jg_mv rfl rfl rfl ?_
  refine jg_y (fun w hs => yv_add_w rfl rfl) rfl rfl ?_
  refine jg_as rfl rfl rfl ?_
  refine jg_nils [(0, _), (3, _), (6, _)] ⟨rfl, rfl, rfl, trivial⟩ ?_
  exact jk_use H8 (w64 (z5 + 1)) () [] ⟨rfl, rfl, rfl, trivial⟩ rfl rfl rfl
theorem r10_Way_nc (n : Nat) : ∀ {w : World} {a0 : (List Element)} {a1 : Int} {ha0 : Hd} {v : (List Int)} (hm : r10_Way_n n a0 a1 = some v) (Rha0 : Sl w ha0 Element.enc a0), Calls Try.prog 74 ([ha0.v, .int .i64 a1] : List Value).toArray w (fun e w' => ∃ g : Hd, e = .returned (g.v) ∧ St w w' [] [(rowH g 3 1 encI v)]) := by
  induction n with
  | zero => intro w a0 a1 ha0 v hm Rha0; exact absurd hm (by simp [r10_Way_n])
  | succ n ih =>
  intro w a0 a1 ha0 v hm Rha0
  refine j_enter (vs := [ha0.v, .int .i64 a1]) (R := fun (v : (List Int)) (e : Ending) (w' : World) => ∃ g : Hd, e = .returned (g.v) ∧ St w w' [] [(rowH g 3 1 encI v)]) Try.func74 rfl Try.ntmps74 rfl rfl (St.refl w) hm ?_
  rw [r10_Way_n]
  clear hm
  refine jn_seq ?_
  refine jn_reg 0 ?_
  refine jg_as rfl rfl rfl ?_
  refine jg_nils [(0, _), (1, _)] ⟨rfl, rfl, trivial⟩ ?_
  refine jk_sn ?_
  refine jn_seq ?_
  refine jn_seq ?_
  refine jn_reg 1 ?_
  refine jg_mv rfl rfl rfl ?_
  refine jg_y (fun w hs => yv_lss rfl rfl) rfl rfl ?_
  refine jg_nils [(0, _), (1, _), (6, _)] ⟨rfl, rfl, rfl, trivial⟩ ?_
  refine jk_sn ?_
  refine jn_cond rfl ?_ ?_
  · refine jn_seq ?_
    refine jn_reg 2 ?_
    refine jg_as rfl rfl rfl ?_
    refine jg_nils [(4, _)] ⟨rfl, trivial⟩ ?_
    refine jk_sn ?_
    refine jn_ret ?_
    refine jk_sr ?_
    refine jk_addnil 3 1 encI ?_
    exact jk_ret1 rfl (fun w hs => .tmp rfl) (fun w hs => ⟨(Hd.mk none 0 0), rfl, hs.sel (is := [0]) rfl rfl⟩)
  refine jn_skip ?_
  refine jk_sn ?_
  refine jn_seq ?_
  refine jn_reg 3 ?_
  refine jg_mv rfl rfl rfl ?_
  refine jg_mv rfl rfl rfl ?_
  refine jg_mv rfl rfl rfl ?_
  refine jg_ix fun x1 h2 => ?_
  refine jg_y (fun w hs => yv_ix rfl rfl (hs.arg Rha0) h2) rfl rfl ?_
  refine jg_y (fun w hs => yv_ef rfl (hs.arg Rha0) h2.1) rfl rfl ?_
  refine jg_y (fun w hs => yv_e1 rfl (hs.arg Rha0) h2.1 rfl) rfl rfl ?_
  refine jg_c rfl (fun v w hs hm => ih hm (hs.arg Rha0)) rfl rfl fun v3 q4 => ?_
  refine jg_L (r1 rfl) ?_
  refine jg_mv rfl rfl rfl ?_
  refine jg_lit (enc := encI) [a1] rfl rfl rfl rfl rfl rfl rfl rfl fun hd5 => ?_
  refine jg_append 1 rfl rfl rfl (fun w hs => (hs.row 0 rfl)) rfl rfl rfl fun y6 hd7 => ?_
  refine jg_L (r2 rfl) ?_
  refine jg_as rfl rfl rfl ?_
  refine jg_nils [(4, _)] ⟨rfl, trivial⟩ ?_
  refine jk_sn ?_
  refine jn_ret ?_
  exact jk_ret1 rfl (fun w hs => .tmp rfl) (fun w hs => ⟨hd7, rfl, hs.sel (is := [1]) rfl rfl⟩)
theorem r10_Way_c {w : World} {a0 : (List Element)} {a1 : Int} {ha0 : Hd} {v : (List Int)} (hm : r10_Way a0 a1 = some v) (Rha0 : Sl w ha0 Element.enc a0) : Calls Try.prog 74 ([ha0.v, .int .i64 a1] : List Value).toArray w (fun e w' => ∃ g : Hd, e = .returned (g.v) ∧ St w w' [] [(rowH g 3 1 encI v)]) :=
  r10_Way_nc big hm Rha0
theorem r20_Path_c {w : World} {a0 : (List Element)} {a1 : Int} {ha0 : Hd} {v : ((List Piece) × Int)} (hm : r20_Path a0 a1 = some v) (Rha0 : Sl w ha0 Element.enc a0) : Calls Try.prog 40 ([ha0.v, .int .i64 a1] : List Value).toArray w (fun e w' => ∃ g : Hd, e = .returned (.tuple #[g.v, .int .i64 v.2]) ∧ St w w' [] [(rowH g 30 5 Piece.enc v.1)]) := by
  refine j_enter (vs := [ha0.v, .int .i64 a1]) (R := fun (v : ((List Piece) × Int)) (e : Ending) (w' : World) => ∃ g : Hd, e = .returned (.tuple #[g.v, .int .i64 v.2]) ∧ St w w' [] [(rowH g 30 5 Piece.enc v.1)]) Try.func40 rfl Try.ntmps40 rfl rfl (St.refl w) hm ?_
  unfold r20_Path
  clear hm
  refine jn_seq ?_
  refine jn_reg 0 ?_
  refine jg_as rfl rfl rfl ?_
  refine jg_as rfl rfl rfl ?_
  refine jg_nils [(0, _), (1, _)] ⟨rfl, rfl, trivial⟩ ?_
  refine jk_sn ?_
  refine jn_seq ?_
  refine jn_seq ?_
  refine jn_reg 1 ?_
  refine jg_mv rfl rfl rfl ?_
  refine jg_c0 rfl (fun v w hs hm => r09_Valid_c hm (hs.arg Rha0)) rfl rfl fun v1 => ?_
  refine jg_as rfl rfl rfl ?_
  refine jg_nils [(0, _), (1, _), (6, _)] ⟨rfl, rfl, rfl, trivial⟩ ?_
  refine jk_sn ?_
  refine jn_seq ?_
  refine jn_reg 2 ?_
  refine jg_mv rfl rfl rfl ?_
  refine jg_y (fun w hs => yv_neq rfl rfl) rfl rfl ?_
  refine jg_nils [(0, _), (1, _), (6, _), (14, _)] ⟨rfl, rfl, rfl, rfl, trivial⟩ ?_
  refine jk_sn ?_
  refine jn_cond rfl ?_ ?_
  · refine jn_seq ?_
    refine jn_reg 3 ?_
    refine jg_mv rfl rfl rfl ?_
    refine jg_as rfl rfl rfl ?_
    refine jg_as rfl rfl rfl ?_
    refine jg_nils [(4, _), (5, _)] ⟨rfl, rfl, trivial⟩ ?_
    refine jk_sn ?_
    refine jn_ret ?_
    refine jk_sr ?_
    refine jk_addnil 30 5 Piece.enc ?_
    exact jk_ret2 rfl (fun w hs => .tmp rfl) (fun w hs => .tmp rfl) (fun w hs => ⟨(Hd.mk none 0 0), rfl, hs.sel (is := [0]) rfl rfl⟩)
  refine jn_skip ?_
  refine jk_sn ?_
  refine jn_seq ?_
  refine jn_seq ?_
  refine jn_reg 4 ?_
  refine jg_mv rfl rfl rfl ?_
  refine jg_y (fun w hs => yv_lss rfl rfl) rfl rfl ?_
  refine jg_mv rfl rfl rfl ?_
  refine jg_split 18 rfl ?_ ?_
  · refine jg_skip rfl rfl ?_
    refine jg_skip rfl rfl ?_
    refine jg_skip rfl rfl ?_
    refine jg_skip rfl rfl ?_
    refine jg_y (fun w hs => yv_pick_t rfl rfl) rfl rfl ?_
    refine jg_mv rfl rfl rfl ?_
    refine jg_skip rfl rfl ?_
    refine jg_skip rfl rfl ?_
    refine jg_skip rfl rfl ?_
    refine jg_skip rfl rfl ?_
    refine jg_skip rfl rfl ?_
    refine jg_skip rfl rfl ?_
    refine jg_y (fun w hs => yv_pick_t rfl rfl) rfl rfl ?_
    refine jg_nils [(0, _), (1, _), (31, _)] ⟨rfl, rfl, rfl, trivial⟩ ?_
    refine jk_sn ?_
    refine jn_ct rfl ?_
    refine jn_seq ?_
    refine jn_reg 5 ?_
    refine jg_as rfl rfl rfl ?_
    refine jg_as rfl rfl rfl ?_
    refine jg_nils [(4, _), (5, _)] ⟨rfl, rfl, trivial⟩ ?_
    refine jk_sn ?_
    refine jn_ret ?_
    refine jk_sr ?_
    refine jk_addnil 30 5 Piece.enc ?_
    exact jk_ret2 rfl (fun w hs => .tmp rfl) (fun w hs => .tmp rfl) (fun w hs => ⟨(Hd.mk none 0 0), rfl, hs.sel (is := [0]) rfl rfl⟩)
  refine jg_mv rfl rfl rfl ?_
  refine jg_mv rfl rfl rfl ?_
  refine jg_y (fun w hs => yv_ln rfl (hs.arg Rha0)) rfl rfl ?_
  refine jg_y (fun w hs => yv_geq rfl rfl) rfl rfl ?_
  refine jg_y (fun w hs => yv_pick_f rfl rfl) rfl rfl ?_
  refine jg_mv rfl rfl rfl ?_
  refine jg_split 24 rfl ?_ ?_
  · refine jg_skip rfl rfl ?_
    refine jg_skip rfl rfl ?_
    refine jg_skip rfl rfl ?_
    refine jg_skip rfl rfl ?_
    refine jg_skip rfl rfl ?_
    refine jg_skip rfl rfl ?_
    refine jg_y (fun w hs => yv_pick_t rfl rfl) rfl rfl ?_
    refine jg_nils [(0, _), (1, _), (31, _)] ⟨rfl, rfl, rfl, trivial⟩ ?_
    refine jk_sn ?_
    refine jn_ct rfl ?_
    refine jn_seq ?_
    refine jn_reg 5 ?_
    refine jg_as rfl rfl rfl ?_
    refine jg_as rfl rfl rfl ?_
    refine jg_nils [(4, _), (5, _)] ⟨rfl, rfl, trivial⟩ ?_
    refine jk_sn ?_
    refine jn_ret ?_
    refine jk_sr ?_
    refine jk_addnil 30 5 Piece.enc ?_
    exact jk_ret2 rfl (fun w hs => .tmp rfl) (fun w hs => .tmp rfl) (fun w hs => ⟨(Hd.mk none 0 0), rfl, hs.sel (is := [0]) rfl rfl⟩)
  refine jg_mv rfl rfl rfl ?_
  refine jg_mv rfl rfl rfl ?_
  refine jg_ix fun x2 h3 => ?_
  refine jg_y (fun w hs => yv_ix rfl rfl (hs.arg Rha0) h3) rfl rfl ?_
  refine jg_y (fun w hs => yv_ef rfl (hs.arg Rha0) h3.1) rfl rfl ?_
  refine jg_y (fun w hs => yv_e1 rfl (hs.arg Rha0) h3.1 rfl) rfl rfl ?_
  refine jg_y (fun w hs => yv_neq rfl rfl) rfl rfl ?_
  refine jg_y (fun w hs => yv_pick_f rfl rfl) rfl rfl ?_
  refine jg_nils [(0, _), (1, _), (31, _)] ⟨rfl, rfl, rfl, trivial⟩ ?_
  refine jk_sn ?_
  refine jn_cond rfl ?_ ?_
  · refine jn_seq ?_
    refine jn_reg 5 ?_
    refine jg_as rfl rfl rfl ?_
    refine jg_as rfl rfl rfl ?_
    refine jg_nils [(4, _), (5, _)] ⟨rfl, rfl, trivial⟩ ?_
    refine jk_sn ?_
    refine jn_ret ?_
    refine jk_sr ?_
    refine jk_addnil 30 5 Piece.enc ?_
    exact jk_ret2 rfl (fun w hs => .tmp rfl) (fun w hs => .tmp rfl) (fun w hs => ⟨(Hd.mk none 0 0), rfl, hs.sel (is := [0]) rfl rfl⟩)
  refine jn_skip ?_
  refine jk_sn ?_
  refine jn_seq ?_
  refine jn_reg 6 ?_
  refine jg_as rfl rfl rfl ?_
  refine jg_nils [(0, _), (1, _), (7, _)] ⟨rfl, rfl, rfl, trivial⟩ ?_
  refine jk_sn ?_
  refine jn_seq ?_
  refine jn_reg 7 ?_
  refine jg_mv rfl rfl rfl ?_
  refine jg_mv rfl rfl rfl ?_
  refine jg_c rfl (fun v w hs hm => r10_Way_c hm (hs.arg Rha0)) rfl rfl fun v4 q5 => ?_
  refine jg_L (r1 rfl) ?_
  refine jg_as rfl rfl rfl ?_
  refine jg_nils [(0, _), (7, _), (8, _)] ⟨rfl, rfl, rfl, trivial⟩ ?_
  refine jk_sn ?_
  refine jn_seq ?_
  refine jn_seq ?_
  refine jn_reg 8 ?_
  refine jg_as rfl rfl rfl ?_
  refine jg_nils [(0, _), (7, _), (8, _), (9, _)] ⟨rfl, rfl, rfl, rfl, trivial⟩ ?_
  refine jk_sn ?_
  refine jn_block ?_
  refine jn_addnil 30 5 Piece.enc ?_
  refine jn_lp (n := big) (fun (s : ((List Piece) × Int)) (g : Hd) => [(0, ha0.v), (7, g.v), (8, q5.v), (9, .int .i64 s.2)]) (fun (s : ((List Piece) × Int)) (g : Hd) => []) (fun (s : ((List Piece) × Int)) (g : Hd) => [(rowH g 30 5 Piece.enc s.1), (rowH q5 3 1 encI v4)]) (([] : List Piece), 1) (Hd.mk none 0 0) [0, 1] ⟨rfl, rfl, rfl, rfl, trivial⟩ rfl rfl rfl ?_
  intro z6 q7 n10 k8 H9
  refine jn_seq ?_
  refine jn_seq ?_
  refine jn_reg 9 ?_
  refine jg_mv rfl rfl rfl ?_
  refine jg_mv rfl rfl rfl ?_
  refine jg_y (fun w hs => yv_ln rfl (hs.row 1 rfl)) rfl rfl ?_
  refine jg_y (fun w hs => yv_lss rfl rfl) rfl rfl ?_
  refine jg_nils [(0, _), (7, _), (8, _), (9, _), (38, _)] ⟨rfl, rfl, rfl, rfl, rfl, trivial⟩ ?_
  refine jk_sn ?_
  refine jn_cond rfl ?_ ?_
  rotate_left
  · refine jn_exit ?_
    refine jk_se (jk_le (jk_bh (jk_sn ?_)))
    refine jn_seq ?_
    refine jn_reg 13 ?_
    refine jg_mv rfl rfl rfl ?_
    refine jg_as rfl rfl rfl ?_
    refine jg_as rfl rfl rfl ?_
    refine jg_nils [(4, _), (5, _)] ⟨rfl, rfl, trivial⟩ ?_
    refine jk_sn ?_
    refine jn_ret ?_
    exact jk_ret2 rfl (fun w hs => .tmp rfl) (fun w hs => .tmp rfl) (fun w hs => ⟨q7, rfl, hs.sel (is := [0]) rfl rfl⟩)
  refine jn_skip ?_
  refine jk_sn ?_
  refine jn_seq ?_
  refine jn_block ?_
  refine jn_seq ?_
  refine jn_reg 11 ?_
  refine jg_mv rfl rfl rfl ?_
  refine jg_mv rfl rfl rfl ?_
  refine jg_mv rfl rfl rfl ?_
  refine jg_ix fun x11 h12 => ?_
  refine jg_y (fun w hs => yv_ix rfl rfl (hs.row 1 rfl) h12) rfl rfl ?_
  refine jg_y (fun w hs => yv_e1 rfl (hs.row 1 rfl) h12.1 rfl) rfl rfl ?_
  refine jg_ix fun x13 h14 => ?_
  refine jg_y (fun w hs => yv_ix rfl rfl (hs.arg Rha0) h14) rfl rfl ?_
  refine jg_y (fun w hs => yv_eS rfl (hs.arg Rha0) h14.1 (l8 rfl) rfl) rfl rfl ?_
  refine jg_alloc (l8 rfl) rfl rfl fun g15 => ?_
  refine jg_store 0 rfl rfl rfl (l8 rfl) rfl rfl rfl rfl (l8 rfl) (r3 rfl) ?_
  refine jg_nils [(0, _), (7, _), (8, _), (9, _), (10, _)] ⟨rfl, rfl, rfl, rfl, rfl, trivial⟩ ?_
  refine jk_sn ?_
  refine jn_draw (L' := [_, _]) 12 [0, 2] [0, 1, 2, 3, 4, 5, 6, 7, 8, 9, 10, 11, 12, 13, 14, 15, 16] 131071 131071 [0, 0, 0, 6, 8, 0, 32, 0, 128, 0, 512, 0, 2048, 5456, 8192, 16385, 65535] [0, 0, 0, 6, 14, 0, 32, 0, 128, 0, 512, 0, 2048, 8190, 16382, 32767, 65535] [(0, true), (1, true), (2, true), (3, true), (4, true), (5, true), (6, true), (7, true), (8, true), (9, true), (10, true), (11, true), (12, true), (13, true), (14, false), (15, false), (16, true)] rfl (np_blk (np_seq (np_rnd (np_blk (np_seq np_rt))))) (by kernel_rfl) (by kernel_rfl) (by kernel_rfl) (by kernel_rfl) (by kernel_rfl) (by kernel_rfl) (by kernel_rfl) (by kernel_rfl) ?_
  refine jd_mv rfl rfl rfl rfl ?_
  refine jd_mv rfl rfl rfl rfl ?_
  refine jd_mv rfl rfl rfl rfl ?_
  refine jd_ix fun x16 h17 => ?_
  refine jd_y rfl (fun w hs => yv_ix rfl rfl (hs.row 1 rfl) h17) rfl rfl ?_
  refine jd_y rfl (fun w hs => yv_e1 rfl (hs.row 1 rfl) h17.1 rfl) rfl rfl ?_
  refine jd_y rfl (fun w hs => yv_fieldAddr rfl) rfl rfl ?_
  refine jd_y rfl (fun w hs => yv_load rfl (ld1B (hs.blk (i := 0) rfl) rfl)) rfl rfl ?_
  refine jd_y rfl (fun w hs => yv_fieldAddr rfl) rfl rfl ?_
  refine jd_y rfl (fun w hs => yv_load rfl (ld1B (hs.blk (i := 0) rfl) rfl)) rfl rfl ?_
  refine jd_y rfl (fun w hs => yv_fieldAddr rfl) rfl rfl ?_
  refine jd_y rfl (fun w hs => yv_load rfl (ld1B (hs.blk (i := 0) rfl) rfl)) rfl rfl ?_
  refine jd_y rfl (fun w hs => yv_fieldAddr rfl) rfl rfl ?_
  refine jd_y rfl (fun w hs => yv_load rfl (ld1B (hs.blk (i := 0) rfl) rfl)) rfl rfl ?_
  refine jd_y rfl (fun w hs => yv_build rfl (o5 rfl)) rfl rfl ?_
  refine jd_h rfl ?_
  refine jg_lit (enc := Piece.enc) [(Piece.mk x16 x13.Length x13.Grade x13.Curve x13.Power)] rfl rfl rfl rfl rfl rfl rfl rfl fun hd18 => ?_
  refine jg_nil ?_
  refine jk_dn [1, 3] rfl ?_
  refine jd_h rfl ?_
  refine jg_append 2 rfl rfl rfl (fun w hs => (hs.row 0 rfl)) rfl rfl rfl fun y19 hd20 => ?_
  refine jg_L (r4 rfl) ?_
  refine jg_nil ?_
  refine jk_dn [1, 3] rfl ?_
  refine jd_as rfl rfl rfl rfl ?_
  refine jd_nils [(0, _), (7, _), (8, _), (9, _)] ⟨rfl, rfl, rfl, rfl, trivial⟩ ?_
  refine jk_sel (is := [2, 3]) (s2 rfl) rfl ?_
  refine jk_bn (jk_sn ?_)
  refine jn_reg 10 ?_
  refine jg_mv rfl rfl rfl ?_
  refine jg_y (fun w hs => yv_add_w rfl rfl) rfl rfl ?_
  refine jg_as rfl rfl rfl ?_
  refine jg_nils [(0, _), (7, _), (8, _), (9, _)] ⟨rfl, rfl, rfl, rfl, trivial⟩ ?_
  exact jk_use H9 (y19, w64 (z6.2 + 1)) hd20 [0, 1] ⟨rfl, rfl, rfl, rfl, trivial⟩ rfl rfl rfl
theorem law22_path_c {w : World} {a0 : HumpgenMaker} {ha0_fl : Hd} {b0 : Nat} {v : ((List Element) × (List Piece) × Int × Int)} (hm : law22_path a0 = some v) (Hb : Blk w b0 82 [ha0_fl.v, .int .i64 a0.fn]) (Rha0_fl : Sl w ha0_fl encI a0.fl) (Oha0_fl : Offs ha0_fl [b0]) : Calls Try.prog 18 ([.pointer (some ⟨b0, 0, none⟩)] : List Value).toArray w (fun e w' => ∃ g : (Hd × Hd), e = .returned (.tuple #[g.1.v, g.2.v, .int .i64 v.2.2.1]) ∧ St w w' [.blk b0 82 [ha0_fl.v, .int .i64 v.2.2.2]] [(rowH g.1 85 8 Element.enc v.1), (rowH g.2 30 5 Piece.enc v.2.1)]) := by
  refine j_enter (vs := [.pointer (some ⟨b0, 0, none⟩)]) (R := fun (v : ((List Element) × (List Piece) × Int × Int)) (e : Ending) (w' : World) => ∃ g : (Hd × Hd), e = .returned (.tuple #[g.1.v, g.2.v, .int .i64 v.2.2.1]) ∧ St w w' [.blk b0 82 [ha0_fl.v, .int .i64 v.2.2.2]] [(rowH g.1 85 8 Element.enc v.1), (rowH g.2 30 5 Piece.enc v.2.1)]) Try.func18 rfl Try.ntmps18 rfl rfl (mk_st Hb) hm ?_
  unfold law22_path
  clear hm
  refine jn_seq ?_
  refine jn_reg 0 ?_
  refine jg_as rfl rfl rfl ?_
  refine jg_as rfl rfl rfl ?_
  refine jg_as rfl rfl rfl ?_
  refine jg_nils [(0, _)] ⟨rfl, trivial⟩ ?_
  refine jk_sn ?_
  refine jn_seq ?_
  refine jn_reg 1 ?_
  refine jg_mv rfl rfl rfl ?_
  refine jm_c rfl (fun v w hs hm => gen_Maker_Layout_c hm (hs.blkM (i := 0) rfl) (hs.argM Rha0_fl Oha0_fl) Oha0_fl) (fun _ => rfl) rfl rfl fun v1 q2 => ?_
  refine jg_L (r1 rfl) ?_
  refine jg_as rfl rfl rfl ?_
  refine jg_nils [(0, _), (5, _)] ⟨rfl, rfl, trivial⟩ ?_
  refine jk_sn ?_
  refine jn_seq ?_
  refine jn_reg 2 ?_
  refine jg_as rfl rfl rfl ?_
  refine jg_nils [(0, _), (5, _), (6, _)] ⟨rfl, rfl, rfl, trivial⟩ ?_
  refine jk_sn ?_
  refine jn_join (fun (s : (List Int)) (g : Hd) => [(0, .pointer (some ⟨b0, 0, none⟩)), (5, q2.v), (6, g.v)]) (fun (s : (List Int)) (g : Hd) => [(Res.blk b0 82 [ha0_fl.v, .int .i64 v1.2])]) (fun (s : (List Int)) (g : Hd) => [(rowH q2 85 8 Element.enc v1.1), (rowH g 3 1 encI s)]) ?_ ?_
  · intro z3 q4
    refine jn_seq ?_
    refine jn_reg 8 ?_
    refine jg_mv rfl rfl rfl ?_
    refine jg_mv rfl rfl rfl ?_
    refine jg_mv rfl rfl rfl ?_
    refine jg_mv rfl rfl rfl ?_
    refine jg_y (fun w hs => yv_ln rfl (hs.row 1 rfl)) rfl rfl ?_
    refine jm_c rfl (fun v w hs hm => gen_Maker_Next_c hm (hs.blkM (i := 0) rfl) (hs.argM Rha0_fl Oha0_fl) Oha0_fl) (fun _ => rfl) rfl rfl fun v7 q8 => ?_
    refine jg_ix fun x9 h10 => ?_
    refine jg_y (fun w hs => yv_ix rfl rfl (hs.row 1 rfl) h10) rfl rfl ?_
    refine jg_y (fun w hs => yv_e1 rfl (hs.row 1 rfl) h10.1 rfl) rfl rfl ?_
    refine jg_c rfl (fun v w hs hm => r20_Path_c hm (hs.row 0 rfl)) rfl rfl fun v11 q12 => ?_
    refine jg_L (r3 rfl) ?_
    refine jg_mv rfl rfl rfl ?_
    refine jg_y (fun w hs => yv_extract rfl rfl) rfl rfl ?_
    refine jg_y (fun w hs => yv_extract rfl rfl) rfl rfl ?_
    refine jg_as rfl rfl rfl ?_
    refine jg_as rfl rfl rfl ?_
    refine jg_nils [(0, _), (5, _), (8, _)] ⟨rfl, rfl, rfl, trivial⟩ ?_
    refine jk_sn ?_
    refine jn_seq ?_
    refine jn_reg 9 ?_
    refine jg_mv rfl rfl rfl ?_
    refine jg_mv rfl rfl rfl ?_
    refine jg_mv rfl rfl rfl ?_
    refine jg_lit (enc := encI) [1, 8000, 15000, 40000, 100000] rfl rfl rfl rfl rfl rfl rfl rfl fun hd13 => ?_
    refine jm_c rfl (fun v w hs hm => gen_Maker_Pick_c hm (hs.blkM (i := 0) rfl) (hs.argM Rha0_fl Oha0_fl) Oha0_fl (hs.row 0 rfl) (hs.offML 0 0 rfl rfl)) (fun _ => rfl) rfl rfl fun v14 q15 => ?_
    refine jg_as rfl rfl rfl ?_
    refine jg_as rfl rfl rfl ?_
    refine jg_as rfl rfl rfl ?_
    refine jg_nils [(2, _), (3, _), (4, _)] ⟨rfl, rfl, rfl, trivial⟩ ?_
    refine jk_sel (is := [1, 2]) (s2 rfl) rfl ?_
    refine jk_sn ?_
    refine jn_ret ?_
    exact jk_ret3 rfl (fun w hs => .tmp rfl) (fun w hs => .tmp rfl) (fun w hs => .tmp rfl) (fun w hs => ⟨(q2, q12), rfl, hs.sel (is := [1, 0]) rfl rfl⟩)
  intro k5 H6
  refine jn_seq ?_
  refine jn_reg 3 ?_
  refine jg_as rfl rfl rfl ?_
  refine jg_nils [(0, _), (5, _), (6, _), (7, _)] ⟨rfl, rfl, rfl, rfl, trivial⟩ ?_
  refine jk_sn ?_
  refine jn_block ?_
  refine jn_addnil 3 1 encI ?_
  refine jn_lp (n := big) (fun (s : ((List Int) × Int)) (g : Hd) => [(0, .pointer (some ⟨b0, 0, none⟩)), (5, q2.v), (6, g.v), (7, .int .i64 s.2)]) (fun (s : ((List Int) × Int)) (g : Hd) => [(Res.blk b0 82 [ha0_fl.v, .int .i64 v1.2])]) (fun (s : ((List Int) × Int)) (g : Hd) => [(rowH q2 85 8 Element.enc v1.1), (rowH g 3 1 encI s.1)]) (([] : List Int), 0) (Hd.mk none 0 0) [1, 0] ⟨rfl, rfl, rfl, rfl, trivial⟩ rfl rfl rfl ?_
  intro z16 q17 n20 k18 H19
  refine jn_seq ?_
  refine jn_seq ?_
  refine jn_reg 4 ?_
  refine jg_mv rfl rfl rfl ?_
  refine jg_mv rfl rfl rfl ?_
  refine jg_y (fun w hs => yv_ln rfl (hs.row 0 rfl)) rfl rfl ?_
  refine jg_y (fun w hs => yv_lss rfl rfl) rfl rfl ?_
  refine jg_nils [(0, _), (5, _), (6, _), (7, _), (15, _)] ⟨rfl, rfl, rfl, rfl, rfl, trivial⟩ ?_
  refine jk_sn ?_
  refine jn_cond rfl ?_ ?_
  rotate_left
  · refine jn_exit ?_
    refine jk_se (jk_le (jk_bh ?_))
    exact jk_use H6 z16.1 q17 [0, 1] ⟨rfl, rfl, rfl, trivial⟩ rfl rfl rfl
  refine jn_skip ?_
  refine jk_sn ?_
  refine jn_seq ?_
  refine jn_block ?_
  refine jn_seq ?_
  refine jn_reg 6 ?_
  refine jg_mv rfl rfl rfl ?_
  refine jg_mv rfl rfl rfl ?_
  refine jg_ix fun x21 h22 => ?_
  refine jg_y (fun w hs => yv_ix rfl rfl (hs.row 0 rfl) h22) rfl rfl ?_
  refine jg_y (fun w hs => yv_ef rfl (hs.row 0 rfl) h22.1) rfl rfl ?_
  refine jg_y (fun w hs => yv_e1 rfl (hs.row 0 rfl) h22.1 rfl) rfl rfl ?_
  refine jg_y (fun w hs => yv_eql rfl rfl) rfl rfl ?_
  refine jg_nils [(0, _), (5, _), (6, _), (7, _), (23, _)] ⟨rfl, rfl, rfl, rfl, rfl, trivial⟩ ?_
  refine jk_sn ?_
  refine jn_cond rfl ?_ ?_
  rotate_left
  · refine jn_skip ?_
    refine jk_bn (jk_sn ?_)
    refine jn_reg 5 ?_
    refine jg_mv rfl rfl rfl ?_
    refine jg_y (fun w hs => yv_add_w rfl rfl) rfl rfl ?_
    refine jg_as rfl rfl rfl ?_
    refine jg_nils [(0, _), (5, _), (6, _), (7, _)] ⟨rfl, rfl, rfl, rfl, trivial⟩ ?_
    exact jk_use H19 (z16.1, w64 (z16.2 + 1)) q17 [0, 1] ⟨rfl, rfl, rfl, rfl, trivial⟩ rfl rfl rfl
  refine jn_reg 7 ?_
  refine jg_mv rfl rfl rfl ?_
  refine jg_mv rfl rfl rfl ?_
  refine jg_lit (enc := encI) [z16.2] rfl rfl rfl rfl rfl rfl rfl rfl fun hd23 => ?_
  refine jg_append 2 rfl rfl rfl (fun w hs => (hs.row 0 rfl)) rfl rfl rfl fun y24 hd25 => ?_
  refine jg_L (r3 rfl) ?_
  refine jg_as rfl rfl rfl ?_
  refine jg_nils [(0, _), (5, _), (6, _), (7, _)] ⟨rfl, rfl, rfl, rfl, trivial⟩ ?_
  refine jk_bn (jk_sn ?_)
  refine jn_reg 5 ?_
  refine jg_mv rfl rfl rfl ?_
  refine jg_y (fun w hs => yv_add_w rfl rfl) rfl rfl ?_
  refine jg_as rfl rfl rfl ?_
  refine jg_nils [(0, _), (5, _), (6, _), (7, _)] ⟨rfl, rfl, rfl, rfl, trivial⟩ ?_
  exact jk_use H19 (y24, w64 (z16.2 + 1)) hd25 [1, 2] ⟨rfl, rfl, rfl, rfl, trivial⟩ rfl rfl rfl
theorem law22_OccupancyApproaches_c {w : World} {a0 : (List Int)} {a1 : Int} {ha0 : Hd} {v : Bool} (hm : law22_OccupancyApproaches a0 a1 = some v) (Rha0 : Sl w ha0 encI a0) : Gives Try.prog 4 [ha0.v, .int .i64 a1] w (.bool v) := by
  refine j_gives (vs := [ha0.v, .int .i64 a1]) (U := fun (v : Bool) => .bool v) Try.func4 rfl Try.ntmps4 rfl rfl hm ?_
  unfold law22_OccupancyApproaches
  clear hm
  refine jn_seq ?_
  refine jn_reg 0 ?_
  refine jg_as rfl rfl rfl ?_
  refine jg_nils [(0, _), (1, _)] ⟨rfl, rfl, trivial⟩ ?_
  refine jk_sn ?_
  refine jn_seq ?_
  refine jn_reg 1 ?_
  refine jg_mv rfl rfl rfl ?_
  refine jg_c rfl (fun v w hs hm => gen_New_c hm (hs.arg Rha0)) rfl rfl fun v1 q2 => ?_
  refine jg_L (r1 rfl) ?_
  refine jg_as rfl rfl rfl ?_
  refine jg_nils [(1, _), (5, _)] ⟨rfl, rfl, trivial⟩ ?_
  refine jk_sn ?_
  refine jn_seq ?_
  refine jn_reg 2 ?_
  refine jg_mv rfl rfl rfl ?_
  refine jl_c 0 rfl rfl (fun v w hs hm => law22_path_c hm (hs.blkL (i := 0) rfl) (hs.arg Rha0) (hs.offAL 0 Rha0 rfl)) (fun _ => rfl) rfl rfl fun v3 q4 => ?_
  refine jg_L (r3 rfl) ?_
  refine jg_mv rfl rfl rfl ?_
  refine jg_y (fun w hs => yv_extract rfl rfl) rfl rfl ?_
  refine jg_y (fun w hs => yv_extract rfl rfl) rfl rfl ?_
  refine jg_y (fun w hs => yv_extract rfl rfl) rfl rfl ?_
  refine jg_as rfl rfl rfl ?_
  refine jg_as rfl rfl rfl ?_
  refine jg_as rfl rfl rfl ?_
  refine jg_nils [(1, _), (7, _)] ⟨rfl, rfl, trivial⟩ ?_
  refine jk_sel (is := [1]) (s1 rfl) rfl ?_
  refine jk_sn ?_
  refine jn_seq ?_
  refine jn_reg 3 ?_
  refine jg_mv rfl rfl rfl ?_
  refine jg_mv rfl rfl rfl ?_
  refine jg_mv rfl rfl rfl ?_
  refine jg_y (fun w hs => yv_ln rfl (hs.row 0 rfl)) rfl rfl ?_
  refine jg_yl (fun w hs => yv_sub_w rfl rfl) rfl rfl fun x5 => ?_
  refine jg_ix fun x6 h7 => ?_
  refine jg_y (fun w hs => yv_ix rfl rfl (hs.row 0 rfl) h7) rfl rfl ?_
  refine jg_y (fun w hs => yv_ef rfl (hs.row 0 rfl) h7.1) rfl rfl ?_
  refine jg_y (fun w hs => yv_e1 rfl (hs.row 0 rfl) h7.1 rfl) rfl rfl ?_
  refine jg_c0 rfl (fun v w hs hm => yardgen_Place_c hm ) rfl rfl fun v8 => ?_
  refine jg_y (fun w hs => yv_add_w rfl rfl) rfl rfl ?_
  refine jg_as rfl rfl rfl ?_
  refine jg_nils [(7, _), (9, _)] ⟨rfl, rfl, trivial⟩ ?_
  refine jk_sn ?_
  refine jn_seq ?_
  refine jn_reg 4 ?_
  refine jg_mv rfl rfl rfl ?_
  refine jg_mv rfl rfl rfl ?_
  refine jg_c rfl (fun v w hs hm => occupancy_Approach_c hm (hs.row 0 rfl)) rfl rfl fun v9 q10 => ?_
  refine jg_L (r2 rfl) ?_
  refine jg_mv rfl rfl rfl ?_
  refine jg_y (fun w hs => yv_extract rfl rfl) rfl rfl ?_
  refine jg_y (fun w hs => yv_extract rfl rfl) rfl rfl ?_
  refine jg_as rfl rfl rfl ?_
  refine jg_as rfl rfl rfl ?_
  refine jg_nils [(7, _), (9, _), (10, _), (11, _)] ⟨rfl, rfl, rfl, rfl, trivial⟩ ?_
  refine jk_sn ?_
  refine jn_seq ?_
  refine jn_seq ?_
  refine jn_reg 5 ?_
  refine jg_mv rfl rfl rfl ?_
  refine jg_y (fun w hs => yv_neq rfl rfl) rfl rfl ?_
  refine jg_mv rfl rfl rfl ?_
  refine jg_split 40 rfl ?_ ?_
  · refine jg_skip rfl rfl ?_
    refine jg_skip rfl rfl ?_
    refine jg_skip rfl rfl ?_
    refine jg_skip rfl rfl ?_
    refine jg_skip rfl rfl ?_
    refine jg_y (fun w hs => yv_pick_t rfl rfl) rfl rfl ?_
    refine jg_nils [(7, _), (9, _), (10, _), (46, _)] ⟨rfl, rfl, rfl, rfl, trivial⟩ ?_
    refine jk_sn ?_
    refine jn_ct rfl ?_
    refine jn_seq ?_
    refine jn_reg 6 ?_
    refine jg_as rfl rfl rfl ?_
    refine jg_nils [(4, _)] ⟨rfl, trivial⟩ ?_
    refine jk_sel (is := []) (s0 rfl) rfl ?_
    refine jk_sn ?_
    refine jn_ret ?_
    refine jk_sr ?_
    exact jk_ret1 rfl (fun w hs => .tmp rfl) (fun w hs => ⟨rfl, hs.drop⟩)
  refine jg_mv rfl rfl rfl ?_
  refine jg_y (fun w hs => yv_ln rfl (hs.row 0 rfl)) rfl rfl ?_
  refine jg_mv rfl rfl rfl ?_
  refine jg_y (fun w hs => yv_ln rfl (hs.row 1 rfl)) rfl rfl ?_
  refine jg_y (fun w hs => yv_neq rfl rfl) rfl rfl ?_
  refine jg_y (fun w hs => yv_pick_f rfl rfl) rfl rfl ?_
  refine jg_nils [(7, _), (9, _), (10, _), (46, _)] ⟨rfl, rfl, rfl, rfl, trivial⟩ ?_
  refine jk_sn ?_
  refine jn_cond rfl ?_ ?_
  · refine jn_seq ?_
    refine jn_reg 6 ?_
    refine jg_as rfl rfl rfl ?_
    refine jg_nils [(4, _)] ⟨rfl, trivial⟩ ?_
    refine jk_sel (is := []) (s0 rfl) rfl ?_
    refine jk_sn ?_
    refine jn_ret ?_
    refine jk_sr ?_
    exact jk_ret1 rfl (fun w hs => .tmp rfl) (fun w hs => ⟨rfl, hs.drop⟩)
  refine jn_skip ?_
  refine jk_sn ?_
  refine jn_join (fun (s : Unit) (g : Unit) => [(7, q4.2.v)]) (fun (s : Unit) (g : Unit) => []) (fun (s : Unit) (g : Unit) => [(rowH q4.2 30 5 Piece.enc v3.2.1)]) ?_ ?_
  · intro z11 q12
    refine jn_seq ?_
    refine jn_reg 15 ?_
    refine jg_mv rfl rfl rfl ?_
    refine jg_mv rfl rfl rfl ?_
    refine jg_mv rfl rfl rfl ?_
    refine jg_y (fun w hs => yv_ln rfl (hs.row 0 rfl)) rfl rfl ?_
    refine jg_yl (fun w hs => yv_sub_w rfl rfl) rfl rfl fun x15 => ?_
    refine jg_ix fun x16 h17 => ?_
    refine jg_y (fun w hs => yv_ix rfl rfl (hs.row 0 rfl) h17) rfl rfl ?_
    refine jg_y (fun w hs => yv_ef rfl (hs.row 0 rfl) h17.1) rfl rfl ?_
    refine jg_y (fun w hs => yv_e1 rfl (hs.row 0 rfl) h17.1 rfl) rfl rfl ?_
    refine jg_y (fun w hs => yv_add_w rfl rfl) rfl rfl ?_
    refine jg_c rfl (fun v w hs hm => occupancy_Approach_c hm (hs.row 0 rfl)) rfl rfl fun v18 q19 => ?_
    refine jg_L (r2 rfl) ?_
    refine jg_mv rfl rfl rfl ?_
    refine jg_y (fun w hs => yv_extract rfl rfl) rfl rfl ?_
    refine jg_y (fun w hs => yv_extract rfl rfl) rfl rfl ?_
    refine jg_as rfl rfl rfl ?_
    refine jg_nils [(7, _), (11, _)] ⟨rfl, rfl, trivial⟩ ?_
    refine jk_sn ?_
    refine jn_seq ?_
    refine jn_reg 16 ?_
    refine jg_mv rfl rfl rfl ?_
    refine jg_y (fun w hs => yv_eql rfl rfl) rfl rfl ?_
    refine jg_mv rfl rfl rfl ?_
    refine jg_split 99 rfl ?_ ?_
    · refine jg_skip rfl rfl ?_
      refine jg_skip rfl rfl ?_
      refine jg_skip rfl rfl ?_
      refine jg_skip rfl rfl ?_
      refine jg_skip rfl rfl ?_
      refine jg_skip rfl rfl ?_
      refine jg_skip rfl rfl ?_
      refine jg_skip rfl rfl ?_
      refine jg_skip rfl rfl ?_
      refine jg_skip rfl rfl ?_
      refine jg_skip rfl rfl ?_
      refine jg_skip rfl rfl ?_
      refine jg_y (fun w hs => yv_pick_t rfl rfl) rfl rfl ?_
      refine jg_mv rfl rfl rfl ?_
      refine jg_c0 rfl (fun v w hs hm => law22_sane_c hm ) rfl rfl fun v20 => ?_
      refine jg_y (fun w hs => yv_pick_t rfl rfl) rfl rfl ?_
      refine jg_as rfl rfl rfl ?_
      refine jg_nils [(4, _)] ⟨rfl, trivial⟩ ?_
      refine jk_sel (is := []) (s0 rfl) rfl ?_
      refine jk_sn ?_
      refine jn_ret ?_
      exact jk_ret1 rfl (fun w hs => .tmp rfl) (fun w hs => ⟨rfl, hs.drop⟩)
    refine jg_mv rfl rfl rfl ?_
    refine jg_y (fun w hs => yv_eql rfl rfl) rfl rfl ?_
    refine jg_mv rfl rfl rfl ?_
    refine jg_split 102 rfl ?_ ?_
    rotate_left
    · refine jg_skip rfl rfl ?_
      refine jg_skip rfl rfl ?_
      refine jg_skip rfl rfl ?_
      refine jg_skip rfl rfl ?_
      refine jg_skip rfl rfl ?_
      refine jg_skip rfl rfl ?_
      refine jg_skip rfl rfl ?_
      refine jg_skip rfl rfl ?_
      refine jg_y (fun w hs => yv_pick_f rfl rfl) rfl rfl ?_
      refine jg_y (fun w hs => yv_pick_f rfl rfl) rfl rfl ?_
      refine jg_mv rfl rfl rfl ?_
      refine jg_skip rfl rfl ?_
      refine jg_y (fun w hs => yv_pick_f rfl rfl) rfl rfl ?_
      refine jg_as rfl rfl rfl ?_
      refine jg_nils [(4, _)] ⟨rfl, trivial⟩ ?_
      refine jk_sel (is := []) (s0 rfl) rfl ?_
      refine jk_sn ?_
      refine jn_ret ?_
      exact jk_ret1 rfl (fun w hs => .tmp rfl) (fun w hs => ⟨rfl, hs.drop⟩)
    refine jg_mv rfl rfl rfl ?_
    refine jg_mv rfl rfl rfl ?_
    refine jg_y (fun w hs => yv_ln rfl (hs.row 1 rfl)) rfl rfl ?_
    refine jg_yl (fun w hs => yv_sub_w rfl rfl) rfl rfl fun x21 => ?_
    refine jg_ix fun x22 h23 => ?_
    refine jg_y (fun w hs => yv_ix rfl rfl (hs.row 1 rfl) h23) rfl rfl ?_
    refine jg_y (fun w hs => yv_ef rfl (hs.row 1 rfl) h23.1) rfl rfl ?_
    refine jg_y (fun w hs => yv_e1 rfl (hs.row 1 rfl) h23.1 rfl) rfl rfl ?_
    refine jg_y (fun w hs => yv_eql rfl rfl) rfl rfl ?_
    refine jg_y (fun w hs => yv_pick_t rfl rfl) rfl rfl ?_
    refine jg_y (fun w hs => yv_pick_f rfl rfl) rfl rfl ?_
    refine jg_mv rfl rfl rfl ?_
    refine jg_split 113 rfl ?_ ?_
    · refine jg_c0 rfl (fun v w hs hm => law22_sane_c hm ) rfl rfl fun v24 => ?_
      refine jg_y (fun w hs => yv_pick_t rfl rfl) rfl rfl ?_
      refine jg_as rfl rfl rfl ?_
      refine jg_nils [(4, _)] ⟨rfl, trivial⟩ ?_
      refine jk_sel (is := []) (s0 rfl) rfl ?_
      refine jk_sn ?_
      refine jn_ret ?_
      exact jk_ret1 rfl (fun w hs => .tmp rfl) (fun w hs => ⟨rfl, hs.drop⟩)
    refine jg_skip rfl rfl ?_
    refine jg_y (fun w hs => yv_pick_f rfl rfl) rfl rfl ?_
    refine jg_as rfl rfl rfl ?_
    refine jg_nils [(4, _)] ⟨rfl, trivial⟩ ?_
    refine jk_sel (is := []) (s0 rfl) rfl ?_
    refine jk_sn ?_
    refine jn_ret ?_
    exact jk_ret1 rfl (fun w hs => .tmp rfl) (fun w hs => ⟨rfl, hs.drop⟩)
  intro k13 H14
  refine jn_seq ?_
  refine jn_reg 7 ?_
  refine jg_as rfl rfl rfl ?_
  refine jg_nils [(7, _), (9, _), (10, _), (12, _)] ⟨rfl, rfl, rfl, rfl, trivial⟩ ?_
  refine jk_sn ?_
  refine jn_block ?_
  refine jn_lp (n := big) (fun (s : Int) (g : Unit) => [(7, q4.2.v), (9, .int .i64 (w64 (1 + v8))), (10, q10.v), (12, .int .i64 s)]) (fun (s : Int) (g : Unit) => []) (fun (s : Int) (g : Unit) => [(rowH q4.2 30 5 Piece.enc v3.2.1), (rowH q10 30 5 Piece.enc v9.1)]) 0 () [1, 0] ⟨rfl, rfl, rfl, rfl, trivial⟩ rfl rfl rfl ?_
  intro z25 q26 n29 k27 H28
  refine jn_seq ?_
  refine jn_seq ?_
  refine jn_reg 8 ?_
  refine jg_mv rfl rfl rfl ?_
  refine jg_mv rfl rfl rfl ?_
  refine jg_y (fun w hs => yv_ln rfl (hs.row 0 rfl)) rfl rfl ?_
  refine jg_y (fun w hs => yv_lss rfl rfl) rfl rfl ?_
  refine jg_nils [(7, _), (9, _), (10, _), (12, _), (50, _)] ⟨rfl, rfl, rfl, rfl, rfl, trivial⟩ ?_
  refine jk_sn ?_
  refine jn_cond rfl ?_ ?_
  rotate_left
  · refine jn_exit ?_
    refine jk_se (jk_le (jk_bh ?_))
    exact jk_use H14 () () [0] ⟨rfl, trivial⟩ rfl rfl rfl
  refine jn_skip ?_
  refine jk_sn ?_
  refine jn_seq ?_
  refine jn_block ?_
  refine jn_seq ?_
  refine jn_reg 10 ?_
  refine jg_mv rfl rfl rfl ?_
  refine jg_mv rfl rfl rfl ?_
  refine jg_ix fun x30 h31 => ?_
  refine jg_y (fun w hs => yv_ix rfl rfl (hs.row 0 rfl) h31) rfl rfl ?_
  refine jg_y (fun w hs => yv_eS rfl (hs.row 0 rfl) h31.1 (l5 rfl) rfl) rfl rfl ?_
  refine jg_alloc (l5 rfl) rfl rfl fun g32 => ?_
  refine jg_store 0 rfl rfl rfl (l5 rfl) rfl rfl rfl rfl (l5 rfl) (r3 rfl) ?_
  refine jg_nils [(7, _), (9, _), (10, _), (12, _), (13, _)] ⟨rfl, rfl, rfl, rfl, rfl, trivial⟩ ?_
  refine jk_sn ?_
  refine jn_join (fun (s : Int) (g : Unit) => [(7, q4.2.v), (9, .int .i64 (w64 (1 + v8))), (10, q10.v), (12, .int .i64 z25), (13, .pointer (some ⟨g32, 0, none⟩))]) (fun (s : Int) (g : Unit) => []) (fun (s : Int) (g : Unit) => [(rowH q4.2 30 5 Piece.enc v3.2.1), (rowH q10 30 5 Piece.enc v9.1), (Res.blk g32 30 [.int .i64 x30.Element, .int .i64 s, .int .i64 x30.Grade, .int .i64 x30.Curve, .int .i64 x30.Power])]) ?_ ?_
  rotate_left
  · intro k35 H36
    refine jn_seq ?_
    refine jn_reg 11 ?_
    refine jg_mv rfl rfl rfl ?_
    refine jg_mv rfl rfl rfl ?_
    refine jg_y (fun w hs => yv_ln rfl (hs.row 1 rfl)) rfl rfl ?_
    refine jg_yl (fun w hs => yv_sub_w rfl rfl) rfl rfl fun x41 => ?_
    refine jg_y (fun w hs => yv_eql rfl rfl) rfl rfl ?_
    refine jg_nils [(7, _), (9, _), (10, _), (12, _), (13, _), (61, _)] ⟨rfl, rfl, rfl, rfl, rfl, rfl, trivial⟩ ?_
    refine jk_sn ?_
    refine jn_cond rfl ?_ ?_
    rotate_left
    · refine jn_skip ?_
      exact jk_use H36 x30.Length () [1, 2, 0] ⟨rfl, rfl, rfl, rfl, rfl, trivial⟩ rfl rfl rfl
    refine jn_reg 12 ?_
    refine jg_mv rfl rfl rfl ?_
    refine jg_y (fun w hs => yv_fieldAddr rfl) rfl rfl ?_
    refine jg_store 0 rfl rfl rfl (l1 rfl) rfl rfl rfl rfl (l5 rfl) (r3 rfl) ?_
    refine jg_nils [(7, _), (9, _), (10, _), (12, _), (13, _)] ⟨rfl, rfl, rfl, rfl, rfl, trivial⟩ ?_
    exact jk_use H36 (w64 (1 + v8)) () [1, 2, 0] ⟨rfl, rfl, rfl, rfl, rfl, trivial⟩ rfl rfl rfl
  intro z33 q34
  refine jn_seq ?_
  refine jn_draw (L' := [_, _, _]) 13 [0, 1, 2] [0, 1, 2, 3, 4, 5, 6, 7, 8, 9, 10, 11, 12, 13, 14, 15, 16, 17, 18, 19] 1048575 1048575 [0, 0, 3, 4, 0, 24, 32, 64, 64, 320, 576, 1216, 2112, 4096, 4096, 4096, 61440, 69632, 135232, 262208] [0, 0, 3, 7, 0, 31, 63, 127, 127, 383, 895, 2047, 4095, 8191, 8191, 8191, 65535, 131071, 262143, 524287] [(0, true), (1, true), (2, true), (3, true), (4, true), (5, true), (6, true), (7, true), (8, true), (9, true), (10, true), (11, true), (12, true), (13, true), (14, true), (15, true), (16, true), (17, true), (18, true), (19, true)] rfl (np_seq (np_blk (np_seq (np_rnd (np_blk (np_seq np_rt)))))) (by kernel_rfl) (by kernel_rfl) (by kernel_rfl) (by kernel_rfl) (by kernel_rfl) (by kernel_rfl) (by kernel_rfl) (by kernel_rfl) ?_
  refine jd_mv rfl rfl rfl rfl ?_
  refine jd_mv rfl rfl rfl rfl ?_
  refine jd_ix fun x37 h38 => ?_
  refine jd_y rfl (fun w hs => yv_ix rfl rfl (hs.row 1 rfl) h38) rfl rfl ?_
  refine jd_y rfl (fun w hs => yv_eS rfl (hs.row 1 rfl) h38.1 (l5 rfl) rfl) rfl rfl ?_
  refine jd_y rfl (fun w hs => yv_load rfl (ldBB (hs.blk (i := 2) rfl) rfl)) rfl rfl ?_
  refine jd_y rfl (fun w hs => yne30 rfl rfl) rfl rfl ?_
  refine jd_mv rfl rfl rfl rfl ?_
  refine jd_split 70 rfl ?_ ?_
  · refine jd_skip rfl rfl rfl ?_
    refine jd_skip rfl rfl rfl ?_
    refine jd_skip rfl rfl rfl ?_
    refine jd_skip rfl rfl rfl ?_
    refine jd_skip rfl rfl rfl ?_
    refine jd_skip rfl rfl rfl ?_
    refine jd_skip rfl rfl rfl ?_
    refine jd_skip rfl rfl rfl ?_
    refine jd_skip rfl rfl rfl ?_
    refine jd_skip rfl rfl rfl ?_
    refine jd_skip rfl rfl rfl ?_
    refine jd_skip rfl rfl rfl ?_
    refine jd_y rfl (fun w hs => yv_pick_t rfl rfl) rfl rfl ?_
    refine jd_nils [(7, _), (9, _), (10, _), (12, _), (83, _)] ⟨rfl, rfl, rfl, rfl, rfl, trivial⟩ ?_
    refine jk_sn ?_
    refine jn_ct rfl ?_
    refine jn_seq ?_
    refine jn_reg 14 ?_
    refine jg_as rfl rfl rfl ?_
    refine jg_nils [(4, _)] ⟨rfl, trivial⟩ ?_
    refine jk_sel (is := []) (s0 rfl) rfl ?_
    refine jk_sn ?_
    refine jn_ret ?_
    refine jk_br (jk_sr (jk_lr (jk_br (jk_sr ?_))))
    exact jk_ret1 rfl (fun w hs => .tmp rfl) (fun w hs => ⟨rfl, hs.drop⟩)
  refine jd_mv rfl rfl rfl rfl ?_
  refine jd_mv rfl rfl rfl rfl ?_
  refine jd_y rfl (fun w hs => yv_ln rfl (hs.row 0 rfl)) rfl rfl ?_
  refine jd_yl rfl (fun w hs => yv_sub_w rfl rfl) rfl rfl fun x39 => ?_
  refine jd_y rfl (fun w hs => yv_lss rfl rfl) rfl rfl ?_
  refine jd_mv rfl rfl rfl rfl ?_
  refine jd_split 76 rfl ?_ ?_
  rotate_left
  · refine jd_skip rfl rfl rfl ?_
    refine jd_skip rfl rfl rfl ?_
    refine jd_skip rfl rfl rfl ?_
    refine jd_skip rfl rfl rfl ?_
    refine jd_skip rfl rfl rfl ?_
    refine jd_y rfl (fun w hs => yv_pick_f rfl rfl) rfl rfl ?_
    refine jd_y rfl (fun w hs => yv_pick_f rfl rfl) rfl rfl ?_
    refine jd_nils [(7, _), (9, _), (10, _), (12, _), (83, _)] ⟨rfl, rfl, rfl, rfl, rfl, trivial⟩ ?_
    refine jk_sn ?_
    refine jn_cf rfl ?_
    refine jn_skip ?_
    refine jk_bn (jk_sn ?_)
    refine jn_reg 9 ?_
    refine jg_mv rfl rfl rfl ?_
    refine jg_y (fun w hs => yv_add_w rfl rfl) rfl rfl ?_
    refine jg_as rfl rfl rfl ?_
    refine jg_nils [(7, _), (9, _), (10, _), (12, _)] ⟨rfl, rfl, rfl, rfl, trivial⟩ ?_
    exact jk_use H28 (w64 (z25 + 1)) () [0, 1] ⟨rfl, rfl, rfl, rfl, trivial⟩ rfl rfl rfl
  refine jd_mv rfl rfl rfl rfl ?_
  refine jd_mv rfl rfl rfl rfl ?_
  refine jd_mv rfl rfl rfl rfl ?_
  refine jd_c0 rfl rfl (fun v w hs hm => occupancy_Clear_c hm (hs.row 1 rfl)) rfl rfl fun v40 => ?_
  refine jd_y rfl (fun w hs => yv_lss rfl rfl) rfl rfl ?_
  refine jd_y rfl (fun w hs => yv_pick_t rfl rfl) rfl rfl ?_
  refine jd_y rfl (fun w hs => yv_pick_f rfl rfl) rfl rfl ?_
  refine jd_nils [(7, _), (9, _), (10, _), (12, _), (83, _)] ⟨rfl, rfl, rfl, rfl, rfl, trivial⟩ ?_
  refine jk_sn ?_
  refine jn_cond rfl ?_ ?_
  rotate_left
  · refine jn_skip ?_
    refine jk_bn (jk_sn ?_)
    refine jn_reg 9 ?_
    refine jg_mv rfl rfl rfl ?_
    refine jg_y (fun w hs => yv_add_w rfl rfl) rfl rfl ?_
    refine jg_as rfl rfl rfl ?_
    refine jg_nils [(7, _), (9, _), (10, _), (12, _)] ⟨rfl, rfl, rfl, rfl, trivial⟩ ?_
    exact jk_use H28 (w64 (z25 + 1)) () [0, 1] ⟨rfl, rfl, rfl, rfl, trivial⟩ rfl rfl rfl
  refine jn_seq ?_
  refine jn_reg 14 ?_
  refine jg_as rfl rfl rfl ?_
  refine jg_nils [(4, _)] ⟨rfl, trivial⟩ ?_
  refine jk_sel (is := []) (s0 rfl) rfl ?_
  refine jk_sn ?_
  refine jn_ret ?_
  refine jk_br (jk_sr (jk_lr (jk_br (jk_sr ?_))))
  exact jk_ret1 rfl (fun w hs => .tmp rfl) (fun w hs => ⟨rfl, hs.drop⟩)
theorem r20_Valid_c {w : World} {a0 : (List Piece)} {ha0 : Hd} {v : Int} (hm : r20_Valid a0 = some v) (Rha0 : Sl w ha0 Piece.enc a0) : Gives Try.prog 42 [ha0.v] w (.int .i64 v) := by
  refine j_gives (vs := [ha0.v]) (U := fun (v : Int) => .int .i64 v) Try.func42 rfl Try.ntmps42 rfl rfl hm ?_
  unfold r20_Valid
  clear hm
  refine jn_seq ?_
  refine jn_reg 0 ?_
  refine jg_as rfl rfl rfl ?_
  refine jg_nils [(0, _)] ⟨rfl, trivial⟩ ?_
  refine jk_sn ?_
  refine jn_seq ?_
  refine jn_seq ?_
  refine jn_reg 1 ?_
  refine jg_mv rfl rfl rfl ?_
  refine jg_y (fun w hs => yv_ln rfl (hs.arg Rha0)) rfl rfl ?_
  refine jg_y (fun w hs => yv_lss rfl rfl) rfl rfl ?_
  refine jg_mv rfl rfl rfl ?_
  refine jg_split 8 rfl ?_ ?_
  · refine jg_skip rfl rfl ?_
    refine jg_skip rfl rfl ?_
    refine jg_skip rfl rfl ?_
    refine jg_y (fun w hs => yv_pick_t rfl rfl) rfl rfl ?_
    refine jg_nils [(0, _), (12, _)] ⟨rfl, rfl, trivial⟩ ?_
    refine jk_sn ?_
    refine jn_ct rfl ?_
    refine jn_seq ?_
    refine jn_reg 2 ?_
    refine jg_as rfl rfl rfl ?_
    refine jg_nils [(2, _)] ⟨rfl, trivial⟩ ?_
    refine jk_sn ?_
    refine jn_ret ?_
    refine jk_sr ?_
    exact jk_ret1 rfl (fun w hs => .tmp rfl) (fun w hs => ⟨rfl, hs.drop⟩)
  refine jg_mv rfl rfl rfl ?_
  refine jg_y (fun w hs => yv_ln rfl (hs.arg Rha0)) rfl rfl ?_
  refine jg_y (fun w hs => yv_gtr rfl rfl) rfl rfl ?_
  refine jg_y (fun w hs => yv_pick_f rfl rfl) rfl rfl ?_
  refine jg_nils [(0, _), (12, _)] ⟨rfl, rfl, trivial⟩ ?_
  refine jk_sn ?_
  refine jn_cond rfl ?_ ?_
  · refine jn_seq ?_
    refine jn_reg 2 ?_
    refine jg_as rfl rfl rfl ?_
    refine jg_nils [(2, _)] ⟨rfl, trivial⟩ ?_
    refine jk_sn ?_
    refine jn_ret ?_
    refine jk_sr ?_
    exact jk_ret1 rfl (fun w hs => .tmp rfl) (fun w hs => ⟨rfl, hs.drop⟩)
  refine jn_skip ?_
  refine jk_sn ?_
  refine jn_seq ?_
  refine jn_seq ?_
  refine jn_reg 3 ?_
  refine jg_as rfl rfl rfl ?_
  refine jg_nils [(0, _), (3, _)] ⟨rfl, rfl, trivial⟩ ?_
  refine jk_sn ?_
  refine jn_block ?_
  refine jn_lp (n := big) (fun (s : Int) (g : Unit) => [(0, ha0.v), (3, .int .i64 s)]) (fun (s : Int) (g : Unit) => []) (fun (s : Int) (g : Unit) => []) 0 () [] ⟨rfl, rfl, trivial⟩ rfl rfl rfl ?_
  intro z1 q2 n5 k3 H4
  refine jn_seq ?_
  refine jn_seq ?_
  refine jn_reg 4 ?_
  refine jg_mv rfl rfl rfl ?_
  refine jg_mv rfl rfl rfl ?_
  refine jg_y (fun w hs => yv_ln rfl (hs.arg Rha0)) rfl rfl ?_
  refine jg_y (fun w hs => yv_lss rfl rfl) rfl rfl ?_
  refine jg_nils [(0, _), (3, _), (16, _)] ⟨rfl, rfl, rfl, trivial⟩ ?_
  refine jk_sn ?_
  refine jn_cond rfl ?_ ?_
  rotate_left
  · refine jn_exit ?_
    refine jk_se (jk_le (jk_bh (jk_sn ?_)))
    refine jn_seq ?_
    refine jn_reg 9 ?_
    refine jg_as rfl rfl rfl ?_
    refine jg_nils [(2, _)] ⟨rfl, trivial⟩ ?_
    refine jk_sn ?_
    refine jn_ret ?_
    exact jk_ret1 rfl (fun w hs => .tmp rfl) (fun w hs => ⟨rfl, hs.drop⟩)
  refine jn_skip ?_
  refine jk_sn ?_
  refine jn_seq ?_
  refine jn_block ?_
  refine jn_seq ?_
  refine jn_reg 6 ?_
  refine jg_mv rfl rfl rfl ?_
  refine jg_mv rfl rfl rfl ?_
  refine jg_ix fun x6 h7 => ?_
  refine jg_y (fun w hs => yv_ix rfl rfl (hs.arg Rha0) h7) rfl rfl ?_
  refine jg_y (fun w hs => yv_eS rfl (hs.arg Rha0) h7.1 (l5 rfl) rfl) rfl rfl ?_
  refine jg_alloc (l5 rfl) rfl rfl fun g8 => ?_
  refine jg_store 0 rfl rfl rfl (l5 rfl) rfl rfl rfl rfl (l5 rfl) (r1 rfl) ?_
  refine jg_nils [(0, _), (3, _), (4, _)] ⟨rfl, rfl, rfl, trivial⟩ ?_
  refine jk_sn ?_
  refine jn_seq ?_
  refine jn_reg 7 ?_
  refine jg_y (fun w hs => yv_fieldAddr rfl) rfl rfl ?_
  refine jg_y (fun w hs => yv_load rfl (ld1B (hs.blkL (i := 0) rfl) rfl)) rfl rfl ?_
  refine jg_y (fun w hs => yv_lss rfl rfl) rfl rfl ?_
  refine jg_mv rfl rfl rfl ?_
  refine jg_split 26 rfl ?_ ?_
  · refine jg_skip rfl rfl ?_
    refine jg_skip rfl rfl ?_
    refine jg_skip rfl rfl ?_
    refine jg_y (fun w hs => yv_pick_t rfl rfl) rfl rfl ?_
    refine jg_mv rfl rfl rfl ?_
    refine jg_skip rfl rfl ?_
    refine jg_skip rfl rfl ?_
    refine jg_skip rfl rfl ?_
    refine jg_y (fun w hs => yv_pick_t rfl rfl) rfl rfl ?_
    refine jg_mv rfl rfl rfl ?_
    refine jg_skip rfl rfl ?_
    refine jg_skip rfl rfl ?_
    refine jg_skip rfl rfl ?_
    refine jg_y (fun w hs => yv_pick_t rfl rfl) rfl rfl ?_
    refine jg_mv rfl rfl rfl ?_
    refine jg_skip rfl rfl ?_
    refine jg_skip rfl rfl ?_
    refine jg_skip rfl rfl ?_
    refine jg_y (fun w hs => yv_pick_t rfl rfl) rfl rfl ?_
    refine jg_mv rfl rfl rfl ?_
    refine jg_skip rfl rfl ?_
    refine jg_skip rfl rfl ?_
    refine jg_skip rfl rfl ?_
    refine jg_y (fun w hs => yv_pick_t rfl rfl) rfl rfl ?_
    refine jg_mv rfl rfl rfl ?_
    refine jg_skip rfl rfl ?_
    refine jg_skip rfl rfl ?_
    refine jg_skip rfl rfl ?_
    refine jg_y (fun w hs => yv_pick_t rfl rfl) rfl rfl ?_
    refine jg_mv rfl rfl rfl ?_
    refine jg_skip rfl rfl ?_
    refine jg_skip rfl rfl ?_
    refine jg_skip rfl rfl ?_
    refine jg_y (fun w hs => yv_pick_t rfl rfl) rfl rfl ?_
    refine jg_mv rfl rfl rfl ?_
    refine jg_skip rfl rfl ?_
    refine jg_skip rfl rfl ?_
    refine jg_skip rfl rfl ?_
    refine jg_y (fun w hs => yv_pick_t rfl rfl) rfl rfl ?_
    refine jg_mv rfl rfl rfl ?_
    refine jg_skip rfl rfl ?_
    refine jg_skip rfl rfl ?_
    refine jg_skip rfl rfl ?_
    refine jg_y (fun w hs => yv_pick_t rfl rfl) rfl rfl ?_
    refine jg_nils [(0, _), (3, _), (70, _)] ⟨rfl, rfl, rfl, trivial⟩ ?_
    refine jk_sn ?_
    refine jn_ct rfl ?_
    refine jn_seq ?_
    refine jn_reg 8 ?_
    refine jg_as rfl rfl rfl ?_
    refine jg_nils [(2, _)] ⟨rfl, trivial⟩ ?_
    refine jk_sn ?_
    refine jn_ret ?_
    refine jk_br (jk_sr (jk_lr (jk_br (jk_sr ?_))))
    exact jk_ret1 rfl (fun w hs => .tmp rfl) (fun w hs => ⟨rfl, hs.drop⟩)
  refine jg_y (fun w hs => yv_fieldAddr rfl) rfl rfl ?_
  refine jg_y (fun w hs => yv_load rfl (ld1B (hs.blkL (i := 0) rfl) rfl)) rfl rfl ?_
  refine jg_y (fun w hs => yv_geq rfl rfl) rfl rfl ?_
  refine jg_y (fun w hs => yv_pick_f rfl rfl) rfl rfl ?_
  refine jg_mv rfl rfl rfl ?_
  refine jg_split 31 rfl ?_ ?_
  · refine jg_skip rfl rfl ?_
    refine jg_skip rfl rfl ?_
    refine jg_skip rfl rfl ?_
    refine jg_y (fun w hs => yv_pick_t rfl rfl) rfl rfl ?_
    refine jg_mv rfl rfl rfl ?_
    refine jg_skip rfl rfl ?_
    refine jg_skip rfl rfl ?_
    refine jg_skip rfl rfl ?_
    refine jg_y (fun w hs => yv_pick_t rfl rfl) rfl rfl ?_
    refine jg_mv rfl rfl rfl ?_
    refine jg_skip rfl rfl ?_
    refine jg_skip rfl rfl ?_
    refine jg_skip rfl rfl ?_
    refine jg_y (fun w hs => yv_pick_t rfl rfl) rfl rfl ?_
    refine jg_mv rfl rfl rfl ?_
    refine jg_skip rfl rfl ?_
    refine jg_skip rfl rfl ?_
    refine jg_skip rfl rfl ?_
    refine jg_y (fun w hs => yv_pick_t rfl rfl) rfl rfl ?_
    refine jg_mv rfl rfl rfl ?_
    refine jg_skip rfl rfl ?_
    refine jg_skip rfl rfl ?_
    refine jg_skip rfl rfl ?_
    refine jg_y (fun w hs => yv_pick_t rfl rfl) rfl rfl ?_
    refine jg_mv rfl rfl rfl ?_
    refine jg_skip rfl rfl ?_
    refine jg_skip rfl rfl ?_
    refine jg_skip rfl rfl ?_
    refine jg_y (fun w hs => yv_pick_t rfl rfl) rfl rfl ?_
    refine jg_mv rfl rfl rfl ?_
    refine jg_skip rfl rfl ?_
    refine jg_skip rfl rfl ?_
    refine jg_skip rfl rfl ?_
    refine jg_y (fun w hs => yv_pick_t rfl rfl) rfl rfl ?_
    refine jg_mv rfl rfl rfl ?_
    refine jg_skip rfl rfl ?_
    refine jg_skip rfl rfl ?_
    refine jg_skip rfl rfl ?_
    refine jg_y (fun w hs => yv_pick_t rfl rfl) rfl rfl ?_
    refine jg_nils [(0, _), (3, _), (70, _)] ⟨rfl, rfl, rfl, trivial⟩ ?_
    refine jk_sn ?_
    refine jn_ct rfl ?_
    refine jn_seq ?_
    refine jn_reg 8 ?_
    refine jg_as rfl rfl rfl ?_
    refine jg_nils [(2, _)] ⟨rfl, trivial⟩ ?_
    refine jk_sn ?_
    refine jn_ret ?_
    refine jk_br (jk_sr (jk_lr (jk_br (jk_sr ?_))))
    exact jk_ret1 rfl (fun w hs => .tmp rfl) (fun w hs => ⟨rfl, hs.drop⟩)
  refine jg_y (fun w hs => yv_fieldAddr rfl) rfl rfl ?_
  refine jg_y (fun w hs => yv_load rfl (ld1B (hs.blkL (i := 0) rfl) rfl)) rfl rfl ?_
  refine jg_y (fun w hs => yv_lss rfl rfl) rfl rfl ?_
  refine jg_y (fun w hs => yv_pick_f rfl rfl) rfl rfl ?_
  refine jg_mv rfl rfl rfl ?_
  refine jg_split 36 rfl ?_ ?_
  · refine jg_skip rfl rfl ?_
    refine jg_skip rfl rfl ?_
    refine jg_skip rfl rfl ?_
    refine jg_y (fun w hs => yv_pick_t rfl rfl) rfl rfl ?_
    refine jg_mv rfl rfl rfl ?_
    refine jg_skip rfl rfl ?_
    refine jg_skip rfl rfl ?_
    refine jg_skip rfl rfl ?_
    refine jg_y (fun w hs => yv_pick_t rfl rfl) rfl rfl ?_
    refine jg_mv rfl rfl rfl ?_
    refine jg_skip rfl rfl ?_
    refine jg_skip rfl rfl ?_
    refine jg_skip rfl rfl ?_
    refine jg_y (fun w hs => yv_pick_t rfl rfl) rfl rfl ?_
    refine jg_mv rfl rfl rfl ?_
    refine jg_skip rfl rfl ?_
    refine jg_skip rfl rfl ?_
    refine jg_skip rfl rfl ?_
    refine jg_y (fun w hs => yv_pick_t rfl rfl) rfl rfl ?_
    refine jg_mv rfl rfl rfl ?_
    refine jg_skip rfl rfl ?_
    refine jg_skip rfl rfl ?_
    refine jg_skip rfl rfl ?_
    refine jg_y (fun w hs => yv_pick_t rfl rfl) rfl rfl ?_
    refine jg_mv rfl rfl rfl ?_
    refine jg_skip rfl rfl ?_
    refine jg_skip rfl rfl ?_
    refine jg_skip rfl rfl ?_
    refine jg_y (fun w hs => yv_pick_t rfl rfl) rfl rfl ?_
    refine jg_mv rfl rfl rfl ?_
    refine jg_skip rfl rfl ?_
    refine jg_skip rfl rfl ?_
    refine jg_skip rfl rfl ?_
    refine jg_y (fun w hs => yv_pick_t rfl rfl) rfl rfl ?_
    refine jg_nils [(0, _), (3, _), (70, _)] ⟨rfl, rfl, rfl, trivial⟩ ?_
    refine jk_sn ?_
    refine jn_ct rfl ?_
    refine jn_seq ?_
    refine jn_reg 8 ?_
    refine jg_as rfl rfl rfl ?_
    refine jg_nils [(2, _)] ⟨rfl, trivial⟩ ?_
    refine jk_sn ?_
    refine jn_ret ?_
    refine jk_br (jk_sr (jk_lr (jk_br (jk_sr ?_))))
    exact jk_ret1 rfl (fun w hs => .tmp rfl) (fun w hs => ⟨rfl, hs.drop⟩)
  refine jg_y (fun w hs => yv_fieldAddr rfl) rfl rfl ?_
  refine jg_y (fun w hs => yv_load rfl (ld1B (hs.blkL (i := 0) rfl) rfl)) rfl rfl ?_
  refine jg_y (fun w hs => yv_gtr rfl rfl) rfl rfl ?_
  refine jg_y (fun w hs => yv_pick_f rfl rfl) rfl rfl ?_
  refine jg_mv rfl rfl rfl ?_
  refine jg_split 41 rfl ?_ ?_
  · refine jg_skip rfl rfl ?_
    refine jg_skip rfl rfl ?_
    refine jg_skip rfl rfl ?_
    refine jg_y (fun w hs => yv_pick_t rfl rfl) rfl rfl ?_
    refine jg_mv rfl rfl rfl ?_
    refine jg_skip rfl rfl ?_
    refine jg_skip rfl rfl ?_
    refine jg_skip rfl rfl ?_
    refine jg_y (fun w hs => yv_pick_t rfl rfl) rfl rfl ?_
    refine jg_mv rfl rfl rfl ?_
    refine jg_skip rfl rfl ?_
    refine jg_skip rfl rfl ?_
    refine jg_skip rfl rfl ?_
    refine jg_y (fun w hs => yv_pick_t rfl rfl) rfl rfl ?_
    refine jg_mv rfl rfl rfl ?_
    refine jg_skip rfl rfl ?_
    refine jg_skip rfl rfl ?_
    refine jg_skip rfl rfl ?_
    refine jg_y (fun w hs => yv_pick_t rfl rfl) rfl rfl ?_
    refine jg_mv rfl rfl rfl ?_
    refine jg_skip rfl rfl ?_
    refine jg_skip rfl rfl ?_
    refine jg_skip rfl rfl ?_
    refine jg_y (fun w hs => yv_pick_t rfl rfl) rfl rfl ?_
    refine jg_mv rfl rfl rfl ?_
    refine jg_skip rfl rfl ?_
    refine jg_skip rfl rfl ?_
    refine jg_skip rfl rfl ?_
    refine jg_y (fun w hs => yv_pick_t rfl rfl) rfl rfl ?_
    refine jg_nils [(0, _), (3, _), (70, _)] ⟨rfl, rfl, rfl, trivial⟩ ?_
    refine jk_sn ?_
    refine jn_ct rfl ?_
    refine jn_seq ?_
    refine jn_reg 8 ?_
    refine jg_as rfl rfl rfl ?_
    refine jg_nils [(2, _)] ⟨rfl, trivial⟩ ?_
    refine jk_sn ?_
    refine jn_ret ?_
    refine jk_br (jk_sr (jk_lr (jk_br (jk_sr ?_))))
    exact jk_ret1 rfl (fun w hs => .tmp rfl) (fun w hs => ⟨rfl, hs.drop⟩)
  refine jg_y (fun w hs => yv_fieldAddr rfl) rfl rfl ?_
  refine jg_y (fun w hs => yv_load rfl (ld1B (hs.blkL (i := 0) rfl) rfl)) rfl rfl ?_
  refine jg_y (fun w hs => yv_lss rfl rfl) rfl rfl ?_
  refine jg_y (fun w hs => yv_pick_f rfl rfl) rfl rfl ?_
  refine jg_mv rfl rfl rfl ?_
  refine jg_split 46 rfl ?_ ?_
  · refine jg_skip rfl rfl ?_
    refine jg_skip rfl rfl ?_
    refine jg_skip rfl rfl ?_
    refine jg_y (fun w hs => yv_pick_t rfl rfl) rfl rfl ?_
    refine jg_mv rfl rfl rfl ?_
    refine jg_skip rfl rfl ?_
    refine jg_skip rfl rfl ?_
    refine jg_skip rfl rfl ?_
    refine jg_y (fun w hs => yv_pick_t rfl rfl) rfl rfl ?_
    refine jg_mv rfl rfl rfl ?_
    refine jg_skip rfl rfl ?_
    refine jg_skip rfl rfl ?_
    refine jg_skip rfl rfl ?_
    refine jg_y (fun w hs => yv_pick_t rfl rfl) rfl rfl ?_
    refine jg_mv rfl rfl rfl ?_
    refine jg_skip rfl rfl ?_
    refine jg_skip rfl rfl ?_
    refine jg_skip rfl rfl ?_
    refine jg_y (fun w hs => yv_pick_t rfl rfl) rfl rfl ?_
    refine jg_mv rfl rfl rfl ?_
    refine jg_skip rfl rfl ?_
    refine jg_skip rfl rfl ?_
    refine jg_skip rfl rfl ?_
    refine jg_y (fun w hs => yv_pick_t rfl rfl) rfl rfl ?_
    refine jg_nils [(0, _), (3, _), (70, _)] ⟨rfl, rfl, rfl, trivial⟩ ?_
    refine jk_sn ?_
    refine jn_ct rfl ?_
    refine jn_seq ?_
    refine jn_reg 8 ?_
    refine jg_as rfl rfl rfl ?_
    refine jg_nils [(2, _)] ⟨rfl, trivial⟩ ?_
    refine jk_sn ?_
    refine jn_ret ?_
    refine jk_br (jk_sr (jk_lr (jk_br (jk_sr ?_))))
    exact jk_ret1 rfl (fun w hs => .tmp rfl) (fun w hs => ⟨rfl, hs.drop⟩)
  refine jg_y (fun w hs => yv_fieldAddr rfl) rfl rfl ?_
  refine jg_y (fun w hs => yv_load rfl (ld1B (hs.blkL (i := 0) rfl) rfl)) rfl rfl ?_
  refine jg_y (fun w hs => yv_gtr rfl rfl) rfl rfl ?_
  refine jg_y (fun w hs => yv_pick_f rfl rfl) rfl rfl ?_
  refine jg_mv rfl rfl rfl ?_
  refine jg_split 51 rfl ?_ ?_
  · refine jg_skip rfl rfl ?_
    refine jg_skip rfl rfl ?_
    refine jg_skip rfl rfl ?_
    refine jg_y (fun w hs => yv_pick_t rfl rfl) rfl rfl ?_
    refine jg_mv rfl rfl rfl ?_
    refine jg_skip rfl rfl ?_
    refine jg_skip rfl rfl ?_
    refine jg_skip rfl rfl ?_
    refine jg_y (fun w hs => yv_pick_t rfl rfl) rfl rfl ?_
    refine jg_mv rfl rfl rfl ?_
    refine jg_skip rfl rfl ?_
    refine jg_skip rfl rfl ?_
    refine jg_skip rfl rfl ?_
    refine jg_y (fun w hs => yv_pick_t rfl rfl) rfl rfl ?_
    refine jg_mv rfl rfl rfl ?_
    refine jg_skip rfl rfl ?_
    refine jg_skip rfl rfl ?_
    refine jg_skip rfl rfl ?_
    refine jg_y (fun w hs => yv_pick_t rfl rfl) rfl rfl ?_
    refine jg_nils [(0, _), (3, _), (70, _)] ⟨rfl, rfl, rfl, trivial⟩ ?_
    refine jk_sn ?_
    refine jn_ct rfl ?_
    refine jn_seq ?_
    refine jn_reg 8 ?_
    refine jg_as rfl rfl rfl ?_
    refine jg_nils [(2, _)] ⟨rfl, trivial⟩ ?_
    refine jk_sn ?_
    refine jn_ret ?_
    refine jk_br (jk_sr (jk_lr (jk_br (jk_sr ?_))))
    exact jk_ret1 rfl (fun w hs => .tmp rfl) (fun w hs => ⟨rfl, hs.drop⟩)
  refine jg_y (fun w hs => yv_fieldAddr rfl) rfl rfl ?_
  refine jg_y (fun w hs => yv_load rfl (ld1B (hs.blkL (i := 0) rfl) rfl)) rfl rfl ?_
  refine jg_y (fun w hs => yv_lss rfl rfl) rfl rfl ?_
  refine jg_y (fun w hs => yv_pick_f rfl rfl) rfl rfl ?_
  refine jg_mv rfl rfl rfl ?_
  refine jg_split 56 rfl ?_ ?_
  · refine jg_skip rfl rfl ?_
    refine jg_skip rfl rfl ?_
    refine jg_skip rfl rfl ?_
    refine jg_y (fun w hs => yv_pick_t rfl rfl) rfl rfl ?_
    refine jg_mv rfl rfl rfl ?_
    refine jg_skip rfl rfl ?_
    refine jg_skip rfl rfl ?_
    refine jg_skip rfl rfl ?_
    refine jg_y (fun w hs => yv_pick_t rfl rfl) rfl rfl ?_
    refine jg_mv rfl rfl rfl ?_
    refine jg_skip rfl rfl ?_
    refine jg_skip rfl rfl ?_
    refine jg_skip rfl rfl ?_
    refine jg_y (fun w hs => yv_pick_t rfl rfl) rfl rfl ?_
    refine jg_nils [(0, _), (3, _), (70, _)] ⟨rfl, rfl, rfl, trivial⟩ ?_
    refine jk_sn ?_
    refine jn_ct rfl ?_
    refine jn_seq ?_
    refine jn_reg 8 ?_
    refine jg_as rfl rfl rfl ?_
    refine jg_nils [(2, _)] ⟨rfl, trivial⟩ ?_
    refine jk_sn ?_
    refine jn_ret ?_
    refine jk_br (jk_sr (jk_lr (jk_br (jk_sr ?_))))
    exact jk_ret1 rfl (fun w hs => .tmp rfl) (fun w hs => ⟨rfl, hs.drop⟩)
  refine jg_y (fun w hs => yv_fieldAddr rfl) rfl rfl ?_
  refine jg_y (fun w hs => yv_load rfl (ld1B (hs.blkL (i := 0) rfl) rfl)) rfl rfl ?_
  refine jg_y (fun w hs => yv_gtr rfl rfl) rfl rfl ?_
  refine jg_y (fun w hs => yv_pick_f rfl rfl) rfl rfl ?_
  refine jg_mv rfl rfl rfl ?_
  refine jg_split 61 rfl ?_ ?_
  · refine jg_skip rfl rfl ?_
    refine jg_skip rfl rfl ?_
    refine jg_skip rfl rfl ?_
    refine jg_y (fun w hs => yv_pick_t rfl rfl) rfl rfl ?_
    refine jg_mv rfl rfl rfl ?_
    refine jg_skip rfl rfl ?_
    refine jg_skip rfl rfl ?_
    refine jg_skip rfl rfl ?_
    refine jg_y (fun w hs => yv_pick_t rfl rfl) rfl rfl ?_
    refine jg_nils [(0, _), (3, _), (70, _)] ⟨rfl, rfl, rfl, trivial⟩ ?_
    refine jk_sn ?_
    refine jn_ct rfl ?_
    refine jn_seq ?_
    refine jn_reg 8 ?_
    refine jg_as rfl rfl rfl ?_
    refine jg_nils [(2, _)] ⟨rfl, trivial⟩ ?_
    refine jk_sn ?_
    refine jn_ret ?_
    refine jk_br (jk_sr (jk_lr (jk_br (jk_sr ?_))))
    exact jk_ret1 rfl (fun w hs => .tmp rfl) (fun w hs => ⟨rfl, hs.drop⟩)
  refine jg_y (fun w hs => yv_fieldAddr rfl) rfl rfl ?_
  refine jg_y (fun w hs => yv_load rfl (ld1B (hs.blkL (i := 0) rfl) rfl)) rfl rfl ?_
  refine jg_y (fun w hs => yv_lss rfl rfl) rfl rfl ?_
  refine jg_y (fun w hs => yv_pick_f rfl rfl) rfl rfl ?_
  refine jg_mv rfl rfl rfl ?_
  refine jg_split 66 rfl ?_ ?_
  · refine jg_skip rfl rfl ?_
    refine jg_skip rfl rfl ?_
    refine jg_skip rfl rfl ?_
    refine jg_y (fun w hs => yv_pick_t rfl rfl) rfl rfl ?_
    refine jg_nils [(0, _), (3, _), (70, _)] ⟨rfl, rfl, rfl, trivial⟩ ?_
    refine jk_sn ?_
    refine jn_ct rfl ?_
    refine jn_seq ?_
    refine jn_reg 8 ?_
    refine jg_as rfl rfl rfl ?_
    refine jg_nils [(2, _)] ⟨rfl, trivial⟩ ?_
    refine jk_sn ?_
    refine jn_ret ?_
    refine jk_br (jk_sr (jk_lr (jk_br (jk_sr ?_))))
    exact jk_ret1 rfl (fun w hs => .tmp rfl) (fun w hs => ⟨rfl, hs.drop⟩)
  refine jg_y (fun w hs => yv_fieldAddr rfl) rfl rfl ?_
  refine jg_y (fun w hs => yv_load rfl (ld1B (hs.blkL (i := 0) rfl) rfl)) rfl rfl ?_
  refine jg_y (fun w hs => yv_gtr rfl rfl) rfl rfl ?_
  refine jg_y (fun w hs => yv_pick_f rfl rfl) rfl rfl ?_
  refine jg_nils [(0, _), (3, _), (70, _)] ⟨rfl, rfl, rfl, trivial⟩ ?_
  refine jk_sn ?_
  refine jn_cond rfl ?_ ?_
  · refine jn_seq ?_
    refine jn_reg 8 ?_
    refine jg_as rfl rfl rfl ?_
    refine jg_nils [(2, _)] ⟨rfl, trivial⟩ ?_
    refine jk_sn ?_
    refine jn_ret ?_
    refine jk_br (jk_sr (jk_lr (jk_br (jk_sr ?_))))
    exact jk_ret1 rfl (fun w hs => .tmp rfl) (fun w hs => ⟨rfl, hs.drop⟩)
  refine jn_skip ?_
  refine jk_bn (jk_sn ?_)
  refine jn_reg 5 ?_
  refine jg_mv rfl rfl rfl ?_
  refine jg_y (fun w hs => yv_add_w rfl rfl) rfl rfl ?_
  refine jg_as rfl rfl rfl ?_
  refine jg_nils [(0, _), (3, _)] ⟨rfl, rfl, trivial⟩ ?_
  exact jk_use H4 (w64 (z1 + 1)) () [] ⟨rfl, rfl, trivial⟩ rfl rfl rfl
theorem r22_Approach_c {w : World} {a0 : (List Piece)} {a1 : Int} {ha0 : Hd} {v : ((List Piece) × Int)} (hm : r22_Approach a0 a1 = some v) (Rha0 : Sl w ha0 Piece.enc a0) : Calls Try.prog 20 ([ha0.v, .int .i64 a1] : List Value).toArray w (fun e w' => ∃ g : Hd, e = .returned (.tuple #[g.v, .int .i64 v.2]) ∧ St w w' [] [(rowH g 30 5 Piece.enc v.1)]) := by
  refine j_enter (vs := [ha0.v, .int .i64 a1]) (R := fun (v : ((List Piece) × Int)) (e : Ending) (w' : World) => ∃ g : Hd, e = .returned (.tuple #[g.v, .int .i64 v.2]) ∧ St w w' [] [(rowH g 30 5 Piece.enc v.1)]) Try.func20 rfl Try.ntmps20 rfl rfl (St.refl w) hm ?_
  unfold r22_Approach
  clear hm
  refine jn_seq ?_
  refine jn_reg 0 ?_
  refine jg_as rfl rfl rfl ?_
  refine jg_as rfl rfl rfl ?_
  refine jg_nils [(0, _), (1, _)] ⟨rfl, rfl, trivial⟩ ?_
  refine jk_sn ?_
  refine jn_seq ?_
  refine jn_seq ?_
  refine jn_reg 1 ?_
  refine jg_mv rfl rfl rfl ?_
  refine jg_c0 rfl (fun v w hs hm => r20_Valid_c hm (hs.arg Rha0)) rfl rfl fun v1 => ?_
  refine jg_as rfl rfl rfl ?_
  refine jg_nils [(0, _), (1, _), (6, _)] ⟨rfl, rfl, rfl, trivial⟩ ?_
  refine jk_sn ?_
  refine jn_seq ?_
  refine jn_reg 2 ?_
  refine jg_mv rfl rfl rfl ?_
  refine jg_y (fun w hs => yv_neq rfl rfl) rfl rfl ?_
  refine jg_nils [(0, _), (1, _), (6, _), (12, _)] ⟨rfl, rfl, rfl, rfl, trivial⟩ ?_
  refine jk_sn ?_
  refine jn_cond rfl ?_ ?_
  · refine jn_seq ?_
    refine jn_reg 3 ?_
    refine jg_mv rfl rfl rfl ?_
    refine jg_as rfl rfl rfl ?_
    refine jg_as rfl rfl rfl ?_
    refine jg_nils [(4, _), (5, _)] ⟨rfl, rfl, trivial⟩ ?_
    refine jk_sn ?_
    refine jn_ret ?_
    refine jk_sr ?_
    refine jk_addnil 30 5 Piece.enc ?_
    exact jk_ret2 rfl (fun w hs => .tmp rfl) (fun w hs => .tmp rfl) (fun w hs => ⟨(Hd.mk none 0 0), rfl, hs.sel (is := [0]) rfl rfl⟩)
  refine jn_skip ?_
  refine jk_sn ?_
  refine jn_seq ?_
  refine jn_seq ?_
  refine jn_reg 4 ?_
  refine jg_mv rfl rfl rfl ?_
  refine jg_y (fun w hs => yv_lss rfl rfl) rfl rfl ?_
  refine jg_mv rfl rfl rfl ?_
  refine jg_split 16 rfl ?_ ?_
  · refine jg_skip rfl rfl ?_
    refine jg_skip rfl rfl ?_
    refine jg_y (fun w hs => yv_pick_t rfl rfl) rfl rfl ?_
    refine jg_nils [(0, _), (1, _), (19, _)] ⟨rfl, rfl, rfl, trivial⟩ ?_
    refine jk_sn ?_
    refine jn_ct rfl ?_
    refine jn_seq ?_
    refine jn_reg 5 ?_
    refine jg_as rfl rfl rfl ?_
    refine jg_as rfl rfl rfl ?_
    refine jg_nils [(4, _), (5, _)] ⟨rfl, rfl, trivial⟩ ?_
    refine jk_sn ?_
    refine jn_ret ?_
    refine jk_sr ?_
    refine jk_addnil 30 5 Piece.enc ?_
    exact jk_ret2 rfl (fun w hs => .tmp rfl) (fun w hs => .tmp rfl) (fun w hs => ⟨(Hd.mk none 0 0), rfl, hs.sel (is := [0]) rfl rfl⟩)
  refine jg_mv rfl rfl rfl ?_
  refine jg_y (fun w hs => yv_gtr rfl rfl) rfl rfl ?_
  refine jg_y (fun w hs => yv_pick_f rfl rfl) rfl rfl ?_
  refine jg_nils [(0, _), (1, _), (19, _)] ⟨rfl, rfl, rfl, trivial⟩ ?_
  refine jk_sn ?_
  refine jn_cond rfl ?_ ?_
  · refine jn_seq ?_
    refine jn_reg 5 ?_
    refine jg_as rfl rfl rfl ?_
    refine jg_as rfl rfl rfl ?_
    refine jg_nils [(4, _), (5, _)] ⟨rfl, rfl, trivial⟩ ?_
    refine jk_sn ?_
    refine jn_ret ?_
    refine jk_sr ?_
    refine jk_addnil 30 5 Piece.enc ?_
    exact jk_ret2 rfl (fun w hs => .tmp rfl) (fun w hs => .tmp rfl) (fun w hs => ⟨(Hd.mk none 0 0), rfl, hs.sel (is := [0]) rfl rfl⟩)
  refine jn_skip ?_
  refine jk_sn ?_
  refine jn_seq ?_
  refine jn_reg 6 ?_
  refine jg_mv rfl rfl rfl ?_
  refine jg_y (fun w hs => yv_ln rfl (hs.arg Rha0)) rfl rfl ?_
  refine jg_y (fun w hs => yv_sub_w rfl rfl) rfl rfl ?_
  refine jg_as rfl rfl rfl ?_
  refine jg_nils [(0, _), (1, _), (7, _)] ⟨rfl, rfl, rfl, trivial⟩ ?_
  refine jk_sn ?_
  refine jn_seq ?_
  refine jn_seq ?_
  refine jn_reg 7 ?_
  refine jg_mv rfl rfl rfl ?_
  refine jg_mv rfl rfl rfl ?_
  refine jg_ix fun x2 h3 => ?_
  refine jg_y (fun w hs => yv_ix rfl rfl (hs.arg Rha0) h3) rfl rfl ?_
  refine jg_y (fun w hs => yv_ef rfl (hs.arg Rha0) h3.1) rfl rfl ?_
  refine jg_y (fun w hs => yv_e1 rfl (hs.arg Rha0) h3.1 rfl) rfl rfl ?_
  refine jg_mv rfl rfl rfl ?_
  refine jg_y (fun w hs => yv_lss rfl rfl) rfl rfl ?_
  refine jg_nils [(0, _), (1, _), (7, _), (29, _)] ⟨rfl, rfl, rfl, rfl, trivial⟩ ?_
  refine jk_sn ?_
  refine jn_cond rfl ?_ ?_
  · refine jn_seq ?_
    refine jn_reg 8 ?_
    refine jg_as rfl rfl rfl ?_
    refine jg_as rfl rfl rfl ?_
    refine jg_nils [(4, _), (5, _)] ⟨rfl, rfl, trivial⟩ ?_
    refine jk_sn ?_
    refine jn_ret ?_
    refine jk_sr ?_
    refine jk_addnil 30 5 Piece.enc ?_
    exact jk_ret2 rfl (fun w hs => .tmp rfl) (fun w hs => .tmp rfl) (fun w hs => ⟨(Hd.mk none 0 0), rfl, hs.sel (is := [0]) rfl rfl⟩)
  refine jn_skip ?_
  refine jk_sn ?_
  refine jn_seq ?_
  refine jn_reg 9 ?_
  refine jg_lit0 (enc := Piece.enc) rfl rfl fun hd4 => ?_
  refine jg_mv rfl rfl rfl ?_
  refine jg_append 0 rfl rfl rfl (fun w hs => (hs.arg Rha0)) rfl rfl rfl fun y5 hd6 => ?_
  refine jg_L (r1 rfl) ?_
  refine jg_as rfl rfl rfl ?_
  refine jg_nils [(1, _), (7, _), (8, _)] ⟨rfl, rfl, rfl, trivial⟩ ?_
  refine jk_sn ?_
  refine jn_seq ?_
  refine jn_reg 10 ?_
  refine jg_mv rfl rfl rfl ?_
  refine jg_mv rfl rfl rfl ?_
  refine jg_mv rfl rfl rfl ?_
  refine jg_ix fun x7 h8 => ?_
  refine jg_y (fun w hs => yv_ix rfl rfl (hs.row 0 rfl) h8) rfl rfl ?_
  refine jg_y (fun w hs => yv_ef rfl (hs.row 0 rfl) h8.1) rfl rfl ?_
  refine jg_storeE 0 (a' := (Piece.mk x7.Element a1 x7.Grade x7.Curve x7.Power)) rfl rfl h8.1 rfl (l1 rfl) rfl rfl rfl rfl fun y9 => ?_
  refine jg_L (r1 rfl) ?_
  refine jg_nils [(8, _)] ⟨rfl, trivial⟩ ?_
  refine jk_sn ?_
  refine jn_seq ?_
  refine jn_reg 11 ?_
  refine jg_mv rfl rfl rfl ?_
  refine jg_as rfl rfl rfl ?_
  refine jg_as rfl rfl rfl ?_
  refine jg_nils [(4, _), (5, _)] ⟨rfl, rfl, trivial⟩ ?_
  refine jk_sn ?_
  refine jn_ret ?_
  exact jk_ret2 rfl (fun w hs => .tmp rfl) (fun w hs => .tmp rfl) (fun w hs => ⟨hd6, rfl, hs.sel (is := [0]) rfl rfl⟩)
theorem r20_Retarders_c {w : World} {a0 : (List Piece)} {ha0 : Hd} {v : Int} (hm : r20_Retarders a0 = some v) (Rha0 : Sl w ha0 Piece.enc a0) : Gives Try.prog 43 [ha0.v] w (.int .i64 v) := by
  refine j_gives (vs := [ha0.v]) (U := fun (v : Int) => .int .i64 v) Try.func43 rfl Try.ntmps43 rfl rfl hm ?_
  unfold r20_Retarders
  clear hm
  refine jn_seq ?_
  refine jn_reg 0 ?_
  refine jg_as rfl rfl rfl ?_
  refine jg_nils [(0, _)] ⟨rfl, trivial⟩ ?_
  refine jk_sn ?_
  refine jn_seq ?_
  refine jn_reg 1 ?_
  refine jg_as rfl rfl rfl ?_
  refine jg_nils [(0, _), (3, _)] ⟨rfl, rfl, trivial⟩ ?_
  refine jk_sn ?_
  refine jn_seq ?_
  refine jn_seq ?_
  refine jn_reg 2 ?_
  refine jg_as rfl rfl rfl ?_
  refine jg_nils [(0, _), (3, _), (4, _)] ⟨rfl, rfl, rfl, trivial⟩ ?_
  refine jk_sn ?_
  refine jn_block ?_
  refine jn_lp (n := big) (fun (s : (Int × Int)) (g : Unit) => [(0, ha0.v), (3, .int .i64 s.1), (4, .int .i64 s.2)]) (fun (s : (Int × Int)) (g : Unit) => []) (fun (s : (Int × Int)) (g : Unit) => []) (0, 0) () [] ⟨rfl, rfl, rfl, trivial⟩ rfl rfl rfl ?_
  intro z1 q2 n5 k3 H4
  refine jn_seq ?_
  refine jn_seq ?_
  refine jn_reg 3 ?_
  refine jg_mv rfl rfl rfl ?_
  refine jg_mv rfl rfl rfl ?_
  refine jg_y (fun w hs => yv_ln rfl (hs.arg Rha0)) rfl rfl ?_
  refine jg_y (fun w hs => yv_lss rfl rfl) rfl rfl ?_
  refine jg_nils [(0, _), (3, _), (4, _), (8, _)] ⟨rfl, rfl, rfl, rfl, trivial⟩ ?_
  refine jk_sn ?_
  refine jn_cond rfl ?_ ?_
  rotate_left
  · refine jn_exit ?_
    refine jk_se (jk_le (jk_bh (jk_sn ?_)))
    refine jn_seq ?_
    refine jn_reg 7 ?_
    refine jg_mv rfl rfl rfl ?_
    refine jg_as rfl rfl rfl ?_
    refine jg_nils [(2, _)] ⟨rfl, trivial⟩ ?_
    refine jk_sn ?_
    refine jn_ret ?_
    exact jk_ret1 rfl (fun w hs => .tmp rfl) (fun w hs => ⟨rfl, hs.drop⟩)
  refine jn_skip ?_
  refine jk_sn ?_
  refine jn_seq ?_
  refine jn_block ?_
  refine jn_seq ?_
  refine jn_reg 5 ?_
  refine jg_mv rfl rfl rfl ?_
  refine jg_mv rfl rfl rfl ?_
  refine jg_ix fun x6 h7 => ?_
  refine jg_y (fun w hs => yv_ix rfl rfl (hs.arg Rha0) h7) rfl rfl ?_
  refine jg_y (fun w hs => yv_ef rfl (hs.arg Rha0) h7.1) rfl rfl ?_
  refine jg_y (fun w hs => yv_e1 rfl (hs.arg Rha0) h7.1 rfl) rfl rfl ?_
  refine jg_y (fun w hs => yv_gtr rfl rfl) rfl rfl ?_
  refine jg_nils [(0, _), (3, _), (4, _), (16, _)] ⟨rfl, rfl, rfl, rfl, trivial⟩ ?_
  refine jk_sn ?_
  refine jn_cond rfl ?_ ?_
  rotate_left
  · refine jn_skip ?_
    refine jk_bn (jk_sn ?_)
    refine jn_reg 4 ?_
    refine jg_mv rfl rfl rfl ?_
    refine jg_y (fun w hs => yv_add_w rfl rfl) rfl rfl ?_
    refine jg_as rfl rfl rfl ?_
    refine jg_nils [(0, _), (3, _), (4, _)] ⟨rfl, rfl, rfl, trivial⟩ ?_
    exact jk_use H4 (z1.1, w64 (z1.2 + 1)) () [] ⟨rfl, rfl, rfl, trivial⟩ rfl rfl rfl
  refine jn_reg 6 ?_
  refine jg_mv rfl rfl rfl ?_
  refine jg_y (fun w hs => yv_add_w rfl rfl) rfl rfl ?_
  refine jg_as rfl rfl rfl ?_
  refine jg_nils [(0, _), (3, _), (4, _)] ⟨rfl, rfl, rfl, trivial⟩ ?_
  refine jk_bn (jk_sn ?_)
  refine jn_reg 4 ?_
  refine jg_mv rfl rfl rfl ?_
  refine jg_y (fun w hs => yv_add_w rfl rfl) rfl rfl ?_
  refine jg_as rfl rfl rfl ?_
  refine jg_nils [(0, _), (3, _), (4, _)] ⟨rfl, rfl, rfl, trivial⟩ ?_
  exact jk_use H4 (w64 (z1.1 + 1), w64 (z1.2 + 1)) () [] ⟨rfl, rfl, rfl, trivial⟩ rfl rfl rfl
theorem gen_Maker_Motion_c {w : World} {a0 : HumpgenMaker} {a1 : (List Piece)} {ha0_fl : Hd} {b0 : Nat} {ha1 : Hd} {v : (Motion × Int)} (hm : gen_Maker_Motion a0 a1 = some v) (Hb : Blk w b0 82 [ha0_fl.v, .int .i64 a0.fn]) (Rha0_fl : Sl w ha0_fl encI a0.fl) (Oha0_fl : Offs ha0_fl [b0]) (Rha1 : Sl w ha1 Piece.enc a1) (Oha1 : Offs ha1 [b0]) : Calls Try.prog 21 ([.pointer (some ⟨b0, 0, none⟩), ha1.v] : List Value).toArray w (fun e w' => ∃ g : (Hd × Hd), e = .returned (.agg #[.int .i64 v.1.Speed.Lo, .int .i64 v.1.Speed.Hi, g.1.v, .int .i64 v.1.Error, g.2.v]) ∧ St w w' [.blk b0 82 [ha0_fl.v, .int .i64 v.2]] [(rowH g.1 41 2 Interval.enc v.1.Class), (rowH g.2 3 1 encI v.1.Targets)]) := by
  refine j_enter (vs := [.pointer (some ⟨b0, 0, none⟩), ha1.v]) (R := fun (v : (Motion × Int)) (e : Ending) (w' : World) => ∃ g : (Hd × Hd), e = .returned (.agg #[.int .i64 v.1.Speed.Lo, .int .i64 v.1.Speed.Hi, g.1.v, .int .i64 v.1.Error, g.2.v]) ∧ St w w' [.blk b0 82 [ha0_fl.v, .int .i64 v.2]] [(rowH g.1 41 2 Interval.enc v.1.Class), (rowH g.2 3 1 encI v.1.Targets)]) Try.func21 rfl Try.ntmps21 rfl rfl (mk_st Hb) hm ?_
  unfold gen_Maker_Motion
  clear hm
  refine jn_seq ?_
  refine jn_reg 0 ?_
  refine jg_alloc (l5 rfl) rfl rfl fun g1 => ?_
  refine jg_nils [(0, _), (1, _), (4, _)] ⟨rfl, rfl, rfl, trivial⟩ ?_
  refine jk_sn ?_
  refine jn_seq ?_
  refine jn_reg 1 ?_
  refine jg_mv rfl rfl rfl ?_
  refine jg_lit (enc := encI) [0, 500, 1200, 1400, 2000] rfl rfl rfl rfl rfl rfl rfl rfl fun hd2 => ?_
  refine jm_c rfl (fun v w hs hm => gen_Maker_Pick_c hm (hs.blkM (i := 0) rfl) (hs.argM Rha0_fl Oha0_fl) Oha0_fl (hs.row 0 rfl) (hs.offML 0 0 rfl rfl)) (fun _ => rfl) rfl rfl fun v3 q4 => ?_
  refine jg_as rfl rfl rfl ?_
  refine jg_nils [(0, _), (1, _), (4, _), (5, _)] ⟨rfl, rfl, rfl, rfl, trivial⟩ ?_
  refine jk_sn ?_
  refine jn_seq ?_
  refine jn_reg 2 ?_
  refine jg_mv rfl rfl rfl ?_
  refine jg_mv rfl rfl rfl ?_
  refine jg_mv rfl rfl rfl ?_
  refine jg_lit (enc := encI) [0, 10, 100] rfl rfl rfl rfl rfl rfl rfl rfl fun hd5 => ?_
  refine jm_c rfl (fun v w hs hm => gen_Maker_Pick_c hm (hs.blkM (i := 0) rfl) (hs.argM Rha0_fl Oha0_fl) Oha0_fl (hs.row 0 rfl) (hs.offML 0 0 rfl rfl)) (fun _ => rfl) rfl rfl fun v6 q7 => ?_
  refine jg_y (fun w hs => yv_add_w rfl rfl) rfl rfl ?_
  refine jg_y (fun w hs => yv_build rfl (o2 rfl)) rfl rfl ?_
  refine jg_mv rfl rfl rfl ?_
  refine jg_lit (enc := encI) [0, 20, 100] rfl rfl rfl rfl rfl rfl rfl rfl fun hd8 => ?_
  refine jm_c rfl (fun v w hs hm => gen_Maker_Pick_c hm (hs.blkM (i := 0) rfl) (hs.argM Rha0_fl Oha0_fl) Oha0_fl (hs.row 0 rfl) (hs.offML 0 0 rfl rfl)) (fun _ => rfl) rfl rfl fun v9 q10 => ?_
  refine jg_y (fun w hs => yv_build rfl (o5 rfl)) rfl rfl ?_
  refine jg_alloc (l5 rfl) rfl rfl fun g11 => ?_
  refine jg_store 0 rfl rfl rfl (l5 rfl) rfl rfl rfl rfl (l5 rfl) (r5 rfl) ?_
  refine jg_nils [(0, _), (1, _), (4, _), (6, _)] ⟨rfl, rfl, rfl, rfl, trivial⟩ ?_
  refine jk_sel (is := [0, 4]) (s2 rfl) rfl ?_
  refine jk_sn ?_
  refine jn_seq ?_
  refine jn_reg 3 ?_
  refine jg_mv rfl rfl rfl ?_
  refine jg_lit (enc := encI) [0, 10, 20, 60] rfl rfl rfl rfl rfl rfl rfl rfl fun hd12 => ?_
  refine jm_c rfl (fun v w hs hm => gen_Maker_Pick_c hm (hs.blkM (i := 0) rfl) (hs.argM Rha0_fl Oha0_fl) Oha0_fl (hs.row 0 rfl) (hs.offML 0 0 rfl rfl)) (fun _ => rfl) rfl rfl fun v13 q14 => ?_
  refine jg_as rfl rfl rfl ?_
  refine jg_nils [(0, _), (1, _), (4, _), (6, _), (7, _)] ⟨rfl, rfl, rfl, rfl, rfl, trivial⟩ ?_
  refine jk_sn ?_
  refine jn_seq ?_
  refine jn_reg 4 ?_
  refine jg_mv rfl rfl rfl ?_
  refine jg_mv rfl rfl rfl ?_
  refine jg_lit (enc := encI) [0, 5, 30, 150] rfl rfl rfl rfl rfl rfl rfl rfl fun hd15 => ?_
  refine jm_c rfl (fun v w hs hm => gen_Maker_Pick_c hm (hs.blkM (i := 0) rfl) (hs.argM Rha0_fl Oha0_fl) Oha0_fl (hs.row 0 rfl) (hs.offML 0 0 rfl rfl)) (fun _ => rfl) rfl rfl fun v16 q17 => ?_
  refine jg_y (fun w hs => yv_add_w rfl rfl) rfl rfl ?_
  refine jg_as rfl rfl rfl ?_
  refine jg_nils [(0, _), (1, _), (4, _), (6, _), (7, _), (8, _)] ⟨rfl, rfl, rfl, rfl, rfl, rfl, trivial⟩ ?_
  refine jk_sel (is := [2, 3]) (s2 rfl) rfl ?_
  refine jk_sn ?_
  refine jn_join (fun (s : (List Interval)) (g : Hd) => [(0, .pointer (some ⟨b0, 0, none⟩)), (1, ha1.v), (4, .pointer (some ⟨g1, 0, none⟩)), (6, .pointer (some ⟨g11, 0, none⟩))]) (fun (s : (List Interval)) (g : Hd) => [(Res.blk b0 82 [ha0_fl.v, .int .i64 v16.2])]) (fun (s : (List Interval)) (g : Hd) => [(Res.blk g1 44 [.int .i64 0, .int .i64 0, (Hd.mk none 0 0).v, .int .i64 0, (Hd.mk none 0 0).v]), (Res.blk g11 44 [.int .i64 v3.1, .int .i64 (w64 (v3.1 + v6.1)), g.v, .int .i64 v9.1, (Hd.mk none 0 0).v]), (rowH g 41 2 Interval.enc s)]) ?_ ?_
  rotate_left
  · intro k20 H21
    refine jn_seq ?_
    refine jn_reg 5 ?_
    refine jg_as rfl rfl rfl ?_
    refine jg_nils [(0, _), (1, _), (4, _), (6, _), (7, _), (8, _), (9, _)] ⟨rfl, rfl, rfl, rfl, rfl, rfl, rfl, trivial⟩ ?_
    refine jk_sn ?_
    refine jn_block ?_
    refine jn_addnil 41 2 Interval.enc ?_
    refine jn_lp (n := big) (fun (s : ((List Interval) × Int)) (g : Hd) => [(0, .pointer (some ⟨b0, 0, none⟩)), (1, ha1.v), (4, .pointer (some ⟨g1, 0, none⟩)), (6, .pointer (some ⟨g11, 0, none⟩)), (7, .int .i64 v13.1), (8, .int .i64 (w64 (v13.1 + v16.1))), (9, .int .i64 s.2)]) (fun (s : ((List Interval) × Int)) (g : Hd) => [(Res.blk b0 82 [ha0_fl.v, .int .i64 v16.2])]) (fun (s : ((List Interval) × Int)) (g : Hd) => [(Res.blk g1 44 [.int .i64 0, .int .i64 0, (Hd.mk none 0 0).v, .int .i64 0, (Hd.mk none 0 0).v]), (Res.blk g11 44 [.int .i64 v3.1, .int .i64 (w64 (v3.1 + v6.1)), g.v, .int .i64 v9.1, (Hd.mk none 0 0).v]), (rowH g 41 2 Interval.enc s.1)]) (([] : List Interval), 0) (Hd.mk none 0 0) [2, 1, 0] ⟨rfl, rfl, rfl, rfl, rfl, rfl, rfl, trivial⟩ rfl rfl rfl ?_
    intro z34 q35 n38 k36 H37
    refine jn_seq ?_
    refine jn_seq ?_
    refine jn_reg 6 ?_
    refine jg_mv rfl rfl rfl ?_
    refine jg_mv rfl rfl rfl ?_
    refine jg_y (fun w hs => yv_ln rfl (hs.argM Rha1 Oha1)) rfl rfl ?_
    refine jg_y (fun w hs => yv_lss rfl rfl) rfl rfl ?_
    refine jg_nils [(0, _), (1, _), (4, _), (6, _), (7, _), (8, _), (9, _), (36, _)] ⟨rfl, rfl, rfl, rfl, rfl, rfl, rfl, rfl, trivial⟩ ?_
    refine jk_sn ?_
    refine jn_cond rfl ?_ ?_
    rotate_left
    · refine jn_exit ?_
      refine jk_se (jk_le (jk_bh ?_))
      exact jk_use H21 z34.1 q35 [0, 1, 2] ⟨rfl, rfl, rfl, rfl, trivial⟩ rfl rfl rfl
    refine jn_skip ?_
    refine jk_sn ?_
    refine jn_seq ?_
    refine jn_block ?_
    refine jn_draw (L' := [_, _, _]) 8 [0, 1, 3] [0, 1, 2, 3, 4, 5, 6, 7, 8, 9, 10, 11, 12, 13, 14, 15, 16, 17, 18, 19] 1048575 2097151 [0, 1, 0, 0, 0, 24, 32, 64, 132, 0, 0, 0, 3072, 4096, 8192, 16896, 33024, 65536, 131074, 524287, 1048575] [0, 1, 0, 0, 0, 24, 56, 120, 252, 0, 0, 0, 3072, 7168, 15360, 32256, 65532, 131068, 262143, 524287, 1048575] [(0, true), (1, true), (2, true), (3, true), (4, true), (5, true), (6, true), (7, true), (8, true), (9, true), (10, true), (11, true), (12, true), (13, true), (14, true), (15, true), (16, true), (17, false), (18, false), (19, true), (20, false)] rfl (np_blk (np_seq (np_rnd (np_blk (np_seq np_rt))))) (by kernel_rfl) (by kernel_rfl) (by kernel_rfl) (by kernel_rfl) (by kernel_rfl) (by kernel_rfl) (by kernel_rfl) (by kernel_rfl) ?_
    refine jd_y rfl (fun w hs => yv_fieldAddr rfl) rfl rfl ?_
    refine jd_y rfl (fun w hs => yv_load rfl (ld1B (hs.blk (i := 1) rfl) rfl)) rfl rfl ?_
    refine jd_mv rfl rfl rfl rfl ?_
    refine jd_mv rfl rfl rfl rfl ?_
    refine jd_mv rfl rfl rfl rfl ?_
    refine jd_ix fun x39 h40 => ?_
    refine jd_y rfl (fun w hs => yv_ix rfl rfl (hs.argM Rha1 Oha1) h40) rfl rfl ?_
    refine jd_y rfl (fun w hs => yv_ef rfl (hs.argM Rha1 Oha1) h40.1) rfl rfl ?_
    refine jd_y rfl (fun w hs => yv_e1 rfl (hs.argM Rha1 Oha1) h40.1 rfl) rfl rfl ?_
    refine jd_y rfl (fun w hs => yv_add_w rfl rfl) rfl rfl ?_
    refine jd_mv rfl rfl rfl rfl ?_
    refine jd_mv rfl rfl rfl rfl ?_
    refine jd_mv rfl rfl rfl rfl ?_
    refine jd_ix fun x41 h42 => ?_
    refine jd_y rfl (fun w hs => yv_ix rfl rfl (hs.argM Rha1 Oha1) h42) rfl rfl ?_
    refine jd_y rfl (fun w hs => yv_ef rfl (hs.argM Rha1 Oha1) h42.1) rfl rfl ?_
    refine jd_y rfl (fun w hs => yv_e1 rfl (hs.argM Rha1 Oha1) h42.1 rfl) rfl rfl ?_
    refine jd_yl rfl (fun w hs => yv_add_w rfl rfl) rfl rfl fun x43 => ?_
    refine jd_y rfl (fun w hs => yv_build rfl (o2 rfl)) rfl rfl ?_
    refine jd_h rfl ?_
    refine jg_lit (enc := Interval.enc) [(Interval.mk (w64 (v13.1 + x39.Curve)) x43)] rfl rfl rfl rfl rfl rfl rfl rfl fun hd44 => ?_
    refine jg_nil ?_
    refine jk_dn [1, 2, 4] rfl ?_
    refine jd_h rfl ?_
    refine jg_append 3 rfl rfl rfl (fun w hs => (hs.row 0 rfl)) rfl rfl rfl fun y45 hd46 => ?_
    refine jg_L (r4 rfl) ?_
    refine jg_nil ?_
    refine jk_dn [1, 2, 4] rfl ?_
    refine jd_y rfl (fun w hs => yv_fieldAddr rfl) rfl rfl ?_
    refine jd_h rfl ?_
    refine jg_store 2 rfl rfl rfl (l1 rfl) rfl rfl rfl rfl (l5 rfl) (r4 rfl) ?_
    refine jg_nil ?_
    refine jk_df rfl ?_
    refine jf_nils [(0, _), (1, _), (4, _), (6, _), (7, _), (8, _), (9, _)] ⟨rfl, rfl, rfl, rfl, rfl, rfl, rfl, trivial⟩ ?_
    refine jk_bn (jk_sn ?_)
    refine jn_reg 7 ?_
    refine jg_mv rfl rfl rfl ?_
    refine jg_y (fun w hs => yv_add_w rfl rfl) rfl rfl ?_
    refine jg_as rfl rfl rfl ?_
    refine jg_nils [(0, _), (1, _), (4, _), (6, _), (7, _), (8, _), (9, _)] ⟨rfl, rfl, rfl, rfl, rfl, rfl, rfl, trivial⟩ ?_
    exact jk_use H37 (y45, w64 (z34.2 + 1)) hd46 [1, 2, 3] ⟨rfl, rfl, rfl, rfl, rfl, rfl, rfl, trivial⟩ rfl rfl rfl
  intro z18 q19
  refine jn_seq ?_
  refine jn_seq ?_
  refine jn_reg 9 ?_
  refine jg_mv rfl rfl rfl ?_
  refine jg_c0 rfl (fun v w hs hm => r20_Retarders_c hm (hs.argM Rha1 Oha1)) rfl rfl fun v22 => ?_
  refine jg_as rfl rfl rfl ?_
  refine jg_nils [(0, _), (4, _), (6, _), (10, _)] ⟨rfl, rfl, rfl, rfl, trivial⟩ ?_
  refine jk_sn ?_
  refine jn_block ?_
  refine jn_addnil 3 1 encI ?_
  refine jn_lp (n := big) (fun (s : ((List Int) × Int × Int)) (g : Hd) => [(0, .pointer (some ⟨b0, 0, none⟩)), (4, .pointer (some ⟨g1, 0, none⟩)), (6, .pointer (some ⟨g11, 0, none⟩)), (10, .int .i64 s.2.1)]) (fun (s : ((List Int) × Int × Int)) (g : Hd) => [(Res.blk b0 82 [ha0_fl.v, .int .i64 s.2.2])]) (fun (s : ((List Int) × Int × Int)) (g : Hd) => [(Res.blk g1 44 [.int .i64 0, .int .i64 0, (Hd.mk none 0 0).v, .int .i64 0, (Hd.mk none 0 0).v]), (Res.blk g11 44 [.int .i64 v3.1, .int .i64 (w64 (v3.1 + v6.1)), q19.v, .int .i64 v9.1, g.v]), (rowH q19 41 2 Interval.enc z18), (rowH g 3 1 encI s.1)]) (([] : List Int), v22, v16.2) (Hd.mk none 0 0) [1, 2, 3, 0] ⟨rfl, rfl, rfl, rfl, trivial⟩ rfl rfl rfl ?_
  intro z23 q24 n27 k25 H26
  refine jn_seq ?_
  refine jn_seq ?_
  refine jn_reg 10 ?_
  refine jg_mv rfl rfl rfl ?_
  refine jg_y (fun w hs => yv_gtr rfl rfl) rfl rfl ?_
  refine jg_nils [(0, _), (4, _), (6, _), (10, _), (62, _)] ⟨rfl, rfl, rfl, rfl, rfl, trivial⟩ ?_
  refine jk_sn ?_
  refine jn_cond rfl ?_ ?_
  rotate_left
  · refine jn_exit ?_
    refine jk_se (jk_le (jk_bh (jk_sn ?_)))
    refine jn_seq ?_
    refine jn_reg 13 ?_
    refine jg_y (fun w hs => yv_load rfl (ldBB (hs.blkL (i := 1) rfl) rfl)) rfl rfl ?_
    refine jg_store 0 rfl rfl rfl (l5 rfl) rfl rfl rfl rfl (l5 rfl) (r4 rfl) ?_
    refine jg_nils [(4, _)] ⟨rfl, trivial⟩ ?_
    refine jk_sn ?_
    refine jn_ret ?_
    exact jk_ret1 rfl (fun w hs => .cell rfl (ldBB (hs.blkL (i := 0) rfl) rfl)) (fun w hs => ⟨(q19, q24), rfl, hs.sel (is := [2, 3]) rfl rfl⟩)
  refine jn_skip ?_
  refine jk_sn ?_
  refine jn_seq ?_
  refine jn_block ?_
  refine jn_draw (L' := [_, _, _]) 12 [0, 1, 2] [0, 1, 2, 3, 4, 5, 6, 7] 255 511 [0, 1, 0, 0, 12, 16, 50, 127, 255] [0, 1, 0, 0, 12, 28, 63, 127, 255] [(0, true), (1, true), (2, true), (3, false), (4, false), (5, false), (6, false), (7, true), (8, false)] rfl (np_blk (np_seq (np_rnd (np_blk (np_seq np_rt))))) (by kernel_rfl) (by kernel_rfl) (by kernel_rfl) (by kernel_rfl) (by kernel_rfl) (by kernel_rfl) (by kernel_rfl) (by kernel_rfl) ?_
  refine jd_y rfl (fun w hs => yv_fieldAddr rfl) rfl rfl ?_
  refine jd_y rfl (fun w hs => yv_load rfl (ld1B (hs.blk (i := 1) rfl) rfl)) rfl rfl ?_
  refine jd_mv rfl rfl rfl rfl ?_
  refine jd_h rfl ?_
  refine jg_lit (enc := encI) [(-1), 0, 800, 1200, 3000, 5000] rfl rfl rfl rfl rfl rfl rfl rfl fun hd28 => ?_
  refine jg_nil ?_
  refine jk_dn [1, 2, 3] rfl ?_
  refine jd_h rfl ?_
  refine jm_c rfl (fun v w hs hm => gen_Maker_Pick_c hm (hs.blkM (i := 0) rfl) (hs.argM Rha0_fl Oha0_fl) Oha0_fl (hs.row 0 rfl) (hs.offML 0 0 rfl rfl)) (fun _ => rfl) rfl rfl fun v29 q30 => ?_
  refine jg_nil ?_
  refine jk_dn [1, 2, 3] rfl ?_
  refine jd_h rfl ?_
  refine jg_lit (enc := encI) [v29.1] rfl rfl rfl rfl rfl rfl rfl rfl fun hd31 => ?_
  refine jg_nil ?_
  refine jk_dn [2, 3, 4] rfl ?_
  refine jd_h rfl ?_
  refine jg_append 5 rfl rfl rfl (fun w hs => (hs.row 0 rfl)) rfl rfl rfl fun y32 hd33 => ?_
  refine jg_L (r6 rfl) ?_
  refine jg_nil ?_
  refine jk_dn [2, 3, 4] rfl ?_
  refine jd_y rfl (fun w hs => yv_fieldAddr rfl) rfl rfl ?_
  refine jd_h rfl ?_
  refine jg_store 3 rfl rfl rfl (l1 rfl) rfl rfl rfl rfl (l5 rfl) (r6 rfl) ?_
  refine jg_nil ?_
  refine jk_df rfl ?_
  refine jf_nils [(0, _), (4, _), (6, _), (10, _)] ⟨rfl, rfl, rfl, rfl, trivial⟩ ?_
  refine jk_sel (is := [2, 3, 4, 5]) (s4 rfl) rfl ?_
  refine jk_bn (jk_sn ?_)
  refine jn_reg 11 ?_
  refine jg_mv rfl rfl rfl ?_
  refine jg_y (fun w hs => yv_sub_w rfl rfl) rfl rfl ?_
  refine jg_as rfl rfl rfl ?_
  refine jg_nils [(0, _), (4, _), (6, _), (10, _)] ⟨rfl, rfl, rfl, rfl, trivial⟩ ?_
  exact jk_use H26 (y32, w64 (z23.2.1 - 1), v29.2) hd33 [0, 1, 2, 3] ⟨rfl, rfl, rfl, rfl, trivial⟩ rfl rfl rfl
theorem r01_Valid_c {w : World} {a0 : Interval}  {v : Bool} (hm : r01_Valid a0 = some v) : Gives Try.prog 76 [.agg #[.int .i64 a0.Lo, .int .i64 a0.Hi]] w (.bool v) := by
  refine j_gives (vs := [.agg #[.int .i64 a0.Lo, .int .i64 a0.Hi]]) (U := fun (v : Bool) => .bool v) Try.func76 rfl Try.ntmps76 rfl rfl hm ?_
  unfold r01_Valid
  clear hm
  refine jn_seq ?_
  refine jn_reg 0 ?_
  refine jg_box rfl (l2 rfl) rfl rfl fun g1 => ?_
  refine jg_as rfl rfl rfl ?_
  refine jg_nils [(1, _)] ⟨rfl, trivial⟩ ?_
  refine jk_sn ?_
  refine jn_seq ?_
  refine jn_reg 1 ?_
  refine jg_y (fun w hs => yv_fieldAddr rfl) rfl rfl ?_
  refine jg_y (fun w hs => yv_load rfl (ld1B (hs.blkL (i := 0) rfl) rfl)) rfl rfl ?_
  refine jg_y (fun w hs => yv_fieldAddr rfl) rfl rfl ?_
  refine jg_y (fun w hs => yv_load rfl (ld1B (hs.blkL (i := 0) rfl) rfl)) rfl rfl ?_
  refine jg_y (fun w hs => yv_leq rfl rfl) rfl rfl ?_
  refine jg_mv rfl rfl rfl ?_
  refine jg_split 8 rfl ?_ ?_
  rotate_left
  · refine jg_skip rfl rfl ?_
    refine jg_skip rfl rfl ?_
    refine jg_skip rfl rfl ?_
    refine jg_y (fun w hs => yv_pick_f rfl rfl) rfl rfl ?_
    refine jg_mv rfl rfl rfl ?_
    refine jg_skip rfl rfl ?_
    refine jg_skip rfl rfl ?_
    refine jg_skip rfl rfl ?_
    refine jg_y (fun w hs => yv_pick_f rfl rfl) rfl rfl ?_
    refine jg_as rfl rfl rfl ?_
    refine jg_nils [(2, _)] ⟨rfl, trivial⟩ ?_
    refine jk_sn ?_
    refine jn_ret ?_
    exact jk_ret1 rfl (fun w hs => .tmp rfl) (fun w hs => ⟨rfl, hs.drop⟩)
  refine jg_y (fun w hs => yv_fieldAddr rfl) rfl rfl ?_
  refine jg_y (fun w hs => yv_load rfl (ld1B (hs.blkL (i := 0) rfl) rfl)) rfl rfl ?_
  refine jg_y (fun w hs => yv_geq rfl rfl) rfl rfl ?_
  refine jg_y (fun w hs => yv_pick_t rfl rfl) rfl rfl ?_
  refine jg_mv rfl rfl rfl ?_
  refine jg_split 13 rfl ?_ ?_
  · refine jg_y (fun w hs => yv_fieldAddr rfl) rfl rfl ?_
    refine jg_y (fun w hs => yv_load rfl (ld1B (hs.blkL (i := 0) rfl) rfl)) rfl rfl ?_
    refine jg_y (fun w hs => yv_leq rfl rfl) rfl rfl ?_
    refine jg_y (fun w hs => yv_pick_t rfl rfl) rfl rfl ?_
    refine jg_as rfl rfl rfl ?_
    refine jg_nils [(2, _)] ⟨rfl, trivial⟩ ?_
    refine jk_sn ?_
    refine jn_ret ?_
    exact jk_ret1 rfl (fun w hs => .tmp rfl) (fun w hs => ⟨rfl, hs.drop⟩)
  refine jg_skip rfl rfl ?_
  refine jg_skip rfl rfl ?_
  refine jg_skip rfl rfl ?_
  refine jg_y (fun w hs => yv_pick_f rfl rfl) rfl rfl ?_
  refine jg_as rfl rfl rfl ?_
  refine jg_nils [(2, _)] ⟨rfl, trivial⟩ ?_
  refine jk_sn ?_
  refine jn_ret ?_
  exact jk_ret1 rfl (fun w hs => .tmp rfl) (fun w hs => ⟨rfl, hs.drop⟩)
theorem r20_targets_c {w : World} {a0 : (List Int)} {ha0 : Hd} {v : Bool} (hm : r20_targets a0 = some v) (Rha0 : Sl w ha0 encI a0) : Gives Try.prog 49 [ha0.v] w (.bool v) := by
  refine j_gives (vs := [ha0.v]) (U := fun (v : Bool) => .bool v) Try.func49 rfl Try.ntmps49 rfl rfl hm ?_
  unfold r20_targets
  clear hm
  refine jn_seq ?_
  refine jn_reg 0 ?_
  refine jg_as rfl rfl rfl ?_
  refine jg_nils [(0, _)] ⟨rfl, trivial⟩ ?_
  refine jk_sn ?_
  refine jn_seq ?_
  refine jn_seq ?_
  refine jn_reg 1 ?_
  refine jg_as rfl rfl rfl ?_
  refine jg_nils [(0, _), (3, _)] ⟨rfl, rfl, trivial⟩ ?_
  refine jk_sn ?_
  refine jn_block ?_
  refine jn_lp (n := big) (fun (s : Int) (g : Unit) => [(0, ha0.v), (3, .int .i64 s)]) (fun (s : Int) (g : Unit) => []) (fun (s : Int) (g : Unit) => []) 0 () [] ⟨rfl, rfl, trivial⟩ rfl rfl rfl ?_
  intro z1 q2 n5 k3 H4
  refine jn_seq ?_
  refine jn_seq ?_
  refine jn_reg 2 ?_
  refine jg_mv rfl rfl rfl ?_
  refine jg_mv rfl rfl rfl ?_
  refine jg_y (fun w hs => yv_ln rfl (hs.arg Rha0)) rfl rfl ?_
  refine jg_y (fun w hs => yv_lss rfl rfl) rfl rfl ?_
  refine jg_nils [(0, _), (3, _), (7, _)] ⟨rfl, rfl, rfl, trivial⟩ ?_
  refine jk_sn ?_
  refine jn_cond rfl ?_ ?_
  rotate_left
  · refine jn_exit ?_
    refine jk_se (jk_le (jk_bh (jk_sn ?_)))
    refine jn_seq ?_
    refine jn_reg 6 ?_
    refine jg_as rfl rfl rfl ?_
    refine jg_nils [(2, _)] ⟨rfl, trivial⟩ ?_
    refine jk_sn ?_
    refine jn_ret ?_
    exact jk_ret1 rfl (fun w hs => .tmp rfl) (fun w hs => ⟨rfl, hs.drop⟩)
  refine jn_skip ?_
  refine jk_sn ?_
  refine jn_seq ?_
  refine jn_block ?_
  refine jn_seq ?_
  refine jn_reg 4 ?_
  refine jg_mv rfl rfl rfl ?_
  refine jg_mv rfl rfl rfl ?_
  refine jg_ix fun x6 h7 => ?_
  refine jg_y (fun w hs => yv_ix rfl rfl (hs.arg Rha0) h7) rfl rfl ?_
  refine jg_y (fun w hs => yv_e1 rfl (hs.arg Rha0) h7.1 rfl) rfl rfl ?_
  refine jg_y (fun w hs => yv_lss rfl rfl) rfl rfl ?_
  refine jg_mv rfl rfl rfl ?_
  refine jg_split 15 rfl ?_ ?_
  · refine jg_skip rfl rfl ?_
    refine jg_skip rfl rfl ?_
    refine jg_skip rfl rfl ?_
    refine jg_skip rfl rfl ?_
    refine jg_skip rfl rfl ?_
    refine jg_y (fun w hs => yv_pick_t rfl rfl) rfl rfl ?_
    refine jg_nils [(0, _), (3, _), (21, _)] ⟨rfl, rfl, rfl, trivial⟩ ?_
    refine jk_sn ?_
    refine jn_ct rfl ?_
    refine jn_seq ?_
    refine jn_reg 5 ?_
    refine jg_as rfl rfl rfl ?_
    refine jg_nils [(2, _)] ⟨rfl, trivial⟩ ?_
    refine jk_sn ?_
    refine jn_ret ?_
    refine jk_br (jk_sr (jk_lr (jk_br (jk_sr ?_))))
    exact jk_ret1 rfl (fun w hs => .tmp rfl) (fun w hs => ⟨rfl, hs.drop⟩)
  refine jg_mv rfl rfl rfl ?_
  refine jg_mv rfl rfl rfl ?_
  refine jg_ix fun x8 h9 => ?_
  refine jg_y (fun w hs => yv_ix rfl rfl (hs.arg Rha0) h9) rfl rfl ?_
  refine jg_y (fun w hs => yv_e1 rfl (hs.arg Rha0) h9.1 rfl) rfl rfl ?_
  refine jg_y (fun w hs => yv_gtr rfl rfl) rfl rfl ?_
  refine jg_y (fun w hs => yv_pick_f rfl rfl) rfl rfl ?_
  refine jg_nils [(0, _), (3, _), (21, _)] ⟨rfl, rfl, rfl, trivial⟩ ?_
  refine jk_sn ?_
  refine jn_cond rfl ?_ ?_
  · refine jn_seq ?_
    refine jn_reg 5 ?_
    refine jg_as rfl rfl rfl ?_
    refine jg_nils [(2, _)] ⟨rfl, trivial⟩ ?_
    refine jk_sn ?_
    refine jn_ret ?_
    refine jk_br (jk_sr (jk_lr (jk_br (jk_sr ?_))))
    exact jk_ret1 rfl (fun w hs => .tmp rfl) (fun w hs => ⟨rfl, hs.drop⟩)
  refine jn_skip ?_
  refine jk_bn (jk_sn ?_)
  refine jn_reg 3 ?_
  refine jg_mv rfl rfl rfl ?_
  refine jg_y (fun w hs => yv_add_w rfl rfl) rfl rfl ?_
  refine jg_as rfl rfl rfl ?_
  refine jg_nils [(0, _), (3, _)] ⟨rfl, rfl, trivial⟩ ?_
  exact jk_use H4 (w64 (z1 + 1)) () [] ⟨rfl, rfl, trivial⟩ rfl rfl rfl
end Go.Proofs.Ytjeegociagchnaa
