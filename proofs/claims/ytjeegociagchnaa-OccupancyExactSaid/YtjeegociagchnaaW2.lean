/-
  The functions give what their models give. Printed by a program.
-/
import Derived.Test.YtjeegociagchnaaFacts
import Derived.Test.YtjeegociagchnaaMod
import Derived.Test.YtjeegociagchnaaW0
import Derived.Test.YtjeegociagchnaaW1
namespace Go.Proofs.Ytjeegociagchnaa
open Go.Hy
set_option linter.unusedVariables false
set_option linter.unusedSimpArgs false
set_option maxHeartbeats 2000000
set_option maxRecDepth 100000
theorem r20_Motion_c {w : World} {a0 : (List Piece)} {a1 : Motion} {ha0 : Hd} {ha1_Class : Hd} {ha1_Targets : Hd} {v : Int} (hm : r20_Motion a0 a1 = some v) (Rha0 : Sl w ha0 Piece.enc a0) (Rha1_Class : Sl w ha1_Class Interval.enc a1.Class) (Rha1_Targets : Sl w ha1_Targets encI a1.Targets) : Gives Try.prog 44 [ha0.v, .agg #[.int .i64 a1.Speed.Lo, .int .i64 a1.Speed.Hi, ha1_Class.v, .int .i64 a1.Error, ha1_Targets.v]] w (.int .i64 v) := by
  refine j_gives (vs := [ha0.v, .agg #[.int .i64 a1.Speed.Lo, .int .i64 a1.Speed.Hi, ha1_Class.v, .int .i64 a1.Error, ha1_Targets.v]]) (U := fun (v : Int) => .int .i64 v) Try.func44 rfl Try.ntmps44 rfl rfl hm ?_
  unfold r20_Motion
  clear hm
  refine jn_seq ?_
  refine jn_reg 0 ?_
  refine jg_box rfl (l5 rfl) rfl rfl fun g1 => ?_
  refine jg_as rfl rfl rfl ?_
  refine jg_nils [(0, _), (3, _)] ⟨rfl, rfl, trivial⟩ ?_
  refine jk_sn ?_
  refine jn_seq ?_
  refine jn_seq ?_
  refine jn_draw (L' := [_]) 1 [0] [0, 1, 2, 3, 4, 5, 6, 7, 8, 9, 10, 11, 12, 13, 14, 15, 16, 17, 18, 19] 1048575 1048575 [0, 1, 2, 4, 12, 16, 48, 80, 16, 272, 656, 1040, 2064, 4096, 12288, 20480, 4096, 69632, 167936, 266240] [0, 1, 3, 7, 15, 31, 63, 127, 31, 287, 1023, 2047, 4095, 8191, 16383, 32767, 8191, 73727, 262143, 524287] [(0, true), (1, true), (2, true), (3, true), (4, true), (5, true), (6, true), (7, true), (8, true), (9, true), (10, true), (11, true), (12, true), (13, true), (14, true), (15, true), (16, true), (17, true), (18, true), (19, true)] rfl (np_seq (np_seq np_rt)) (by kernel_rfl) (by kernel_rfl) (by kernel_rfl) (by kernel_rfl) (by kernel_rfl) (by kernel_rfl) (by kernel_rfl) (by kernel_rfl) ?_
  refine jd_y rfl (fun w hs => yv_fieldAddr rfl) rfl rfl ?_
  refine jd_y rfl (fun w hs => yv_load rfl (ldPB (hs.blk (i := 0) rfl) (l2 rfl) rfl)) rfl rfl ?_
  refine jd_c0 rfl rfl (fun v w hs hm => r01_Valid_c (a0 := a1.Speed) hm ) rfl rfl fun v2 => ?_
  refine jd_y rfl (fun w hs => yv_not rfl) rfl rfl ?_
  refine jd_mv rfl rfl rfl rfl ?_
  refine jd_split 12 rfl ?_ ?_
  · refine jd_skip rfl rfl rfl ?_
    refine jd_skip rfl rfl rfl ?_
    refine jd_skip rfl rfl rfl ?_
    refine jd_skip rfl rfl rfl ?_
    refine jd_skip rfl rfl rfl ?_
    refine jd_skip rfl rfl rfl ?_
    refine jd_y rfl (fun w hs => yv_pick_t rfl rfl) rfl rfl ?_
    refine jd_mv rfl rfl rfl rfl ?_
    refine jd_skip rfl rfl rfl ?_
    refine jd_skip rfl rfl rfl ?_
    refine jd_skip rfl rfl rfl ?_
    refine jd_skip rfl rfl rfl ?_
    refine jd_skip rfl rfl rfl ?_
    refine jd_skip rfl rfl rfl ?_
    refine jd_y rfl (fun w hs => yv_pick_t rfl rfl) rfl rfl ?_
    refine jd_nils [(3, _), (27, _)] ⟨rfl, rfl, trivial⟩ ?_
    refine jk_sn ?_
    refine jn_ct rfl ?_
    refine jn_seq ?_
    refine jn_reg 2 ?_
    refine jg_as rfl rfl rfl ?_
    refine jg_nils [(4, _)] ⟨rfl, trivial⟩ ?_
    refine jk_sn ?_
    refine jn_ret ?_
    refine jk_sr ?_
    exact jk_ret1 rfl (fun w hs => .tmp rfl) (fun w hs => ⟨rfl, hs.drop⟩)
  refine jd_y rfl (fun w hs => yv_fieldAddr rfl) rfl rfl ?_
  refine jd_y rfl (fun w hs => yv_load rfl (ld1B (hs.blk (i := 0) rfl) rfl)) rfl rfl ?_
  refine jd_y rfl (fun w hs => yv_ln rfl (hs.arg Rha1_Class)) rfl rfl ?_
  refine jd_mv rfl rfl rfl rfl ?_
  refine jd_y rfl (fun w hs => yv_ln rfl (hs.arg Rha0)) rfl rfl ?_
  refine jd_y rfl (fun w hs => yv_neq rfl rfl) rfl rfl ?_
  refine jd_y rfl (fun w hs => yv_pick_f rfl rfl) rfl rfl ?_
  refine jd_mv rfl rfl rfl rfl ?_
  refine jd_split 20 rfl ?_ ?_
  · refine jd_skip rfl rfl rfl ?_
    refine jd_skip rfl rfl rfl ?_
    refine jd_skip rfl rfl rfl ?_
    refine jd_skip rfl rfl rfl ?_
    refine jd_skip rfl rfl rfl ?_
    refine jd_skip rfl rfl rfl ?_
    refine jd_y rfl (fun w hs => yv_pick_t rfl rfl) rfl rfl ?_
    refine jd_nils [(3, _), (27, _)] ⟨rfl, rfl, trivial⟩ ?_
    refine jk_sn ?_
    refine jn_ct rfl ?_
    refine jn_seq ?_
    refine jn_reg 2 ?_
    refine jg_as rfl rfl rfl ?_
    refine jg_nils [(4, _)] ⟨rfl, trivial⟩ ?_
    refine jk_sn ?_
    refine jn_ret ?_
    refine jk_sr ?_
    exact jk_ret1 rfl (fun w hs => .tmp rfl) (fun w hs => ⟨rfl, hs.drop⟩)
  refine jd_y rfl (fun w hs => yv_fieldAddr rfl) rfl rfl ?_
  refine jd_y rfl (fun w hs => yv_load rfl (ld1B (hs.blk (i := 0) rfl) rfl)) rfl rfl ?_
  refine jd_y rfl (fun w hs => yv_ln rfl (hs.arg Rha1_Targets)) rfl rfl ?_
  refine jd_mv rfl rfl rfl rfl ?_
  refine jd_c0 rfl rfl (fun v w hs hm => r20_Retarders_c hm (hs.arg Rha0)) rfl rfl fun v3 => ?_
  refine jd_y rfl (fun w hs => yv_neq rfl rfl) rfl rfl ?_
  refine jd_y rfl (fun w hs => yv_pick_f rfl rfl) rfl rfl ?_
  refine jd_nils [(3, _), (27, _)] ⟨rfl, rfl, trivial⟩ ?_
  refine jk_sn ?_
  refine jn_cond rfl ?_ ?_
  · refine jn_seq ?_
    refine jn_reg 2 ?_
    refine jg_as rfl rfl rfl ?_
    refine jg_nils [(4, _)] ⟨rfl, trivial⟩ ?_
    refine jk_sn ?_
    refine jn_ret ?_
    refine jk_sr ?_
    exact jk_ret1 rfl (fun w hs => .tmp rfl) (fun w hs => ⟨rfl, hs.drop⟩)
  refine jn_skip ?_
  refine jk_sn ?_
  refine jn_join (fun (s : Unit) (g : Unit) => [(3, .pointer (some ⟨g1, 0, none⟩))]) (fun (s : Unit) (g : Unit) => []) (fun (s : Unit) (g : Unit) => [(Res.blk g1 44 [.int .i64 a1.Speed.Lo, .int .i64 a1.Speed.Hi, ha1_Class.v, .int .i64 a1.Error, ha1_Targets.v])]) ?_ ?_
  rotate_left
  · intro k6 H7
    refine jn_seq ?_
    refine jn_reg 3 ?_
    refine jg_as rfl rfl rfl ?_
    refine jg_nils [(3, _), (5, _)] ⟨rfl, rfl, trivial⟩ ?_
    refine jk_sn ?_
    refine jn_block ?_
    refine jn_lp (n := big) (fun (s : Int) (g : Unit) => [(3, .pointer (some ⟨g1, 0, none⟩)), (5, .int .i64 s)]) (fun (s : Int) (g : Unit) => []) (fun (s : Int) (g : Unit) => [(Res.blk g1 44 [.int .i64 a1.Speed.Lo, .int .i64 a1.Speed.Hi, ha1_Class.v, .int .i64 a1.Error, ha1_Targets.v])]) 0 () [0] ⟨rfl, rfl, trivial⟩ rfl rfl rfl ?_
    intro z22 q23 n26 k24 H25
    refine jn_seq ?_
    refine jn_seq ?_
    refine jn_reg 4 ?_
    refine jg_mv rfl rfl rfl ?_
    refine jg_y (fun w hs => yv_fieldAddr rfl) rfl rfl ?_
    refine jg_y (fun w hs => yv_load rfl (ld1B (hs.blkL (i := 0) rfl) rfl)) rfl rfl ?_
    refine jg_y (fun w hs => yv_ln rfl (hs.arg Rha1_Class)) rfl rfl ?_
    refine jg_y (fun w hs => yv_lss rfl rfl) rfl rfl ?_
    refine jg_nils [(3, _), (5, _), (32, _)] ⟨rfl, rfl, rfl, trivial⟩ ?_
    refine jk_sn ?_
    refine jn_cond rfl ?_ ?_
    rotate_left
    · refine jn_exit ?_
      refine jk_se (jk_le (jk_bh ?_))
      exact jk_use H7 () () [0] ⟨rfl, trivial⟩ rfl rfl rfl
    refine jn_skip ?_
    refine jk_sn ?_
    refine jn_seq ?_
    refine jn_block ?_
    refine jn_seq ?_
    refine jn_reg 6 ?_
    refine jg_y (fun w hs => yv_fieldAddr rfl) rfl rfl ?_
    refine jg_y (fun w hs => yv_load rfl (ld1B (hs.blkL (i := 0) rfl) rfl)) rfl rfl ?_
    refine jg_mv rfl rfl rfl ?_
    refine jg_ix fun x27 h28 => ?_
    refine jg_y (fun w hs => yv_ix rfl rfl (hs.arg Rha1_Class) h28) rfl rfl ?_
    refine jg_y (fun w hs => yv_eS rfl (hs.arg Rha1_Class) h28.1 (l2 rfl) rfl) rfl rfl ?_
    refine jg_c0 rfl (fun v w hs hm => r01_Valid_c (a0 := x27) hm ) rfl rfl fun v29 => ?_
    refine jg_y (fun w hs => yv_not rfl) rfl rfl ?_
    refine jg_nils [(3, _), (5, _), (41, _)] ⟨rfl, rfl, rfl, trivial⟩ ?_
    refine jk_sn ?_
    refine jn_cond rfl ?_ ?_
    · refine jn_seq ?_
      refine jn_reg 7 ?_
      refine jg_as rfl rfl rfl ?_
      refine jg_nils [(4, _)] ⟨rfl, trivial⟩ ?_
      refine jk_sn ?_
      refine jn_ret ?_
      refine jk_br (jk_sr (jk_lr (jk_br (jk_sr ?_))))
      exact jk_ret1 rfl (fun w hs => .tmp rfl) (fun w hs => ⟨rfl, hs.drop⟩)
    refine jn_skip ?_
    refine jk_bn (jk_sn ?_)
    refine jn_reg 5 ?_
    refine jg_mv rfl rfl rfl ?_
    refine jg_y (fun w hs => yv_add_w rfl rfl) rfl rfl ?_
    refine jg_as rfl rfl rfl ?_
    refine jg_nils [(3, _), (5, _)] ⟨rfl, rfl, trivial⟩ ?_
    exact jk_use H25 (w64 (z22 + 1)) () [0] ⟨rfl, rfl, trivial⟩ rfl rfl rfl
  intro z4 q5
  refine jn_join (fun (s : Bool) (g : Unit) => [(3, .pointer (some ⟨g1, 0, none⟩)), (6, .bool s)]) (fun (s : Bool) (g : Unit) => []) (fun (s : Bool) (g : Unit) => [(Res.blk g1 44 [.int .i64 a1.Speed.Lo, .int .i64 a1.Speed.Hi, ha1_Class.v, .int .i64 a1.Error, ha1_Targets.v])]) ?_ ?_
  rotate_left
  · intro k10 H11
    refine jn_reg 8 ?_
    refine jg_y (fun w hs => yv_fieldAddr rfl) rfl rfl ?_
    refine jg_y (fun w hs => yv_fieldAddr rfl) rfl rfl ?_
    refine jg_y (fun w hs => yv_load rfl (ld1B (hs.blkL (i := 0) rfl) rfl)) rfl rfl ?_
    refine jg_y (fun w hs => yv_geq rfl rfl) rfl rfl ?_
    refine jg_mv rfl rfl rfl ?_
    refine jg_split 46 rfl ?_ ?_
    rotate_left
    · refine jg_skip rfl rfl ?_
      refine jg_skip rfl rfl ?_
      refine jg_skip rfl rfl ?_
      refine jg_skip rfl rfl ?_
      refine jg_y (fun w hs => yv_pick_f rfl rfl) rfl rfl ?_
      refine jg_mv rfl rfl rfl ?_
      refine jg_skip rfl rfl ?_
      refine jg_skip rfl rfl ?_
      refine jg_skip rfl rfl ?_
      refine jg_y (fun w hs => yv_pick_f rfl rfl) rfl rfl ?_
      refine jg_mv rfl rfl rfl ?_
      refine jg_skip rfl rfl ?_
      refine jg_skip rfl rfl ?_
      refine jg_skip rfl rfl ?_
      refine jg_y (fun w hs => yv_pick_f rfl rfl) rfl rfl ?_
      refine jg_mv rfl rfl rfl ?_
      refine jg_skip rfl rfl ?_
      refine jg_skip rfl rfl ?_
      refine jg_skip rfl rfl ?_
      refine jg_y (fun w hs => yv_pick_f rfl rfl) rfl rfl ?_
      refine jg_as rfl rfl rfl ?_
      refine jg_nils [(3, _), (6, _)] ⟨rfl, rfl, trivial⟩ ?_
      exact jk_use H11 false () [0] ⟨rfl, rfl, trivial⟩ rfl rfl rfl
    refine jg_y (fun w hs => yv_fieldAddr rfl) rfl rfl ?_
    refine jg_y (fun w hs => yv_fieldAddr rfl) rfl rfl ?_
    refine jg_y (fun w hs => yv_load rfl (ld1B (hs.blkL (i := 0) rfl) rfl)) rfl rfl ?_
    refine jg_y (fun w hs => yv_leq rfl rfl) rfl rfl ?_
    refine jg_y (fun w hs => yv_pick_t rfl rfl) rfl rfl ?_
    refine jg_mv rfl rfl rfl ?_
    refine jg_split 52 rfl ?_ ?_
    rotate_left
    · refine jg_skip rfl rfl ?_
      refine jg_skip rfl rfl ?_
      refine jg_skip rfl rfl ?_
      refine jg_y (fun w hs => yv_pick_f rfl rfl) rfl rfl ?_
      refine jg_mv rfl rfl rfl ?_
      refine jg_skip rfl rfl ?_
      refine jg_skip rfl rfl ?_
      refine jg_skip rfl rfl ?_
      refine jg_y (fun w hs => yv_pick_f rfl rfl) rfl rfl ?_
      refine jg_mv rfl rfl rfl ?_
      refine jg_skip rfl rfl ?_
      refine jg_skip rfl rfl ?_
      refine jg_skip rfl rfl ?_
      refine jg_y (fun w hs => yv_pick_f rfl rfl) rfl rfl ?_
      refine jg_as rfl rfl rfl ?_
      refine jg_nils [(3, _), (6, _)] ⟨rfl, rfl, trivial⟩ ?_
      exact jk_use H11 false () [0] ⟨rfl, rfl, trivial⟩ rfl rfl rfl
    refine jg_y (fun w hs => yv_fieldAddr rfl) rfl rfl ?_
    refine jg_y (fun w hs => yv_load rfl (ld1B (hs.blkL (i := 0) rfl) rfl)) rfl rfl ?_
    refine jg_y (fun w hs => yv_geq rfl rfl) rfl rfl ?_
    refine jg_y (fun w hs => yv_pick_t rfl rfl) rfl rfl ?_
    refine jg_mv rfl rfl rfl ?_
    refine jg_split 57 rfl ?_ ?_
    rotate_left
    · refine jg_skip rfl rfl ?_
      refine jg_skip rfl rfl ?_
      refine jg_skip rfl rfl ?_
      refine jg_y (fun w hs => yv_pick_f rfl rfl) rfl rfl ?_
      refine jg_mv rfl rfl rfl ?_
      refine jg_skip rfl rfl ?_
      refine jg_skip rfl rfl ?_
      refine jg_skip rfl rfl ?_
      refine jg_y (fun w hs => yv_pick_f rfl rfl) rfl rfl ?_
      refine jg_as rfl rfl rfl ?_
      refine jg_nils [(3, _), (6, _)] ⟨rfl, rfl, trivial⟩ ?_
      exact jk_use H11 false () [0] ⟨rfl, rfl, trivial⟩ rfl rfl rfl
    refine jg_y (fun w hs => yv_fieldAddr rfl) rfl rfl ?_
    refine jg_y (fun w hs => yv_load rfl (ld1B (hs.blkL (i := 0) rfl) rfl)) rfl rfl ?_
    refine jg_y (fun w hs => yv_leq rfl rfl) rfl rfl ?_
    refine jg_y (fun w hs => yv_pick_t rfl rfl) rfl rfl ?_
    refine jg_mv rfl rfl rfl ?_
    refine jg_split 62 rfl ?_ ?_
    · refine jg_y (fun w hs => yv_fieldAddr rfl) rfl rfl ?_
      refine jg_y (fun w hs => yv_load rfl (ld1B (hs.blkL (i := 0) rfl) rfl)) rfl rfl ?_
      refine jg_c0 rfl (fun v w hs hm => r20_targets_c hm (hs.arg Rha1_Targets)) rfl rfl fun v21 => ?_
      refine jg_y (fun w hs => yv_pick_t rfl rfl) rfl rfl ?_
      refine jg_as rfl rfl rfl ?_
      refine jg_nils [(3, _), (6, _)] ⟨rfl, rfl, trivial⟩ ?_
      exact jk_use H11 v21 () [0] ⟨rfl, rfl, trivial⟩ rfl rfl rfl
    refine jg_skip rfl rfl ?_
    refine jg_skip rfl rfl ?_
    refine jg_skip rfl rfl ?_
    refine jg_y (fun w hs => yv_pick_f rfl rfl) rfl rfl ?_
    refine jg_as rfl rfl rfl ?_
    refine jg_nils [(3, _), (6, _)] ⟨rfl, rfl, trivial⟩ ?_
    exact jk_use H11 false () [0] ⟨rfl, rfl, trivial⟩ rfl rfl rfl
  intro z8 q9
  refine jn_seq ?_
  refine jn_seq ?_
  refine jn_reg 9 ?_
  refine jg_as rfl rfl rfl ?_
  refine jg_nils [(3, _), (6, _), (7, _)] ⟨rfl, rfl, rfl, trivial⟩ ?_
  refine jk_sn ?_
  refine jn_block ?_
  refine jn_lp (n := big) (fun (s : (Bool × Int)) (g : Unit) => [(3, .pointer (some ⟨g1, 0, none⟩)), (6, .bool s.1), (7, .int .i64 s.2)]) (fun (s : (Bool × Int)) (g : Unit) => []) (fun (s : (Bool × Int)) (g : Unit) => [(Res.blk g1 44 [.int .i64 a1.Speed.Lo, .int .i64 a1.Speed.Hi, ha1_Class.v, .int .i64 a1.Error, ha1_Targets.v])]) (z8, 0) () [0] ⟨rfl, rfl, rfl, trivial⟩ rfl rfl rfl ?_
  intro z12 q13 n16 k14 H15
  refine jn_seq ?_
  refine jn_seq ?_
  refine jn_reg 10 ?_
  refine jg_mv rfl rfl rfl ?_
  refine jg_y (fun w hs => yv_fieldAddr rfl) rfl rfl ?_
  refine jg_y (fun w hs => yv_load rfl (ld1B (hs.blkL (i := 0) rfl) rfl)) rfl rfl ?_
  refine jg_y (fun w hs => yv_ln rfl (hs.arg Rha1_Class)) rfl rfl ?_
  refine jg_y (fun w hs => yv_lss rfl rfl) rfl rfl ?_
  refine jg_nils [(3, _), (6, _), (7, _), (71, _)] ⟨rfl, rfl, rfl, rfl, trivial⟩ ?_
  refine jk_sn ?_
  refine jn_cond rfl ?_ ?_
  rotate_left
  · refine jn_exit ?_
    refine jk_se (jk_le (jk_bh (jk_sn ?_)))
    refine jn_seq ?_
    refine jn_seq ?_
    refine jn_reg 13 ?_
    refine jg_mv rfl rfl rfl ?_
    refine jg_y (fun w hs => yv_not rfl) rfl rfl ?_
    refine jg_nils [(94, _)] ⟨rfl, trivial⟩ ?_
    refine jk_sn ?_
    refine jn_cond rfl ?_ ?_
    · refine jn_seq ?_
      refine jn_reg 14 ?_
      refine jg_as rfl rfl rfl ?_
      refine jg_nils [(4, _)] ⟨rfl, trivial⟩ ?_
      refine jk_sn ?_
      refine jn_ret ?_
      refine jk_sr ?_
      exact jk_ret1 rfl (fun w hs => .tmp rfl) (fun w hs => ⟨rfl, hs.drop⟩)
    refine jn_skip ?_
    refine jk_sn ?_
    refine jn_seq ?_
    refine jn_reg 15 ?_
    refine jg_as rfl rfl rfl ?_
    refine jg_nils [(4, _)] ⟨rfl, trivial⟩ ?_
    refine jk_sn ?_
    refine jn_ret ?_
    exact jk_ret1 rfl (fun w hs => .tmp rfl) (fun w hs => ⟨rfl, hs.drop⟩)
  refine jn_skip ?_
  refine jk_sn ?_
  refine jn_seq ?_
  refine jn_block ?_
  refine jn_reg 12 ?_
  refine jg_mv rfl rfl rfl ?_
  refine jg_mv rfl rfl rfl ?_
  refine jg_split 75 rfl ?_ ?_
  rotate_left
  · refine jg_skip rfl rfl ?_
    refine jg_skip rfl rfl ?_
    refine jg_skip rfl rfl ?_
    refine jg_skip rfl rfl ?_
    refine jg_skip rfl rfl ?_
    refine jg_skip rfl rfl ?_
    refine jg_skip rfl rfl ?_
    refine jg_y (fun w hs => yv_pick_f rfl rfl) rfl rfl ?_
    refine jg_mv rfl rfl rfl ?_
    refine jg_skip rfl rfl ?_
    refine jg_skip rfl rfl ?_
    refine jg_skip rfl rfl ?_
    refine jg_skip rfl rfl ?_
    refine jg_skip rfl rfl ?_
    refine jg_skip rfl rfl ?_
    refine jg_skip rfl rfl ?_
    refine jg_y (fun w hs => yv_pick_f rfl rfl) rfl rfl ?_
    refine jg_as rfl rfl rfl ?_
    refine jg_nils [(3, _), (6, _), (7, _)] ⟨rfl, rfl, rfl, trivial⟩ ?_
    refine jk_bn (jk_sn ?_)
    refine jn_reg 11 ?_
    refine jg_mv rfl rfl rfl ?_
    refine jg_y (fun w hs => yv_add_w rfl rfl) rfl rfl ?_
    refine jg_as rfl rfl rfl ?_
    refine jg_nils [(3, _), (6, _), (7, _)] ⟨rfl, rfl, rfl, trivial⟩ ?_
    exact jk_use H15 (false, w64 (z12.2 + 1)) () [0] ⟨rfl, rfl, rfl, trivial⟩ rfl rfl rfl
  refine jg_y (fun w hs => yv_fieldAddr rfl) rfl rfl ?_
  refine jg_y (fun w hs => yv_load rfl (ld1B (hs.blkL (i := 0) rfl) rfl)) rfl rfl ?_
  refine jg_mv rfl rfl rfl ?_
  refine jg_ix fun x17 h18 => ?_
  refine jg_y (fun w hs => yv_ix rfl rfl (hs.arg Rha1_Class) h18) rfl rfl ?_
  refine jg_y (fun w hs => yv_ef rfl (hs.arg Rha1_Class) h18.1) rfl rfl ?_
  refine jg_y (fun w hs => yv_e1 rfl (hs.arg Rha1_Class) h18.1 rfl) rfl rfl ?_
  refine jg_y (fun w hs => yv_geq rfl rfl) rfl rfl ?_
  refine jg_y (fun w hs => yv_pick_t rfl rfl) rfl rfl ?_
  refine jg_mv rfl rfl rfl ?_
  refine jg_split 84 rfl ?_ ?_
  rotate_left
  · refine jg_skip rfl rfl ?_
    refine jg_skip rfl rfl ?_
    refine jg_skip rfl rfl ?_
    refine jg_skip rfl rfl ?_
    refine jg_skip rfl rfl ?_
    refine jg_skip rfl rfl ?_
    refine jg_skip rfl rfl ?_
    refine jg_y (fun w hs => yv_pick_f rfl rfl) rfl rfl ?_
    refine jg_as rfl rfl rfl ?_
    refine jg_nils [(3, _), (6, _), (7, _)] ⟨rfl, rfl, rfl, trivial⟩ ?_
    refine jk_bn (jk_sn ?_)
    refine jn_reg 11 ?_
    refine jg_mv rfl rfl rfl ?_
    refine jg_y (fun w hs => yv_add_w rfl rfl) rfl rfl ?_
    refine jg_as rfl rfl rfl ?_
    refine jg_nils [(3, _), (6, _), (7, _)] ⟨rfl, rfl, rfl, trivial⟩ ?_
    exact jk_use H15 (false, w64 (z12.2 + 1)) () [0] ⟨rfl, rfl, rfl, trivial⟩ rfl rfl rfl
  refine jg_y (fun w hs => yv_fieldAddr rfl) rfl rfl ?_
  refine jg_y (fun w hs => yv_load rfl (ld1B (hs.blkL (i := 0) rfl) rfl)) rfl rfl ?_
  refine jg_mv rfl rfl rfl ?_
  refine jg_ix fun x19 h20 => ?_
  refine jg_y (fun w hs => yv_ix rfl rfl (hs.arg Rha1_Class) h20) rfl rfl ?_
  refine jg_y (fun w hs => yv_ef rfl (hs.arg Rha1_Class) h20.1) rfl rfl ?_
  refine jg_y (fun w hs => yv_e1 rfl (hs.arg Rha1_Class) h20.1 rfl) rfl rfl ?_
  refine jg_y (fun w hs => yv_leq rfl rfl) rfl rfl ?_
  refine jg_y (fun w hs => yv_pick_t rfl rfl) rfl rfl ?_
  refine jg_as rfl rfl rfl ?_
  refine jg_nils [(3, _), (6, _), (7, _)] ⟨rfl, rfl, rfl, trivial⟩ ?_
  refine jk_bn (jk_sn ?_)
  refine jn_reg 11 ?_
  refine jg_mv rfl rfl rfl ?_
  refine jg_y (fun w hs => yv_add_w rfl rfl) rfl rfl ?_
  refine jg_as rfl rfl rfl ?_
  refine jg_nils [(3, _), (6, _), (7, _)] ⟨rfl, rfl, rfl, trivial⟩ ?_
  exact jk_use H15 (decide (x19.Hi ≤ 10000), w64 (z12.2 + 1)) () [0] ⟨rfl, rfl, rfl, trivial⟩ rfl rfl rfl
theorem r20_gain_c {w : World} {a0 : Piece} {a1 : Int}  {v : Int} (hm : r20_gain a0 a1 = some v) : Gives Try.prog 51 [.agg #[.int .i64 a0.Element, .int .i64 a0.Length, .int .i64 a0.Grade, .int .i64 a0.Curve, .int .i64 a0.Power], .int .i64 a1] w (.int .i64 v) := by
  refine j_gives (vs := [.agg #[.int .i64 a0.Element, .int .i64 a0.Length, .int .i64 a0.Grade, .int .i64 a0.Curve, .int .i64 a0.Power], .int .i64 a1]) (U := fun (v : Int) => .int .i64 v) Try.func51 rfl Try.ntmps51 rfl rfl hm ?_
  unfold r20_gain
  clear hm
  refine jn_seq ?_
  refine jn_reg 0 ?_
  refine jg_box rfl (l5 rfl) rfl rfl fun g1 => ?_
  refine jg_as rfl rfl rfl ?_
  refine jg_nils [(1, _), (2, _)] ⟨rfl, rfl, trivial⟩ ?_
  refine jk_sn ?_
  refine jn_seq ?_
  refine jn_reg 1 ?_
  refine jg_y (fun w hs => yv_fieldAddr rfl) rfl rfl ?_
  refine jg_y (fun w hs => yv_load rfl (ld1B (hs.blkL (i := 0) rfl) rfl)) rfl rfl ?_
  refine jg_mv rfl rfl rfl ?_
  refine jg_y (fun w hs => yv_sub_w rfl rfl) rfl rfl ?_
  refine jg_yl (fun w hs => yv_mul_w rfl rfl) rfl rfl fun x2 => ?_
  refine jg_y (fun w hs => yv_fieldAddr rfl) rfl rfl ?_
  refine jg_y (fun w hs => yv_load rfl (ld1B (hs.blkL (i := 0) rfl) rfl)) rfl rfl ?_
  refine jg_y (fun w hs => yv_mul_w rfl rfl) rfl rfl ?_
  refine jg_as rfl rfl rfl ?_
  refine jg_nils [(4, _)] ⟨rfl, trivial⟩ ?_
  refine jk_sn ?_
  refine jn_ret ?_
  exact jk_ret1 rfl (fun w hs => .tmp rfl) (fun w hs => ⟨rfl, hs.drop⟩)
theorem r01_Down_c {w : World} {a0 : Int} {a1 : Int}  {v : Int} (hm : r01_Down a0 a1 = some v) : Gives Try.prog 50 [.int .i64 a0, .int .i64 a1] w (.int .i64 v) := by
  refine j_gives (vs := [.int .i64 a0, .int .i64 a1]) (U := fun (v : Int) => .int .i64 v) Try.func50 rfl Try.ntmps50 rfl rfl hm ?_
  unfold r01_Down
  clear hm
  refine jn_seq ?_
  refine jn_reg 0 ?_
  refine jg_as rfl rfl rfl ?_
  refine jg_nils [(0, _), (1, _)] ⟨rfl, rfl, trivial⟩ ?_
  refine jk_sn ?_
  refine jn_seq ?_
  refine jn_draw (L' := []) 1 [] [0, 1, 2, 3, 4, 5, 6, 7] 255 255 [0, 0, 3, 0, 0, 24, 7, 127] [0, 0, 3, 0, 0, 24, 7, 127] [(0, true), (1, true), (2, true), (3, true), (4, true), (5, true), (6, true), (7, true)] rfl (np_seq np_rt) (by kernel_rfl) (by kernel_rfl) (by kernel_rfl) (by kernel_rfl) (by kernel_rfl) (by kernel_rfl) (by kernel_rfl) (by kernel_rfl) ?_
  refine jd_mv rfl rfl rfl rfl ?_
  refine jd_mv rfl rfl rfl rfl ?_
  refine jd_ck fun h1 => ?_
  refine jd_y rfl (fun w hs => yv_tdiv_w rfl rfl (of_decide_eq_true h1)) rfl rfl ?_
  refine jd_mv rfl rfl rfl rfl ?_
  refine jd_mv rfl rfl rfl rfl ?_
  refine jd_ck fun h2 => ?_
  refine jd_y rfl (fun w hs => yv_tmod rfl rfl (of_decide_eq_true h2)) rfl rfl ?_
  refine jd_as rfl rfl rfl rfl ?_
  refine jd_as rfl rfl rfl rfl ?_
  refine jd_nils [(1, _), (5, _), (6, _)] ⟨rfl, rfl, rfl, trivial⟩ ?_
  refine jk_sn ?_
  refine jn_seq ?_
  refine jn_seq ?_
  refine jn_reg 2 ?_
  refine jg_mv rfl rfl rfl ?_
  refine jg_y (fun w hs => yv_neq rfl rfl) rfl rfl ?_
  refine jg_mv rfl rfl rfl ?_
  refine jg_split 15 rfl ?_ ?_
  rotate_left
  · refine jg_skip rfl rfl ?_
    refine jg_skip rfl rfl ?_
    refine jg_skip rfl rfl ?_
    refine jg_skip rfl rfl ?_
    refine jg_skip rfl rfl ?_
    refine jg_y (fun w hs => yv_pick_f rfl rfl) rfl rfl ?_
    refine jg_nils [(5, _), (21, _)] ⟨rfl, rfl, trivial⟩ ?_
    refine jk_sn ?_
    refine jn_cf rfl ?_
    refine jn_skip ?_
    refine jk_sn ?_
    refine jn_seq ?_
    refine jn_reg 4 ?_
    refine jg_mv rfl rfl rfl ?_
    refine jg_as rfl rfl rfl ?_
    refine jg_nils [(4, _)] ⟨rfl, trivial⟩ ?_
    refine jk_sn ?_
    refine jn_ret ?_
    exact jk_ret1 rfl (fun w hs => .tmp rfl) (fun w hs => ⟨rfl, hs.drop⟩)
  refine jg_mv rfl rfl rfl ?_
  refine jg_y (fun w hs => yv_lss rfl rfl) rfl rfl ?_
  refine jg_mv rfl rfl rfl ?_
  refine jg_y (fun w hs => yv_lss rfl rfl) rfl rfl ?_
  refine jg_y (fun w hs => yv_neqb Try.underlying4 rfl rfl) rfl rfl ?_
  refine jg_y (fun w hs => yv_pick_t rfl rfl) rfl rfl ?_
  refine jg_nils [(5, _), (21, _)] ⟨rfl, rfl, trivial⟩ ?_
  refine jk_sn ?_
  refine jn_cond rfl ?_ ?_
  rotate_left
  · refine jn_skip ?_
    refine jk_sn ?_
    refine jn_seq ?_
    refine jn_reg 4 ?_
    refine jg_mv rfl rfl rfl ?_
    refine jg_as rfl rfl rfl ?_
    refine jg_nils [(4, _)] ⟨rfl, trivial⟩ ?_
    refine jk_sn ?_
    refine jn_ret ?_
    exact jk_ret1 rfl (fun w hs => .tmp rfl) (fun w hs => ⟨rfl, hs.drop⟩)
  refine jn_reg 3 ?_
  refine jg_mv rfl rfl rfl ?_
  refine jg_yl (fun w hs => yv_sub_w rfl rfl) rfl rfl fun x3 => ?_
  refine jg_as rfl rfl rfl ?_
  refine jg_nils [(5, _)] ⟨rfl, trivial⟩ ?_
  refine jk_sn ?_
  refine jn_seq ?_
  refine jn_reg 4 ?_
  refine jg_mv rfl rfl rfl ?_
  refine jg_as rfl rfl rfl ?_
  refine jg_nils [(4, _)] ⟨rfl, trivial⟩ ?_
  refine jk_sn ?_
  refine jn_ret ?_
  exact jk_ret1 rfl (fun w hs => .tmp rfl) (fun w hs => ⟨rfl, hs.drop⟩)
theorem r01_Up_c {w : World} {a0 : Int} {a1 : Int}  {v : Int} (hm : r01_Up a0 a1 = some v) : Gives Try.prog 53 [.int .i64 a0, .int .i64 a1] w (.int .i64 v) := by
  refine j_gives (vs := [.int .i64 a0, .int .i64 a1]) (U := fun (v : Int) => .int .i64 v) Try.func53 rfl Try.ntmps53 rfl rfl hm ?_
  unfold r01_Up
  clear hm
  refine jn_seq ?_
  refine jn_reg 0 ?_
  refine jg_as rfl rfl rfl ?_
  refine jg_nils [(0, _), (1, _)] ⟨rfl, rfl, trivial⟩ ?_
  refine jk_sn ?_
  refine jn_seq ?_
  refine jn_draw (L' := []) 1 [] [0, 1, 2, 3, 4, 5, 6, 7] 255 255 [0, 0, 3, 0, 0, 24, 7, 127] [0, 0, 3, 0, 0, 24, 7, 127] [(0, true), (1, true), (2, true), (3, true), (4, true), (5, true), (6, true), (7, true)] rfl (np_seq np_rt) (by kernel_rfl) (by kernel_rfl) (by kernel_rfl) (by kernel_rfl) (by kernel_rfl) (by kernel_rfl) (by kernel_rfl) (by kernel_rfl) ?_
  refine jd_mv rfl rfl rfl rfl ?_
  refine jd_mv rfl rfl rfl rfl ?_
  refine jd_ck fun h1 => ?_
  refine jd_y rfl (fun w hs => yv_tdiv_w rfl rfl (of_decide_eq_true h1)) rfl rfl ?_
  refine jd_mv rfl rfl rfl rfl ?_
  refine jd_mv rfl rfl rfl rfl ?_
  refine jd_ck fun h2 => ?_
  refine jd_y rfl (fun w hs => yv_tmod rfl rfl (of_decide_eq_true h2)) rfl rfl ?_
  refine jd_as rfl rfl rfl rfl ?_
  refine jd_as rfl rfl rfl rfl ?_
  refine jd_nils [(1, _), (5, _), (6, _)] ⟨rfl, rfl, rfl, trivial⟩ ?_
  refine jk_sn ?_
  refine jn_seq ?_
  refine jn_seq ?_
  refine jn_reg 2 ?_
  refine jg_mv rfl rfl rfl ?_
  refine jg_y (fun w hs => yv_neq rfl rfl) rfl rfl ?_
  refine jg_mv rfl rfl rfl ?_
  refine jg_split 15 rfl ?_ ?_
  rotate_left
  · refine jg_skip rfl rfl ?_
    refine jg_skip rfl rfl ?_
    refine jg_skip rfl rfl ?_
    refine jg_skip rfl rfl ?_
    refine jg_skip rfl rfl ?_
    refine jg_y (fun w hs => yv_pick_f rfl rfl) rfl rfl ?_
    refine jg_nils [(5, _), (21, _)] ⟨rfl, rfl, trivial⟩ ?_
    refine jk_sn ?_
    refine jn_cf rfl ?_
    refine jn_skip ?_
    refine jk_sn ?_
    refine jn_seq ?_
    refine jn_reg 4 ?_
    refine jg_mv rfl rfl rfl ?_
    refine jg_as rfl rfl rfl ?_
    refine jg_nils [(4, _)] ⟨rfl, trivial⟩ ?_
    refine jk_sn ?_
    refine jn_ret ?_
    exact jk_ret1 rfl (fun w hs => .tmp rfl) (fun w hs => ⟨rfl, hs.drop⟩)
  refine jg_mv rfl rfl rfl ?_
  refine jg_y (fun w hs => yv_lss rfl rfl) rfl rfl ?_
  refine jg_mv rfl rfl rfl ?_
  refine jg_y (fun w hs => yv_lss rfl rfl) rfl rfl ?_
  refine jg_y (fun w hs => yv_eqlb Try.underlying4 rfl rfl) rfl rfl ?_
  refine jg_y (fun w hs => yv_pick_t rfl rfl) rfl rfl ?_
  refine jg_nils [(5, _), (21, _)] ⟨rfl, rfl, trivial⟩ ?_
  refine jk_sn ?_
  refine jn_cond rfl ?_ ?_
  rotate_left
  · refine jn_skip ?_
    refine jk_sn ?_
    refine jn_seq ?_
    refine jn_reg 4 ?_
    refine jg_mv rfl rfl rfl ?_
    refine jg_as rfl rfl rfl ?_
    refine jg_nils [(4, _)] ⟨rfl, trivial⟩ ?_
    refine jk_sn ?_
    refine jn_ret ?_
    exact jk_ret1 rfl (fun w hs => .tmp rfl) (fun w hs => ⟨rfl, hs.drop⟩)
  refine jn_reg 3 ?_
  refine jg_mv rfl rfl rfl ?_
  refine jg_yl (fun w hs => yv_add_w rfl rfl) rfl rfl fun x3 => ?_
  refine jg_as rfl rfl rfl ?_
  refine jg_nils [(5, _)] ⟨rfl, trivial⟩ ?_
  refine jk_sn ?_
  refine jn_seq ?_
  refine jn_reg 4 ?_
  refine jg_mv rfl rfl rfl ?_
  refine jg_as rfl rfl rfl ?_
  refine jg_nils [(4, _)] ⟨rfl, trivial⟩ ?_
  refine jk_sn ?_
  refine jn_ret ?_
  exact jk_ret1 rfl (fun w hs => .tmp rfl) (fun w hs => ⟨rfl, hs.drop⟩)
theorem r01_RootDown_c {w : World} {a0 : Int}  {v : Int} (hm : r01_RootDown a0 = some v) : Gives Try.prog 52 [.int .i64 a0] w (.int .i64 v) := by
  refine j_gives (vs := [.int .i64 a0]) (U := fun (v : Int) => .int .i64 v) Try.func52 rfl Try.ntmps52 rfl rfl hm ?_
  unfold r01_RootDown
  clear hm
  refine jn_seq ?_
  refine jn_reg 0 ?_
  refine jg_as rfl rfl rfl ?_
  refine jg_nils [(0, _)] ⟨rfl, trivial⟩ ?_
  refine jk_sn ?_
  refine jn_seq ?_
  refine jn_reg 1 ?_
  refine jg_as rfl rfl rfl ?_
  refine jg_as rfl rfl rfl ?_
  refine jg_nils [(0, _), (3, _), (4, _)] ⟨rfl, rfl, rfl, trivial⟩ ?_
  refine jk_sn ?_
  refine jn_seq ?_
  refine jn_block ?_
  refine jn_lp (n := big) (fun (s : (Int × Int)) (g : Unit) => [(0, .int .i64 a0), (3, .int .i64 s.1), (4, .int .i64 s.2)]) (fun (s : (Int × Int)) (g : Unit) => []) (fun (s : (Int × Int)) (g : Unit) => []) (0, 1073741824) () [] ⟨rfl, rfl, rfl, trivial⟩ rfl rfl rfl ?_
  intro z1 q2 n5 k3 H4
  refine jn_seq ?_
  refine jn_seq ?_
  refine jn_reg 2 ?_
  refine jg_mv rfl rfl rfl ?_
  refine jg_mv rfl rfl rfl ?_
  refine jg_y (fun w hs => yv_lss rfl rfl) rfl rfl ?_
  refine jg_nils [(0, _), (3, _), (4, _), (8, _)] ⟨rfl, rfl, rfl, rfl, trivial⟩ ?_
  refine jk_sn ?_
  refine jn_cond rfl ?_ ?_
  rotate_left
  · refine jn_exit ?_
    refine jk_se (jk_le (jk_bh (jk_sn ?_)))
    refine jn_seq ?_
    refine jn_reg 7 ?_
    refine jg_mv rfl rfl rfl ?_
    refine jg_as rfl rfl rfl ?_
    refine jg_nils [(2, _)] ⟨rfl, trivial⟩ ?_
    refine jk_sn ?_
    refine jn_ret ?_
    exact jk_ret1 rfl (fun w hs => .tmp rfl) (fun w hs => ⟨rfl, hs.drop⟩)
  refine jn_skip ?_
  refine jk_sn ?_
  refine jn_block ?_
  refine jn_seq ?_
  refine jn_reg 3 ?_
  refine jg_mv rfl rfl rfl ?_
  refine jg_mv rfl rfl rfl ?_
  refine jg_y (fun w hs => yv_add_w rfl rfl) rfl rfl ?_
  refine jg_y (fun w hs => yv_add_w rfl rfl) rfl rfl ?_
  refine jg_yl (fun w hs => yv_tdiv_w rfl rfl (by decide)) rfl rfl fun x6 => ?_
  refine jg_as rfl rfl rfl ?_
  refine jg_nils [(0, _), (3, _), (4, _), (5, _)] ⟨rfl, rfl, rfl, rfl, trivial⟩ ?_
  refine jk_sn ?_
  refine jn_seq ?_
  refine jn_reg 4 ?_
  refine jg_mv rfl rfl rfl ?_
  refine jg_mv rfl rfl rfl ?_
  refine jg_y (fun w hs => yv_mul_w rfl rfl) rfl rfl ?_
  refine jg_mv rfl rfl rfl ?_
  refine jg_y (fun w hs => yv_leq rfl rfl) rfl rfl ?_
  refine jg_nils [(0, _), (3, _), (4, _), (5, _), (18, _)] ⟨rfl, rfl, rfl, rfl, rfl, trivial⟩ ?_
  refine jk_sn ?_
  refine jn_cond rfl ?_ ?_
  · refine jn_reg 5 ?_
    refine jg_mv rfl rfl rfl ?_
    refine jg_as rfl rfl rfl ?_
    refine jg_nils [(0, _), (3, _), (4, _)] ⟨rfl, rfl, rfl, trivial⟩ ?_
    refine jk_bn ?_
    exact jk_use H4 (x6, z1.2) () [] ⟨rfl, rfl, rfl, trivial⟩ rfl rfl rfl
  refine jn_reg 6 ?_
  refine jg_mv rfl rfl rfl ?_
  refine jg_y (fun w hs => yv_sub_w rfl rfl) rfl rfl ?_
  refine jg_as rfl rfl rfl ?_
  refine jg_nils [(0, _), (3, _), (4, _)] ⟨rfl, rfl, rfl, trivial⟩ ?_
  refine jk_bn ?_
  exact jk_use H4 (z1.1, w64 (x6 - 1)) () [] ⟨rfl, rfl, rfl, trivial⟩ rfl rfl rfl
theorem r01_RootUp_c {w : World} {a0 : Int}  {v : Int} (hm : r01_RootUp a0 = some v) : Gives Try.prog 77 [.int .i64 a0] w (.int .i64 v) := by
  refine j_gives (vs := [.int .i64 a0]) (U := fun (v : Int) => .int .i64 v) Try.func77 rfl Try.ntmps77 rfl rfl hm ?_
  unfold r01_RootUp
  clear hm
  refine jn_seq ?_
  refine jn_reg 0 ?_
  refine jg_as rfl rfl rfl ?_
  refine jg_nils [(0, _)] ⟨rfl, trivial⟩ ?_
  refine jk_sn ?_
  refine jn_seq ?_
  refine jn_reg 1 ?_
  refine jg_mv rfl rfl rfl ?_
  refine jg_c0 rfl (fun v w hs hm => r01_RootDown_c hm ) rfl rfl fun v1 => ?_
  refine jg_as rfl rfl rfl ?_
  refine jg_nils [(0, _), (3, _)] ⟨rfl, rfl, trivial⟩ ?_
  refine jk_sn ?_
  refine jn_seq ?_
  refine jn_seq ?_
  refine jn_reg 2 ?_
  refine jg_mv rfl rfl rfl ?_
  refine jg_mv rfl rfl rfl ?_
  refine jg_y (fun w hs => yv_mul_w rfl rfl) rfl rfl ?_
  refine jg_mv rfl rfl rfl ?_
  refine jg_y (fun w hs => yv_lss rfl rfl) rfl rfl ?_
  refine jg_nils [(3, _), (10, _)] ⟨rfl, rfl, trivial⟩ ?_
  refine jk_sn ?_
  refine jn_cond rfl ?_ ?_
  rotate_left
  · refine jn_skip ?_
    refine jk_sn ?_
    refine jn_seq ?_
    refine jn_reg 4 ?_
    refine jg_mv rfl rfl rfl ?_
    refine jg_as rfl rfl rfl ?_
    refine jg_nils [(2, _)] ⟨rfl, trivial⟩ ?_
    refine jk_sn ?_
    refine jn_ret ?_
    exact jk_ret1 rfl (fun w hs => .tmp rfl) (fun w hs => ⟨rfl, hs.drop⟩)
  refine jn_reg 3 ?_
  refine jg_mv rfl rfl rfl ?_
  refine jg_y (fun w hs => yv_add_w rfl rfl) rfl rfl ?_
  refine jg_as rfl rfl rfl ?_
  refine jg_nils [(3, _)] ⟨rfl, trivial⟩ ?_
  refine jk_sn ?_
  refine jn_seq ?_
  refine jn_reg 4 ?_
  refine jg_mv rfl rfl rfl ?_
  refine jg_as rfl rfl rfl ?_
  refine jg_nils [(2, _)] ⟨rfl, trivial⟩ ?_
  refine jk_sn ?_
  refine jn_ret ?_
  exact jk_ret1 rfl (fun w hs => .tmp rfl) (fun w hs => ⟨rfl, hs.drop⟩)
theorem r20_step_c {w : World} {a0 : Passage} {a1 : Piece} {a2 : Interval}  {v : Passage} (hm : r20_step a0 a1 a2 = some v) : Gives Try.prog 45 [.agg #[.int .i64 a0.Time.Lo, .int .i64 a0.Time.Hi, .int .i64 a0.Energy.Lo, .int .i64 a0.Energy.Hi, .bool a0.Slow, .bool a0.Stops], .agg #[.int .i64 a1.Element, .int .i64 a1.Length, .int .i64 a1.Grade, .int .i64 a1.Curve, .int .i64 a1.Power], .agg #[.int .i64 a2.Lo, .int .i64 a2.Hi]] w (.agg #[.int .i64 v.Time.Lo, .int .i64 v.Time.Hi, .int .i64 v.Energy.Lo, .int .i64 v.Energy.Hi, .bool v.Slow, .bool v.Stops]) := by
  refine j_gives (vs := [.agg #[.int .i64 a0.Time.Lo, .int .i64 a0.Time.Hi, .int .i64 a0.Energy.Lo, .int .i64 a0.Energy.Hi, .bool a0.Slow, .bool a0.Stops], .agg #[.int .i64 a1.Element, .int .i64 a1.Length, .int .i64 a1.Grade, .int .i64 a1.Curve, .int .i64 a1.Power], .agg #[.int .i64 a2.Lo, .int .i64 a2.Hi]]) (U := fun (v : Passage) => .agg #[.int .i64 v.Time.Lo, .int .i64 v.Time.Hi, .int .i64 v.Energy.Lo, .int .i64 v.Energy.Hi, .bool v.Slow, .bool v.Stops]) Try.func45 rfl Try.ntmps45 rfl rfl hm ?_
  unfold r20_step
  clear hm
  refine jn_seq ?_
  refine jn_reg 0 ?_
  refine jg_box rfl (l6 rfl) rfl rfl fun g1 => ?_
  refine jg_box rfl (l5 rfl) rfl rfl fun g2 => ?_
  refine jg_box rfl (l2 rfl) rfl rfl fun g3 => ?_
  refine jg_alloc (l6 rfl) rfl rfl fun g4 => ?_
  refine jg_nils [(3, _), (4, _), (5, _), (6, _)] ⟨rfl, rfl, rfl, rfl, trivial⟩ ?_
  refine jk_sn ?_
  refine jn_seq ?_
  refine jn_draw (L' := [_, _, _, _]) 1 [0, 1, 2, 3] [0, 1, 2, 3, 4, 5, 6, 7, 8, 9, 10, 11, 12, 13, 14, 15, 16, 17, 18, 19] 1048575 1048575 [0, 1, 2, 0, 0, 16, 40, 64, 132, 0, 512, 1024, 0, 0, 8192, 20608, 32768, 67584, 66047, 524287] [0, 1, 3, 0, 0, 16, 56, 120, 255, 0, 512, 1536, 0, 0, 8192, 28920, 61688, 130808, 127487, 524287] [(0, true), (1, true), (2, true), (3, true), (4, true), (5, true), (6, true), (7, true), (8, true), (9, true), (10, true), (11, true), (12, true), (13, true), (14, true), (15, true), (16, true), (17, true), (18, true), (19, true)] rfl (np_seq np_rt) (by kernel_rfl) (by kernel_rfl) (by kernel_rfl) (by kernel_rfl) (by kernel_rfl) (by kernel_rfl) (by kernel_rfl) (by kernel_rfl) ?_
  refine jd_y rfl (fun w hs => yv_fieldAddr rfl) rfl rfl ?_
  refine jd_y rfl (fun w hs => yv_fieldAddr rfl) rfl rfl ?_
  refine jd_y rfl (fun w hs => yv_load rfl (ld1B (hs.blk (i := 3) rfl) rfl)) rfl rfl ?_
  refine jd_y rfl (fun w hs => yv_load rfl (ldBB (hs.blk (i := 2) rfl) rfl)) rfl rfl ?_
  refine jd_y rfl (fun w hs => yv_fieldAddr rfl) rfl rfl ?_
  refine jd_y rfl (fun w hs => yv_load rfl (ld1B (hs.blk (i := 1) rfl) rfl)) rfl rfl ?_
  refine jd_c0 rfl rfl (fun v w hs hm => r20_gain_c (a0 := a1) hm ) rfl rfl fun v5 => ?_
  refine jd_c0 rfl rfl (fun v w hs hm => r01_Down_c hm ) rfl rfl fun v6 => ?_
  refine jd_y rfl (fun w hs => yv_add_w rfl rfl) rfl rfl ?_
  refine jd_y rfl (fun w hs => yv_fieldAddr rfl) rfl rfl ?_
  refine jd_y rfl (fun w hs => yv_fieldAddr rfl) rfl rfl ?_
  refine jd_y rfl (fun w hs => yv_load rfl (ld1B (hs.blk (i := 3) rfl) rfl)) rfl rfl ?_
  refine jd_y rfl (fun w hs => yv_load rfl (ldBB (hs.blk (i := 2) rfl) rfl)) rfl rfl ?_
  refine jd_y rfl (fun w hs => yv_fieldAddr rfl) rfl rfl ?_
  refine jd_y rfl (fun w hs => yv_load rfl (ld1B (hs.blk (i := 1) rfl) rfl)) rfl rfl ?_
  refine jd_c0 rfl rfl (fun v w hs hm => r20_gain_c (a0 := a1) hm ) rfl rfl fun v7 => ?_
  refine jd_c0 rfl rfl (fun v w hs hm => r01_Up_c hm ) rfl rfl fun v8 => ?_
  refine jd_y rfl (fun w hs => yv_add_w rfl rfl) rfl rfl ?_
  refine jd_as rfl rfl rfl rfl ?_
  refine jd_as rfl rfl rfl rfl ?_
  refine jd_nils [(3, _), (4, _), (6, _), (7, _), (8, _)] ⟨rfl, rfl, rfl, rfl, rfl, trivial⟩ ?_
  refine jk_sn ?_
  refine jn_seq ?_
  refine jn_seq ?_
  refine jn_reg 2 ?_
  refine jg_mv rfl rfl rfl ?_
  refine jg_y (fun w hs => yv_lss rfl rfl) rfl rfl ?_
  refine jg_nils [(3, _), (4, _), (6, _), (7, _), (8, _), (31, _)] ⟨rfl, rfl, rfl, rfl, rfl, rfl, trivial⟩ ?_
  refine jk_sn ?_
  refine jn_cond rfl ?_ ?_
  · refine jn_seq ?_
    refine jn_reg 3 ?_
    refine jg_y (fun w hs => yv_build rfl (o6 rfl)) rfl rfl ?_
    refine jg_store 0 rfl rfl rfl (l6 rfl) rfl rfl rfl rfl (l6 rfl) (r4 rfl) ?_
    refine jg_nils [(6, _)] ⟨rfl, trivial⟩ ?_
    refine jk_sel (is := [0]) (s1 rfl) rfl ?_
    refine jk_sn ?_
    refine jn_ret ?_
    refine jk_sr ?_
    exact jk_ret1 rfl (fun w hs => .cell rfl (ldBB (hs.blkL (i := 0) rfl) rfl)) (fun w hs => ⟨rfl, hs.drop⟩)
  refine jn_skip ?_
  refine jk_sn ?_
  refine jn_seq ?_
  refine jn_reg 4 ?_
  refine jg_y (fun w hs => yv_fieldAddr rfl) rfl rfl ?_
  refine jg_y (fun w hs => yv_fieldAddr rfl) rfl rfl ?_
  refine jg_y (fun w hs => yv_load rfl (ld1B (hs.blkL (i := 3) rfl) rfl)) rfl rfl ?_
  refine jg_c0 rfl (fun v w hs hm => r01_RootUp_c hm ) rfl rfl fun v9 => ?_
  refine jg_mv rfl rfl rfl ?_
  refine jg_c0 rfl (fun v w hs hm => r01_RootUp_c hm ) rfl rfl fun v10 => ?_
  refine jg_y (fun w hs => yv_add_w rfl rfl) rfl rfl ?_
  refine jg_as rfl rfl rfl ?_
  refine jg_nils [(3, _), (4, _), (6, _), (7, _), (8, _), (9, _)] ⟨rfl, rfl, rfl, rfl, rfl, rfl, trivial⟩ ?_
  refine jk_sn ?_
  refine jn_seq ?_
  refine jn_seq ?_
  refine jn_reg 5 ?_
  refine jg_mv rfl rfl rfl ?_
  refine jg_y (fun w hs => yv_eql rfl rfl) rfl rfl ?_
  refine jg_nils [(3, _), (4, _), (6, _), (7, _), (8, _), (9, _), (41, _)] ⟨rfl, rfl, rfl, rfl, rfl, rfl, rfl, trivial⟩ ?_
  refine jk_sn ?_
  refine jn_cond rfl ?_ ?_
  · refine jn_seq ?_
    refine jn_reg 6 ?_
    refine jg_y (fun w hs => yv_build rfl (o6 rfl)) rfl rfl ?_
    refine jg_store 0 rfl rfl rfl (l6 rfl) rfl rfl rfl rfl (l6 rfl) (r4 rfl) ?_
    refine jg_nils [(6, _)] ⟨rfl, trivial⟩ ?_
    refine jk_sel (is := [0]) (s1 rfl) rfl ?_
    refine jk_sn ?_
    refine jn_ret ?_
    refine jk_sr ?_
    exact jk_ret1 rfl (fun w hs => .cell rfl (ldBB (hs.blkL (i := 0) rfl) rfl)) (fun w hs => ⟨rfl, hs.drop⟩)
  refine jn_skip ?_
  refine jk_sn ?_
  refine jn_join (fun (s : Bool) (g : Nat) => [(3, .pointer (some ⟨g1, 0, none⟩)), (4, .pointer (some ⟨g2, 0, none⟩)), (6, .pointer (some ⟨g4, 0, none⟩)), (7, .int .i64 (w64 (a0.Energy.Lo + v6))), (8, .int .i64 (w64 (a0.Energy.Hi + v8))), (9, .int .i64 (w64 (v9 + v10))), (10, .pointer (some ⟨g, 0, none⟩))]) (fun (s : Bool) (g : Nat) => []) (fun (s : Bool) (g : Nat) => [(Res.blk g1 91 [.int .i64 a0.Time.Lo, .int .i64 a0.Time.Hi, .int .i64 a0.Energy.Lo, .int .i64 a0.Energy.Hi, .bool a0.Slow, .bool a0.Stops]), (Res.blk g2 30 [.int .i64 a1.Element, .int .i64 a1.Length, .int .i64 a1.Grade, .int .i64 a1.Curve, .int .i64 a1.Power]), (Res.blk g4 91 [.int .i64 0, .int .i64 0, .int .i64 0, .int .i64 0, .bool false, .bool false]), (Res.blk g 91 [.int .i64 0, .int .i64 0, .int .i64 0, .int .i64 0, .bool s, .bool false])]) ?_ ?_
  rotate_left
  · intro k13 H14
    refine jn_reg 7 ?_
    refine jg_y (fun w hs => yv_fieldAddr rfl) rfl rfl ?_
    refine jg_y (fun w hs => yv_load rfl (ld1B (hs.blkL (i := 3) rfl) rfl)) rfl rfl ?_
    refine jg_mv rfl rfl rfl ?_
    refine jg_split 45 rfl ?_ ?_
    · refine jg_skip rfl rfl ?_
      refine jg_skip rfl rfl ?_
      refine jg_y (fun w hs => yv_pick_t rfl rfl) rfl rfl ?_
      refine jg_y (fun w hs => yv_build rfl (o6 rfl)) rfl rfl ?_
      refine jg_alloc (l6 rfl) rfl rfl fun g27 => ?_
      refine jg_store 0 rfl rfl rfl (l6 rfl) rfl rfl rfl rfl (l6 rfl) (r5 rfl) ?_
      refine jg_nils [(3, _), (4, _), (6, _), (7, _), (8, _), (9, _), (10, _)] ⟨rfl, rfl, rfl, rfl, rfl, rfl, rfl, trivial⟩ ?_
      exact jk_use H14 true g27 [4, 3, 1, 0] ⟨rfl, rfl, rfl, rfl, rfl, rfl, rfl, trivial⟩ rfl rfl rfl
    refine jg_mv rfl rfl rfl ?_
    refine jg_y (fun w hs => yv_lss rfl rfl) rfl rfl ?_
    refine jg_y (fun w hs => yv_pick_f rfl rfl) rfl rfl ?_
    refine jg_y (fun w hs => yv_build rfl (o6 rfl)) rfl rfl ?_
    refine jg_alloc (l6 rfl) rfl rfl fun g28 => ?_
    refine jg_store 0 rfl rfl rfl (l6 rfl) rfl rfl rfl rfl (l6 rfl) (r5 rfl) ?_
    refine jg_nils [(3, _), (4, _), (6, _), (7, _), (8, _), (9, _), (10, _)] ⟨rfl, rfl, rfl, rfl, rfl, rfl, rfl, trivial⟩ ?_
    exact jk_use H14 (decide ((w64 (a0.Energy.Lo + v6)) < 0)) g28 [4, 3, 1, 0] ⟨rfl, rfl, rfl, rfl, rfl, rfl, rfl, trivial⟩ rfl rfl rfl
  intro z11 q12
  refine jn_seq ?_
  refine jn_reg 8 ?_
  refine jg_mv rfl rfl rfl ?_
  refine jg_yl (fun w hs => yv_max rfl rfl) rfl rfl fun x15 => ?_
  refine jg_as rfl rfl rfl ?_
  refine jg_nils [(3, _), (4, _), (6, _), (7, _), (8, _), (9, _), (10, _)] ⟨rfl, rfl, rfl, rfl, rfl, rfl, rfl, trivial⟩ ?_
  refine jk_sn ?_
  refine jn_seq ?_
  refine jn_reg 9 ?_
  refine jg_y (fun w hs => yv_fieldAddr rfl) rfl rfl ?_
  refine jg_y (fun w hs => yv_fieldAddr rfl) rfl rfl ?_
  refine jg_y (fun w hs => yv_load rfl (ld1B (hs.blkL (i := 0) rfl) rfl)) rfl rfl ?_
  refine jg_c0 rfl (fun v w hs hm => r01_RootDown_c hm ) rfl rfl fun v16 => ?_
  refine jg_mv rfl rfl rfl ?_
  refine jg_c0 rfl (fun v w hs hm => r01_RootDown_c hm ) rfl rfl fun v17 => ?_
  refine jg_y (fun w hs => yv_add_w rfl rfl) rfl rfl ?_
  refine jg_as rfl rfl rfl ?_
  refine jg_nils [(3, _), (4, _), (6, _), (7, _), (8, _), (9, _), (10, _), (11, _)] ⟨rfl, rfl, rfl, rfl, rfl, rfl, rfl, rfl, trivial⟩ ?_
  refine jk_sn ?_
  refine jn_join (fun (s : Bool) (g : Unit) => [(3, .pointer (some ⟨g1, 0, none⟩)), (4, .pointer (some ⟨g2, 0, none⟩)), (6, .pointer (some ⟨g4, 0, none⟩)), (7, .int .i64 x15), (8, .int .i64 (w64 (a0.Energy.Hi + v8))), (9, .int .i64 (w64 (v9 + v10))), (10, .pointer (some ⟨q12, 0, none⟩)), (11, .int .i64 (w64 (v16 + v17)))]) (fun (s : Bool) (g : Unit) => []) (fun (s : Bool) (g : Unit) => [(Res.blk g1 91 [.int .i64 a0.Time.Lo, .int .i64 a0.Time.Hi, .int .i64 a0.Energy.Lo, .int .i64 a0.Energy.Hi, .bool a0.Slow, .bool a0.Stops]), (Res.blk g2 30 [.int .i64 a1.Element, .int .i64 a1.Length, .int .i64 a1.Grade, .int .i64 a1.Curve, .int .i64 a1.Power]), (Res.blk g4 91 [.int .i64 0, .int .i64 0, .int .i64 0, .int .i64 0, .bool false, .bool false]), (Res.blk q12 91 [.int .i64 0, .int .i64 0, .int .i64 0, .int .i64 0, .bool s, .bool false])]) ?_ ?_
  rotate_left
  · intro k20 H21
    refine jn_reg 10 ?_
    refine jg_y (fun w hs => yv_fieldAddr rfl) rfl rfl ?_
    refine jg_y (fun w hs => yv_load rfl (ld1B (hs.blkL (i := 3) rfl) rfl)) rfl rfl ?_
    refine jg_mv rfl rfl rfl ?_
    refine jg_split 61 rfl ?_ ?_
    · refine jg_skip rfl rfl ?_
      refine jg_skip rfl rfl ?_
      refine jg_y (fun w hs => yv_pick_t rfl rfl) rfl rfl ?_
      refine jg_y (fun w hs => yv_fieldAddr rfl) rfl rfl ?_
      refine jg_store 3 rfl rfl rfl (l1 rfl) rfl rfl rfl rfl (l6 rfl) (r4 rfl) ?_
      refine jg_nils [(3, _), (4, _), (6, _), (7, _), (8, _), (9, _), (10, _), (11, _)] ⟨rfl, rfl, rfl, rfl, rfl, rfl, rfl, rfl, trivial⟩ ?_
      exact jk_use H21 true () [0, 1, 2, 3] ⟨rfl, rfl, rfl, rfl, rfl, rfl, rfl, rfl, trivial⟩ rfl rfl rfl
    refine jg_mv rfl rfl rfl ?_
    refine jg_y (fun w hs => yv_eql rfl rfl) rfl rfl ?_
    refine jg_y (fun w hs => yv_pick_f rfl rfl) rfl rfl ?_
    refine jg_y (fun w hs => yv_fieldAddr rfl) rfl rfl ?_
    refine jg_store 3 rfl rfl rfl (l1 rfl) rfl rfl rfl rfl (l6 rfl) (r4 rfl) ?_
    refine jg_nils [(3, _), (4, _), (6, _), (7, _), (8, _), (9, _), (10, _), (11, _)] ⟨rfl, rfl, rfl, rfl, rfl, rfl, rfl, rfl, trivial⟩ ?_
    exact jk_use H21 (decide ((w64 (v16 + v17)) = 0)) () [0, 1, 2, 3] ⟨rfl, rfl, rfl, rfl, rfl, rfl, rfl, rfl, trivial⟩ rfl rfl rfl
  intro z18 q19
  refine jn_seq ?_
  refine jn_reg 11 ?_
  refine jg_mv rfl rfl rfl ?_
  refine jg_mv rfl rfl rfl ?_
  refine jg_y (fun w hs => yv_build rfl (o2 rfl)) rfl rfl ?_
  refine jg_y (fun w hs => yv_fieldAddr rfl) rfl rfl ?_
  refine jg_store 3 rfl rfl rfl (l2 rfl) rfl rfl rfl rfl (l6 rfl) (r4 rfl) ?_
  refine jg_nils [(3, _), (4, _), (6, _), (9, _), (10, _), (11, _)] ⟨rfl, rfl, rfl, rfl, rfl, rfl, trivial⟩ ?_
  refine jk_sn ?_
  refine jn_seq ?_
  refine jn_draw (L' := [_, _, _, _]) 12 [0, 1, 2, 3] [0, 1, 2, 3, 4, 5, 6, 7, 8, 9, 10, 11] 4095 8191 [0, 1, 2, 0, 8, 16, 0, 96, 132, 256, 512, 2047, 4095] [0, 1, 3, 0, 8, 24, 0, 120, 255, 511, 1023, 2047, 4095] [(0, true), (1, true), (2, true), (3, true), (4, true), (5, true), (6, true), (7, true), (8, true), (9, true), (10, true), (11, true), (12, false)] rfl (np_seq np_rt) (by kernel_rfl) (by kernel_rfl) (by kernel_rfl) (by kernel_rfl) (by kernel_rfl) (by kernel_rfl) (by kernel_rfl) (by kernel_rfl) ?_
  refine jd_y rfl (fun w hs => yv_fieldAddr rfl) rfl rfl ?_
  refine jd_y rfl (fun w hs => yv_fieldAddr rfl) rfl rfl ?_
  refine jd_y rfl (fun w hs => yv_load rfl (ld1B (hs.blk (i := 0) rfl) rfl)) rfl rfl ?_
  refine jd_y rfl (fun w hs => yv_fieldAddr rfl) rfl rfl ?_
  refine jd_y rfl (fun w hs => yv_load rfl (ld1B (hs.blk (i := 1) rfl) rfl)) rfl rfl ?_
  refine jd_y rfl (fun w hs => yv_mul_w rfl rfl) rfl rfl ?_
  refine jd_mv rfl rfl rfl rfl ?_
  refine jd_ck fun h22 => ?_
  refine jd_yl rfl (fun w hs => yv_tdiv_w rfl rfl (of_decide_eq_true h22)) rfl rfl fun x23 => ?_
  refine jd_y rfl (fun w hs => yv_add_w rfl rfl) rfl rfl ?_
  refine jd_yl rfl (fun w hs => yv_min rfl rfl) rfl rfl fun x24 => ?_
  refine jd_y rfl (fun w hs => yv_build rfl (o2 rfl)) rfl rfl ?_
  refine jd_y rfl (fun w hs => yv_fieldAddr rfl) rfl rfl ?_
  refine jd_h rfl ?_
  refine jg_store 3 rfl rfl rfl (l2 rfl) rfl rfl rfl rfl (l6 rfl) (r4 rfl) ?_
  refine jg_nil ?_
  refine jk_df rfl ?_
  refine jf_nils [(3, _), (4, _), (6, _), (10, _), (11, _)] ⟨rfl, rfl, rfl, rfl, rfl, trivial⟩ ?_
  refine jk_sn ?_
  refine jn_seq ?_
  refine jn_seq ?_
  refine jn_reg 13 ?_
  refine jg_y (fun w hs => yv_fieldAddr rfl) rfl rfl ?_
  refine jg_y (fun w hs => yv_load rfl (ld1B (hs.blkL (i := 3) rfl) rfl)) rfl rfl ?_
  refine jg_y (fun w hs => yv_not rfl) rfl rfl ?_
  refine jg_nils [(3, _), (4, _), (6, _), (10, _), (11, _), (84, _)] ⟨rfl, rfl, rfl, rfl, rfl, rfl, trivial⟩ ?_
  refine jk_sn ?_
  refine jn_cond rfl ?_ ?_
  rotate_left
  · refine jn_skip ?_
    refine jk_sn ?_
    refine jn_seq ?_
    refine jn_reg 15 ?_
    refine jg_y (fun w hs => yv_load rfl (ldBB (hs.blkL (i := 3) rfl) rfl)) rfl rfl ?_
    refine jg_store 2 rfl rfl rfl (l6 rfl) rfl rfl rfl rfl (l6 rfl) (r4 rfl) ?_
    refine jg_nils [(6, _)] ⟨rfl, trivial⟩ ?_
    refine jk_sel (is := [2]) (s1 rfl) rfl ?_
    refine jk_sn ?_
    refine jn_ret ?_
    exact jk_ret1 rfl (fun w hs => .cell rfl (ldBB (hs.blkL (i := 0) rfl) rfl)) (fun w hs => ⟨rfl, hs.drop⟩)
  refine jn_draw (L' := [_, _, _, _]) 14 [0, 1, 2, 3] [0, 1, 2, 3, 4, 5, 6, 7, 8, 9, 10, 11] 4095 8191 [0, 1, 2, 0, 8, 16, 0, 96, 132, 256, 1023, 2047, 3071] [0, 1, 3, 0, 8, 24, 0, 120, 255, 511, 1023, 2047, 4095] [(0, true), (1, true), (2, true), (3, true), (4, true), (5, true), (6, true), (7, true), (8, true), (9, true), (10, true), (11, true), (12, false)] rfl (np_seq np_rt) (by kernel_rfl) (by kernel_rfl) (by kernel_rfl) (by kernel_rfl) (by kernel_rfl) (by kernel_rfl) (by kernel_rfl) (by kernel_rfl) ?_
  refine jd_y rfl (fun w hs => yv_fieldAddr rfl) rfl rfl ?_
  refine jd_y rfl (fun w hs => yv_fieldAddr rfl) rfl rfl ?_
  refine jd_y rfl (fun w hs => yv_load rfl (ld1B (hs.blk (i := 0) rfl) rfl)) rfl rfl ?_
  refine jd_y rfl (fun w hs => yv_fieldAddr rfl) rfl rfl ?_
  refine jd_y rfl (fun w hs => yv_load rfl (ld1B (hs.blk (i := 1) rfl) rfl)) rfl rfl ?_
  refine jd_y rfl (fun w hs => yv_mul_w rfl rfl) rfl rfl ?_
  refine jd_mv rfl rfl rfl rfl ?_
  refine jd_c0 rfl rfl (fun v w hs hm => r01_Up_c hm ) rfl rfl fun v25 => ?_
  refine jd_y rfl (fun w hs => yv_add_w rfl rfl) rfl rfl ?_
  refine jd_yl rfl (fun w hs => yv_min rfl rfl) rfl rfl fun x26 => ?_
  refine jd_y rfl (fun w hs => yv_fieldAddr rfl) rfl rfl ?_
  refine jd_y rfl (fun w hs => yv_fieldAddr rfl) rfl rfl ?_
  refine jd_h rfl ?_
  refine jg_store 3 rfl rfl rfl (l1 rfl) rfl rfl rfl rfl (l6 rfl) (r4 rfl) ?_
  refine jg_nil ?_
  refine jk_df rfl ?_
  refine jf_nils [(6, _), (10, _)] ⟨rfl, rfl, trivial⟩ ?_
  refine jk_sel (is := [2, 3]) (s2 rfl) rfl ?_
  refine jk_sn ?_
  refine jn_seq ?_
  refine jn_reg 15 ?_
  refine jg_y (fun w hs => yv_load rfl (ldBB (hs.blkL (i := 1) rfl) rfl)) rfl rfl ?_
  refine jg_store 0 rfl rfl rfl (l6 rfl) rfl rfl rfl rfl (l6 rfl) (r2 rfl) ?_
  refine jg_nils [(6, _)] ⟨rfl, trivial⟩ ?_
  refine jk_sn ?_
  refine jn_ret ?_
  exact jk_ret1 rfl (fun w hs => .cell rfl (ldBB (hs.blkL (i := 0) rfl) rfl)) (fun w hs => ⟨rfl, hs.drop⟩)
theorem r20_brake_c {w : World} {a0 : Interval} {a1 : Int} {a2 : Int} {a3 : Int}  {v : Interval} (hm : r20_brake a0 a1 a2 a3 = some v) : Gives Try.prog 46 [.agg #[.int .i64 a0.Lo, .int .i64 a0.Hi], .int .i64 a1, .int .i64 a2, .int .i64 a3] w (.agg #[.int .i64 v.Lo, .int .i64 v.Hi]) := by
  refine j_gives (vs := [.agg #[.int .i64 a0.Lo, .int .i64 a0.Hi], .int .i64 a1, .int .i64 a2, .int .i64 a3]) (U := fun (v : Interval) => .agg #[.int .i64 v.Lo, .int .i64 v.Hi]) Try.func46 rfl Try.ntmps46 rfl rfl hm ?_
  unfold r20_brake
  clear hm
  refine jn_seq ?_
  refine jn_reg 0 ?_
  refine jg_box rfl (l2 rfl) rfl rfl fun g1 => ?_
  refine jg_alloc (l2 rfl) rfl rfl fun g2 => ?_
  refine jg_nils [(1, _), (2, _), (3, _), (4, _), (8, _)] ⟨rfl, rfl, rfl, rfl, rfl, trivial⟩ ?_
  refine jk_sn ?_
  refine jn_seq ?_
  refine jn_reg 1 ?_
  refine jg_mv rfl rfl rfl ?_
  refine jg_mv rfl rfl rfl ?_
  refine jg_y (fun w hs => yv_sub_w rfl rfl) rfl rfl ?_
  refine jg_y (fun w hs => yv_max rfl rfl) rfl rfl ?_
  refine jg_mv rfl rfl rfl ?_
  refine jg_mv rfl rfl rfl ?_
  refine jg_y (fun w hs => yv_add_w rfl rfl) rfl rfl ?_
  refine jg_as rfl rfl rfl ?_
  refine jg_as rfl rfl rfl ?_
  refine jg_nils [(1, _), (4, _), (8, _), (9, _), (10, _)] ⟨rfl, rfl, rfl, rfl, rfl, trivial⟩ ?_
  refine jk_sn ?_
  refine jn_seq ?_
  refine jn_reg 2 ?_
  refine jg_y (fun w hs => yv_fieldAddr rfl) rfl rfl ?_
  refine jg_y (fun w hs => yv_load rfl (ld1B (hs.blkL (i := 1) rfl) rfl)) rfl rfl ?_
  refine jg_mv rfl rfl rfl ?_
  refine jg_mv rfl rfl rfl ?_
  refine jg_yl (fun w hs => yv_mul_w rfl rfl) rfl rfl fun x3 => ?_
  refine jg_y (fun w hs => yv_min rfl rfl) rfl rfl ?_
  refine jg_y (fun w hs => yv_fieldAddr rfl) rfl rfl ?_
  refine jg_y (fun w hs => yv_load rfl (ld1B (hs.blkL (i := 1) rfl) rfl)) rfl rfl ?_
  refine jg_mv rfl rfl rfl ?_
  refine jg_mv rfl rfl rfl ?_
  refine jg_yl (fun w hs => yv_mul_w rfl rfl) rfl rfl fun x4 => ?_
  refine jg_y (fun w hs => yv_min rfl rfl) rfl rfl ?_
  refine jg_y (fun w hs => yv_fieldAddr rfl) rfl rfl ?_
  refine jg_y (fun w hs => yv_load rfl (ld1B (hs.blkL (i := 1) rfl) rfl)) rfl rfl ?_
  refine jg_mv rfl rfl rfl ?_
  refine jg_y (fun w hs => yv_sub_w rfl rfl) rfl rfl ?_
  refine jg_yl (fun w hs => yv_max rfl rfl) rfl rfl fun x5 => ?_
  refine jg_y (fun w hs => yv_build rfl (o2 rfl)) rfl rfl ?_
  refine jg_store 0 rfl rfl rfl (l2 rfl) rfl rfl rfl rfl (l2 rfl) (r2 rfl) ?_
  refine jg_nils [(8, _)] ⟨rfl, trivial⟩ ?_
  refine jk_sn ?_
  refine jn_ret ?_
  exact jk_ret1 rfl (fun w hs => .cell rfl (ldBB (hs.blkL (i := 0) rfl) rfl)) (fun w hs => ⟨rfl, hs.drop⟩)
theorem r20_Pass_c {w : World} {a0 : (List Piece)} {a1 : Motion} {ha0 : Hd} {ha1_Class : Hd} {ha1_Targets : Hd} {v : ((List Passage) × Int)} (hm : r20_Pass a0 a1 = some v) (Rha0 : Sl w ha0 Piece.enc a0) (Rha1_Class : Sl w ha1_Class Interval.enc a1.Class) (Rha1_Targets : Sl w ha1_Targets encI a1.Targets) : Calls Try.prog 22 ([ha0.v, .agg #[.int .i64 a1.Speed.Lo, .int .i64 a1.Speed.Hi, ha1_Class.v, .int .i64 a1.Error, ha1_Targets.v]] : List Value).toArray w (fun e w' => ∃ g : Hd, e = .returned (.tuple #[g.v, .int .i64 v.2]) ∧ St w w' [] [(rowH g 91 6 Passage.enc v.1)]) := by
  refine j_enter (vs := [ha0.v, .agg #[.int .i64 a1.Speed.Lo, .int .i64 a1.Speed.Hi, ha1_Class.v, .int .i64 a1.Error, ha1_Targets.v]]) (R := fun (v : ((List Passage) × Int)) (e : Ending) (w' : World) => ∃ g : Hd, e = .returned (.tuple #[g.v, .int .i64 v.2]) ∧ St w w' [] [(rowH g 91 6 Passage.enc v.1)]) Try.func22 rfl Try.ntmps22 rfl rfl (St.refl w) hm ?_
  unfold r20_Pass
  clear hm
  refine jn_seq ?_
  refine jn_reg 0 ?_
  refine jg_box rfl (l5 rfl) rfl rfl fun g1 => ?_
  refine jg_as rfl rfl rfl ?_
  refine jg_as rfl rfl rfl ?_
  refine jg_nils [(0, _), (3, _)] ⟨rfl, rfl, trivial⟩ ?_
  refine jk_sn ?_
  refine jn_seq ?_
  refine jn_seq ?_
  refine jn_reg 1 ?_
  refine jg_mv rfl rfl rfl ?_
  refine jg_c0 rfl (fun v w hs hm => r20_Valid_c hm (hs.arg Rha0)) rfl rfl fun v2 => ?_
  refine jg_as rfl rfl rfl ?_
  refine jg_nils [(0, _), (3, _), (6, _)] ⟨rfl, rfl, rfl, trivial⟩ ?_
  refine jk_sn ?_
  refine jn_seq ?_
  refine jn_reg 2 ?_
  refine jg_mv rfl rfl rfl ?_
  refine jg_y (fun w hs => yv_neq rfl rfl) rfl rfl ?_
  refine jg_nils [(0, _), (3, _), (6, _), (15, _)] ⟨rfl, rfl, rfl, rfl, trivial⟩ ?_
  refine jk_sn ?_
  refine jn_cond rfl ?_ ?_
  · refine jn_seq ?_
    refine jn_reg 3 ?_
    refine jg_mv rfl rfl rfl ?_
    refine jg_as rfl rfl rfl ?_
    refine jg_as rfl rfl rfl ?_
    refine jg_nils [(4, _), (5, _)] ⟨rfl, rfl, trivial⟩ ?_
    refine jk_sn ?_
    refine jn_ret ?_
    refine jk_sr ?_
    refine jk_addnil 91 6 Passage.enc ?_
    exact jk_ret2 rfl (fun w hs => .tmp rfl) (fun w hs => .tmp rfl) (fun w hs => ⟨(Hd.mk none 0 0), rfl, hs.sel (is := [0]) rfl rfl⟩)
  refine jn_skip ?_
  refine jk_sn ?_
  refine jn_seq ?_
  refine jn_seq ?_
  refine jn_reg 4 ?_
  refine jg_mv rfl rfl rfl ?_
  refine jg_y (fun w hs => yv_load rfl (ldBB (hs.blkL (i := 0) rfl) rfl)) rfl rfl ?_
  refine jg_c0 rfl (fun v w hs hm => r20_Motion_c (a1 := a1) hm (hs.arg Rha0) (hs.arg Rha1_Class) (hs.arg Rha1_Targets)) rfl rfl fun v3 => ?_
  refine jg_as rfl rfl rfl ?_
  refine jg_nils [(0, _), (3, _), (7, _)] ⟨rfl, rfl, rfl, trivial⟩ ?_
  refine jk_sn ?_
  refine jn_seq ?_
  refine jn_reg 5 ?_
  refine jg_mv rfl rfl rfl ?_
  refine jg_y (fun w hs => yv_neq rfl rfl) rfl rfl ?_
  refine jg_nils [(0, _), (3, _), (7, _), (21, _)] ⟨rfl, rfl, rfl, rfl, trivial⟩ ?_
  refine jk_sn ?_
  refine jn_cond rfl ?_ ?_
  · refine jn_seq ?_
    refine jn_reg 6 ?_
    refine jg_mv rfl rfl rfl ?_
    refine jg_as rfl rfl rfl ?_
    refine jg_as rfl rfl rfl ?_
    refine jg_nils [(4, _), (5, _)] ⟨rfl, rfl, trivial⟩ ?_
    refine jk_sn ?_
    refine jn_ret ?_
    refine jk_sr ?_
    refine jk_addnil 91 6 Passage.enc ?_
    exact jk_ret2 rfl (fun w hs => .tmp rfl) (fun w hs => .tmp rfl) (fun w hs => ⟨(Hd.mk none 0 0), rfl, hs.sel (is := [0]) rfl rfl⟩)
  refine jn_skip ?_
  refine jk_sn ?_
  refine jn_seq ?_
  refine jn_reg 7 ?_
  refine jg_y (fun w hs => yv_fieldAddr rfl) rfl rfl ?_
  refine jg_y (fun w hs => yv_fieldAddr rfl) rfl rfl ?_
  refine jg_y (fun w hs => yv_load rfl (ld1B (hs.blkL (i := 0) rfl) rfl)) rfl rfl ?_
  refine jg_y (fun w hs => yv_fieldAddr rfl) rfl rfl ?_
  refine jg_y (fun w hs => yv_fieldAddr rfl) rfl rfl ?_
  refine jg_y (fun w hs => yv_load rfl (ld1B (hs.blkL (i := 0) rfl) rfl)) rfl rfl ?_
  refine jg_yl (fun w hs => yv_mul_w rfl rfl) rfl rfl fun x4 => ?_
  refine jg_y (fun w hs => yv_fieldAddr rfl) rfl rfl ?_
  refine jg_y (fun w hs => yv_fieldAddr rfl) rfl rfl ?_
  refine jg_y (fun w hs => yv_load rfl (ld1B (hs.blkL (i := 0) rfl) rfl)) rfl rfl ?_
  refine jg_y (fun w hs => yv_fieldAddr rfl) rfl rfl ?_
  refine jg_y (fun w hs => yv_fieldAddr rfl) rfl rfl ?_
  refine jg_y (fun w hs => yv_load rfl (ld1B (hs.blkL (i := 0) rfl) rfl)) rfl rfl ?_
  refine jg_yl (fun w hs => yv_mul_w rfl rfl) rfl rfl fun x5 => ?_
  refine jg_y (fun w hs => yv_build rfl (o2 rfl)) rfl rfl ?_
  refine jg_y (fun w hs => yv_build rfl (o6 rfl)) rfl rfl ?_
  refine jg_alloc (l6 rfl) rfl rfl fun g6 => ?_
  refine jg_store 0 rfl rfl rfl (l6 rfl) rfl rfl rfl rfl (l6 rfl) (r2 rfl) ?_
  refine jg_nils [(0, _), (3, _), (8, _)] ⟨rfl, rfl, rfl, trivial⟩ ?_
  refine jk_sn ?_
  refine jn_seq ?_
  refine jn_reg 8 ?_
  refine jg_y (fun w hs => yv_load rfl (ldBB (hs.blkL (i := 0) rfl) rfl)) rfl rfl ?_
  refine jg_lit (enc := Passage.enc) [(Passage.mk (Interval.mk 0 0) (Interval.mk x4 x5) false false)] rfl rfl rfl rfl rfl rfl rfl rfl fun hd7 => ?_
  refine jg_as rfl rfl rfl ?_
  refine jg_nils [(0, _), (3, _), (8, _), (9, _)] ⟨rfl, rfl, rfl, rfl, trivial⟩ ?_
  refine jk_sn ?_
  refine jn_seq ?_
  refine jn_reg 9 ?_
  refine jg_as rfl rfl rfl ?_
  refine jg_nils [(0, _), (3, _), (8, _), (9, _), (10, _)] ⟨rfl, rfl, rfl, rfl, rfl, trivial⟩ ?_
  refine jk_sn ?_
  refine jn_seq ?_
  refine jn_seq ?_
  refine jn_reg 10 ?_
  refine jg_as rfl rfl rfl ?_
  refine jg_nils [(0, _), (3, _), (8, _), (9, _), (10, _), (11, _)] ⟨rfl, rfl, rfl, rfl, rfl, rfl, trivial⟩ ?_
  refine jk_sn ?_
  refine jn_block ?_
  refine jn_lp (n := big) (fun (s : (Int × Int × Int × Int × Bool × Bool × (List Passage) × Int × Int)) (g : Hd) => [(0, ha0.v), (3, .pointer (some ⟨g1, 0, none⟩)), (8, .pointer (some ⟨g6, 0, none⟩)), (9, g.v), (10, .int .i64 s.2.2.2.2.2.2.2.1), (11, .int .i64 s.2.2.2.2.2.2.2.2)]) (fun (s : (Int × Int × Int × Int × Bool × Bool × (List Passage) × Int × Int)) (g : Hd) => []) (fun (s : (Int × Int × Int × Int × Bool × Bool × (List Passage) × Int × Int)) (g : Hd) => [(Res.blk g1 44 [.int .i64 a1.Speed.Lo, .int .i64 a1.Speed.Hi, ha1_Class.v, .int .i64 a1.Error, ha1_Targets.v]), (Res.blk g6 91 [.int .i64 s.1, .int .i64 s.2.1, .int .i64 s.2.2.1, .int .i64 s.2.2.2.1, .bool s.2.2.2.2.1, .bool s.2.2.2.2.2.1]), (rowH g 91 6 Passage.enc s.2.2.2.2.2.2.1)]) (0, 0, x4, x5, false, false, ([(Passage.mk (Interval.mk 0 0) (Interval.mk x4 x5) false false)] : List Passage), 0, 0) hd7 [2, 1, 0] ⟨rfl, rfl, rfl, rfl, rfl, rfl, trivial⟩ rfl rfl rfl ?_
  intro z8 q9 n12 k10 H11
  refine jn_seq ?_
  refine jn_seq ?_
  refine jn_reg 11 ?_
  refine jg_mv rfl rfl rfl ?_
  refine jg_mv rfl rfl rfl ?_
  refine jg_y (fun w hs => yv_ln rfl (hs.arg Rha0)) rfl rfl ?_
  refine jg_y (fun w hs => yv_lss rfl rfl) rfl rfl ?_
  refine jg_nils [(0, _), (3, _), (8, _), (9, _), (10, _), (11, _), (44, _)] ⟨rfl, rfl, rfl, rfl, rfl, rfl, rfl, trivial⟩ ?_
  refine jk_sn ?_
  refine jn_cond rfl ?_ ?_
  rotate_left
  · refine jn_exit ?_
    refine jk_se (jk_le (jk_bh (jk_sn ?_)))
    refine jn_seq ?_
    refine jn_reg 20 ?_
    refine jg_mv rfl rfl rfl ?_
    refine jg_as rfl rfl rfl ?_
    refine jg_as rfl rfl rfl ?_
    refine jg_nils [(4, _), (5, _)] ⟨rfl, rfl, trivial⟩ ?_
    refine jk_sel (is := [2]) (s1 rfl) rfl ?_
    refine jk_sn ?_
    refine jn_ret ?_
    exact jk_ret2 rfl (fun w hs => .tmp rfl) (fun w hs => .tmp rfl) (fun w hs => ⟨q9, rfl, hs.sel (is := [0]) rfl rfl⟩)
  refine jn_skip ?_
  refine jk_sn ?_
  refine jn_seq ?_
  refine jn_block ?_
  refine jn_join (fun (s : (Int × Int × Int × Int × Bool × Bool)) (g : Unit) => [(0, ha0.v), (3, .pointer (some ⟨g1, 0, none⟩)), (8, .pointer (some ⟨g6, 0, none⟩)), (9, q9.v), (10, .int .i64 z8.2.2.2.2.2.2.2.1), (11, .int .i64 z8.2.2.2.2.2.2.2.2)]) (fun (s : (Int × Int × Int × Int × Bool × Bool)) (g : Unit) => []) (fun (s : (Int × Int × Int × Int × Bool × Bool)) (g : Unit) => [(Res.blk g1 44 [.int .i64 a1.Speed.Lo, .int .i64 a1.Speed.Hi, ha1_Class.v, .int .i64 a1.Error, ha1_Targets.v]), (Res.blk g6 91 [.int .i64 s.1, .int .i64 s.2.1, .int .i64 s.2.2.1, .int .i64 s.2.2.2.1, .bool s.2.2.2.2.1, .bool s.2.2.2.2.2]), (rowH q9 91 6 Passage.enc z8.2.2.2.2.2.2.1)]) ?_ ?_
  rotate_left
  · intro k15 H16
    refine jn_seq ?_
    refine jn_reg 13 ?_
    refine jg_y (fun w hs => yv_fieldAddr rfl) rfl rfl ?_
    refine jg_y (fun w hs => yv_load rfl (ld1B (hs.blkL (i := 1) rfl) rfl)) rfl rfl ?_
    refine jg_y (fun w hs => yv_not rfl) rfl rfl ?_
    refine jg_nils [(0, _), (3, _), (8, _), (9, _), (10, _), (11, _), (49, _)] ⟨rfl, rfl, rfl, rfl, rfl, rfl, rfl, trivial⟩ ?_
    refine jk_sn ?_
    refine jn_cond rfl ?_ ?_
    rotate_left
    · refine jn_skip ?_
      exact jk_use H16 (z8.1, z8.2.1, z8.2.2.1, z8.2.2.2.1, z8.2.2.2.2.1, z8.2.2.2.2.2.1) () [0, 1, 2] ⟨rfl, rfl, rfl, rfl, rfl, rfl, trivial⟩ rfl rfl rfl
    refine jn_draw (L' := [_, _, _]) 14 [0, 1, 2] [0, 1, 2, 3, 4, 5, 6, 7, 8, 9, 10] 2047 4095 [0, 0, 0, 6, 8, 0, 32, 0, 192, 256, 529, 2047] [0, 0, 0, 6, 14, 0, 32, 0, 224, 480, 1023, 2047] [(0, true), (1, true), (2, true), (3, true), (4, true), (5, true), (6, true), (7, true), (8, true), (9, true), (10, true), (11, false)] rfl (np_seq (np_blk (np_seq (np_rnd (np_blk (np_seq np_rt)))))) (by kernel_rfl) (by kernel_rfl) (by kernel_rfl) (by kernel_rfl) (by kernel_rfl) (by kernel_rfl) (by kernel_rfl) (by kernel_rfl) ?_
    refine jd_y rfl (fun w hs => yv_load rfl (ldBB (hs.blk (i := 1) rfl) rfl)) rfl rfl ?_
    refine jd_mv rfl rfl rfl rfl ?_
    refine jd_mv rfl rfl rfl rfl ?_
    refine jd_ix fun x39 h40 => ?_
    refine jd_y rfl (fun w hs => yv_ix rfl rfl (hs.arg Rha0) h40) rfl rfl ?_
    refine jd_y rfl (fun w hs => yv_eS rfl (hs.arg Rha0) h40.1 (l5 rfl) rfl) rfl rfl ?_
    refine jd_y rfl (fun w hs => yv_fieldAddr rfl) rfl rfl ?_
    refine jd_y rfl (fun w hs => yv_load rfl (ld1B (hs.blk (i := 0) rfl) rfl)) rfl rfl ?_
    refine jd_mv rfl rfl rfl rfl ?_
    refine jd_ix fun x41 h42 => ?_
    refine jd_y rfl (fun w hs => yv_ix rfl rfl (hs.arg Rha1_Class) h42) rfl rfl ?_
    refine jd_y rfl (fun w hs => yv_eS rfl (hs.arg Rha1_Class) h42.1 (l2 rfl) rfl) rfl rfl ?_
    refine jd_c0 rfl rfl (fun v w hs hm => r20_step_c (a0 := (Passage.mk (Interval.mk z8.1 z8.2.1) (Interval.mk z8.2.2.1 z8.2.2.2.1) z8.2.2.2.2.1 z8.2.2.2.2.2.1)) (a1 := x39) (a2 := x41) hm ) rfl rfl fun v43 => ?_
    refine jd_h rfl ?_
    refine jg_store 1 rfl rfl rfl (l6 rfl) rfl rfl rfl rfl (l6 rfl) (r3 rfl) ?_
    refine jg_nil ?_
    refine jk_df rfl ?_
    refine jf_nils [(0, _), (3, _), (8, _), (9, _), (10, _), (11, _)] ⟨rfl, rfl, rfl, rfl, rfl, rfl, trivial⟩ ?_
    exact jk_use H16 (v43.Time.Lo, v43.Time.Hi, v43.Energy.Lo, v43.Energy.Hi, v43.Slow, v43.Stops) () [0, 1, 2] ⟨rfl, rfl, rfl, rfl, rfl, rfl, trivial⟩ rfl rfl rfl
  intro z13 q14
  refine jn_seq ?_
  refine jn_seq ?_
  refine jn_reg 15 ?_
  refine jg_mv rfl rfl rfl ?_
  refine jg_mv rfl rfl rfl ?_
  refine jg_ix fun x17 h18 => ?_
  refine jg_y (fun w hs => yv_ix rfl rfl (hs.arg Rha0) h18) rfl rfl ?_
  refine jg_y (fun w hs => yv_ef rfl (hs.arg Rha0) h18.1) rfl rfl ?_
  refine jg_y (fun w hs => yv_e1 rfl (hs.arg Rha0) h18.1 rfl) rfl rfl ?_
  refine jg_y (fun w hs => yv_gtr rfl rfl) rfl rfl ?_
  refine jg_nils [(0, _), (3, _), (8, _), (9, _), (10, _), (11, _), (66, _)] ⟨rfl, rfl, rfl, rfl, rfl, rfl, rfl, trivial⟩ ?_
  refine jk_sn ?_
  refine jn_cond rfl ?_ ?_
  rotate_left
  · refine jn_skip ?_
    refine jk_sn ?_
    refine jn_reg 19 ?_
    refine jg_mv rfl rfl rfl ?_
    refine jg_y (fun w hs => yv_load rfl (ldBB (hs.blkL (i := 1) rfl) rfl)) rfl rfl ?_
    refine jg_lit (enc := Passage.enc) [(Passage.mk (Interval.mk z13.1 z13.2.1) (Interval.mk z13.2.2.1 z13.2.2.2.1) z13.2.2.2.2.1 z13.2.2.2.2.2)] rfl rfl rfl rfl rfl rfl rfl rfl fun hd36 => ?_
    refine jg_append 3 rfl rfl rfl (fun w hs => (hs.row 0 rfl)) rfl rfl rfl fun y37 hd38 => ?_
    refine jg_L (r4 rfl) ?_
    refine jg_as rfl rfl rfl ?_
    refine jg_nils [(0, _), (3, _), (8, _), (9, _), (10, _), (11, _)] ⟨rfl, rfl, rfl, rfl, rfl, rfl, trivial⟩ ?_
    refine jk_bn (jk_sn ?_)
    refine jn_reg 12 ?_
    refine jg_mv rfl rfl rfl ?_
    refine jg_y (fun w hs => yv_add_w rfl rfl) rfl rfl ?_
    refine jg_as rfl rfl rfl ?_
    refine jg_nils [(0, _), (3, _), (8, _), (9, _), (10, _), (11, _)] ⟨rfl, rfl, rfl, rfl, rfl, rfl, trivial⟩ ?_
    exact jk_use H11 (z13.1, z13.2.1, z13.2.2.1, z13.2.2.2.1, z13.2.2.2.2.1, z13.2.2.2.2.2, y37, z8.2.2.2.2.2.2.2.1, w64 (z8.2.2.2.2.2.2.2.2 + 1)) hd38 [1, 2, 3] ⟨rfl, rfl, rfl, rfl, rfl, rfl, trivial⟩ rfl rfl rfl
  refine jn_seq ?_
  refine jn_join (fun (s : Bool) (g : Unit) => [(0, ha0.v), (3, .pointer (some ⟨g1, 0, none⟩)), (8, .pointer (some ⟨g6, 0, none⟩)), (9, q9.v), (10, .int .i64 z8.2.2.2.2.2.2.2.1), (11, .int .i64 z8.2.2.2.2.2.2.2.2), (77, .bool s)]) (fun (s : Bool) (g : Unit) => []) (fun (s : Bool) (g : Unit) => [(Res.blk g1 44 [.int .i64 a1.Speed.Lo, .int .i64 a1.Speed.Hi, ha1_Class.v, .int .i64 a1.Error, ha1_Targets.v]), (Res.blk g6 91 [.int .i64 z13.1, .int .i64 z13.2.1, .int .i64 z13.2.2.1, .int .i64 z13.2.2.2.1, .bool z13.2.2.2.2.1, .bool z13.2.2.2.2.2]), (rowH q9 91 6 Passage.enc z8.2.2.2.2.2.2.1)]) ?_ ?_
  rotate_left
  · intro k21 H22
    refine jn_reg 16 ?_
    refine jg_y (fun w hs => yv_fieldAddr rfl) rfl rfl ?_
    refine jg_y (fun w hs => yv_load rfl (ld1B (hs.blkL (i := 1) rfl) rfl)) rfl rfl ?_
    refine jg_y (fun w hs => yv_not rfl) rfl rfl ?_
    refine jg_mv rfl rfl rfl ?_
    refine jg_split 70 rfl ?_ ?_
    rotate_left
    · refine jg_skip rfl rfl ?_
      refine jg_skip rfl rfl ?_
      refine jg_skip rfl rfl ?_
      refine jg_skip rfl rfl ?_
      refine jg_skip rfl rfl ?_
      refine jg_skip rfl rfl ?_
      refine jg_y (fun w hs => yv_pick_f rfl rfl) rfl rfl ?_
      refine jg_nils [(0, _), (3, _), (8, _), (9, _), (10, _), (11, _), (77, _)] ⟨rfl, rfl, rfl, rfl, rfl, rfl, rfl, trivial⟩ ?_
      exact jk_use H22 false () [0, 1, 2] ⟨rfl, rfl, rfl, rfl, rfl, rfl, rfl, trivial⟩ rfl rfl rfl
    refine jg_y (fun w hs => yv_fieldAddr rfl) rfl rfl ?_
    refine jg_y (fun w hs => yv_load rfl (ld1B (hs.blkL (i := 0) rfl) rfl)) rfl rfl ?_
    refine jg_mv rfl rfl rfl ?_
    refine jg_ix fun x34 h35 => ?_
    refine jg_y (fun w hs => yv_ix rfl rfl (hs.arg Rha1_Targets) h35) rfl rfl ?_
    refine jg_y (fun w hs => yv_e1 rfl (hs.arg Rha1_Targets) h35.1 rfl) rfl rfl ?_
    refine jg_y (fun w hs => yv_geq rfl rfl) rfl rfl ?_
    refine jg_y (fun w hs => yv_pick_t rfl rfl) rfl rfl ?_
    refine jg_nils [(0, _), (3, _), (8, _), (9, _), (10, _), (11, _), (77, _)] ⟨rfl, rfl, rfl, rfl, rfl, rfl, rfl, trivial⟩ ?_
    exact jk_use H22 (decide (0 ≤ x34)) () [0, 1, 2] ⟨rfl, rfl, rfl, rfl, rfl, rfl, rfl, trivial⟩ rfl rfl rfl
  intro z19 q20
  refine jn_cond rfl ?_ ?_
  rotate_left
  · refine jn_skip ?_
    refine jk_sn ?_
    refine jn_reg 18 ?_
    refine jg_mv rfl rfl rfl ?_
    refine jg_y (fun w hs => yv_add_w rfl rfl) rfl rfl ?_
    refine jg_as rfl rfl rfl ?_
    refine jg_nils [(0, _), (3, _), (8, _), (9, _), (10, _), (11, _)] ⟨rfl, rfl, rfl, rfl, rfl, rfl, trivial⟩ ?_
    refine jk_sn ?_
    refine jn_reg 19 ?_
    refine jg_mv rfl rfl rfl ?_
    refine jg_y (fun w hs => yv_load rfl (ldBB (hs.blkL (i := 1) rfl) rfl)) rfl rfl ?_
    refine jg_lit (enc := Passage.enc) [(Passage.mk (Interval.mk z13.1 z13.2.1) (Interval.mk z13.2.2.1 z13.2.2.2.1) z13.2.2.2.2.1 z13.2.2.2.2.2)] rfl rfl rfl rfl rfl rfl rfl rfl fun hd31 => ?_
    refine jg_append 3 rfl rfl rfl (fun w hs => (hs.row 0 rfl)) rfl rfl rfl fun y32 hd33 => ?_
    refine jg_L (r4 rfl) ?_
    refine jg_as rfl rfl rfl ?_
    refine jg_nils [(0, _), (3, _), (8, _), (9, _), (10, _), (11, _)] ⟨rfl, rfl, rfl, rfl, rfl, rfl, trivial⟩ ?_
    refine jk_bn (jk_sn ?_)
    refine jn_reg 12 ?_
    refine jg_mv rfl rfl rfl ?_
    refine jg_y (fun w hs => yv_add_w rfl rfl) rfl rfl ?_
    refine jg_as rfl rfl rfl ?_
    refine jg_nils [(0, _), (3, _), (8, _), (9, _), (10, _), (11, _)] ⟨rfl, rfl, rfl, rfl, rfl, rfl, trivial⟩ ?_
    exact jk_use H11 (z13.1, z13.2.1, z13.2.2.1, z13.2.2.2.1, z13.2.2.2.2.1, z13.2.2.2.2.2, y32, w64 (z8.2.2.2.2.2.2.2.1 + 1), w64 (z8.2.2.2.2.2.2.2.2 + 1)) hd33 [1, 2, 3] ⟨rfl, rfl, rfl, rfl, rfl, rfl, trivial⟩ rfl rfl rfl
  refine jn_draw (L' := [_, _, _]) 17 [0, 1, 2] [0, 1, 2, 3, 4, 5, 6, 7, 8, 9, 10, 11, 12, 13, 14, 15] 65535 131071 [0, 1, 0, 0, 12, 16, 32, 0, 128, 0, 768, 1024, 0, 4096, 10306, 32767, 65535] [0, 1, 0, 0, 12, 28, 60, 0, 128, 0, 896, 1920, 0, 4096, 16383, 32767, 65535] [(0, true), (1, true), (2, true), (3, true), (4, true), (5, true), (6, true), (7, true), (8, true), (9, true), (10, true), (11, true), (12, true), (13, true), (14, true), (15, true), (16, false)] rfl (np_seq (np_seq (np_blk (np_seq (np_rnd (np_blk (np_seq np_rt))))))) (by kernel_rfl) (by kernel_rfl) (by kernel_rfl) (by kernel_rfl) (by kernel_rfl) (by kernel_rfl) (by kernel_rfl) (by kernel_rfl) ?_
  refine jd_y rfl (fun w hs => yv_fieldAddr rfl) rfl rfl ?_
  refine jd_y rfl (fun w hs => yv_load rfl (ldPB (hs.blk (i := 1) rfl) (l2 rfl) rfl)) rfl rfl ?_
  refine jd_mv rfl rfl rfl rfl ?_
  refine jd_mv rfl rfl rfl rfl ?_
  refine jd_ix fun x23 h24 => ?_
  refine jd_y rfl (fun w hs => yv_ix rfl rfl (hs.arg Rha0) h24) rfl rfl ?_
  refine jd_y rfl (fun w hs => yv_ef rfl (hs.arg Rha0) h24.1) rfl rfl ?_
  refine jd_y rfl (fun w hs => yv_e1 rfl (hs.arg Rha0) h24.1 rfl) rfl rfl ?_
  refine jd_y rfl (fun w hs => yv_fieldAddr rfl) rfl rfl ?_
  refine jd_y rfl (fun w hs => yv_load rfl (ld1B (hs.blk (i := 0) rfl) rfl)) rfl rfl ?_
  refine jd_mv rfl rfl rfl rfl ?_
  refine jd_ix fun x25 h26 => ?_
  refine jd_y rfl (fun w hs => yv_ix rfl rfl (hs.arg Rha1_Targets) h26) rfl rfl ?_
  refine jd_y rfl (fun w hs => yv_e1 rfl (hs.arg Rha1_Targets) h26.1 rfl) rfl rfl ?_
  refine jd_y rfl (fun w hs => yv_fieldAddr rfl) rfl rfl ?_
  refine jd_y rfl (fun w hs => yv_load rfl (ld1B (hs.blk (i := 0) rfl) rfl)) rfl rfl ?_
  refine jd_c0 rfl rfl (fun v w hs hm => r20_brake_c (a0 := (Interval.mk z13.2.2.1 z13.2.2.2.1)) hm ) rfl rfl fun v27 => ?_
  refine jd_y rfl (fun w hs => yv_fieldAddr rfl) rfl rfl ?_
  refine jd_h rfl ?_
  refine jg_store 1 rfl rfl rfl (l2 rfl) rfl rfl rfl rfl (l6 rfl) (r3 rfl) ?_
  refine jg_nil ?_
  refine jk_df rfl ?_
  refine jf_nils [(0, _), (3, _), (8, _), (9, _), (10, _), (11, _)] ⟨rfl, rfl, rfl, rfl, rfl, rfl, trivial⟩ ?_
  refine jk_sn ?_
  refine jn_reg 18 ?_
  refine jg_mv rfl rfl rfl ?_
  refine jg_y (fun w hs => yv_add_w rfl rfl) rfl rfl ?_
  refine jg_as rfl rfl rfl ?_
  refine jg_nils [(0, _), (3, _), (8, _), (9, _), (10, _), (11, _)] ⟨rfl, rfl, rfl, rfl, rfl, rfl, trivial⟩ ?_
  refine jk_sn ?_
  refine jn_reg 19 ?_
  refine jg_mv rfl rfl rfl ?_
  refine jg_y (fun w hs => yv_load rfl (ldBB (hs.blkL (i := 1) rfl) rfl)) rfl rfl ?_
  refine jg_lit (enc := Passage.enc) [(Passage.mk (Interval.mk z13.1 z13.2.1) v27 z13.2.2.2.2.1 z13.2.2.2.2.2)] rfl rfl rfl rfl rfl rfl rfl rfl fun hd28 => ?_
  refine jg_append 3 rfl rfl rfl (fun w hs => (hs.row 0 rfl)) rfl rfl rfl fun y29 hd30 => ?_
  refine jg_L (r4 rfl) ?_
  refine jg_as rfl rfl rfl ?_
  refine jg_nils [(0, _), (3, _), (8, _), (9, _), (10, _), (11, _)] ⟨rfl, rfl, rfl, rfl, rfl, rfl, trivial⟩ ?_
  refine jk_bn (jk_sn ?_)
  refine jn_reg 12 ?_
  refine jg_mv rfl rfl rfl ?_
  refine jg_y (fun w hs => yv_add_w rfl rfl) rfl rfl ?_
  refine jg_as rfl rfl rfl ?_
  refine jg_nils [(0, _), (3, _), (8, _), (9, _), (10, _), (11, _)] ⟨rfl, rfl, rfl, rfl, rfl, rfl, trivial⟩ ?_
  exact jk_use H11 (z13.1, z13.2.1, v27.Lo, v27.Hi, z13.2.2.2.2.1, z13.2.2.2.2.2, y29, w64 (z8.2.2.2.2.2.2.2.1 + 1), w64 (z8.2.2.2.2.2.2.2.2 + 1)) hd30 [1, 2, 3] ⟨rfl, rfl, rfl, rfl, rfl, rfl, trivial⟩ rfl rfl rfl
theorem occupancy_Spans_c {w : World} {a0 : (List Element)} {a1 : (List Piece)} {a2 : (List Passage)} {a3 : Int} {ha0 : Hd} {ha1 : Hd} {ha2 : Hd} {v : ((List Span) × Int)} (hm : occupancy_Spans a0 a1 a2 a3 = some v) (Rha0 : Sl w ha0 Element.enc a0) (Rha1 : Sl w ha1 Piece.enc a1) (Rha2 : Sl w ha2 Passage.enc a2) : Calls Try.prog 23 ([ha0.v, ha1.v, ha2.v, .int .i64 a3] : List Value).toArray w (fun e w' => ∃ g : Hd, e = .returned (.tuple #[g.v, .int .i64 v.2]) ∧ St w w' [] [(rowH g 53 4 Span.enc v.1)]) := by
  refine j_enter (vs := [ha0.v, ha1.v, ha2.v, .int .i64 a3]) (R := fun (v : ((List Span) × Int)) (e : Ending) (w' : World) => ∃ g : Hd, e = .returned (.tuple #[g.v, .int .i64 v.2]) ∧ St w w' [] [(rowH g 53 4 Span.enc v.1)]) Try.func23 rfl Try.ntmps23 rfl rfl (St.refl w) hm ?_
  unfold occupancy_Spans
  clear hm
  refine jn_seq ?_
  refine jn_reg 0 ?_
  refine jg_as rfl rfl rfl ?_
  refine jg_as rfl rfl rfl ?_
  refine jg_nils [(0, _), (1, _), (2, _), (3, _)] ⟨rfl, rfl, rfl, rfl, trivial⟩ ?_
  refine jk_sn ?_
  refine jn_seq ?_
  refine jn_reg 1 ?_
  refine jg_mv rfl rfl rfl ?_
  refine jg_mv rfl rfl rfl ?_
  refine jg_mv rfl rfl rfl ?_
  refine jg_y (fun w hs => yv_ln rfl (hs.arg Rha2)) rfl rfl ?_
  refine jg_mv rfl rfl rfl ?_
  refine jg_y (fun w hs => yv_ln rfl (hs.arg Rha1)) rfl rfl ?_
  refine jg_y (fun w hs => yv_add_w rfl rfl) rfl rfl ?_
  refine jg_mv rfl rfl rfl ?_
  refine jg_c rfl (fun v w hs hm => occupancy_behind_c hm (hs.arg Rha0) (hs.arg Rha1)) rfl rfl fun v1 q2 => ?_
  refine jg_L (r1 rfl) ?_
  refine jg_mv rfl rfl rfl ?_
  refine jg_y (fun w hs => yv_extract rfl rfl) rfl rfl ?_
  refine jg_y (fun w hs => yv_extract rfl rfl) rfl rfl ?_
  refine jg_as rfl rfl rfl ?_
  refine jg_as rfl rfl rfl ?_
  refine jg_nils [(0, _), (1, _), (2, _), (10, _), (11, _)] ⟨rfl, rfl, rfl, rfl, rfl, trivial⟩ ?_
  refine jk_sn ?_
  refine jn_seq ?_
  refine jn_seq ?_
  refine jn_reg 2 ?_
  refine jg_mv rfl rfl rfl ?_
  refine jg_y (fun w hs => yv_neq rfl rfl) rfl rfl ?_
  refine jg_nils [(0, _), (1, _), (2, _), (10, _), (11, _), (29, _)] ⟨rfl, rfl, rfl, rfl, rfl, rfl, trivial⟩ ?_
  refine jk_sn ?_
  refine jn_cond rfl ?_ ?_
  · refine jn_seq ?_
    refine jn_reg 3 ?_
    refine jg_mv rfl rfl rfl ?_
    refine jg_as rfl rfl rfl ?_
    refine jg_as rfl rfl rfl ?_
    refine jg_nils [(8, _), (9, _)] ⟨rfl, rfl, trivial⟩ ?_
    refine jk_sn ?_
    refine jn_ret ?_
    refine jk_sr ?_
    refine jk_addnil 53 4 Span.enc ?_
    exact jk_ret2 rfl (fun w hs => .tmp rfl) (fun w hs => .tmp rfl) (fun w hs => ⟨(Hd.mk none 0 0), rfl, hs.sel (is := [0]) rfl rfl⟩)
  refine jn_skip ?_
  refine jk_sn ?_
  refine jn_seq ?_
  refine jn_reg 4 ?_
  refine jg_as rfl rfl rfl ?_
  refine jg_nils [(0, _), (1, _), (2, _), (10, _), (12, _)] ⟨rfl, rfl, rfl, rfl, rfl, trivial⟩ ?_
  refine jk_sn ?_
  refine jn_seq ?_
  refine jn_seq ?_
  refine jn_reg 5 ?_
  refine jg_mv rfl rfl rfl ?_
  refine jg_y (fun w hs => yv_ln rfl (hs.row 0 rfl)) rfl rfl ?_
  refine jg_mv rfl rfl rfl ?_
  refine jg_nils [(0, _), (1, _), (2, _), (12, _), (31, _), (32, _), (33, _)] ⟨rfl, rfl, rfl, rfl, rfl, rfl, rfl, trivial⟩ ?_
  refine jk_sn ?_
  refine jn_block ?_
  refine jn_addnil 53 4 Span.enc ?_
  refine jn_lp (n := big) (fun (s : ((List Span) × Int)) (g : Hd) => [(0, ha0.v), (1, ha1.v), (2, ha2.v), (12, g.v), (31, q2.v), (32, .int .i64 (v1.1.length : Int)), (33, .int .i64 s.2)]) (fun (s : ((List Span) × Int)) (g : Hd) => []) (fun (s : ((List Span) × Int)) (g : Hd) => [(rowH g 53 4 Span.enc s.1), (rowH q2 3 1 encI v1.1)]) (([] : List Span), 0) (Hd.mk none 0 0) [0, 1] ⟨rfl, rfl, rfl, rfl, rfl, rfl, rfl, trivial⟩ rfl rfl rfl ?_
  intro z3 q4 n7 k5 H6
  refine jn_seq ?_
  refine jn_reg 6 ?_
  refine jg_y (fun w hs => yv_lss rfl rfl) rfl rfl ?_
  refine jg_nils [(0, _), (1, _), (2, _), (12, _), (31, _), (32, _), (33, _), (34, _)] ⟨rfl, rfl, rfl, rfl, rfl, rfl, rfl, rfl, trivial⟩ ?_
  refine jk_sn ?_
  refine jn_seq ?_
  refine jn_cond rfl ?_ ?_
  rotate_left
  · refine jn_exit ?_
    refine jk_se (jk_le (jk_bh (jk_sn ?_)))
    refine jn_seq ?_
    refine jn_reg 15 ?_
    refine jg_mv rfl rfl rfl ?_
    refine jg_as rfl rfl rfl ?_
    refine jg_as rfl rfl rfl ?_
    refine jg_nils [(8, _), (9, _)] ⟨rfl, rfl, trivial⟩ ?_
    refine jk_sn ?_
    refine jn_ret ?_
    exact jk_ret2 rfl (fun w hs => .tmp rfl) (fun w hs => .tmp rfl) (fun w hs => ⟨q4, rfl, hs.sel (is := [0]) rfl rfl⟩)
  refine jn_skip ?_
  refine jk_sn ?_
  refine jn_seq ?_
  refine jn_block ?_
  refine jn_seq ?_
  refine jn_reg 7 ?_
  refine jg_mv rfl rfl rfl ?_
  refine jg_ix fun x8 h9 => ?_
  refine jg_y (fun w hs => yv_ix rfl rfl (hs.row 1 rfl) h9) rfl rfl ?_
  refine jg_y (fun w hs => yv_e1 rfl (hs.row 1 rfl) h9.1 rfl) rfl rfl ?_
  refine jg_as rfl rfl rfl ?_
  refine jg_as rfl rfl rfl ?_
  refine jg_nils [(0, _), (1, _), (2, _), (12, _), (13, _), (14, _), (31, _), (32, _), (33, _)] ⟨rfl, rfl, rfl, rfl, rfl, rfl, rfl, rfl, rfl, trivial⟩ ?_
  refine jk_sn ?_
  refine jn_seq ?_
  refine jn_seq ?_
  refine jn_reg 8 ?_
  refine jg_mv rfl rfl rfl ?_
  refine jg_mv rfl rfl rfl ?_
  refine jg_ix fun x10 h11 => ?_
  refine jg_y (fun w hs => yv_ix rfl rfl (hs.arg Rha2) h11) rfl rfl ?_
  refine jg_y (fun w hs => yv_ef rfl (hs.arg Rha2) h11.1) rfl rfl ?_
  refine jg_y (fun w hs => yv_e1 rfl (hs.arg Rha2) h11.1 rfl) rfl rfl ?_
  refine jg_nils [(0, _), (1, _), (2, _), (12, _), (13, _), (14, _), (31, _), (32, _), (33, _), (42, _)] ⟨rfl, rfl, rfl, rfl, rfl, rfl, rfl, rfl, rfl, rfl, trivial⟩ ?_
  refine jk_sn ?_
  refine jn_cond rfl ?_ ?_
  · refine jn_exit ?_
    refine jk_se (jk_bm rfl (jk_se (jk_le (jk_bh (jk_sn ?_)))))
    refine jn_seq ?_
    refine jn_reg 15 ?_
    refine jg_mv rfl rfl rfl ?_
    refine jg_as rfl rfl rfl ?_
    refine jg_as rfl rfl rfl ?_
    refine jg_nils [(8, _), (9, _)] ⟨rfl, rfl, trivial⟩ ?_
    refine jk_sn ?_
    refine jn_ret ?_
    exact jk_ret2 rfl (fun w hs => .tmp rfl) (fun w hs => .tmp rfl) (fun w hs => ⟨q4, rfl, hs.sel (is := [0]) rfl rfl⟩)
  refine jn_skip ?_
  refine jk_sn ?_
  refine jn_seq ?_
  refine jn_reg 9 ?_
  refine jg_mv rfl rfl rfl ?_
  refine jg_mv rfl rfl rfl ?_
  refine jg_mv rfl rfl rfl ?_
  refine jg_c0 rfl (fun v w hs hm => occupancy_span_c hm (hs.arg Rha0) (hs.arg Rha1)) rfl rfl fun v12 => ?_
  refine jg_alloc (l4 rfl) rfl rfl fun g13 => ?_
  refine jg_store 0 rfl rfl rfl (l4 rfl) rfl rfl rfl rfl (l4 rfl) (r3 rfl) ?_
  refine jg_nils [(0, _), (1, _), (2, _), (12, _), (13, _), (14, _), (15, _), (31, _), (32, _), (33, _)] ⟨rfl, rfl, rfl, rfl, rfl, rfl, rfl, rfl, rfl, rfl, trivial⟩ ?_
  refine jk_sn ?_
  refine jn_seq ?_
  refine jn_reg 10 ?_
  refine jg_mv rfl rfl rfl ?_
  refine jg_mv rfl rfl rfl ?_
  refine jg_ix fun x14 h15 => ?_
  refine jg_y (fun w hs => yv_ix rfl rfl (hs.arg Rha2) h15) rfl rfl ?_
  refine jg_y (fun w hs => yv_ef rfl (hs.arg Rha2) h15.1) rfl rfl ?_
  refine jg_y (fun w hs => yv_ef rfl (hs.arg Rha2) h15.1) rfl rfl ?_
  refine jg_y (fun w hs => yv_e1 rfl (hs.arg Rha2) h15.1 rfl) rfl rfl ?_
  refine jg_y (fun w hs => yv_fieldAddr rfl) rfl rfl ?_
  refine jg_store 0 rfl rfl rfl (l1 rfl) rfl rfl rfl rfl (l4 rfl) (r3 rfl) ?_
  refine jg_nils [(0, _), (1, _), (2, _), (12, _), (14, _), (15, _), (31, _), (32, _), (33, _)] ⟨rfl, rfl, rfl, rfl, rfl, rfl, rfl, rfl, rfl, trivial⟩ ?_
  refine jk_sn ?_
  refine jn_seq ?_
  refine jn_seq ?_
  refine jn_reg 11 ?_
  refine jg_mv rfl rfl rfl ?_
  refine jg_mv rfl rfl rfl ?_
  refine jg_y (fun w hs => yv_add_w rfl rfl) rfl rfl ?_
  refine jg_ix fun x16 h17 => ?_
  refine jg_y (fun w hs => yv_ix rfl rfl (hs.arg Rha2) h17) rfl rfl ?_
  refine jg_y (fun w hs => yv_ef rfl (hs.arg Rha2) h17.1) rfl rfl ?_
  refine jg_y (fun w hs => yv_e1 rfl (hs.arg Rha2) h17.1 rfl) rfl rfl ?_
  refine jg_y (fun w hs => yv_not rfl) rfl rfl ?_
  refine jg_nils [(0, _), (1, _), (2, _), (12, _), (14, _), (15, _), (31, _), (32, _), (33, _), (60, _)] ⟨rfl, rfl, rfl, rfl, rfl, rfl, rfl, rfl, rfl, rfl, trivial⟩ ?_
  refine jk_sn ?_
  refine jn_cond rfl ?_ ?_
  rotate_left
  · refine jn_skip ?_
    refine jk_sn ?_
    refine jn_reg 13 ?_
    refine jg_mv rfl rfl rfl ?_
    refine jg_y (fun w hs => yv_load rfl (ldBB (hs.blkL (i := 0) rfl) rfl)) rfl rfl ?_
    refine jg_lit (enc := Span.enc) [(Span.mk v12.Element v12.Side x14.Time.Lo v12.To)] rfl rfl rfl rfl rfl rfl rfl rfl fun hd23 => ?_
    refine jg_append 2 rfl rfl rfl (fun w hs => (hs.row 0 rfl)) rfl rfl rfl fun y24 hd25 => ?_
    refine jg_L (r4 rfl) ?_
    refine jg_as rfl rfl rfl ?_
    refine jg_nils [(0, _), (1, _), (2, _), (12, _), (31, _), (32, _), (33, _)] ⟨rfl, rfl, rfl, rfl, rfl, rfl, rfl, trivial⟩ ?_
    refine jk_sel (is := [2, 3]) (s2 rfl) rfl ?_
    refine jk_bn (jk_sn ?_)
    refine jn_reg 14 ?_
    refine jg_y (fun w hs => yv_add_w rfl rfl) rfl rfl ?_
    refine jg_mv rfl rfl rfl ?_
    refine jg_nils [(0, _), (1, _), (2, _), (12, _), (31, _), (32, _), (33, _)] ⟨rfl, rfl, rfl, rfl, rfl, rfl, rfl, trivial⟩ ?_
    exact jk_use H6 (y24, w64 (z3.2 + 1)) hd25 [0, 1] ⟨rfl, rfl, rfl, rfl, rfl, rfl, rfl, trivial⟩ rfl rfl rfl
  refine jn_reg 12 ?_
  refine jg_mv rfl rfl rfl ?_
  refine jg_mv rfl rfl rfl ?_
  refine jg_y (fun w hs => yv_add_w rfl rfl) rfl rfl ?_
  refine jg_ix fun x18 h19 => ?_
  refine jg_y (fun w hs => yv_ix rfl rfl (hs.arg Rha2) h19) rfl rfl ?_
  refine jg_y (fun w hs => yv_ef rfl (hs.arg Rha2) h19.1) rfl rfl ?_
  refine jg_y (fun w hs => yv_ef rfl (hs.arg Rha2) h19.1) rfl rfl ?_
  refine jg_y (fun w hs => yv_e1 rfl (hs.arg Rha2) h19.1 rfl) rfl rfl ?_
  refine jg_y (fun w hs => yv_fieldAddr rfl) rfl rfl ?_
  refine jg_store 0 rfl rfl rfl (l1 rfl) rfl rfl rfl rfl (l4 rfl) (r3 rfl) ?_
  refine jg_nils [(0, _), (1, _), (2, _), (12, _), (15, _), (31, _), (32, _), (33, _)] ⟨rfl, rfl, rfl, rfl, rfl, rfl, rfl, rfl, trivial⟩ ?_
  refine jk_sn ?_
  refine jn_reg 13 ?_
  refine jg_mv rfl rfl rfl ?_
  refine jg_y (fun w hs => yv_load rfl (ldBB (hs.blkL (i := 0) rfl) rfl)) rfl rfl ?_
  refine jg_lit (enc := Span.enc) [(Span.mk v12.Element v12.Side x14.Time.Lo x18.Time.Hi)] rfl rfl rfl rfl rfl rfl rfl rfl fun hd20 => ?_
  refine jg_append 2 rfl rfl rfl (fun w hs => (hs.row 0 rfl)) rfl rfl rfl fun y21 hd22 => ?_
  refine jg_L (r4 rfl) ?_
  refine jg_as rfl rfl rfl ?_
  refine jg_nils [(0, _), (1, _), (2, _), (12, _), (31, _), (32, _), (33, _)] ⟨rfl, rfl, rfl, rfl, rfl, rfl, rfl, trivial⟩ ?_
  refine jk_sel (is := [2, 3]) (s2 rfl) rfl ?_
  refine jk_bn (jk_sn ?_)
  refine jn_reg 14 ?_
  refine jg_y (fun w hs => yv_add_w rfl rfl) rfl rfl ?_
  refine jg_mv rfl rfl rfl ?_
  refine jg_nils [(0, _), (1, _), (2, _), (12, _), (31, _), (32, _), (33, _)] ⟨rfl, rfl, rfl, rfl, rfl, rfl, rfl, trivial⟩ ?_
  exact jk_use H6 (y21, w64 (z3.2 + 1)) hd22 [0, 1] ⟨rfl, rfl, rfl, rfl, rfl, rfl, rfl, trivial⟩ rfl rfl rfl
theorem law22_OccupancyGrows_c {w : World} {a0 : (List Int)} {a1 : Int} {a2 : Int} {ha0 : Hd} {v : Bool} (hm : law22_OccupancyGrows a0 a1 a2 = some v) (Rha0 : Sl w ha0 encI a0) : Gives Try.prog 5 [ha0.v, .int .i64 a1, .int .i64 a2] w (.bool v) := by
  refine j_gives (vs := [ha0.v, .int .i64 a1, .int .i64 a2]) (U := fun (v : Bool) => .bool v) Try.func5 rfl Try.ntmps5 rfl rfl hm ?_
  unfold law22_OccupancyGrows
  clear hm
  refine jn_seq ?_
  refine jn_reg 0 ?_
  refine jg_as rfl rfl rfl ?_
  refine jg_nils [(0, _), (1, _), (2, _)] ⟨rfl, rfl, rfl, trivial⟩ ?_
  refine jk_sn ?_
  refine jn_seq ?_
  refine jn_reg 1 ?_
  refine jg_mv rfl rfl rfl ?_
  refine jg_c rfl (fun v w hs hm => gen_New_c hm (hs.arg Rha0)) rfl rfl fun v1 q2 => ?_
  refine jg_L (r1 rfl) ?_
  refine jg_as rfl rfl rfl ?_
  refine jg_nils [(1, _), (2, _), (7, _)] ⟨rfl, rfl, rfl, trivial⟩ ?_
  refine jk_sn ?_
  refine jn_seq ?_
  refine jn_reg 2 ?_
  refine jg_mv rfl rfl rfl ?_
  refine jl_c 0 rfl rfl (fun v w hs hm => law22_path_c hm (hs.blkL (i := 0) rfl) (hs.arg Rha0) (hs.offAL 0 Rha0 rfl)) (fun _ => rfl) rfl rfl fun v3 q4 => ?_
  refine jg_L (r3 rfl) ?_
  refine jg_mv rfl rfl rfl ?_
  refine jg_y (fun w hs => yv_extract rfl rfl) rfl rfl ?_
  refine jg_y (fun w hs => yv_extract rfl rfl) rfl rfl ?_
  refine jg_y (fun w hs => yv_extract rfl rfl) rfl rfl ?_
  refine jg_as rfl rfl rfl ?_
  refine jg_as rfl rfl rfl ?_
  refine jg_as rfl rfl rfl ?_
  refine jg_nils [(1, _), (2, _), (7, _), (8, _), (9, _)] ⟨rfl, rfl, rfl, rfl, rfl, trivial⟩ ?_
  refine jk_sn ?_
  refine jn_seq ?_
  refine jn_reg 3 ?_
  refine jg_mv rfl rfl rfl ?_
  refine jg_mv rfl rfl rfl ?_
  refine jg_y (fun w hs => yv_ln rfl (hs.row 1 rfl)) rfl rfl ?_
  refine jg_yl (fun w hs => yv_sub_w rfl rfl) rfl rfl fun x5 => ?_
  refine jg_ix fun x6 h7 => ?_
  refine jg_y (fun w hs => yv_ix rfl rfl (hs.row 1 rfl) h7) rfl rfl ?_
  refine jg_y (fun w hs => yv_ef rfl (hs.row 1 rfl) h7.1) rfl rfl ?_
  refine jg_y (fun w hs => yv_e1 rfl (hs.row 1 rfl) h7.1 rfl) rfl rfl ?_
  refine jg_as rfl rfl rfl ?_
  refine jg_nils [(1, _), (2, _), (7, _), (8, _), (9, _), (11, _)] ⟨rfl, rfl, rfl, rfl, rfl, rfl, trivial⟩ ?_
  refine jk_sn ?_
  refine jn_seq ?_
  refine jn_reg 4 ?_
  refine jg_mv rfl rfl rfl ?_
  refine jg_mv rfl rfl rfl ?_
  refine jg_c0 rfl (fun v w hs hm => yardgen_Place_c hm ) rfl rfl fun v8 => ?_
  refine jg_y (fun w hs => yv_add_w rfl rfl) rfl rfl ?_
  refine jg_mv rfl rfl rfl ?_
  refine jg_mv rfl rfl rfl ?_
  refine jg_c0 rfl (fun v w hs hm => yardgen_Place_c hm ) rfl rfl fun v9 => ?_
  refine jg_y (fun w hs => yv_add_w rfl rfl) rfl rfl ?_
  refine jg_as rfl rfl rfl ?_
  refine jg_as rfl rfl rfl ?_
  refine jg_nils [(1, _), (2, _), (7, _), (8, _), (9, _), (11, _)] ⟨rfl, rfl, rfl, rfl, rfl, rfl, trivial⟩ ?_
  refine jk_sn ?_
  refine jn_join (fun (s : (Int × Int)) (g : Unit) => [(1, .int .i64 s.1), (2, .int .i64 s.2), (7, .pointer (some ⟨q2, 0, none⟩)), (8, q4.1.v), (9, q4.2.v), (11, .int .i64 x6.Length)]) (fun (s : (Int × Int)) (g : Unit) => []) (fun (s : (Int × Int)) (g : Unit) => [(Res.blk q2 82 [ha0.v, .int .i64 v3.2.2.2]), (rowH q4.1 85 8 Element.enc v3.1), (rowH q4.2 30 5 Piece.enc v3.2.1)]) ?_ ?_
  rotate_left
  · intro k12 H13
    refine jn_seq ?_
    refine jn_reg 5 ?_
    refine jg_mv rfl rfl rfl ?_
    refine jg_mv rfl rfl rfl ?_
    refine jg_y (fun w hs => yv_gtr rfl rfl) rfl rfl ?_
    refine jg_nils [(1, _), (2, _), (7, _), (8, _), (9, _), (11, _), (45, _)] ⟨rfl, rfl, rfl, rfl, rfl, rfl, rfl, trivial⟩ ?_
    refine jk_sn ?_
    refine jn_cond rfl ?_ ?_
    rotate_left
    · refine jn_skip ?_
      exact jk_use H13 (w64 (1 + v8), w64 (1 + v9)) () [2, 0, 1] ⟨rfl, rfl, rfl, rfl, rfl, rfl, trivial⟩ rfl rfl rfl
    refine jn_reg 6 ?_
    refine jg_mv rfl rfl rfl ?_
    refine jg_mv rfl rfl rfl ?_
    refine jg_as rfl rfl rfl ?_
    refine jg_as rfl rfl rfl ?_
    refine jg_nils [(1, _), (2, _), (7, _), (8, _), (9, _), (11, _)] ⟨rfl, rfl, rfl, rfl, rfl, rfl, trivial⟩ ?_
    exact jk_use H13 (w64 (1 + v9), w64 (1 + v8)) () [2, 0, 1] ⟨rfl, rfl, rfl, rfl, rfl, rfl, trivial⟩ rfl rfl rfl
  intro z10 q11
  refine jn_seq ?_
  refine jn_reg 7 ?_
  refine jg_mv rfl rfl rfl ?_
  refine jg_mv rfl rfl rfl ?_
  refine jg_c rfl (fun v w hs hm => r22_Approach_c hm (hs.row 2 rfl)) rfl rfl fun v14 q15 => ?_
  refine jg_L (r4 rfl) ?_
  refine jg_mv rfl rfl rfl ?_
  refine jg_y (fun w hs => yv_extract rfl rfl) rfl rfl ?_
  refine jg_y (fun w hs => yv_extract rfl rfl) rfl rfl ?_
  refine jg_as rfl rfl rfl ?_
  refine jg_nils [(1, _), (2, _), (7, _), (8, _), (9, _)] ⟨rfl, rfl, rfl, rfl, rfl, trivial⟩ ?_
  refine jk_sn ?_
  refine jn_seq ?_
  refine jn_reg 8 ?_
  refine jg_mv rfl rfl rfl ?_
  refine jg_mv rfl rfl rfl ?_
  refine jl_c 1 rfl rfl (fun v w hs hm => gen_Maker_Motion_c hm (hs.blkL (i := 1) rfl) (hs.arg Rha0) (hs.offAL 1 Rha0 rfl) (hs.row 0 rfl) (hs.offLL 0 1 rfl rfl)) (fun _ => rfl) rfl rfl fun v16 q17 => ?_
  refine jg_L (r6 rfl) ?_
  refine jg_alloc (l5 rfl) rfl rfl fun g18 => ?_
  refine jg_store 0 rfl rfl rfl (l5 rfl) rfl rfl rfl rfl (l5 rfl) (r7 rfl) ?_
  refine jg_nils [(1, _), (2, _), (8, _), (9, _), (12, _)] ⟨rfl, rfl, rfl, rfl, rfl, trivial⟩ ?_
  refine jk_sel (is := [0, 1, 2, 3, 5]) (s5 rfl) rfl ?_
  refine jk_sn ?_
  refine jn_seq ?_
  refine jn_reg 9 ?_
  refine jg_mv rfl rfl rfl ?_
  refine jg_y (fun w hs => yv_load rfl (ldBB (hs.blkL (i := 0) rfl) rfl)) rfl rfl ?_
  refine jg_c rfl (fun v w hs hm => r20_Pass_c (a1 := v16.1) hm (hs.row 3 rfl) (hs.row 1 rfl) (hs.row 2 rfl)) rfl rfl fun v19 q20 => ?_
  refine jg_L (r6 rfl) ?_
  refine jg_mv rfl rfl rfl ?_
  refine jg_y (fun w hs => yv_extract rfl rfl) rfl rfl ?_
  refine jg_y (fun w hs => yv_extract rfl rfl) rfl rfl ?_
  refine jg_as rfl rfl rfl ?_
  refine jg_as rfl rfl rfl ?_
  refine jg_nils [(1, _), (2, _), (8, _), (9, _), (13, _)] ⟨rfl, rfl, rfl, rfl, rfl, trivial⟩ ?_
  refine jk_sel (is := [0, 4, 5]) (s3 rfl) rfl ?_
  refine jk_sn ?_
  refine jn_seq ?_
  refine jn_reg 10 ?_
  refine jg_mv rfl rfl rfl ?_
  refine jg_mv rfl rfl rfl ?_
  refine jg_mv rfl rfl rfl ?_
  refine jg_mv rfl rfl rfl ?_
  refine jg_c rfl (fun v w hs hm => occupancy_Spans_c hm (hs.row 2 rfl) (hs.row 1 rfl) (hs.row 0 rfl)) rfl rfl fun v21 q22 => ?_
  refine jg_L (r4 rfl) ?_
  refine jg_mv rfl rfl rfl ?_
  refine jg_y (fun w hs => yv_extract rfl rfl) rfl rfl ?_
  refine jg_y (fun w hs => yv_extract rfl rfl) rfl rfl ?_
  refine jg_as rfl rfl rfl ?_
  refine jg_as rfl rfl rfl ?_
  refine jg_nils [(2, _), (8, _), (9, _), (13, _), (15, _), (16, _)] ⟨rfl, rfl, rfl, rfl, rfl, rfl, trivial⟩ ?_
  refine jk_sn ?_
  refine jn_seq ?_
  refine jn_reg 11 ?_
  refine jg_mv rfl rfl rfl ?_
  refine jg_mv rfl rfl rfl ?_
  refine jg_mv rfl rfl rfl ?_
  refine jg_mv rfl rfl rfl ?_
  refine jg_c rfl (fun v w hs hm => occupancy_Spans_c hm (hs.row 3 rfl) (hs.row 2 rfl) (hs.row 1 rfl)) rfl rfl fun v23 q24 => ?_
  refine jg_L (r5 rfl) ?_
  refine jg_mv rfl rfl rfl ?_
  refine jg_y (fun w hs => yv_extract rfl rfl) rfl rfl ?_
  refine jg_y (fun w hs => yv_extract rfl rfl) rfl rfl ?_
  refine jg_as rfl rfl rfl ?_
  refine jg_as rfl rfl rfl ?_
  refine jg_nils [(9, _), (15, _), (16, _), (17, _), (18, _)] ⟨rfl, rfl, rfl, rfl, rfl, trivial⟩ ?_
  refine jk_sel (is := [0, 1, 3]) (s3 rfl) rfl ?_
  refine jk_sn ?_
  refine jn_seq ?_
  refine jn_seq ?_
  refine jn_reg 12 ?_
  refine jg_mv rfl rfl rfl ?_
  refine jg_y (fun w hs => yv_neq rfl rfl) rfl rfl ?_
  refine jg_mv rfl rfl rfl ?_
  refine jg_split 81 rfl ?_ ?_
  · refine jg_skip rfl rfl ?_
    refine jg_skip rfl rfl ?_
    refine jg_y (fun w hs => yv_pick_t rfl rfl) rfl rfl ?_
    refine jg_mv rfl rfl rfl ?_
    refine jg_skip rfl rfl ?_
    refine jg_skip rfl rfl ?_
    refine jg_skip rfl rfl ?_
    refine jg_skip rfl rfl ?_
    refine jg_skip rfl rfl ?_
    refine jg_y (fun w hs => yv_pick_t rfl rfl) rfl rfl ?_
    refine jg_nils [(9, _), (15, _), (17, _), (91, _)] ⟨rfl, rfl, rfl, rfl, trivial⟩ ?_
    refine jk_sn ?_
    refine jn_ct rfl ?_
    refine jn_seq ?_
    refine jn_reg 13 ?_
    refine jg_as rfl rfl rfl ?_
    refine jg_nils [(6, _)] ⟨rfl, trivial⟩ ?_
    refine jk_sel (is := []) (s0 rfl) rfl ?_
    refine jk_sn ?_
    refine jn_ret ?_
    refine jk_sr ?_
    exact jk_ret1 rfl (fun w hs => .tmp rfl) (fun w hs => ⟨rfl, hs.drop⟩)
  refine jg_mv rfl rfl rfl ?_
  refine jg_y (fun w hs => yv_neq rfl rfl) rfl rfl ?_
  refine jg_y (fun w hs => yv_pick_f rfl rfl) rfl rfl ?_
  refine jg_mv rfl rfl rfl ?_
  refine jg_split 85 rfl ?_ ?_
  · refine jg_skip rfl rfl ?_
    refine jg_skip rfl rfl ?_
    refine jg_skip rfl rfl ?_
    refine jg_skip rfl rfl ?_
    refine jg_skip rfl rfl ?_
    refine jg_y (fun w hs => yv_pick_t rfl rfl) rfl rfl ?_
    refine jg_nils [(9, _), (15, _), (17, _), (91, _)] ⟨rfl, rfl, rfl, rfl, trivial⟩ ?_
    refine jk_sn ?_
    refine jn_ct rfl ?_
    refine jn_seq ?_
    refine jn_reg 13 ?_
    refine jg_as rfl rfl rfl ?_
    refine jg_nils [(6, _)] ⟨rfl, trivial⟩ ?_
    refine jk_sel (is := []) (s0 rfl) rfl ?_
    refine jk_sn ?_
    refine jn_ret ?_
    refine jk_sr ?_
    exact jk_ret1 rfl (fun w hs => .tmp rfl) (fun w hs => ⟨rfl, hs.drop⟩)
  refine jg_mv rfl rfl rfl ?_
  refine jg_y (fun w hs => yv_ln rfl (hs.row 1 rfl)) rfl rfl ?_
  refine jg_mv rfl rfl rfl ?_
  refine jg_y (fun w hs => yv_ln rfl (hs.row 0 rfl)) rfl rfl ?_
  refine jg_y (fun w hs => yv_neq rfl rfl) rfl rfl ?_
  refine jg_y (fun w hs => yv_pick_f rfl rfl) rfl rfl ?_
  refine jg_nils [(9, _), (15, _), (17, _), (91, _)] ⟨rfl, rfl, rfl, rfl, trivial⟩ ?_
  refine jk_sn ?_
  refine jn_cond rfl ?_ ?_
  · refine jn_seq ?_
    refine jn_reg 13 ?_
    refine jg_as rfl rfl rfl ?_
    refine jg_nils [(6, _)] ⟨rfl, trivial⟩ ?_
    refine jk_sel (is := []) (s0 rfl) rfl ?_
    refine jk_sn ?_
    refine jn_ret ?_
    refine jk_sr ?_
    exact jk_ret1 rfl (fun w hs => .tmp rfl) (fun w hs => ⟨rfl, hs.drop⟩)
  refine jn_skip ?_
  refine jk_sn ?_
  refine jn_seq ?_
  refine jn_seq ?_
  refine jn_reg 14 ?_
  refine jg_as rfl rfl rfl ?_
  refine jg_nils [(9, _), (15, _), (17, _), (19, _)] ⟨rfl, rfl, rfl, rfl, trivial⟩ ?_
  refine jk_sn ?_
  refine jn_block ?_
  refine jn_lp (n := big) (fun (s : Int) (g : Unit) => [(9, q15.v), (15, q22.v), (17, q24.v), (19, .int .i64 s)]) (fun (s : Int) (g : Unit) => []) (fun (s : Int) (g : Unit) => [(rowH q15 30 5 Piece.enc v14.1), (rowH q22 53 4 Span.enc v21.1), (rowH q24 53 4 Span.enc v23.1)]) 0 () [2, 1, 0] ⟨rfl, rfl, rfl, rfl, trivial⟩ rfl rfl rfl ?_
  intro z25 q26 n29 k27 H28
  refine jn_seq ?_
  refine jn_seq ?_
  refine jn_reg 15 ?_
  refine jg_mv rfl rfl rfl ?_
  refine jg_mv rfl rfl rfl ?_
  refine jg_y (fun w hs => yv_ln rfl (hs.row 1 rfl)) rfl rfl ?_
  refine jg_y (fun w hs => yv_lss rfl rfl) rfl rfl ?_
  refine jg_nils [(9, _), (15, _), (17, _), (19, _), (95, _)] ⟨rfl, rfl, rfl, rfl, rfl, trivial⟩ ?_
  refine jk_sn ?_
  refine jn_cond rfl ?_ ?_
  rotate_left
  · refine jn_exit ?_
    refine jk_se (jk_le (jk_bh (jk_sn ?_)))
    refine jn_seq ?_
    refine jn_reg 19 ?_
    refine jg_c0 rfl (fun v w hs hm => law22_sane_c hm ) rfl rfl fun v50 => ?_
    refine jg_as rfl rfl rfl ?_
    refine jg_nils [(6, _)] ⟨rfl, trivial⟩ ?_
    refine jk_sel (is := []) (s0 rfl) rfl ?_
    refine jk_sn ?_
    refine jn_ret ?_
    exact jk_ret1 rfl (fun w hs => .tmp rfl) (fun w hs => ⟨rfl, hs.drop⟩)
  refine jn_skip ?_
  refine jk_sn ?_
  refine jn_seq ?_
  refine jn_block ?_
  refine jn_seq ?_
  refine jn_draw (L' := [_, _, _]) 17 [0, 1, 2] [0, 1, 2, 3, 4, 5, 6, 7, 8, 9, 10, 11, 12, 13, 14, 15, 16, 17, 18, 19, 20, 21, 22, 23, 24, 25, 26, 27, 28, 29, 30, 31, 32, 33, 34, 35, 36, 37, 38, 39, 40, 41, 42, 43, 44, 45, 46, 47, 48, 49, 50, 51, 52, 53, 54, 55, 56, 57, 58, 59, 60, 61, 62] 9223372036854775807 9223372036854775807 [0, 0, 3, 4, 8, 0, 0, 96, 128, 256, 528, 1024, 2048, 2048, 14336, 18432, 34816, 2048, 2048, 395264, 526336, 1050624, 2164736, 4196352, 8390656, 16777216, 16777216, 117440512, 150994944, 285212672, 16777216, 16777216, 3238002688, 4311744512, 8606711808, 17733517312, 34376515584, 68736253952, 137438953472, 137438953472, 962072674304, 1236950581248, 2336462209024, 137438953472, 137438953472, 26525718020096, 35321811042304, 70506183131136, 145272973819904, 281612415664128, 563087392374784, 1125899906842624, 1125899906842624, 7881299347898368, 10133099161583616, 19140298416324608, 1125899906842624, 1125899906842624, 217298682020626432, 289356276058554368, 577586652210266112, 1190076201532653568, 2306968909120536576] [0, 0, 3, 7, 15, 0, 0, 96, 224, 480, 1023, 2047, 4095, 4095, 16383, 32767, 65535, 4095, 4095, 397311, 921599, 1970175, 4194303, 8388607, 16777215, 33554431, 33554431, 134217727, 268435455, 536870911, 33554431, 33554431, 3254779903, 7549747199, 16139681791, 34359738367, 68719476735, 137438953471, 274877906943, 274877906943, 1099511627775, 2199023255551, 4398046511103, 274877906943, 274877906943, 26663156973567, 61847529062399, 132216273240063, 281474976710655, 562949953421311, 1125899906842623, 2251799813685247, 2251799813685247, 9007199254740991, 18014398509481983, 36028797018963967, 2251799813685247, 2251799813685247, 218424581927469055, 506654958079180799, 1083115710382604287, 2305843009213693951, 4611686018427387903] [(0, true), (1, true), (2, true), (3, true), (4, true), (5, true), (6, true), (7, true), (8, true), (9, true), (10, true), (11, true), (12, true), (13, true), (14, true), (15, true), (16, true), (17, true), (18, true), (19, true), (20, true), (21, true), (22, true), (23, true), (24, true), (25, true), (26, true), (27, true), (28, true), (29, true), (30, true), (31, true), (32, true), (33, true), (34, true), (35, true), (36, true), (37, true), (38, true), (39, true), (40, true), (41, true), (42, true), (43, true), (44, true), (45, true), (46, true), (47, true), (48, true), (49, true), (50, true), (51, true), (52, true), (53, true), (54, true), (55, true), (56, true), (57, true), (58, true), (59, true), (60, true), (61, true), (62, true)] rfl (np_seq (np_blk (np_seq (np_rnd (np_blk (np_seq np_rt)))))) (by kernel_rfl) (by kernel_rfl) (by kernel_rfl) (by kernel_rfl) (by kernel_rfl) (by kernel_rfl) (by kernel_rfl) (by kernel_rfl) ?_
  refine jd_mv rfl rfl rfl rfl ?_
  refine jd_mv rfl rfl rfl rfl ?_
  refine jd_ix fun x30 h31 => ?_
  refine jd_y rfl (fun w hs => yv_ix rfl rfl (hs.row 1 rfl) h31) rfl rfl ?_
  refine jd_y rfl (fun w hs => yv_ef rfl (hs.row 1 rfl) h31.1) rfl rfl ?_
  refine jd_y rfl (fun w hs => yv_e1 rfl (hs.row 1 rfl) h31.1 rfl) rfl rfl ?_
  refine jd_mv rfl rfl rfl rfl ?_
  refine jd_mv rfl rfl rfl rfl ?_
  refine jd_ix fun x32 h33 => ?_
  refine jd_y rfl (fun w hs => yv_ix rfl rfl (hs.row 0 rfl) h33) rfl rfl ?_
  refine jd_y rfl (fun w hs => yv_ef rfl (hs.row 0 rfl) h33.1) rfl rfl ?_
  refine jd_y rfl (fun w hs => yv_e1 rfl (hs.row 0 rfl) h33.1 rfl) rfl rfl ?_
  refine jd_y rfl (fun w hs => yv_neq rfl rfl) rfl rfl ?_
  refine jd_mv rfl rfl rfl rfl ?_
  refine jd_split 109 rfl ?_ ?_
  · refine jd_skip rfl rfl rfl ?_
    refine jd_skip rfl rfl rfl ?_
    refine jd_skip rfl rfl rfl ?_
    refine jd_skip rfl rfl rfl ?_
    refine jd_skip rfl rfl rfl ?_
    refine jd_skip rfl rfl rfl ?_
    refine jd_skip rfl rfl rfl ?_
    refine jd_skip rfl rfl rfl ?_
    refine jd_skip rfl rfl rfl ?_
    refine jd_skip rfl rfl rfl ?_
    refine jd_skip rfl rfl rfl ?_
    refine jd_y rfl (fun w hs => yv_pick_t rfl rfl) rfl rfl ?_
    refine jd_mv rfl rfl rfl rfl ?_
    refine jd_skip rfl rfl rfl ?_
    refine jd_skip rfl rfl rfl ?_
    refine jd_skip rfl rfl rfl ?_
    refine jd_skip rfl rfl rfl ?_
    refine jd_skip rfl rfl rfl ?_
    refine jd_skip rfl rfl rfl ?_
    refine jd_skip rfl rfl rfl ?_
    refine jd_skip rfl rfl rfl ?_
    refine jd_skip rfl rfl rfl ?_
    refine jd_skip rfl rfl rfl ?_
    refine jd_skip rfl rfl rfl ?_
    refine jd_y rfl (fun w hs => yv_pick_t rfl rfl) rfl rfl ?_
    refine jd_mv rfl rfl rfl rfl ?_
    refine jd_skip rfl rfl rfl ?_
    refine jd_skip rfl rfl rfl ?_
    refine jd_skip rfl rfl rfl ?_
    refine jd_skip rfl rfl rfl ?_
    refine jd_skip rfl rfl rfl ?_
    refine jd_skip rfl rfl rfl ?_
    refine jd_skip rfl rfl rfl ?_
    refine jd_skip rfl rfl rfl ?_
    refine jd_skip rfl rfl rfl ?_
    refine jd_skip rfl rfl rfl ?_
    refine jd_skip rfl rfl rfl ?_
    refine jd_y rfl (fun w hs => yv_pick_t rfl rfl) rfl rfl ?_
    refine jd_mv rfl rfl rfl rfl ?_
    refine jd_skip rfl rfl rfl ?_
    refine jd_skip rfl rfl rfl ?_
    refine jd_skip rfl rfl rfl ?_
    refine jd_skip rfl rfl rfl ?_
    refine jd_skip rfl rfl rfl ?_
    refine jd_skip rfl rfl rfl ?_
    refine jd_skip rfl rfl rfl ?_
    refine jd_skip rfl rfl rfl ?_
    refine jd_skip rfl rfl rfl ?_
    refine jd_skip rfl rfl rfl ?_
    refine jd_skip rfl rfl rfl ?_
    refine jd_y rfl (fun w hs => yv_pick_t rfl rfl) rfl rfl ?_
    refine jd_nils [(9, _), (15, _), (17, _), (19, _), (160, _)] ⟨rfl, rfl, rfl, rfl, rfl, trivial⟩ ?_
    refine jk_sn ?_
    refine jn_ct rfl ?_
    refine jn_seq ?_
    refine jn_reg 18 ?_
    refine jg_as rfl rfl rfl ?_
    refine jg_nils [(6, _)] ⟨rfl, trivial⟩ ?_
    refine jk_sel (is := []) (s0 rfl) rfl ?_
    refine jk_sn ?_
    refine jn_ret ?_
    refine jk_br (jk_sr (jk_lr (jk_br (jk_sr ?_))))
    exact jk_ret1 rfl (fun w hs => .tmp rfl) (fun w hs => ⟨rfl, hs.drop⟩)
  refine jd_mv rfl rfl rfl rfl ?_
  refine jd_mv rfl rfl rfl rfl ?_
  refine jd_ix fun x34 h35 => ?_
  refine jd_y rfl (fun w hs => yv_ix rfl rfl (hs.row 1 rfl) h35) rfl rfl ?_
  refine jd_y rfl (fun w hs => yv_ef rfl (hs.row 1 rfl) h35.1) rfl rfl ?_
  refine jd_y rfl (fun w hs => yv_e1 rfl (hs.row 1 rfl) h35.1 rfl) rfl rfl ?_
  refine jd_mv rfl rfl rfl rfl ?_
  refine jd_mv rfl rfl rfl rfl ?_
  refine jd_ix fun x36 h37 => ?_
  refine jd_y rfl (fun w hs => yv_ix rfl rfl (hs.row 2 rfl) h37) rfl rfl ?_
  refine jd_y rfl (fun w hs => yv_ef rfl (hs.row 2 rfl) h37.1) rfl rfl ?_
  refine jd_y rfl (fun w hs => yv_e1 rfl (hs.row 2 rfl) h37.1 rfl) rfl rfl ?_
  refine jd_y rfl (fun w hs => yv_neq rfl rfl) rfl rfl ?_
  refine jd_y rfl (fun w hs => yv_pick_f rfl rfl) rfl rfl ?_
  refine jd_mv rfl rfl rfl rfl ?_
  refine jd_split 122 rfl ?_ ?_
  · refine jd_skip rfl rfl rfl ?_
    refine jd_skip rfl rfl rfl ?_
    refine jd_skip rfl rfl rfl ?_
    refine jd_skip rfl rfl rfl ?_
    refine jd_skip rfl rfl rfl ?_
    refine jd_skip rfl rfl rfl ?_
    refine jd_skip rfl rfl rfl ?_
    refine jd_skip rfl rfl rfl ?_
    refine jd_skip rfl rfl rfl ?_
    refine jd_skip rfl rfl rfl ?_
    refine jd_skip rfl rfl rfl ?_
    refine jd_y rfl (fun w hs => yv_pick_t rfl rfl) rfl rfl ?_
    refine jd_mv rfl rfl rfl rfl ?_
    refine jd_skip rfl rfl rfl ?_
    refine jd_skip rfl rfl rfl ?_
    refine jd_skip rfl rfl rfl ?_
    refine jd_skip rfl rfl rfl ?_
    refine jd_skip rfl rfl rfl ?_
    refine jd_skip rfl rfl rfl ?_
    refine jd_skip rfl rfl rfl ?_
    refine jd_skip rfl rfl rfl ?_
    refine jd_skip rfl rfl rfl ?_
    refine jd_skip rfl rfl rfl ?_
    refine jd_skip rfl rfl rfl ?_
    refine jd_y rfl (fun w hs => yv_pick_t rfl rfl) rfl rfl ?_
    refine jd_mv rfl rfl rfl rfl ?_
    refine jd_skip rfl rfl rfl ?_
    refine jd_skip rfl rfl rfl ?_
    refine jd_skip rfl rfl rfl ?_
    refine jd_skip rfl rfl rfl ?_
    refine jd_skip rfl rfl rfl ?_
    refine jd_skip rfl rfl rfl ?_
    refine jd_skip rfl rfl rfl ?_
    refine jd_skip rfl rfl rfl ?_
    refine jd_skip rfl rfl rfl ?_
    refine jd_skip rfl rfl rfl ?_
    refine jd_skip rfl rfl rfl ?_
    refine jd_y rfl (fun w hs => yv_pick_t rfl rfl) rfl rfl ?_
    refine jd_nils [(9, _), (15, _), (17, _), (19, _), (160, _)] ⟨rfl, rfl, rfl, rfl, rfl, trivial⟩ ?_
    refine jk_sn ?_
    refine jn_ct rfl ?_
    refine jn_seq ?_
    refine jn_reg 18 ?_
    refine jg_as rfl rfl rfl ?_
    refine jg_nils [(6, _)] ⟨rfl, trivial⟩ ?_
    refine jk_sel (is := []) (s0 rfl) rfl ?_
    refine jk_sn ?_
    refine jn_ret ?_
    refine jk_br (jk_sr (jk_lr (jk_br (jk_sr ?_))))
    exact jk_ret1 rfl (fun w hs => .tmp rfl) (fun w hs => ⟨rfl, hs.drop⟩)
  refine jd_mv rfl rfl rfl rfl ?_
  refine jd_mv rfl rfl rfl rfl ?_
  refine jd_ix fun x38 h39 => ?_
  refine jd_y rfl (fun w hs => yv_ix rfl rfl (hs.row 1 rfl) h39) rfl rfl ?_
  refine jd_y rfl (fun w hs => yv_ef rfl (hs.row 1 rfl) h39.1) rfl rfl ?_
  refine jd_y rfl (fun w hs => yv_e1 rfl (hs.row 1 rfl) h39.1 rfl) rfl rfl ?_
  refine jd_mv rfl rfl rfl rfl ?_
  refine jd_mv rfl rfl rfl rfl ?_
  refine jd_ix fun x40 h41 => ?_
  refine jd_y rfl (fun w hs => yv_ix rfl rfl (hs.row 2 rfl) h41) rfl rfl ?_
  refine jd_y rfl (fun w hs => yv_ef rfl (hs.row 2 rfl) h41.1) rfl rfl ?_
  refine jd_y rfl (fun w hs => yv_e1 rfl (hs.row 2 rfl) h41.1 rfl) rfl rfl ?_
  refine jd_y rfl (fun w hs => yv_neq rfl rfl) rfl rfl ?_
  refine jd_y rfl (fun w hs => yv_pick_f rfl rfl) rfl rfl ?_
  refine jd_mv rfl rfl rfl rfl ?_
  refine jd_split 135 rfl ?_ ?_
  · refine jd_skip rfl rfl rfl ?_
    refine jd_skip rfl rfl rfl ?_
    refine jd_skip rfl rfl rfl ?_
    refine jd_skip rfl rfl rfl ?_
    refine jd_skip rfl rfl rfl ?_
    refine jd_skip rfl rfl rfl ?_
    refine jd_skip rfl rfl rfl ?_
    refine jd_skip rfl rfl rfl ?_
    refine jd_skip rfl rfl rfl ?_
    refine jd_skip rfl rfl rfl ?_
    refine jd_skip rfl rfl rfl ?_
    refine jd_y rfl (fun w hs => yv_pick_t rfl rfl) rfl rfl ?_
    refine jd_mv rfl rfl rfl rfl ?_
    refine jd_skip rfl rfl rfl ?_
    refine jd_skip rfl rfl rfl ?_
    refine jd_skip rfl rfl rfl ?_
    refine jd_skip rfl rfl rfl ?_
    refine jd_skip rfl rfl rfl ?_
    refine jd_skip rfl rfl rfl ?_
    refine jd_skip rfl rfl rfl ?_
    refine jd_skip rfl rfl rfl ?_
    refine jd_skip rfl rfl rfl ?_
    refine jd_skip rfl rfl rfl ?_
    refine jd_skip rfl rfl rfl ?_
    refine jd_y rfl (fun w hs => yv_pick_t rfl rfl) rfl rfl ?_
    refine jd_nils [(9, _), (15, _), (17, _), (19, _), (160, _)] ⟨rfl, rfl, rfl, rfl, rfl, trivial⟩ ?_
    refine jk_sn ?_
    refine jn_ct rfl ?_
    refine jn_seq ?_
    refine jn_reg 18 ?_
    refine jg_as rfl rfl rfl ?_
    refine jg_nils [(6, _)] ⟨rfl, trivial⟩ ?_
    refine jk_sel (is := []) (s0 rfl) rfl ?_
    refine jk_sn ?_
    refine jn_ret ?_
    refine jk_br (jk_sr (jk_lr (jk_br (jk_sr ?_))))
    exact jk_ret1 rfl (fun w hs => .tmp rfl) (fun w hs => ⟨rfl, hs.drop⟩)
  refine jd_mv rfl rfl rfl rfl ?_
  refine jd_mv rfl rfl rfl rfl ?_
  refine jd_ix fun x42 h43 => ?_
  refine jd_y rfl (fun w hs => yv_ix rfl rfl (hs.row 1 rfl) h43) rfl rfl ?_
  refine jd_y rfl (fun w hs => yv_ef rfl (hs.row 1 rfl) h43.1) rfl rfl ?_
  refine jd_y rfl (fun w hs => yv_e1 rfl (hs.row 1 rfl) h43.1 rfl) rfl rfl ?_
  refine jd_mv rfl rfl rfl rfl ?_
  refine jd_mv rfl rfl rfl rfl ?_
  refine jd_ix fun x44 h45 => ?_
  refine jd_y rfl (fun w hs => yv_ix rfl rfl (hs.row 2 rfl) h45) rfl rfl ?_
  refine jd_y rfl (fun w hs => yv_ef rfl (hs.row 2 rfl) h45.1) rfl rfl ?_
  refine jd_y rfl (fun w hs => yv_e1 rfl (hs.row 2 rfl) h45.1 rfl) rfl rfl ?_
  refine jd_y rfl (fun w hs => yv_gtr rfl rfl) rfl rfl ?_
  refine jd_y rfl (fun w hs => yv_pick_f rfl rfl) rfl rfl ?_
  refine jd_mv rfl rfl rfl rfl ?_
  refine jd_split 148 rfl ?_ ?_
  · refine jd_skip rfl rfl rfl ?_
    refine jd_skip rfl rfl rfl ?_
    refine jd_skip rfl rfl rfl ?_
    refine jd_skip rfl rfl rfl ?_
    refine jd_skip rfl rfl rfl ?_
    refine jd_skip rfl rfl rfl ?_
    refine jd_skip rfl rfl rfl ?_
    refine jd_skip rfl rfl rfl ?_
    refine jd_skip rfl rfl rfl ?_
    refine jd_skip rfl rfl rfl ?_
    refine jd_skip rfl rfl rfl ?_
    refine jd_y rfl (fun w hs => yv_pick_t rfl rfl) rfl rfl ?_
    refine jd_nils [(9, _), (15, _), (17, _), (19, _), (160, _)] ⟨rfl, rfl, rfl, rfl, rfl, trivial⟩ ?_
    refine jk_sn ?_
    refine jn_ct rfl ?_
    refine jn_seq ?_
    refine jn_reg 18 ?_
    refine jg_as rfl rfl rfl ?_
    refine jg_nils [(6, _)] ⟨rfl, trivial⟩ ?_
    refine jk_sel (is := []) (s0 rfl) rfl ?_
    refine jk_sn ?_
    refine jn_ret ?_
    refine jk_br (jk_sr (jk_lr (jk_br (jk_sr ?_))))
    exact jk_ret1 rfl (fun w hs => .tmp rfl) (fun w hs => ⟨rfl, hs.drop⟩)
  refine jd_mv rfl rfl rfl rfl ?_
  refine jd_mv rfl rfl rfl rfl ?_
  refine jd_ix fun x46 h47 => ?_
  refine jd_y rfl (fun w hs => yv_ix rfl rfl (hs.row 1 rfl) h47) rfl rfl ?_
  refine jd_y rfl (fun w hs => yv_ef rfl (hs.row 1 rfl) h47.1) rfl rfl ?_
  refine jd_y rfl (fun w hs => yv_e1 rfl (hs.row 1 rfl) h47.1 rfl) rfl rfl ?_
  refine jd_mv rfl rfl rfl rfl ?_
  refine jd_mv rfl rfl rfl rfl ?_
  refine jd_ix fun x48 h49 => ?_
  refine jd_y rfl (fun w hs => yv_ix rfl rfl (hs.row 2 rfl) h49) rfl rfl ?_
  refine jd_y rfl (fun w hs => yv_ef rfl (hs.row 2 rfl) h49.1) rfl rfl ?_
  refine jd_y rfl (fun w hs => yv_e1 rfl (hs.row 2 rfl) h49.1 rfl) rfl rfl ?_
  refine jd_y rfl (fun w hs => yv_neq rfl rfl) rfl rfl ?_
  refine jd_y rfl (fun w hs => yv_pick_f rfl rfl) rfl rfl ?_
  refine jd_nils [(9, _), (15, _), (17, _), (19, _), (160, _)] ⟨rfl, rfl, rfl, rfl, rfl, trivial⟩ ?_
  refine jk_sn ?_
  refine jn_cond rfl ?_ ?_
  rotate_left
  · refine jn_skip ?_
    refine jk_bn (jk_sn ?_)
    refine jn_reg 16 ?_
    refine jg_mv rfl rfl rfl ?_
    refine jg_y (fun w hs => yv_add_w rfl rfl) rfl rfl ?_
    refine jg_as rfl rfl rfl ?_
    refine jg_nils [(9, _), (15, _), (17, _), (19, _)] ⟨rfl, rfl, rfl, rfl, trivial⟩ ?_
    exact jk_use H28 (w64 (z25 + 1)) () [0, 1, 2] ⟨rfl, rfl, rfl, rfl, trivial⟩ rfl rfl rfl
  refine jn_seq ?_
  refine jn_reg 18 ?_
  refine jg_as rfl rfl rfl ?_
  refine jg_nils [(6, _)] ⟨rfl, trivial⟩ ?_
  refine jk_sel (is := []) (s0 rfl) rfl ?_
  refine jk_sn ?_
  refine jn_ret ?_
  refine jk_br (jk_sr (jk_lr (jk_br (jk_sr ?_))))
  exact jk_ret1 rfl (fun w hs => .tmp rfl) (fun w hs => ⟨rfl, hs.drop⟩)
theorem gen_Maker_From_c {w : World} {a0 : HumpgenMaker} {a1 : Int} {a2 : Int} {ha0_fl : Hd} {b0 : Nat} {v : (Int × Int)} (hm : gen_Maker_From a0 a1 a2 = some v) (Hb : Blk w b0 82 [ha0_fl.v, .int .i64 a0.fn]) (Rha0_fl : Sl w ha0_fl encI a0.fl) (Oha0_fl : Offs ha0_fl [b0]) : Calls Try.prog 54 ([.pointer (some ⟨b0, 0, none⟩), .int .i64 a1, .int .i64 a2] : List Value).toArray w (fun e w' => ∃ g : Unit, e = .returned (.int .i64 v.1) ∧ St w w' [.blk b0 82 [ha0_fl.v, .int .i64 v.2]] []) := by
  refine j_enter (vs := [.pointer (some ⟨b0, 0, none⟩), .int .i64 a1, .int .i64 a2]) (R := fun (v : (Int × Int)) (e : Ending) (w' : World) => ∃ g : Unit, e = .returned (.int .i64 v.1) ∧ St w w' [.blk b0 82 [ha0_fl.v, .int .i64 v.2]] []) Try.func54 rfl Try.ntmps54 rfl rfl (mk_st Hb) hm ?_
  unfold gen_Maker_From
  clear hm
  refine jn_seq ?_
  refine jn_reg 0 ?_
  refine jg_as rfl rfl rfl ?_
  refine jg_nils [(0, _), (1, _), (2, _)] ⟨rfl, rfl, rfl, trivial⟩ ?_
  refine jk_sn ?_
  refine jn_seq ?_
  refine jn_reg 1 ?_
  refine jg_mv rfl rfl rfl ?_
  refine jg_mv rfl rfl rfl ?_
  refine jg_mv rfl rfl rfl ?_
  refine jg_mv rfl rfl rfl ?_
  refine jg_y (fun w hs => yv_sub_w rfl rfl) rfl rfl ?_
  refine jg_y (fun w hs => yv_add_w rfl rfl) rfl rfl ?_
  refine jm_c rfl (fun v w hs hm => gen_Maker_Next_c hm (hs.blkM (i := 0) rfl) (hs.argM Rha0_fl Oha0_fl) Oha0_fl) (fun _ => rfl) rfl rfl fun v1 q2 => ?_
  refine jg_y (fun w hs => yv_add_w rfl rfl) rfl rfl ?_
  refine jg_as rfl rfl rfl ?_
  refine jg_nils [(6, _)] ⟨rfl, trivial⟩ ?_
  refine jk_sn ?_
  refine jn_ret ?_
  exact jk_ret1 rfl (fun w hs => .tmp rfl) (fun w hs => ⟨(), rfl, hs.sel (is := []) rfl rfl⟩)
theorem gen_Maker_Run_c {w : World} {a0 : HumpgenMaker} {a1 : Motion} {ha0_fl : Hd} {b0 : Nat} {ha1_Class : Hd} {ha1_Targets : Hd} {v : (Run × Int)} (hm : gen_Maker_Run a0 a1 = some v) (Hb : Blk w b0 82 [ha0_fl.v, .int .i64 a0.fn]) (Rha0_fl : Sl w ha0_fl encI a0.fl) (Oha0_fl : Offs ha0_fl [b0]) (Rha1_Class : Sl w ha1_Class Interval.enc a1.Class) (Oha1_Class : Offs ha1_Class [b0]) (Rha1_Targets : Sl w ha1_Targets encI a1.Targets) (Oha1_Targets : Offs ha1_Targets [b0]) : Calls Try.prog 25 ([.pointer (some ⟨b0, 0, none⟩), .agg #[.int .i64 a1.Speed.Lo, .int .i64 a1.Speed.Hi, ha1_Class.v, .int .i64 a1.Error, ha1_Targets.v]] : List Value).toArray w (fun e w' => ∃ g : (Hd × Hd), e = .returned (.agg #[.int .i64 v.1.Speed, g.1.v, g.2.v]) ∧ St w w' [.blk b0 82 [ha0_fl.v, .int .i64 v.2]] [(rowH g.1 3 1 encI v.1.Resist), (rowH g.2 3 1 encI v.1.Targets)]) := by
  refine j_enter (vs := [.pointer (some ⟨b0, 0, none⟩), .agg #[.int .i64 a1.Speed.Lo, .int .i64 a1.Speed.Hi, ha1_Class.v, .int .i64 a1.Error, ha1_Targets.v]]) (R := fun (v : (Run × Int)) (e : Ending) (w' : World) => ∃ g : (Hd × Hd), e = .returned (.agg #[.int .i64 v.1.Speed, g.1.v, g.2.v]) ∧ St w w' [.blk b0 82 [ha0_fl.v, .int .i64 v.2]] [(rowH g.1 3 1 encI v.1.Resist), (rowH g.2 3 1 encI v.1.Targets)]) Try.func25 rfl Try.ntmps25 rfl rfl (mk_st Hb) hm ?_
  unfold gen_Maker_Run
  clear hm
  refine jn_seq ?_
  refine jn_reg 0 ?_
  refine jg_box rfl (l5 rfl) rfl rfl fun g1 => ?_
  refine jg_alloc (l3 rfl) rfl rfl fun g2 => ?_
  refine jg_nils [(0, _), (3, _), (4, _)] ⟨rfl, rfl, rfl, trivial⟩ ?_
  refine jk_sn ?_
  refine jn_seq ?_
  refine jn_reg 1 ?_
  refine jg_mv rfl rfl rfl ?_
  refine jg_y (fun w hs => yv_fieldAddr rfl) rfl rfl ?_
  refine jg_y (fun w hs => yv_fieldAddr rfl) rfl rfl ?_
  refine jg_y (fun w hs => yv_load rfl (ld1B (hs.blkL (i := 1) rfl) rfl)) rfl rfl ?_
  refine jg_y (fun w hs => yv_fieldAddr rfl) rfl rfl ?_
  refine jg_y (fun w hs => yv_fieldAddr rfl) rfl rfl ?_
  refine jg_y (fun w hs => yv_load rfl (ld1B (hs.blkL (i := 1) rfl) rfl)) rfl rfl ?_
  refine jm_c rfl (fun v w hs hm => gen_Maker_From_c hm (hs.blkM (i := 0) rfl) (hs.argM Rha0_fl Oha0_fl) Oha0_fl) (fun _ => rfl) rfl rfl fun v3 q4 => ?_
  refine jg_y (fun w hs => yv_build rfl (o3 rfl)) rfl rfl ?_
  refine jg_alloc (l3 rfl) rfl rfl fun g5 => ?_
  refine jg_store 0 rfl rfl rfl (l3 rfl) rfl rfl rfl rfl (l3 rfl) (r3 rfl) ?_
  refine jg_nils [(0, _), (3, _), (4, _), (5, _)] ⟨rfl, rfl, rfl, rfl, trivial⟩ ?_
  refine jk_sn ?_
  refine jn_join (fun (s : ((List Int) × Int)) (g : Hd) => [(0, .pointer (some ⟨b0, 0, none⟩)), (3, .pointer (some ⟨g1, 0, none⟩)), (4, .pointer (some ⟨g2, 0, none⟩)), (5, .pointer (some ⟨g5, 0, none⟩))]) (fun (s : ((List Int) × Int)) (g : Hd) => [(Res.blk b0 82 [ha0_fl.v, .int .i64 s.2])]) (fun (s : ((List Int) × Int)) (g : Hd) => [(Res.blk g1 44 [.int .i64 a1.Speed.Lo, .int .i64 a1.Speed.Hi, ha1_Class.v, .int .i64 a1.Error, ha1_Targets.v]), (Res.blk g2 58 [.int .i64 0, (Hd.mk none 0 0).v, (Hd.mk none 0 0).v]), (Res.blk g5 58 [.int .i64 v3.1, g.v, (Hd.mk none 0 0).v]), (rowH g 3 1 encI s.1)]) ?_ ?_
  rotate_left
  · intro k8 H9
    refine jn_seq ?_
    refine jn_reg 2 ?_
    refine jg_as rfl rfl rfl ?_
    refine jg_nils [(0, _), (3, _), (4, _), (5, _), (6, _)] ⟨rfl, rfl, rfl, rfl, rfl, trivial⟩ ?_
    refine jk_sn ?_
    refine jn_block ?_
    refine jn_addnil 3 1 encI ?_
    refine jn_lp (n := big) (fun (s : ((List Int) × Int × Int)) (g : Hd) => [(0, .pointer (some ⟨b0, 0, none⟩)), (3, .pointer (some ⟨g1, 0, none⟩)), (4, .pointer (some ⟨g2, 0, none⟩)), (5, .pointer (some ⟨g5, 0, none⟩)), (6, .int .i64 s.2.1)]) (fun (s : ((List Int) × Int × Int)) (g : Hd) => [(Res.blk b0 82 [ha0_fl.v, .int .i64 s.2.2])]) (fun (s : ((List Int) × Int × Int)) (g : Hd) => [(Res.blk g1 44 [.int .i64 a1.Speed.Lo, .int .i64 a1.Speed.Hi, ha1_Class.v, .int .i64 a1.Error, ha1_Targets.v]), (Res.blk g2 58 [.int .i64 0, (Hd.mk none 0 0).v, (Hd.mk none 0 0).v]), (Res.blk g5 58 [.int .i64 v3.1, g.v, (Hd.mk none 0 0).v]), (rowH g 3 1 encI s.1)]) (([] : List Int), 0, v3.2) (Hd.mk none 0 0) [3, 2, 1, 0] ⟨rfl, rfl, rfl, rfl, rfl, trivial⟩ rfl rfl rfl ?_
    intro z26 q27 n30 k28 H29
    refine jn_seq ?_
    refine jn_seq ?_
    refine jn_reg 3 ?_
    refine jg_mv rfl rfl rfl ?_
    refine jg_y (fun w hs => yv_fieldAddr rfl) rfl rfl ?_
    refine jg_y (fun w hs => yv_load rfl (ld1B (hs.blkL (i := 0) rfl) rfl)) rfl rfl ?_
    refine jg_y (fun w hs => yv_ln rfl (hs.argM Rha1_Class Oha1_Class)) rfl rfl ?_
    refine jg_y (fun w hs => yv_lss rfl rfl) rfl rfl ?_
    refine jg_nils [(0, _), (3, _), (4, _), (5, _), (6, _), (22, _)] ⟨rfl, rfl, rfl, rfl, rfl, rfl, trivial⟩ ?_
    refine jk_sn ?_
    refine jn_cond rfl ?_ ?_
    rotate_left
    · refine jn_exit ?_
      refine jk_se (jk_le (jk_bh ?_))
      exact jk_use H9 (z26.1, z26.2.2) q27 [0, 1, 2, 3] ⟨rfl, rfl, rfl, rfl, trivial⟩ rfl rfl rfl
    refine jn_skip ?_
    refine jk_sn ?_
    refine jn_seq ?_
    refine jn_block ?_
    refine jn_draw (L' := [_, _, _]) 5 [0, 1, 2] [0, 1, 2, 3, 4, 5, 6, 7, 8, 9, 10, 11, 12, 13, 14, 15, 16, 17, 18] 524287 1048575 [0, 1, 0, 0, 8, 0, 48, 64, 128, 0, 512, 0, 3072, 4096, 8192, 16644, 32768, 98306, 262143, 524287] [0, 1, 0, 0, 8, 0, 56, 120, 248, 0, 512, 0, 3584, 7680, 15872, 32764, 65532, 131071, 262143, 524287] [(0, true), (1, true), (2, true), (3, true), (4, true), (5, true), (6, true), (7, true), (8, true), (9, true), (10, true), (11, true), (12, true), (13, true), (14, true), (15, false), (16, false), (17, false), (18, true), (19, false)] rfl (np_blk (np_seq (np_rnd (np_blk (np_seq np_rt))))) (by kernel_rfl) (by kernel_rfl) (by kernel_rfl) (by kernel_rfl) (by kernel_rfl) (by kernel_rfl) (by kernel_rfl) (by kernel_rfl) ?_
    refine jd_y rfl (fun w hs => yv_fieldAddr rfl) rfl rfl ?_
    refine jd_y rfl (fun w hs => yv_load rfl (ld1B (hs.blk (i := 2) rfl) rfl)) rfl rfl ?_
    refine jd_mv rfl rfl rfl rfl ?_
    refine jd_y rfl (fun w hs => yv_fieldAddr rfl) rfl rfl ?_
    refine jd_y rfl (fun w hs => yv_load rfl (ld1B (hs.blk (i := 0) rfl) rfl)) rfl rfl ?_
    refine jd_mv rfl rfl rfl rfl ?_
    refine jd_ix fun x31 h32 => ?_
    refine jd_y rfl (fun w hs => yv_ix rfl rfl (hs.argM Rha1_Class Oha1_Class) h32) rfl rfl ?_
    refine jd_y rfl (fun w hs => yv_ef rfl (hs.argM Rha1_Class Oha1_Class) h32.1) rfl rfl ?_
    refine jd_y rfl (fun w hs => yv_e1 rfl (hs.argM Rha1_Class Oha1_Class) h32.1 rfl) rfl rfl ?_
    refine jd_y rfl (fun w hs => yv_fieldAddr rfl) rfl rfl ?_
    refine jd_y rfl (fun w hs => yv_load rfl (ld1B (hs.blk (i := 0) rfl) rfl)) rfl rfl ?_
    refine jd_mv rfl rfl rfl rfl ?_
    refine jd_ix fun x33 h34 => ?_
    refine jd_y rfl (fun w hs => yv_ix rfl rfl (hs.argM Rha1_Class Oha1_Class) h34) rfl rfl ?_
    refine jd_y rfl (fun w hs => yv_ef rfl (hs.argM Rha1_Class Oha1_Class) h34.1) rfl rfl ?_
    refine jd_y rfl (fun w hs => yv_e1 rfl (hs.argM Rha1_Class Oha1_Class) h34.1 rfl) rfl rfl ?_
    refine jd_h rfl ?_
    refine jm_c rfl (fun v w hs hm => gen_Maker_From_c hm (hs.blkM (i := 0) rfl) (hs.argM Rha0_fl Oha0_fl) Oha0_fl) (fun _ => rfl) rfl rfl fun v35 q36 => ?_
    refine jg_nil ?_
    refine jk_dn [0, 1, 2] rfl ?_
    refine jd_h rfl ?_
    refine jg_lit (enc := encI) [v35.1] rfl rfl rfl rfl rfl rfl rfl rfl fun hd37 => ?_
    refine jg_nil ?_
    refine jk_dn [1, 2, 3] rfl ?_
    refine jd_h rfl ?_
    refine jg_append 4 rfl rfl rfl (fun w hs => (hs.row 0 rfl)) rfl rfl rfl fun y38 hd39 => ?_
    refine jg_L (r5 rfl) ?_
    refine jg_nil ?_
    refine jk_dn [1, 2, 3] rfl ?_
    refine jd_y rfl (fun w hs => yv_fieldAddr rfl) rfl rfl ?_
    refine jd_h rfl ?_
    refine jg_store 3 rfl rfl rfl (l1 rfl) rfl rfl rfl rfl (l3 rfl) (r5 rfl) ?_
    refine jg_nil ?_
    refine jk_df rfl ?_
    refine jf_nils [(0, _), (3, _), (4, _), (5, _), (6, _)] ⟨rfl, rfl, rfl, rfl, rfl, trivial⟩ ?_
    refine jk_bn (jk_sn ?_)
    refine jn_reg 4 ?_
    refine jg_mv rfl rfl rfl ?_
    refine jg_y (fun w hs => yv_add_w rfl rfl) rfl rfl ?_
    refine jg_as rfl rfl rfl ?_
    refine jg_nils [(0, _), (3, _), (4, _), (5, _), (6, _)] ⟨rfl, rfl, rfl, rfl, rfl, trivial⟩ ?_
    exact jk_use H29 (y38, w64 (z26.2.1 + 1), v35.2) hd39 [1, 2, 3, 4] ⟨rfl, rfl, rfl, rfl, rfl, trivial⟩ rfl rfl rfl
  intro z6 q7
  refine jn_seq ?_
  refine jn_seq ?_
  refine jn_reg 6 ?_
  refine jg_as rfl rfl rfl ?_
  refine jg_nils [(0, _), (3, _), (4, _), (5, _), (7, _)] ⟨rfl, rfl, rfl, rfl, rfl, trivial⟩ ?_
  refine jk_sn ?_
  refine jn_block ?_
  refine jn_addnil 3 1 encI ?_
  refine jn_lp (n := big) (fun (s : ((List Int) × Int × Int)) (g : Hd) => [(0, .pointer (some ⟨b0, 0, none⟩)), (3, .pointer (some ⟨g1, 0, none⟩)), (4, .pointer (some ⟨g2, 0, none⟩)), (5, .pointer (some ⟨g5, 0, none⟩)), (7, .int .i64 s.2.1)]) (fun (s : ((List Int) × Int × Int)) (g : Hd) => [(Res.blk b0 82 [ha0_fl.v, .int .i64 s.2.2])]) (fun (s : ((List Int) × Int × Int)) (g : Hd) => [(Res.blk g1 44 [.int .i64 a1.Speed.Lo, .int .i64 a1.Speed.Hi, ha1_Class.v, .int .i64 a1.Error, ha1_Targets.v]), (Res.blk g2 58 [.int .i64 0, (Hd.mk none 0 0).v, (Hd.mk none 0 0).v]), (Res.blk g5 58 [.int .i64 v3.1, q7.v, g.v]), (rowH q7 3 1 encI z6.1), (rowH g 3 1 encI s.1)]) (([] : List Int), 0, z6.2) (Hd.mk none 0 0) [1, 2, 3, 4, 0] ⟨rfl, rfl, rfl, rfl, rfl, trivial⟩ rfl rfl rfl ?_
  intro z10 q11 n14 k12 H13
  refine jn_seq ?_
  refine jn_seq ?_
  refine jn_reg 7 ?_
  refine jg_mv rfl rfl rfl ?_
  refine jg_y (fun w hs => yv_fieldAddr rfl) rfl rfl ?_
  refine jg_y (fun w hs => yv_load rfl (ld1B (hs.blkL (i := 0) rfl) rfl)) rfl rfl ?_
  refine jg_y (fun w hs => yv_ln rfl (hs.argM Rha1_Targets Oha1_Targets)) rfl rfl ?_
  refine jg_y (fun w hs => yv_lss rfl rfl) rfl rfl ?_
  refine jg_nils [(0, _), (3, _), (4, _), (5, _), (7, _), (48, _)] ⟨rfl, rfl, rfl, rfl, rfl, rfl, trivial⟩ ?_
  refine jk_sn ?_
  refine jn_cond rfl ?_ ?_
  rotate_left
  · refine jn_exit ?_
    refine jk_se (jk_le (jk_bh (jk_sn ?_)))
    refine jn_seq ?_
    refine jn_reg 13 ?_
    refine jg_y (fun w hs => yv_load rfl (ldBB (hs.blkL (i := 2) rfl) rfl)) rfl rfl ?_
    refine jg_store 1 rfl rfl rfl (l3 rfl) rfl rfl rfl rfl (l3 rfl) (r5 rfl) ?_
    refine jg_nils [(4, _)] ⟨rfl, trivial⟩ ?_
    refine jk_sel (is := [1, 3, 4]) (s3 rfl) rfl ?_
    refine jk_sn ?_
    refine jn_ret ?_
    exact jk_ret1 rfl (fun w hs => .cell rfl (ldBB (hs.blkL (i := 0) rfl) rfl)) (fun w hs => ⟨(q7, q11), rfl, hs.sel (is := [1, 2]) rfl rfl⟩)
  refine jn_skip ?_
  refine jk_sn ?_
  refine jn_seq ?_
  refine jn_block ?_
  refine jn_seq ?_
  refine jn_reg 9 ?_
  refine jg_y (fun w hs => yv_fieldAddr rfl) rfl rfl ?_
  refine jg_y (fun w hs => yv_load rfl (ld1B (hs.blkL (i := 0) rfl) rfl)) rfl rfl ?_
  refine jg_mv rfl rfl rfl ?_
  refine jg_ix fun x15 h16 => ?_
  refine jg_y (fun w hs => yv_ix rfl rfl (hs.argM Rha1_Targets Oha1_Targets) h16) rfl rfl ?_
  refine jg_y (fun w hs => yv_e1 rfl (hs.argM Rha1_Targets Oha1_Targets) h16.1 rfl) rfl rfl ?_
  refine jg_as rfl rfl rfl ?_
  refine jg_nils [(0, _), (3, _), (4, _), (5, _), (7, _), (8, _)] ⟨rfl, rfl, rfl, rfl, rfl, rfl, trivial⟩ ?_
  refine jk_sn ?_
  refine jn_join (fun (s : (Int × Int)) (g : Unit) => [(0, .pointer (some ⟨b0, 0, none⟩)), (3, .pointer (some ⟨g1, 0, none⟩)), (4, .pointer (some ⟨g2, 0, none⟩)), (5, .pointer (some ⟨g5, 0, none⟩)), (7, .int .i64 z10.2.1), (8, .int .i64 s.1)]) (fun (s : (Int × Int)) (g : Unit) => [(Res.blk b0 82 [ha0_fl.v, .int .i64 s.2])]) (fun (s : (Int × Int)) (g : Unit) => [(Res.blk g1 44 [.int .i64 a1.Speed.Lo, .int .i64 a1.Speed.Hi, ha1_Class.v, .int .i64 a1.Error, ha1_Targets.v]), (Res.blk g2 58 [.int .i64 0, (Hd.mk none 0 0).v, (Hd.mk none 0 0).v]), (Res.blk g5 58 [.int .i64 v3.1, q7.v, q11.v]), (rowH q7 3 1 encI z6.1), (rowH q11 3 1 encI z10.1)]) ?_ ?_
  · intro z17 q18
    refine jn_reg 12 ?_
    refine jg_y (fun w hs => yv_fieldAddr rfl) rfl rfl ?_
    refine jg_y (fun w hs => yv_load rfl (ld1B (hs.blkL (i := 2) rfl) rfl)) rfl rfl ?_
    refine jg_mv rfl rfl rfl ?_
    refine jg_lit (enc := encI) [z17.1] rfl rfl rfl rfl rfl rfl rfl rfl fun hd21 => ?_
    refine jg_append 5 rfl rfl rfl (fun w hs => (hs.row 0 rfl)) rfl rfl rfl fun y22 hd23 => ?_
    refine jg_L (r6 rfl) ?_
    refine jg_y (fun w hs => yv_fieldAddr rfl) rfl rfl ?_
    refine jg_store 3 rfl rfl rfl (l1 rfl) rfl rfl rfl rfl (l3 rfl) (r6 rfl) ?_
    refine jg_nils [(0, _), (3, _), (4, _), (5, _), (7, _)] ⟨rfl, rfl, rfl, rfl, rfl, trivial⟩ ?_
    refine jk_bn (jk_sn ?_)
    refine jn_reg 8 ?_
    refine jg_mv rfl rfl rfl ?_
    refine jg_y (fun w hs => yv_add_w rfl rfl) rfl rfl ?_
    refine jg_as rfl rfl rfl ?_
    refine jg_nils [(0, _), (3, _), (4, _), (5, _), (7, _)] ⟨rfl, rfl, rfl, rfl, rfl, trivial⟩ ?_
    exact jk_use H13 (y22, w64 (z10.2.1 + 1), z17.2) hd23 [1, 2, 3, 4, 5] ⟨rfl, rfl, rfl, rfl, rfl, trivial⟩ rfl rfl rfl
  intro k19 H20
  refine jn_seq ?_
  refine jn_reg 10 ?_
  refine jg_mv rfl rfl rfl ?_
  refine jg_y (fun w hs => yv_geq rfl rfl) rfl rfl ?_
  refine jg_nils [(0, _), (3, _), (4, _), (5, _), (7, _), (8, _), (57, _)] ⟨rfl, rfl, rfl, rfl, rfl, rfl, rfl, trivial⟩ ?_
  refine jk_sn ?_
  refine jn_cond rfl ?_ ?_
  rotate_left
  · refine jn_skip ?_
    exact jk_use H20 (x15, z10.2.2) () [0, 1, 2, 3, 4] ⟨rfl, rfl, rfl, rfl, rfl, rfl, trivial⟩ rfl rfl rfl
  refine jn_reg 11 ?_
  refine jg_mv rfl rfl rfl ?_
  refine jg_mv rfl rfl rfl ?_
  refine jg_y (fun w hs => yv_fieldAddr rfl) rfl rfl ?_
  refine jg_y (fun w hs => yv_load rfl (ld1B (hs.blkL (i := 0) rfl) rfl)) rfl rfl ?_
  refine jg_y (fun w hs => yv_sub_w rfl rfl) rfl rfl ?_
  refine jg_mv rfl rfl rfl ?_
  refine jg_y (fun w hs => yv_fieldAddr rfl) rfl rfl ?_
  refine jg_y (fun w hs => yv_load rfl (ld1B (hs.blkL (i := 0) rfl) rfl)) rfl rfl ?_
  refine jg_y (fun w hs => yv_add_w rfl rfl) rfl rfl ?_
  refine jm_c rfl (fun v w hs hm => gen_Maker_From_c hm (hs.blkM (i := 0) rfl) (hs.argM Rha0_fl Oha0_fl) Oha0_fl) (fun _ => rfl) rfl rfl fun v24 q25 => ?_
  refine jg_y (fun w hs => yv_min rfl rfl) rfl rfl ?_
  refine jg_y (fun w hs => yv_max rfl rfl) rfl rfl ?_
  refine jg_as rfl rfl rfl ?_
  refine jg_nils [(0, _), (3, _), (4, _), (5, _), (7, _), (8, _)] ⟨rfl, rfl, rfl, rfl, rfl, rfl, trivial⟩ ?_
  exact jk_use H20 (max 0 (min 20000 v24.1), v24.2) () [0, 1, 2, 3, 4] ⟨rfl, rfl, rfl, rfl, rfl, rfl, trivial⟩ rfl rfl rfl
end Go.Proofs.Ytjeegociagchnaa
