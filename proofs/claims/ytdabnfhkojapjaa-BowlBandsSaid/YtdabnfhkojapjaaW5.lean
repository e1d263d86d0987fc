/-
  The functions give what their models give. Printed by a program.
-/
import Derived.Test.YtdabnfhkojapjaaFacts
import Derived.Test.YtdabnfhkojapjaaMod
import Derived.Test.YtdabnfhkojapjaaW0
import Derived.Test.YtdabnfhkojapjaaW1
import Derived.Test.YtdabnfhkojapjaaW2
import Derived.Test.YtdabnfhkojapjaaW3
import Derived.Test.YtdabnfhkojapjaaW4
namespace Go.Proofs.Ytdabnfhkojapjaa
open Go.Hy
set_option linter.unusedVariables false
set_option linter.unusedSimpArgs false
set_option maxHeartbeats 2000000
set_option maxRecDepth 100000
theorem r20_Point_c {w : World} {a0 : (List Piece)} {a1 : Run} {ha0 : Hd} {ha1_Resist : Hd} {ha1_Targets : Hd} {v : ((List Moment) × Int × Int)} (hm : r20_Point a0 a1 = some v) (Rha0 : Sl w ha0 Piece.enc a0) (Rha1_Resist : Sl w ha1_Resist encI a1.Resist) (Rha1_Targets : Sl w ha1_Targets encI a1.Targets) : Calls Try.prog 26 ([ha0.v, .agg #[.int .i64 a1.Speed, ha1_Resist.v, ha1_Targets.v]] : List Value).toArray w (fun e w' => ∃ g : Hd, e = .returned (.tuple #[g.v, .int .i64 v.2.1, .int .i64 v.2.2]) ∧ St w w' [] [(rowH g 67 2 Moment.enc v.1)]) := by
  refine j_enter (vs := [ha0.v, .agg #[.int .i64 a1.Speed, ha1_Resist.v, ha1_Targets.v]]) (R := fun (v : ((List Moment) × Int × Int)) (e : Ending) (w' : World) => ∃ g : Hd, e = .returned (.tuple #[g.v, .int .i64 v.2.1, .int .i64 v.2.2]) ∧ St w w' [] [(rowH g 67 2 Moment.enc v.1)]) Try.func26 rfl Try.ntmps26 rfl rfl (St.refl w) hm ?_
  unfold r20_Point
  clear hm
  refine jn_seq ?_
  refine jn_reg 0 ?_
  refine jg_box rfl (l3 rfl) rfl rfl fun g1 => ?_
  refine jg_as rfl rfl rfl ?_
  refine jg_as rfl rfl rfl ?_
  refine jg_as rfl rfl rfl ?_
  refine jg_nils [(0, _), (3, _)] ⟨rfl, rfl, trivial⟩ ?_
  refine jk_sn ?_
  refine jn_seq ?_
  refine jn_seq ?_
  refine jn_reg 1 ?_
  refine jg_mv rfl rfl rfl ?_
  refine jg_c0 rfl (fun v w hs hm => r20_Valid_c hm (hs.arg Rha0)) rfl rfl fun v2 => ?_
  refine jg_as rfl rfl rfl ?_
  refine jg_nils [(0, _), (3, _), (7, _)] ⟨rfl, rfl, rfl, trivial⟩ ?_
  refine jk_sn ?_
  refine jn_seq ?_
  refine jn_reg 2 ?_
  refine jg_mv rfl rfl rfl ?_
  refine jg_y (fun w hs => yv_neq rfl rfl) rfl rfl ?_
  refine jg_nils [(0, _), (3, _), (7, _), (20, _)] ⟨rfl, rfl, rfl, rfl, trivial⟩ ?_
  refine jk_sn ?_
  refine jn_cond rfl ?_ ?_
  · refine jn_seq ?_
    refine jn_reg 3 ?_
    refine jg_mv rfl rfl rfl ?_
    refine jg_as rfl rfl rfl ?_
    refine jg_as rfl rfl rfl ?_
    refine jg_as rfl rfl rfl ?_
    refine jg_nils [(4, _), (5, _), (6, _)] ⟨rfl, rfl, rfl, trivial⟩ ?_
    refine jk_sn ?_
    refine jn_ret ?_
    refine jk_sr ?_
    refine jk_addnil 67 2 Moment.enc ?_
    exact jk_ret3 rfl (fun w hs => .tmp rfl) (fun w hs => .tmp rfl) (fun w hs => .tmp rfl) (fun w hs => ⟨(Hd.mk none 0 0), rfl, hs.sel (is := [0]) rfl rfl⟩)
  refine jn_skip ?_
  refine jk_sn ?_
  refine jn_seq ?_
  refine jn_seq ?_
  refine jn_draw (L' := [_]) 4 [0] [0, 1, 2, 3, 4, 5, 6, 7, 8, 9, 10, 11, 12, 13] 16383 16383 [0, 1, 2, 0, 8, 20, 32, 64, 192, 320, 64, 1088, 2624, 4160] [0, 1, 3, 0, 8, 31, 63, 127, 255, 511, 127, 1151, 4095, 8191] [(0, true), (1, true), (2, true), (3, true), (4, true), (5, true), (6, true), (7, true), (8, true), (9, true), (10, true), (11, true), (12, true), (13, true)] rfl (np_seq (np_seq np_rt)) (by kernel_rfl) (by kernel_rfl) (by kernel_rfl) (by kernel_rfl) (by kernel_rfl) (by kernel_rfl) (by kernel_rfl) (by kernel_rfl) ?_
  refine jd_y rfl (fun w hs => yv_fieldAddr rfl) rfl rfl ?_
  refine jd_y rfl (fun w hs => yv_load rfl (ld1B (hs.blk (i := 0) rfl) rfl)) rfl rfl ?_
  refine jd_y rfl (fun w hs => yv_ln rfl (hs.arg Rha1_Resist)) rfl rfl ?_
  refine jd_mv rfl rfl rfl rfl ?_
  refine jd_y rfl (fun w hs => yv_ln rfl (hs.arg Rha0)) rfl rfl ?_
  refine jd_y rfl (fun w hs => yv_neq rfl rfl) rfl rfl ?_
  refine jd_mv rfl rfl rfl rfl ?_
  refine jd_split 28 rfl ?_ ?_
  · refine jd_skip rfl rfl rfl ?_
    refine jd_skip rfl rfl rfl ?_
    refine jd_skip rfl rfl rfl ?_
    refine jd_skip rfl rfl rfl ?_
    refine jd_skip rfl rfl rfl ?_
    refine jd_skip rfl rfl rfl ?_
    refine jd_y rfl (fun w hs => yv_pick_t rfl rfl) rfl rfl ?_
    refine jd_nils [(0, _), (3, _), (35, _)] ⟨rfl, rfl, rfl, trivial⟩ ?_
    refine jk_sn ?_
    refine jn_ct rfl ?_
    refine jn_seq ?_
    refine jn_reg 5 ?_
    refine jg_as rfl rfl rfl ?_
    refine jg_as rfl rfl rfl ?_
    refine jg_as rfl rfl rfl ?_
    refine jg_nils [(4, _), (5, _), (6, _)] ⟨rfl, rfl, rfl, trivial⟩ ?_
    refine jk_sn ?_
    refine jn_ret ?_
    refine jk_sr ?_
    refine jk_addnil 67 2 Moment.enc ?_
    exact jk_ret3 rfl (fun w hs => .tmp rfl) (fun w hs => .tmp rfl) (fun w hs => .tmp rfl) (fun w hs => ⟨(Hd.mk none 0 0), rfl, hs.sel (is := [0]) rfl rfl⟩)
  refine jd_y rfl (fun w hs => yv_fieldAddr rfl) rfl rfl ?_
  refine jd_y rfl (fun w hs => yv_load rfl (ld1B (hs.blk (i := 0) rfl) rfl)) rfl rfl ?_
  refine jd_y rfl (fun w hs => yv_ln rfl (hs.arg Rha1_Targets)) rfl rfl ?_
  refine jd_mv rfl rfl rfl rfl ?_
  refine jd_c0 rfl rfl (fun v w hs hm => r20_Retarders_c hm (hs.arg Rha0)) rfl rfl fun v3 => ?_
  refine jd_y rfl (fun w hs => yv_neq rfl rfl) rfl rfl ?_
  refine jd_y rfl (fun w hs => yv_pick_f rfl rfl) rfl rfl ?_
  refine jd_nils [(0, _), (3, _), (35, _)] ⟨rfl, rfl, rfl, trivial⟩ ?_
  refine jk_sn ?_
  refine jn_cond rfl ?_ ?_
  · refine jn_seq ?_
    refine jn_reg 5 ?_
    refine jg_as rfl rfl rfl ?_
    refine jg_as rfl rfl rfl ?_
    refine jg_as rfl rfl rfl ?_
    refine jg_nils [(4, _), (5, _), (6, _)] ⟨rfl, rfl, rfl, trivial⟩ ?_
    refine jk_sn ?_
    refine jn_ret ?_
    refine jk_sr ?_
    refine jk_addnil 67 2 Moment.enc ?_
    exact jk_ret3 rfl (fun w hs => .tmp rfl) (fun w hs => .tmp rfl) (fun w hs => .tmp rfl) (fun w hs => ⟨(Hd.mk none 0 0), rfl, hs.sel (is := [0]) rfl rfl⟩)
  refine jn_skip ?_
  refine jk_sn ?_
  refine jn_join (fun (s : Bool) (g : Unit) => [(0, ha0.v), (3, .pointer (some ⟨g1, 0, none⟩)), (8, .bool s)]) (fun (s : Bool) (g : Unit) => []) (fun (s : Bool) (g : Unit) => [(Res.blk g1 64 [.int .i64 a1.Speed, ha1_Resist.v, ha1_Targets.v])]) ?_ ?_
  rotate_left
  · intro k6 H7
    refine jn_reg 6 ?_
    refine jg_y (fun w hs => yv_fieldAddr rfl) rfl rfl ?_
    refine jg_y (fun w hs => yv_load rfl (ld1B (hs.blkL (i := 0) rfl) rfl)) rfl rfl ?_
    refine jg_y (fun w hs => yv_geq rfl rfl) rfl rfl ?_
    refine jg_mv rfl rfl rfl ?_
    refine jg_split 39 rfl ?_ ?_
    rotate_left
    · refine jg_skip rfl rfl ?_
      refine jg_skip rfl rfl ?_
      refine jg_skip rfl rfl ?_
      refine jg_y (fun w hs => yv_pick_f rfl rfl) rfl rfl ?_
      refine jg_mv rfl rfl rfl ?_
      refine jg_skip rfl rfl ?_
      refine jg_skip rfl rfl ?_
      refine jg_skip rfl rfl ?_
      refine jg_y (fun w hs => yv_pick_f rfl rfl) rfl rfl ?_
      refine jg_as rfl rfl rfl ?_
      refine jg_nils [(0, _), (3, _), (8, _)] ⟨rfl, rfl, rfl, trivial⟩ ?_
      exact jk_use H7 false () [0] ⟨rfl, rfl, rfl, trivial⟩ rfl rfl rfl
    refine jg_y (fun w hs => yv_fieldAddr rfl) rfl rfl ?_
    refine jg_y (fun w hs => yv_load rfl (ld1B (hs.blkL (i := 0) rfl) rfl)) rfl rfl ?_
    refine jg_y (fun w hs => yv_leq rfl rfl) rfl rfl ?_
    refine jg_y (fun w hs => yv_pick_t rfl rfl) rfl rfl ?_
    refine jg_mv rfl rfl rfl ?_
    refine jg_split 44 rfl ?_ ?_
    · refine jg_y (fun w hs => yv_fieldAddr rfl) rfl rfl ?_
      refine jg_y (fun w hs => yv_load rfl (ld1B (hs.blkL (i := 0) rfl) rfl)) rfl rfl ?_
      refine jg_c0 rfl (fun v w hs hm => r20_targets_c hm (hs.arg Rha1_Targets)) rfl rfl fun v57 => ?_
      refine jg_y (fun w hs => yv_pick_t rfl rfl) rfl rfl ?_
      refine jg_as rfl rfl rfl ?_
      refine jg_nils [(0, _), (3, _), (8, _)] ⟨rfl, rfl, rfl, trivial⟩ ?_
      exact jk_use H7 v57 () [0] ⟨rfl, rfl, rfl, trivial⟩ rfl rfl rfl
    refine jg_skip rfl rfl ?_
    refine jg_skip rfl rfl ?_
    refine jg_skip rfl rfl ?_
    refine jg_y (fun w hs => yv_pick_f rfl rfl) rfl rfl ?_
    refine jg_as rfl rfl rfl ?_
    refine jg_nils [(0, _), (3, _), (8, _)] ⟨rfl, rfl, rfl, trivial⟩ ?_
    exact jk_use H7 false () [0] ⟨rfl, rfl, rfl, trivial⟩ rfl rfl rfl
  intro z4 q5
  refine jn_join (fun (s : Bool) (g : Unit) => [(0, ha0.v), (3, .pointer (some ⟨g1, 0, none⟩)), (8, .bool s)]) (fun (s : Bool) (g : Unit) => []) (fun (s : Bool) (g : Unit) => [(Res.blk g1 64 [.int .i64 a1.Speed, ha1_Resist.v, ha1_Targets.v])]) ?_ ?_
  rotate_left
  · intro k10 H11
    refine jn_seq ?_
    refine jn_reg 7 ?_
    refine jg_as rfl rfl rfl ?_
    refine jg_nils [(0, _), (3, _), (8, _), (9, _)] ⟨rfl, rfl, rfl, rfl, trivial⟩ ?_
    refine jk_sn ?_
    refine jn_block ?_
    refine jn_lp (n := big) (fun (s : (Bool × Int)) (g : Unit) => [(0, ha0.v), (3, .pointer (some ⟨g1, 0, none⟩)), (8, .bool s.1), (9, .int .i64 s.2)]) (fun (s : (Bool × Int)) (g : Unit) => []) (fun (s : (Bool × Int)) (g : Unit) => [(Res.blk g1 64 [.int .i64 a1.Speed, ha1_Resist.v, ha1_Targets.v])]) (z4, 0) () [0] ⟨rfl, rfl, rfl, rfl, trivial⟩ rfl rfl rfl ?_
    intro z48 q49 n52 k50 H51
    refine jn_seq ?_
    refine jn_seq ?_
    refine jn_reg 8 ?_
    refine jg_mv rfl rfl rfl ?_
    refine jg_mv rfl rfl rfl ?_
    refine jg_y (fun w hs => yv_ln rfl (hs.arg Rha0)) rfl rfl ?_
    refine jg_y (fun w hs => yv_lss rfl rfl) rfl rfl ?_
    refine jg_nils [(0, _), (3, _), (8, _), (9, _), (52, _)] ⟨rfl, rfl, rfl, rfl, rfl, trivial⟩ ?_
    refine jk_sn ?_
    refine jn_cond rfl ?_ ?_
    rotate_left
    · refine jn_exit ?_
      refine jk_se (jk_le (jk_bh ?_))
      exact jk_use H11 z48.1 () [0] ⟨rfl, rfl, rfl, trivial⟩ rfl rfl rfl
    refine jn_skip ?_
    refine jk_sn ?_
    refine jn_seq ?_
    refine jn_block ?_
    refine jn_reg 10 ?_
    refine jg_mv rfl rfl rfl ?_
    refine jg_mv rfl rfl rfl ?_
    refine jg_split 56 rfl ?_ ?_
    rotate_left
    · refine jg_skip rfl rfl ?_
      refine jg_skip rfl rfl ?_
      refine jg_skip rfl rfl ?_
      refine jg_skip rfl rfl ?_
      refine jg_skip rfl rfl ?_
      refine jg_skip rfl rfl ?_
      refine jg_y (fun w hs => yv_pick_f rfl rfl) rfl rfl ?_
      refine jg_mv rfl rfl rfl ?_
      refine jg_skip rfl rfl ?_
      refine jg_skip rfl rfl ?_
      refine jg_skip rfl rfl ?_
      refine jg_skip rfl rfl ?_
      refine jg_skip rfl rfl ?_
      refine jg_skip rfl rfl ?_
      refine jg_y (fun w hs => yv_pick_f rfl rfl) rfl rfl ?_
      refine jg_as rfl rfl rfl ?_
      refine jg_nils [(0, _), (3, _), (8, _), (9, _)] ⟨rfl, rfl, rfl, rfl, trivial⟩ ?_
      refine jk_bn (jk_sn ?_)
      refine jn_reg 9 ?_
      refine jg_mv rfl rfl rfl ?_
      refine jg_y (fun w hs => yv_add_w rfl rfl) rfl rfl ?_
      refine jg_as rfl rfl rfl ?_
      refine jg_nils [(0, _), (3, _), (8, _), (9, _)] ⟨rfl, rfl, rfl, rfl, trivial⟩ ?_
      exact jk_use H51 (false, w64 (z48.2 + 1)) () [0] ⟨rfl, rfl, rfl, rfl, trivial⟩ rfl rfl rfl
    refine jg_y (fun w hs => yv_fieldAddr rfl) rfl rfl ?_
    refine jg_y (fun w hs => yv_load rfl (ld1B (hs.blkL (i := 0) rfl) rfl)) rfl rfl ?_
    refine jg_mv rfl rfl rfl ?_
    refine jg_ix fun x53 h54 => ?_
    refine jg_y (fun w hs => yv_ix rfl rfl (hs.arg Rha1_Resist) h54) rfl rfl ?_
    refine jg_y (fun w hs => yv_e1 rfl (hs.arg Rha1_Resist) h54.1 rfl) rfl rfl ?_
    refine jg_y (fun w hs => yv_geq rfl rfl) rfl rfl ?_
    refine jg_y (fun w hs => yv_pick_t rfl rfl) rfl rfl ?_
    refine jg_mv rfl rfl rfl ?_
    refine jg_split 64 rfl ?_ ?_
    rotate_left
    · refine jg_skip rfl rfl ?_
      refine jg_skip rfl rfl ?_
      refine jg_skip rfl rfl ?_
      refine jg_skip rfl rfl ?_
      refine jg_skip rfl rfl ?_
      refine jg_skip rfl rfl ?_
      refine jg_y (fun w hs => yv_pick_f rfl rfl) rfl rfl ?_
      refine jg_as rfl rfl rfl ?_
      refine jg_nils [(0, _), (3, _), (8, _), (9, _)] ⟨rfl, rfl, rfl, rfl, trivial⟩ ?_
      refine jk_bn (jk_sn ?_)
      refine jn_reg 9 ?_
      refine jg_mv rfl rfl rfl ?_
      refine jg_y (fun w hs => yv_add_w rfl rfl) rfl rfl ?_
      refine jg_as rfl rfl rfl ?_
      refine jg_nils [(0, _), (3, _), (8, _), (9, _)] ⟨rfl, rfl, rfl, rfl, trivial⟩ ?_
      exact jk_use H51 (false, w64 (z48.2 + 1)) () [0] ⟨rfl, rfl, rfl, rfl, trivial⟩ rfl rfl rfl
    refine jg_y (fun w hs => yv_fieldAddr rfl) rfl rfl ?_
    refine jg_y (fun w hs => yv_load rfl (ld1B (hs.blkL (i := 0) rfl) rfl)) rfl rfl ?_
    refine jg_mv rfl rfl rfl ?_
    refine jg_ix fun x55 h56 => ?_
    refine jg_y (fun w hs => yv_ix rfl rfl (hs.arg Rha1_Resist) h56) rfl rfl ?_
    refine jg_y (fun w hs => yv_e1 rfl (hs.arg Rha1_Resist) h56.1 rfl) rfl rfl ?_
    refine jg_y (fun w hs => yv_leq rfl rfl) rfl rfl ?_
    refine jg_y (fun w hs => yv_pick_t rfl rfl) rfl rfl ?_
    refine jg_as rfl rfl rfl ?_
    refine jg_nils [(0, _), (3, _), (8, _), (9, _)] ⟨rfl, rfl, rfl, rfl, trivial⟩ ?_
    refine jk_bn (jk_sn ?_)
    refine jn_reg 9 ?_
    refine jg_mv rfl rfl rfl ?_
    refine jg_y (fun w hs => yv_add_w rfl rfl) rfl rfl ?_
    refine jg_as rfl rfl rfl ?_
    refine jg_nils [(0, _), (3, _), (8, _), (9, _)] ⟨rfl, rfl, rfl, rfl, trivial⟩ ?_
    exact jk_use H51 (decide (x55 ≤ 10000), w64 (z48.2 + 1)) () [0] ⟨rfl, rfl, rfl, rfl, trivial⟩ rfl rfl rfl
  intro z8 q9
  refine jn_seq ?_
  refine jn_seq ?_
  refine jn_reg 11 ?_
  refine jg_mv rfl rfl rfl ?_
  refine jg_y (fun w hs => yv_not rfl) rfl rfl ?_
  refine jg_nils [(0, _), (3, _), (73, _)] ⟨rfl, rfl, rfl, trivial⟩ ?_
  refine jk_sn ?_
  refine jn_cond rfl ?_ ?_
  · refine jn_seq ?_
    refine jn_reg 12 ?_
    refine jg_as rfl rfl rfl ?_
    refine jg_as rfl rfl rfl ?_
    refine jg_as rfl rfl rfl ?_
    refine jg_nils [(4, _), (5, _), (6, _)] ⟨rfl, rfl, rfl, trivial⟩ ?_
    refine jk_sn ?_
    refine jn_ret ?_
    refine jk_sr ?_
    refine jk_addnil 67 2 Moment.enc ?_
    exact jk_ret3 rfl (fun w hs => .tmp rfl) (fun w hs => .tmp rfl) (fun w hs => .tmp rfl) (fun w hs => ⟨(Hd.mk none 0 0), rfl, hs.sel (is := [0]) rfl rfl⟩)
  refine jn_skip ?_
  refine jk_sn ?_
  refine jn_seq ?_
  refine jn_reg 13 ?_
  refine jg_y (fun w hs => yv_fieldAddr rfl) rfl rfl ?_
  refine jg_y (fun w hs => yv_load rfl (ld1B (hs.blkL (i := 0) rfl) rfl)) rfl rfl ?_
  refine jg_y (fun w hs => yv_fieldAddr rfl) rfl rfl ?_
  refine jg_y (fun w hs => yv_load rfl (ld1B (hs.blkL (i := 0) rfl) rfl)) rfl rfl ?_
  refine jg_y (fun w hs => yv_mul_w rfl rfl) rfl rfl ?_
  refine jg_y (fun w hs => yv_build rfl (o2 rfl)) rfl rfl ?_
  refine jg_alloc (l2 rfl) rfl rfl fun g12 => ?_
  refine jg_store 0 rfl rfl rfl (l2 rfl) rfl rfl rfl rfl (l2 rfl) (r2 rfl) ?_
  refine jg_nils [(0, _), (3, _), (10, _)] ⟨rfl, rfl, rfl, trivial⟩ ?_
  refine jk_sn ?_
  refine jn_seq ?_
  refine jn_reg 14 ?_
  refine jg_y (fun w hs => yv_load rfl (ldBB (hs.blkL (i := 0) rfl) rfl)) rfl rfl ?_
  refine jg_lit (enc := Moment.enc) [(Moment.mk 0 (w64 (a1.Speed * a1.Speed)))] rfl rfl rfl rfl rfl rfl rfl rfl fun hd13 => ?_
  refine jg_as rfl rfl rfl ?_
  refine jg_nils [(0, _), (3, _), (10, _), (11, _)] ⟨rfl, rfl, rfl, rfl, trivial⟩ ?_
  refine jk_sn ?_
  refine jn_seq ?_
  refine jn_reg 15 ?_
  refine jg_as rfl rfl rfl ?_
  refine jg_nils [(0, _), (3, _), (10, _), (11, _), (12, _)] ⟨rfl, rfl, rfl, rfl, rfl, trivial⟩ ?_
  refine jk_sn ?_
  refine jn_seq ?_
  refine jn_seq ?_
  refine jn_reg 16 ?_
  refine jg_as rfl rfl rfl ?_
  refine jg_nils [(0, _), (3, _), (10, _), (11, _), (12, _), (13, _)] ⟨rfl, rfl, rfl, rfl, rfl, rfl, trivial⟩ ?_
  refine jk_sn ?_
  refine jn_block ?_
  refine jn_lp (n := big) (fun (s : (Int × Int × (List Moment) × Int × Int)) (g : Hd) => [(0, ha0.v), (3, .pointer (some ⟨g1, 0, none⟩)), (10, .pointer (some ⟨g12, 0, none⟩)), (11, g.v), (12, .int .i64 s.2.2.2.1), (13, .int .i64 s.2.2.2.2)]) (fun (s : (Int × Int × (List Moment) × Int × Int)) (g : Hd) => []) (fun (s : (Int × Int × (List Moment) × Int × Int)) (g : Hd) => [(Res.blk g1 64 [.int .i64 a1.Speed, ha1_Resist.v, ha1_Targets.v]), (Res.blk g12 67 [.int .i64 s.1, .int .i64 s.2.1]), (rowH g 67 2 Moment.enc s.2.2.1)]) (0, w64 (a1.Speed * a1.Speed), ([(Moment.mk 0 (w64 (a1.Speed * a1.Speed)))] : List Moment), 0, 0) hd13 [2, 1, 0] ⟨rfl, rfl, rfl, rfl, rfl, rfl, trivial⟩ rfl rfl rfl ?_
  intro z14 q15 n18 k16 H17
  refine jn_seq ?_
  refine jn_seq ?_
  refine jn_reg 17 ?_
  refine jg_mv rfl rfl rfl ?_
  refine jg_mv rfl rfl rfl ?_
  refine jg_y (fun w hs => yv_ln rfl (hs.arg Rha0)) rfl rfl ?_
  refine jg_y (fun w hs => yv_lss rfl rfl) rfl rfl ?_
  refine jg_nils [(0, _), (3, _), (10, _), (11, _), (12, _), (13, _), (85, _)] ⟨rfl, rfl, rfl, rfl, rfl, rfl, rfl, trivial⟩ ?_
  refine jk_sn ?_
  refine jn_cond rfl ?_ ?_
  rotate_left
  · refine jn_exit ?_
    refine jk_se (jk_le (jk_bh (jk_sn ?_)))
    refine jn_seq ?_
    refine jn_reg 32 ?_
    refine jg_mv rfl rfl rfl ?_
    refine jg_as rfl rfl rfl ?_
    refine jg_as rfl rfl rfl ?_
    refine jg_as rfl rfl rfl ?_
    refine jg_nils [(4, _), (5, _), (6, _)] ⟨rfl, rfl, rfl, trivial⟩ ?_
    refine jk_sel (is := [2]) (s1 rfl) rfl ?_
    refine jk_sn ?_
    refine jn_ret ?_
    exact jk_ret3 rfl (fun w hs => .tmp rfl) (fun w hs => .tmp rfl) (fun w hs => .tmp rfl) (fun w hs => ⟨q15, rfl, hs.sel (is := [0]) rfl rfl⟩)
  refine jn_skip ?_
  refine jk_sn ?_
  refine jn_seq ?_
  refine jn_block ?_
  refine jn_seq ?_
  refine jn_draw (L' := [_, _, _]) 19 [0, 1, 2] [0, 1, 2, 3, 4, 5, 6, 7, 8, 9, 10, 11, 12, 13, 14] 32767 32767 [0, 1, 0, 0, 12, 16, 0, 64, 0, 384, 512, 1056, 2048, 4098, 16383] [0, 1, 0, 0, 12, 28, 0, 64, 0, 448, 960, 2044, 4092, 8191, 16383] [(0, true), (1, true), (2, true), (3, true), (4, true), (5, true), (6, true), (7, true), (8, true), (9, true), (10, true), (11, true), (12, true), (13, true), (14, true)] rfl (np_seq (np_blk (np_seq (np_rnd (np_blk (np_seq np_rt)))))) (by kernel_rfl) (by kernel_rfl) (by kernel_rfl) (by kernel_rfl) (by kernel_rfl) (by kernel_rfl) (by kernel_rfl) (by kernel_rfl) ?_
  refine jd_y rfl (fun w hs => yv_fieldAddr rfl) rfl rfl ?_
  refine jd_y rfl (fun w hs => yv_load rfl (ld1B (hs.blk (i := 1) rfl) rfl)) rfl rfl ?_
  refine jd_mv rfl rfl rfl rfl ?_
  refine jd_mv rfl rfl rfl rfl ?_
  refine jd_ix fun x19 h20 => ?_
  refine jd_y rfl (fun w hs => yv_ix rfl rfl (hs.arg Rha0) h20) rfl rfl ?_
  refine jd_y rfl (fun w hs => yv_eS rfl (hs.arg Rha0) h20.1 (l5 rfl) rfl) rfl rfl ?_
  refine jd_y rfl (fun w hs => yv_fieldAddr rfl) rfl rfl ?_
  refine jd_y rfl (fun w hs => yv_load rfl (ld1B (hs.blk (i := 0) rfl) rfl)) rfl rfl ?_
  refine jd_mv rfl rfl rfl rfl ?_
  refine jd_ix fun x21 h22 => ?_
  refine jd_y rfl (fun w hs => yv_ix rfl rfl (hs.arg Rha1_Resist) h22) rfl rfl ?_
  refine jd_y rfl (fun w hs => yv_e1 rfl (hs.arg Rha1_Resist) h22.1 rfl) rfl rfl ?_
  refine jd_c0 rfl rfl (fun v w hs hm => r20_gain_c (a0 := x19) hm ) rfl rfl fun v23 => ?_
  refine jd_c0 rfl rfl (fun v w hs hm => r01_Down_c hm ) rfl rfl fun v24 => ?_
  refine jd_y rfl (fun w hs => yv_add_w rfl rfl) rfl rfl ?_
  refine jd_as rfl rfl rfl rfl ?_
  refine jd_nils [(0, _), (3, _), (10, _), (11, _), (12, _), (13, _), (14, _)] ⟨rfl, rfl, rfl, rfl, rfl, rfl, rfl, trivial⟩ ?_
  refine jk_sn ?_
  refine jn_seq ?_
  refine jn_seq ?_
  refine jn_reg 20 ?_
  refine jg_mv rfl rfl rfl ?_
  refine jg_y (fun w hs => yv_lss rfl rfl) rfl rfl ?_
  refine jg_nils [(0, _), (3, _), (10, _), (11, _), (12, _), (13, _), (14, _), (103, _)] ⟨rfl, rfl, rfl, rfl, rfl, rfl, rfl, rfl, trivial⟩ ?_
  refine jk_sn ?_
  refine jn_cond rfl ?_ ?_
  · refine jn_seq ?_
    refine jn_reg 21 ?_
    refine jg_mv rfl rfl rfl ?_
    refine jg_mv rfl rfl rfl ?_
    refine jg_as rfl rfl rfl ?_
    refine jg_as rfl rfl rfl ?_
    refine jg_as rfl rfl rfl ?_
    refine jg_nils [(4, _), (5, _), (6, _)] ⟨rfl, rfl, rfl, trivial⟩ ?_
    refine jk_sel (is := [2]) (s1 rfl) rfl ?_
    refine jk_sn ?_
    refine jn_ret ?_
    refine jk_sr (jk_br (jk_sr (jk_lr (jk_br (jk_sr ?_)))))
    exact jk_ret3 rfl (fun w hs => .tmp rfl) (fun w hs => .tmp rfl) (fun w hs => .tmp rfl) (fun w hs => ⟨q15, rfl, hs.sel (is := [0]) rfl rfl⟩)
  refine jn_skip ?_
  refine jk_sn ?_
  refine jn_seq ?_
  refine jn_reg 22 ?_
  refine jg_y (fun w hs => yv_fieldAddr rfl) rfl rfl ?_
  refine jg_y (fun w hs => yv_load rfl (ld1B (hs.blkL (i := 1) rfl) rfl)) rfl rfl ?_
  refine jg_c0 rfl (fun v w hs hm => r01_RootDown_c hm ) rfl rfl fun v25 => ?_
  refine jg_mv rfl rfl rfl ?_
  refine jg_c0 rfl (fun v w hs hm => r01_RootDown_c hm ) rfl rfl fun v26 => ?_
  refine jg_y (fun w hs => yv_add_w rfl rfl) rfl rfl ?_
  refine jg_as rfl rfl rfl ?_
  refine jg_nils [(0, _), (3, _), (10, _), (11, _), (12, _), (13, _), (14, _), (15, _)] ⟨rfl, rfl, rfl, rfl, rfl, rfl, rfl, rfl, trivial⟩ ?_
  refine jk_sn ?_
  refine jn_seq ?_
  refine jn_seq ?_
  refine jn_reg 23 ?_
  refine jg_mv rfl rfl rfl ?_
  refine jg_y (fun w hs => yv_eql rfl rfl) rfl rfl ?_
  refine jg_nils [(0, _), (3, _), (10, _), (11, _), (12, _), (13, _), (14, _), (15, _), (113, _)] ⟨rfl, rfl, rfl, rfl, rfl, rfl, rfl, rfl, rfl, trivial⟩ ?_
  refine jk_sn ?_
  refine jn_cond rfl ?_ ?_
  · refine jn_seq ?_
    refine jn_reg 24 ?_
    refine jg_mv rfl rfl rfl ?_
    refine jg_mv rfl rfl rfl ?_
    refine jg_as rfl rfl rfl ?_
    refine jg_as rfl rfl rfl ?_
    refine jg_as rfl rfl rfl ?_
    refine jg_nils [(4, _), (5, _), (6, _)] ⟨rfl, rfl, rfl, trivial⟩ ?_
    refine jk_sel (is := [2]) (s1 rfl) rfl ?_
    refine jk_sn ?_
    refine jn_ret ?_
    refine jk_sr (jk_br (jk_sr (jk_lr (jk_br (jk_sr ?_)))))
    exact jk_ret3 rfl (fun w hs => .tmp rfl) (fun w hs => .tmp rfl) (fun w hs => .tmp rfl) (fun w hs => ⟨q15, rfl, hs.sel (is := [0]) rfl rfl⟩)
  refine jn_skip ?_
  refine jk_sn ?_
  refine jn_seq ?_
  refine jn_draw (L' := [_, _, _]) 25 [0, 1, 2] [0, 1, 2, 3, 4, 5, 6, 7, 8, 9, 10, 11, 12, 13] 16383 32767 [0, 1, 0, 0, 12, 16, 32, 64, 0, 384, 514, 1024, 0, 6144, 16383] [0, 1, 0, 0, 12, 28, 60, 124, 0, 508, 1023, 2047, 0, 8191, 16383] [(0, true), (1, true), (2, true), (3, true), (4, true), (5, true), (6, true), (7, true), (8, true), (9, true), (10, true), (11, true), (12, true), (13, true), (14, false)] rfl (np_seq (np_blk (np_seq (np_rnd (np_blk (np_seq np_rt)))))) (by kernel_rfl) (by kernel_rfl) (by kernel_rfl) (by kernel_rfl) (by kernel_rfl) (by kernel_rfl) (by kernel_rfl) (by kernel_rfl) ?_
  refine jd_y rfl (fun w hs => yv_fieldAddr rfl) rfl rfl ?_
  refine jd_y rfl (fun w hs => yv_load rfl (ld1B (hs.blk (i := 1) rfl) rfl)) rfl rfl ?_
  refine jd_mv rfl rfl rfl rfl ?_
  refine jd_mv rfl rfl rfl rfl ?_
  refine jd_ix fun x27 h28 => ?_
  refine jd_y rfl (fun w hs => yv_ix rfl rfl (hs.arg Rha0) h28) rfl rfl ?_
  refine jd_y rfl (fun w hs => yv_ef rfl (hs.arg Rha0) h28.1) rfl rfl ?_
  refine jd_y rfl (fun w hs => yv_e1 rfl (hs.arg Rha0) h28.1 rfl) rfl rfl ?_
  refine jd_y rfl (fun w hs => yv_mul_w rfl rfl) rfl rfl ?_
  refine jd_mv rfl rfl rfl rfl ?_
  refine jd_c0 rfl rfl (fun v w hs hm => r01_Up_c hm ) rfl rfl fun v29 => ?_
  refine jd_y rfl (fun w hs => yv_add_w rfl rfl) rfl rfl ?_
  refine jd_yl rfl (fun w hs => yv_min rfl rfl) rfl rfl fun x30 => ?_
  refine jd_mv rfl rfl rfl rfl ?_
  refine jd_y rfl (fun w hs => yv_build rfl (o2 rfl)) rfl rfl ?_
  refine jd_h rfl ?_
  refine jg_store 1 rfl rfl rfl (l2 rfl) rfl rfl rfl rfl (l2 rfl) (r3 rfl) ?_
  refine jg_nil ?_
  refine jk_df rfl ?_
  refine jf_nils [(0, _), (3, _), (10, _), (11, _), (12, _), (13, _)] ⟨rfl, rfl, rfl, rfl, rfl, rfl, trivial⟩ ?_
  refine jk_sn ?_
  refine jn_seq ?_
  refine jn_seq ?_
  refine jn_reg 26 ?_
  refine jg_mv rfl rfl rfl ?_
  refine jg_mv rfl rfl rfl ?_
  refine jg_ix fun x31 h32 => ?_
  refine jg_y (fun w hs => yv_ix rfl rfl (hs.arg Rha0) h32) rfl rfl ?_
  refine jg_y (fun w hs => yv_ef rfl (hs.arg Rha0) h32.1) rfl rfl ?_
  refine jg_y (fun w hs => yv_e1 rfl (hs.arg Rha0) h32.1 rfl) rfl rfl ?_
  refine jg_y (fun w hs => yv_gtr rfl rfl) rfl rfl ?_
  refine jg_nils [(0, _), (3, _), (10, _), (11, _), (12, _), (13, _), (135, _)] ⟨rfl, rfl, rfl, rfl, rfl, rfl, rfl, trivial⟩ ?_
  refine jk_sn ?_
  refine jn_cond rfl ?_ ?_
  rotate_left
  · refine jn_skip ?_
    refine jk_sn ?_
    refine jn_reg 31 ?_
    refine jg_mv rfl rfl rfl ?_
    refine jg_y (fun w hs => yv_load rfl (ldBB (hs.blkL (i := 1) rfl) rfl)) rfl rfl ?_
    refine jg_lit (enc := Moment.enc) [(Moment.mk x30 (w64 (z14.2.1 + v24)))] rfl rfl rfl rfl rfl rfl rfl rfl fun hd45 => ?_
    refine jg_append 3 rfl rfl rfl (fun w hs => (hs.row 0 rfl)) rfl rfl rfl fun y46 hd47 => ?_
    refine jg_L (r4 rfl) ?_
    refine jg_as rfl rfl rfl ?_
    refine jg_nils [(0, _), (3, _), (10, _), (11, _), (12, _), (13, _)] ⟨rfl, rfl, rfl, rfl, rfl, rfl, trivial⟩ ?_
    refine jk_bn (jk_sn ?_)
    refine jn_reg 18 ?_
    refine jg_mv rfl rfl rfl ?_
    refine jg_y (fun w hs => yv_add_w rfl rfl) rfl rfl ?_
    refine jg_as rfl rfl rfl ?_
    refine jg_nils [(0, _), (3, _), (10, _), (11, _), (12, _), (13, _)] ⟨rfl, rfl, rfl, rfl, rfl, rfl, trivial⟩ ?_
    exact jk_use H17 (x30, w64 (z14.2.1 + v24), y46, z14.2.2.2.1, w64 (z14.2.2.2.2 + 1)) hd47 [1, 2, 3] ⟨rfl, rfl, rfl, rfl, rfl, rfl, trivial⟩ rfl rfl rfl
  refine jn_seq ?_
  refine jn_seq ?_
  refine jn_reg 27 ?_
  refine jg_y (fun w hs => yv_fieldAddr rfl) rfl rfl ?_
  refine jg_y (fun w hs => yv_load rfl (ld1B (hs.blkL (i := 0) rfl) rfl)) rfl rfl ?_
  refine jg_mv rfl rfl rfl ?_
  refine jg_ix fun x33 h34 => ?_
  refine jg_y (fun w hs => yv_ix rfl rfl (hs.arg Rha1_Targets) h34) rfl rfl ?_
  refine jg_y (fun w hs => yv_e1 rfl (hs.arg Rha1_Targets) h34.1 rfl) rfl rfl ?_
  refine jg_as rfl rfl rfl ?_
  refine jg_nils [(0, _), (3, _), (10, _), (11, _), (12, _), (13, _), (16, _)] ⟨rfl, rfl, rfl, rfl, rfl, rfl, rfl, trivial⟩ ?_
  refine jk_sn ?_
  refine jn_seq ?_
  refine jn_reg 28 ?_
  refine jg_mv rfl rfl rfl ?_
  refine jg_y (fun w hs => yv_geq rfl rfl) rfl rfl ?_
  refine jg_nils [(0, _), (3, _), (10, _), (11, _), (12, _), (13, _), (16, _), (142, _)] ⟨rfl, rfl, rfl, rfl, rfl, rfl, rfl, rfl, trivial⟩ ?_
  refine jk_sn ?_
  refine jn_cond rfl ?_ ?_
  rotate_left
  · refine jn_skip ?_
    refine jk_sn ?_
    refine jn_reg 30 ?_
    refine jg_mv rfl rfl rfl ?_
    refine jg_y (fun w hs => yv_add_w rfl rfl) rfl rfl ?_
    refine jg_as rfl rfl rfl ?_
    refine jg_nils [(0, _), (3, _), (10, _), (11, _), (12, _), (13, _)] ⟨rfl, rfl, rfl, rfl, rfl, rfl, trivial⟩ ?_
    refine jk_sn ?_
    refine jn_reg 31 ?_
    refine jg_mv rfl rfl rfl ?_
    refine jg_y (fun w hs => yv_load rfl (ldBB (hs.blkL (i := 1) rfl) rfl)) rfl rfl ?_
    refine jg_lit (enc := Moment.enc) [(Moment.mk x30 (w64 (z14.2.1 + v24)))] rfl rfl rfl rfl rfl rfl rfl rfl fun hd42 => ?_
    refine jg_append 3 rfl rfl rfl (fun w hs => (hs.row 0 rfl)) rfl rfl rfl fun y43 hd44 => ?_
    refine jg_L (r4 rfl) ?_
    refine jg_as rfl rfl rfl ?_
    refine jg_nils [(0, _), (3, _), (10, _), (11, _), (12, _), (13, _)] ⟨rfl, rfl, rfl, rfl, rfl, rfl, trivial⟩ ?_
    refine jk_bn (jk_sn ?_)
    refine jn_reg 18 ?_
    refine jg_mv rfl rfl rfl ?_
    refine jg_y (fun w hs => yv_add_w rfl rfl) rfl rfl ?_
    refine jg_as rfl rfl rfl ?_
    refine jg_nils [(0, _), (3, _), (10, _), (11, _), (12, _), (13, _)] ⟨rfl, rfl, rfl, rfl, rfl, rfl, trivial⟩ ?_
    exact jk_use H17 (x30, w64 (z14.2.1 + v24), y43, w64 (z14.2.2.2.1 + 1), w64 (z14.2.2.2.2 + 1)) hd44 [1, 2, 3] ⟨rfl, rfl, rfl, rfl, rfl, rfl, trivial⟩ rfl rfl rfl
  refine jn_draw (L' := [_, _, _]) 29 [0, 1, 2] [0, 1, 2, 3, 4, 5, 6, 7, 8, 9, 10, 11, 12, 13, 14, 15] 65535 131071 [0, 1, 0, 0, 12, 18, 0, 64, 0, 0, 768, 1024, 2048, 4224, 8224, 32767, 65535] [0, 1, 0, 0, 12, 31, 0, 64, 0, 0, 768, 1792, 3840, 8128, 16383, 32767, 65535] [(0, true), (1, true), (2, true), (3, true), (4, true), (5, true), (6, true), (7, true), (8, true), (9, true), (10, true), (11, true), (12, true), (13, true), (14, true), (15, true), (16, false)] rfl (np_seq (np_seq (np_blk (np_seq (np_rnd (np_blk (np_seq np_rt))))))) (by kernel_rfl) (by kernel_rfl) (by kernel_rfl) (by kernel_rfl) (by kernel_rfl) (by kernel_rfl) (by kernel_rfl) (by kernel_rfl) ?_
  refine jd_y rfl (fun w hs => yv_fieldAddr rfl) rfl rfl ?_
  refine jd_y rfl (fun w hs => yv_load rfl (ld1B (hs.blk (i := 1) rfl) rfl)) rfl rfl ?_
  refine jd_mv rfl rfl rfl rfl ?_
  refine jd_mv rfl rfl rfl rfl ?_
  refine jd_y rfl (fun w hs => yv_mul_w rfl rfl) rfl rfl ?_
  refine jd_yl rfl (fun w hs => yv_min rfl rfl) rfl rfl fun x35 => ?_
  refine jd_y rfl (fun w hs => yv_fieldAddr rfl) rfl rfl ?_
  refine jd_y rfl (fun w hs => yv_load rfl (ld1B (hs.blk (i := 1) rfl) rfl)) rfl rfl ?_
  refine jd_mv rfl rfl rfl rfl ?_
  refine jd_mv rfl rfl rfl rfl ?_
  refine jd_ix fun x36 h37 => ?_
  refine jd_y rfl (fun w hs => yv_ix rfl rfl (hs.arg Rha0) h37) rfl rfl ?_
  refine jd_y rfl (fun w hs => yv_ef rfl (hs.arg Rha0) h37.1) rfl rfl ?_
  refine jd_y rfl (fun w hs => yv_e1 rfl (hs.arg Rha0) h37.1 rfl) rfl rfl ?_
  refine jd_yl rfl (fun w hs => yv_sub_w rfl rfl) rfl rfl fun x38 => ?_
  refine jd_y rfl (fun w hs => yv_max rfl rfl) rfl rfl ?_
  refine jd_y rfl (fun w hs => yv_fieldAddr rfl) rfl rfl ?_
  refine jd_h rfl ?_
  refine jg_store 1 rfl rfl rfl (l1 rfl) rfl rfl rfl rfl (l2 rfl) (r3 rfl) ?_
  refine jg_nil ?_
  refine jk_df rfl ?_
  refine jf_nils [(0, _), (3, _), (10, _), (11, _), (12, _), (13, _)] ⟨rfl, rfl, rfl, rfl, rfl, rfl, trivial⟩ ?_
  refine jk_sn ?_
  refine jn_reg 30 ?_
  refine jg_mv rfl rfl rfl ?_
  refine jg_y (fun w hs => yv_add_w rfl rfl) rfl rfl ?_
  refine jg_as rfl rfl rfl ?_
  refine jg_nils [(0, _), (3, _), (10, _), (11, _), (12, _), (13, _)] ⟨rfl, rfl, rfl, rfl, rfl, rfl, trivial⟩ ?_
  refine jk_sn ?_
  refine jn_reg 31 ?_
  refine jg_mv rfl rfl rfl ?_
  refine jg_y (fun w hs => yv_load rfl (ldBB (hs.blkL (i := 1) rfl) rfl)) rfl rfl ?_
  refine jg_lit (enc := Moment.enc) [(Moment.mk x30 (max x35 x38))] rfl rfl rfl rfl rfl rfl rfl rfl fun hd39 => ?_
  refine jg_append 3 rfl rfl rfl (fun w hs => (hs.row 0 rfl)) rfl rfl rfl fun y40 hd41 => ?_
  refine jg_L (r4 rfl) ?_
  refine jg_as rfl rfl rfl ?_
  refine jg_nils [(0, _), (3, _), (10, _), (11, _), (12, _), (13, _)] ⟨rfl, rfl, rfl, rfl, rfl, rfl, trivial⟩ ?_
  refine jk_bn (jk_sn ?_)
  refine jn_reg 18 ?_
  refine jg_mv rfl rfl rfl ?_
  refine jg_y (fun w hs => yv_add_w rfl rfl) rfl rfl ?_
  refine jg_as rfl rfl rfl ?_
  refine jg_nils [(0, _), (3, _), (10, _), (11, _), (12, _), (13, _)] ⟨rfl, rfl, rfl, rfl, rfl, rfl, trivial⟩ ?_
  exact jk_use H17 (x30, max x35 x38, y40, w64 (z14.2.2.2.1 + 1), w64 (z14.2.2.2.2 + 1)) hd41 [1, 2, 3] ⟨rfl, rfl, rfl, rfl, rfl, rfl, trivial⟩ rfl rfl rfl
theorem law32_BowlCouples_c {w : World} {a0 : (List Int)} {a1 : Int} {ha0 : Hd} {v : Bool} (hm : law32_BowlCouples a0 a1 = some v) (Rha0 : Sl w ha0 encI a0) : Gives Try.prog 6 [ha0.v, .int .i64 a1] w (.bool v) := by
  refine j_gives (vs := [ha0.v, .int .i64 a1]) (U := fun (v : Bool) => .bool v) Try.func6 rfl Try.ntmps6 rfl rfl hm ?_
  unfold law32_BowlCouples
  clear hm
  refine jn_seq ?_
  refine jn_reg 0 ?_
  refine jg_as rfl rfl rfl ?_
  refine jg_nils [(0, _), (1, _)] ⟨rfl, rfl, trivial⟩ ?_
  refine jk_sn ?_
  refine jn_seq ?_
  refine jn_reg 1 ?_
  refine jg_mv rfl rfl rfl ?_
  refine jg_c rfl (fun v w hs hm => gen_New_c hm (hs.arg Rha0)) rfl rfl fun v1 q2 => ?_
  refine jg_L (r1 rfl) ?_
  refine jg_as rfl rfl rfl ?_
  refine jg_nils [(1, _), (5, _)] ⟨rfl, rfl, trivial⟩ ?_
  refine jk_sn ?_
  refine jn_seq ?_
  refine jn_reg 2 ?_
  refine jg_mv rfl rfl rfl ?_
  refine jl_c 0 rfl rfl (fun v w hs hm => gen_Maker_Pieces_c hm (hs.blkL (i := 0) rfl) (hs.arg Rha0) (hs.offAL 0 Rha0 rfl)) (fun _ => rfl) rfl rfl fun v3 q4 => ?_
  refine jg_L (r2 rfl) ?_
  refine jg_as rfl rfl rfl ?_
  refine jg_nils [(1, _), (5, _), (6, _)] ⟨rfl, rfl, rfl, trivial⟩ ?_
  refine jk_sn ?_
  refine jn_seq ?_
  refine jn_reg 3 ?_
  refine jg_mv rfl rfl rfl ?_
  refine jg_mv rfl rfl rfl ?_
  refine jg_mv rfl rfl rfl ?_
  refine jg_y (fun w hs => yv_ln rfl (hs.row 0 rfl)) rfl rfl ?_
  refine jg_y (fun w hs => yv_sub_w rfl rfl) rfl rfl ?_
  refine jg_ix fun x5 h6 => ?_
  refine jg_y (fun w hs => yv_ix rfl rfl (hs.row 0 rfl) h6) rfl rfl ?_
  refine jg_y (fun w hs => yv_ef rfl (hs.row 0 rfl) h6.1) rfl rfl ?_
  refine jg_y (fun w hs => yv_e1 rfl (hs.row 0 rfl) h6.1 rfl) rfl rfl ?_
  refine jg_c0 rfl (fun v w hs hm => yardgen_Place_c hm ) rfl rfl fun v7 => ?_
  refine jg_y (fun w hs => yv_add_w rfl rfl) rfl rfl ?_
  refine jg_as rfl rfl rfl ?_
  refine jg_nils [(1, _), (5, _), (6, _)] ⟨rfl, rfl, rfl, trivial⟩ ?_
  refine jk_sn ?_
  refine jn_seq ?_
  refine jn_reg 4 ?_
  refine jg_mv rfl rfl rfl ?_
  refine jg_mv rfl rfl rfl ?_
  refine jl_c 1 rfl rfl (fun v w hs hm => gen_Maker_Motion_c hm (hs.blkL (i := 1) rfl) (hs.arg Rha0) (hs.offAL 1 Rha0 rfl) (hs.row 0 rfl) (hs.offLL 0 1 rfl rfl)) (fun _ => rfl) rfl rfl fun v8 q9 => ?_
  refine jg_L (r4 rfl) ?_
  refine jg_alloc (l5 rfl) rfl rfl fun g10 => ?_
  refine jg_store 0 rfl rfl rfl (l5 rfl) rfl rfl rfl rfl (l5 rfl) (r5 rfl) ?_
  refine jg_nils [(1, _), (5, _), (6, _), (7, _)] ⟨rfl, rfl, rfl, rfl, trivial⟩ ?_
  refine jk_sn ?_
  refine jn_seq ?_
  refine jn_reg 5 ?_
  refine jg_mv rfl rfl rfl ?_
  refine jg_y (fun w hs => yv_load rfl (ldBB (hs.blkL (i := 0) rfl) rfl)) rfl rfl ?_
  refine jg_mv rfl rfl rfl ?_
  refine jg_c0 rfl (fun v w hs hm => bowl_Coupling_c (a1 := v8.1) hm (hs.row 3 rfl) (hs.row 1 rfl) (hs.row 2 rfl)) rfl rfl fun v11 => ?_
  refine jg_mv rfl rfl rfl ?_
  refine jg_y (fun w hs => yv_extract rfl rfl) rfl rfl ?_
  refine jg_y (fun w hs => yv_extract rfl rfl) rfl rfl ?_
  refine jg_alloc (l2 rfl) rfl rfl fun g12 => ?_
  refine jg_store 0 rfl rfl rfl (l2 rfl) rfl rfl rfl rfl (l2 rfl) (r6 rfl) ?_
  refine jg_as rfl rfl rfl ?_
  refine jg_nils [(1, _), (5, _), (6, _), (7, _), (8, _), (9, _)] ⟨rfl, rfl, rfl, rfl, rfl, rfl, trivial⟩ ?_
  refine jk_sn ?_
  refine jn_seq ?_
  refine jn_reg 6 ?_
  refine jg_mv rfl rfl rfl ?_
  refine jg_mv rfl rfl rfl ?_
  refine jg_c rfl (fun v w hs hm => bowl_Shorten_c hm (hs.row 4 rfl)) rfl rfl fun v13 q14 => ?_
  refine jg_L (r7 rfl) ?_
  refine jg_mv rfl rfl rfl ?_
  refine jg_y (fun w hs => yv_extract rfl rfl) rfl rfl ?_
  refine jg_y (fun w hs => yv_extract rfl rfl) rfl rfl ?_
  refine jg_as rfl rfl rfl ?_
  refine jg_as rfl rfl rfl ?_
  refine jg_nils [(5, _), (7, _), (8, _), (9, _), (10, _), (11, _)] ⟨rfl, rfl, rfl, rfl, rfl, rfl, trivial⟩ ?_
  refine jk_sn ?_
  refine jn_seq ?_
  refine jn_join (fun (s : Bool) (g : Unit) => [(5, .pointer (some ⟨q2, 0, none⟩)), (7, .pointer (some ⟨g10, 0, none⟩)), (8, .pointer (some ⟨g12, 0, none⟩)), (9, .int .i64 v11.2), (10, q14.v), (11, .int .i64 v13.2), (51, .bool s)]) (fun (s : Bool) (g : Unit) => []) (fun (s : Bool) (g : Unit) => [(Res.blk q2 75 [ha0.v, .int .i64 v8.2]), (Res.blk g10 37 [.int .i64 v8.1.Speed.Lo, .int .i64 v8.1.Speed.Hi, q9.1.v, .int .i64 v8.1.Error, q9.2.v]), (rowH q9.1 34 2 Interval.enc v8.1.Class), (rowH q9.2 3 1 encI v8.1.Targets), (Res.blk g12 34 [.int .i64 v11.1.Lo, .int .i64 v11.1.Hi]), (rowH q14 43 5 Piece.enc v13.1)]) ?_ ?_
  rotate_left
  · intro k17 H18
    refine jn_reg 7 ?_
    refine jg_mv rfl rfl rfl ?_
    refine jg_y (fun w hs => yv_neq rfl rfl) rfl rfl ?_
    refine jg_mv rfl rfl rfl ?_
    refine jg_split 48 rfl ?_ ?_
    · refine jg_skip rfl rfl ?_
      refine jg_skip rfl rfl ?_
      refine jg_y (fun w hs => yv_pick_t rfl rfl) rfl rfl ?_
      refine jg_nils [(5, _), (7, _), (8, _), (9, _), (10, _), (11, _), (51, _)] ⟨rfl, rfl, rfl, rfl, rfl, rfl, rfl, trivial⟩ ?_
      exact jk_use H18 true () [6, 2, 3, 4, 1, 0] ⟨rfl, rfl, rfl, rfl, rfl, rfl, rfl, trivial⟩ rfl rfl rfl
    refine jg_mv rfl rfl rfl ?_
    refine jg_y (fun w hs => yv_neq rfl rfl) rfl rfl ?_
    refine jg_y (fun w hs => yv_pick_f rfl rfl) rfl rfl ?_
    refine jg_nils [(5, _), (7, _), (8, _), (9, _), (10, _), (11, _), (51, _)] ⟨rfl, rfl, rfl, rfl, rfl, rfl, rfl, trivial⟩ ?_
    exact jk_use H18 (decide (v11.2 ≠ 0)) () [6, 2, 3, 4, 1, 0] ⟨rfl, rfl, rfl, rfl, rfl, rfl, rfl, trivial⟩ rfl rfl rfl
  intro z15 q16
  refine jn_cond rfl ?_ ?_
  · refine jn_seq ?_
    refine jn_reg 8 ?_
    refine jg_mv rfl rfl rfl ?_
    refine jg_y (fun w hs => yv_eql rfl rfl) rfl rfl ?_
    refine jg_mv rfl rfl rfl ?_
    refine jg_split 54 rfl ?_ ?_
    rotate_left
    · refine jg_skip rfl rfl ?_
      refine jg_skip rfl rfl ?_
      refine jg_y (fun w hs => yv_pick_f rfl rfl) rfl rfl ?_
      refine jg_mv rfl rfl rfl ?_
      refine jg_skip rfl rfl ?_
      refine jg_y (fun w hs => yv_pick_f rfl rfl) rfl rfl ?_
      refine jg_as rfl rfl rfl ?_
      refine jg_nils [(4, _)] ⟨rfl, trivial⟩ ?_
      refine jk_sel (is := []) (s0 rfl) rfl ?_
      refine jk_sn ?_
      refine jn_ret ?_
      refine jk_sr ?_
      exact jk_ret1 rfl (fun w hs => .tmp rfl) (fun w hs => ⟨rfl, hs.drop⟩)
    refine jg_mv rfl rfl rfl ?_
    refine jg_y (fun w hs => yv_eql rfl rfl) rfl rfl ?_
    refine jg_y (fun w hs => yv_pick_t rfl rfl) rfl rfl ?_
    refine jg_mv rfl rfl rfl ?_
    refine jg_split 58 rfl ?_ ?_
    · refine jg_c0 rfl (fun v w hs hm => law32_sane_c hm ) rfl rfl fun v19 => ?_
      refine jg_y (fun w hs => yv_pick_t rfl rfl) rfl rfl ?_
      refine jg_as rfl rfl rfl ?_
      refine jg_nils [(4, _)] ⟨rfl, trivial⟩ ?_
      refine jk_sel (is := []) (s0 rfl) rfl ?_
      refine jk_sn ?_
      refine jn_ret ?_
      refine jk_sr ?_
      exact jk_ret1 rfl (fun w hs => .tmp rfl) (fun w hs => ⟨rfl, hs.drop⟩)
    refine jg_skip rfl rfl ?_
    refine jg_y (fun w hs => yv_pick_f rfl rfl) rfl rfl ?_
    refine jg_as rfl rfl rfl ?_
    refine jg_nils [(4, _)] ⟨rfl, trivial⟩ ?_
    refine jk_sel (is := []) (s0 rfl) rfl ?_
    refine jk_sn ?_
    refine jn_ret ?_
    refine jk_sr ?_
    exact jk_ret1 rfl (fun w hs => .tmp rfl) (fun w hs => ⟨rfl, hs.drop⟩)
  refine jn_skip ?_
  refine jk_sn ?_
  refine jn_seq ?_
  refine jn_seq ?_
  refine jn_reg 9 ?_
  refine jg_as rfl rfl rfl ?_
  refine jg_nils [(5, _), (7, _), (8, _), (10, _), (12, _)] ⟨rfl, rfl, rfl, rfl, rfl, trivial⟩ ?_
  refine jk_sn ?_
  refine jn_block ?_
  refine jn_lp (n := big) (fun (s : (Int × Int)) (g : Unit) => [(5, .pointer (some ⟨q2, 0, none⟩)), (7, .pointer (some ⟨g10, 0, none⟩)), (8, .pointer (some ⟨g12, 0, none⟩)), (10, q14.v), (12, .int .i64 s.2)]) (fun (s : (Int × Int)) (g : Unit) => []) (fun (s : (Int × Int)) (g : Unit) => [(Res.blk q2 75 [ha0.v, .int .i64 s.1]), (Res.blk g10 37 [.int .i64 v8.1.Speed.Lo, .int .i64 v8.1.Speed.Hi, q9.1.v, .int .i64 v8.1.Error, q9.2.v]), (rowH q9.1 34 2 Interval.enc v8.1.Class), (rowH q9.2 3 1 encI v8.1.Targets), (Res.blk g12 34 [.int .i64 v11.1.Lo, .int .i64 v11.1.Hi]), (rowH q14 43 5 Piece.enc v13.1)]) (v8.2, 0) () [0, 1, 2, 3, 4, 5] ⟨rfl, rfl, rfl, rfl, rfl, trivial⟩ rfl rfl rfl ?_
  intro z20 q21 n24 k22 H23
  refine jn_seq ?_
  refine jn_seq ?_
  refine jn_reg 10 ?_
  refine jg_mv rfl rfl rfl ?_
  refine jg_y (fun w hs => yv_lss rfl rfl) rfl rfl ?_
  refine jg_nils [(5, _), (7, _), (8, _), (10, _), (12, _), (62, _)] ⟨rfl, rfl, rfl, rfl, rfl, rfl, trivial⟩ ?_
  refine jk_sn ?_
  refine jn_cond rfl ?_ ?_
  rotate_left
  · refine jn_exit ?_
    refine jk_se (jk_le (jk_bh (jk_sn ?_)))
    refine jn_seq ?_
    refine jn_reg 15 ?_
    refine jg_c0 rfl (fun v w hs hm => law32_sane_c hm ) rfl rfl fun v35 => ?_
    refine jg_as rfl rfl rfl ?_
    refine jg_nils [(4, _)] ⟨rfl, trivial⟩ ?_
    refine jk_sel (is := []) (s0 rfl) rfl ?_
    refine jk_sn ?_
    refine jn_ret ?_
    exact jk_ret1 rfl (fun w hs => .tmp rfl) (fun w hs => ⟨rfl, hs.drop⟩)
  refine jn_skip ?_
  refine jk_sn ?_
  refine jn_seq ?_
  refine jn_block ?_
  refine jn_seq ?_
  refine jn_reg 12 ?_
  refine jg_mv rfl rfl rfl ?_
  refine jg_mv rfl rfl rfl ?_
  refine jg_y (fun w hs => yv_load rfl (ldBB (hs.blkL (i := 1) rfl) rfl)) rfl rfl ?_
  refine jl_c 0 rfl rfl (fun v w hs hm => gen_Maker_Run_c (a1 := v8.1) hm (hs.blkL (i := 0) rfl) (hs.arg Rha0) (hs.offAL 0 Rha0 rfl) (hs.row 2 rfl) (hs.offLL 2 0 rfl rfl) (hs.row 3 rfl) (hs.offLL 3 0 rfl rfl)) (fun _ => rfl) rfl rfl fun v25 q26 => ?_
  refine jg_L (r8 rfl) ?_
  refine jg_c rfl (fun v w hs hm => r20_Point_c (a1 := v25.1) hm (hs.row 7 rfl) (hs.row 0 rfl) (hs.row 1 rfl)) rfl rfl fun v27 q28 => ?_
  refine jg_L (r9 rfl) ?_
  refine jg_mv rfl rfl rfl ?_
  refine jg_y (fun w hs => yv_extract rfl rfl) rfl rfl ?_
  refine jg_y (fun w hs => yv_extract rfl rfl) rfl rfl ?_
  refine jg_y (fun w hs => yv_extract rfl rfl) rfl rfl ?_
  refine jg_as rfl rfl rfl ?_
  refine jg_as rfl rfl rfl ?_
  refine jg_as rfl rfl rfl ?_
  refine jg_nils [(5, _), (7, _), (8, _), (10, _), (12, _), (13, _), (14, _), (15, _)] ⟨rfl, rfl, rfl, rfl, rfl, rfl, rfl, rfl, trivial⟩ ?_
  refine jk_sel (is := [0, 3, 4, 5, 6, 7, 8]) (s7 rfl) rfl ?_
  refine jk_sn ?_
  refine jn_seq ?_
  refine jn_draw (L' := [_, _, _, _, _, _, _]) 13 [0, 1, 2, 3, 4, 5, 6] [0, 1, 2, 3, 4, 5, 6, 7, 8, 9, 10, 11, 12, 13, 14, 15, 16, 17, 18, 19, 20, 21, 22, 23, 24, 25, 26, 27, 28, 29, 30, 31, 32, 33, 34, 35, 36, 37] 274877906943 274877906943 [0, 1, 2, 4, 12, 20, 36, 64, 192, 64, 576, 1088, 2368, 4160, 8256, 16384, 16384, 81920, 180224, 278528, 540672, 1064960, 16384, 4210688, 10502144, 16793600, 35651584, 67108864, 67108864, 335544320, 738197504, 1140850688, 2214592512, 4362076160, 67108864, 17246978048, 43016781824, 68786585600] [0, 1, 3, 7, 15, 31, 63, 127, 255, 127, 639, 1663, 4095, 8191, 16383, 32767, 32767, 98303, 262143, 524287, 1048575, 2097151, 32767, 4227071, 16777215, 33554431, 67108863, 134217727, 134217727, 402653183, 1073741823, 2147483647, 4294967295, 8589934591, 134217727, 17314086911, 68719476735, 137438953471] [(0, true), (1, true), (2, true), (3, true), (4, true), (5, true), (6, true), (7, true), (8, true), (9, true), (10, true), (11, true), (12, true), (13, true), (14, true), (15, true), (16, true), (17, true), (18, true), (19, true), (20, true), (21, true), (22, true), (23, true), (24, true), (25, true), (26, true), (27, true), (28, true), (29, true), (30, true), (31, true), (32, true), (33, true), (34, true), (35, true), (36, true), (37, true)] rfl (np_seq (np_blk (np_seq (np_rnd (np_blk (np_seq np_rt)))))) (by kernel_rfl) (by kernel_rfl) (by kernel_rfl) (by kernel_rfl) (by kernel_rfl) (by kernel_rfl) (by kernel_rfl) (by kernel_rfl) ?_
  refine jd_mv rfl rfl rfl rfl ?_
  refine jd_y rfl (fun w hs => yv_neq rfl rfl) rfl rfl ?_
  refine jd_mv rfl rfl rfl rfl ?_
  refine jd_split 76 rfl ?_ ?_
  · refine jd_skip rfl rfl rfl ?_
    refine jd_skip rfl rfl rfl ?_
    refine jd_y rfl (fun w hs => yv_pick_t rfl rfl) rfl rfl ?_
    refine jd_mv rfl rfl rfl rfl ?_
    refine jd_skip rfl rfl rfl ?_
    refine jd_skip rfl rfl rfl ?_
    refine jd_skip rfl rfl rfl ?_
    refine jd_skip rfl rfl rfl ?_
    refine jd_skip rfl rfl rfl ?_
    refine jd_skip rfl rfl rfl ?_
    refine jd_y rfl (fun w hs => yv_pick_t rfl rfl) rfl rfl ?_
    refine jd_mv rfl rfl rfl rfl ?_
    refine jd_skip rfl rfl rfl ?_
    refine jd_skip rfl rfl rfl ?_
    refine jd_skip rfl rfl rfl ?_
    refine jd_skip rfl rfl rfl ?_
    refine jd_skip rfl rfl rfl ?_
    refine jd_skip rfl rfl rfl ?_
    refine jd_skip rfl rfl rfl ?_
    refine jd_skip rfl rfl rfl ?_
    refine jd_skip rfl rfl rfl ?_
    refine jd_skip rfl rfl rfl ?_
    refine jd_y rfl (fun w hs => yv_pick_t rfl rfl) rfl rfl ?_
    refine jd_mv rfl rfl rfl rfl ?_
    refine jd_skip rfl rfl rfl ?_
    refine jd_skip rfl rfl rfl ?_
    refine jd_skip rfl rfl rfl ?_
    refine jd_skip rfl rfl rfl ?_
    refine jd_skip rfl rfl rfl ?_
    refine jd_skip rfl rfl rfl ?_
    refine jd_skip rfl rfl rfl ?_
    refine jd_skip rfl rfl rfl ?_
    refine jd_skip rfl rfl rfl ?_
    refine jd_skip rfl rfl rfl ?_
    refine jd_y rfl (fun w hs => yv_pick_t rfl rfl) rfl rfl ?_
    refine jd_nils [(5, _), (7, _), (8, _), (10, _), (12, _), (111, _)] ⟨rfl, rfl, rfl, rfl, rfl, rfl, trivial⟩ ?_
    refine jk_sn ?_
    refine jn_ct rfl ?_
    refine jn_seq ?_
    refine jn_reg 14 ?_
    refine jg_as rfl rfl rfl ?_
    refine jg_nils [(4, _)] ⟨rfl, trivial⟩ ?_
    refine jk_sel (is := []) (s0 rfl) rfl ?_
    refine jk_sn ?_
    refine jn_ret ?_
    refine jk_br (jk_sr (jk_lr (jk_br (jk_sr ?_))))
    exact jk_ret1 rfl (fun w hs => .tmp rfl) (fun w hs => ⟨rfl, hs.drop⟩)
  refine jd_mv rfl rfl rfl rfl ?_
  refine jd_y rfl (fun w hs => yv_neq rfl rfl) rfl rfl ?_
  refine jd_y rfl (fun w hs => yv_pick_f rfl rfl) rfl rfl ?_
  refine jd_mv rfl rfl rfl rfl ?_
  refine jd_split 80 rfl ?_ ?_
  · refine jd_skip rfl rfl rfl ?_
    refine jd_skip rfl rfl rfl ?_
    refine jd_skip rfl rfl rfl ?_
    refine jd_skip rfl rfl rfl ?_
    refine jd_skip rfl rfl rfl ?_
    refine jd_skip rfl rfl rfl ?_
    refine jd_y rfl (fun w hs => yv_pick_t rfl rfl) rfl rfl ?_
    refine jd_mv rfl rfl rfl rfl ?_
    refine jd_skip rfl rfl rfl ?_
    refine jd_skip rfl rfl rfl ?_
    refine jd_skip rfl rfl rfl ?_
    refine jd_skip rfl rfl rfl ?_
    refine jd_skip rfl rfl rfl ?_
    refine jd_skip rfl rfl rfl ?_
    refine jd_skip rfl rfl rfl ?_
    refine jd_skip rfl rfl rfl ?_
    refine jd_skip rfl rfl rfl ?_
    refine jd_skip rfl rfl rfl ?_
    refine jd_y rfl (fun w hs => yv_pick_t rfl rfl) rfl rfl ?_
    refine jd_mv rfl rfl rfl rfl ?_
    refine jd_skip rfl rfl rfl ?_
    refine jd_skip rfl rfl rfl ?_
    refine jd_skip rfl rfl rfl ?_
    refine jd_skip rfl rfl rfl ?_
    refine jd_skip rfl rfl rfl ?_
    refine jd_skip rfl rfl rfl ?_
    refine jd_skip rfl rfl rfl ?_
    refine jd_skip rfl rfl rfl ?_
    refine jd_skip rfl rfl rfl ?_
    refine jd_skip rfl rfl rfl ?_
    refine jd_y rfl (fun w hs => yv_pick_t rfl rfl) rfl rfl ?_
    refine jd_nils [(5, _), (7, _), (8, _), (10, _), (12, _), (111, _)] ⟨rfl, rfl, rfl, rfl, rfl, rfl, trivial⟩ ?_
    refine jk_sn ?_
    refine jn_ct rfl ?_
    refine jn_seq ?_
    refine jn_reg 14 ?_
    refine jg_as rfl rfl rfl ?_
    refine jg_nils [(4, _)] ⟨rfl, trivial⟩ ?_
    refine jk_sel (is := []) (s0 rfl) rfl ?_
    refine jk_sn ?_
    refine jn_ret ?_
    refine jk_br (jk_sr (jk_lr (jk_br (jk_sr ?_))))
    exact jk_ret1 rfl (fun w hs => .tmp rfl) (fun w hs => ⟨rfl, hs.drop⟩)
  refine jd_mv rfl rfl rfl rfl ?_
  refine jd_y rfl (fun w hs => yv_ln rfl (hs.row 0 rfl)) rfl rfl ?_
  refine jd_mv rfl rfl rfl rfl ?_
  refine jd_y rfl (fun w hs => yv_ln rfl (hs.row 6 rfl)) rfl rfl ?_
  refine jd_y rfl (fun w hs => yv_add_w rfl rfl) rfl rfl ?_
  refine jd_y rfl (fun w hs => yv_neq rfl rfl) rfl rfl ?_
  refine jd_y rfl (fun w hs => yv_pick_f rfl rfl) rfl rfl ?_
  refine jd_mv rfl rfl rfl rfl ?_
  refine jd_split 88 rfl ?_ ?_
  · refine jd_skip rfl rfl rfl ?_
    refine jd_skip rfl rfl rfl ?_
    refine jd_skip rfl rfl rfl ?_
    refine jd_skip rfl rfl rfl ?_
    refine jd_skip rfl rfl rfl ?_
    refine jd_skip rfl rfl rfl ?_
    refine jd_skip rfl rfl rfl ?_
    refine jd_skip rfl rfl rfl ?_
    refine jd_skip rfl rfl rfl ?_
    refine jd_skip rfl rfl rfl ?_
    refine jd_y rfl (fun w hs => yv_pick_t rfl rfl) rfl rfl ?_
    refine jd_mv rfl rfl rfl rfl ?_
    refine jd_skip rfl rfl rfl ?_
    refine jd_skip rfl rfl rfl ?_
    refine jd_skip rfl rfl rfl ?_
    refine jd_skip rfl rfl rfl ?_
    refine jd_skip rfl rfl rfl ?_
    refine jd_skip rfl rfl rfl ?_
    refine jd_skip rfl rfl rfl ?_
    refine jd_skip rfl rfl rfl ?_
    refine jd_skip rfl rfl rfl ?_
    refine jd_skip rfl rfl rfl ?_
    refine jd_y rfl (fun w hs => yv_pick_t rfl rfl) rfl rfl ?_
    refine jd_nils [(5, _), (7, _), (8, _), (10, _), (12, _), (111, _)] ⟨rfl, rfl, rfl, rfl, rfl, rfl, trivial⟩ ?_
    refine jk_sn ?_
    refine jn_ct rfl ?_
    refine jn_seq ?_
    refine jn_reg 14 ?_
    refine jg_as rfl rfl rfl ?_
    refine jg_nils [(4, _)] ⟨rfl, trivial⟩ ?_
    refine jk_sel (is := []) (s0 rfl) rfl ?_
    refine jk_sn ?_
    refine jn_ret ?_
    refine jk_br (jk_sr (jk_lr (jk_br (jk_sr ?_))))
    exact jk_ret1 rfl (fun w hs => .tmp rfl) (fun w hs => ⟨rfl, hs.drop⟩)
  refine jd_mv rfl rfl rfl rfl ?_
  refine jd_mv rfl rfl rfl rfl ?_
  refine jd_y rfl (fun w hs => yv_ln rfl (hs.row 6 rfl)) rfl rfl ?_
  refine jd_ix fun x29 h30 => ?_
  refine jd_y rfl (fun w hs => yv_ix rfl rfl (hs.row 0 rfl) h30) rfl rfl ?_
  refine jd_y rfl (fun w hs => yv_ef rfl (hs.row 0 rfl) h30.1) rfl rfl ?_
  refine jd_y rfl (fun w hs => yv_e1 rfl (hs.row 0 rfl) h30.1 rfl) rfl rfl ?_
  refine jd_c0 rfl rfl (fun v w hs hm => r01_RootDown_c hm ) rfl rfl fun v31 => ?_
  refine jd_y rfl (fun w hs => yv_fieldAddr rfl) rfl rfl ?_
  refine jd_y rfl (fun w hs => yv_load rfl (ld1B (hs.blk (i := 5) rfl) rfl)) rfl rfl ?_
  refine jd_y rfl (fun w hs => yv_lss rfl rfl) rfl rfl ?_
  refine jd_y rfl (fun w hs => yv_pick_f rfl rfl) rfl rfl ?_
  refine jd_mv rfl rfl rfl rfl ?_
  refine jd_split 100 rfl ?_ ?_
  · refine jd_skip rfl rfl rfl ?_
    refine jd_skip rfl rfl rfl ?_
    refine jd_skip rfl rfl rfl ?_
    refine jd_skip rfl rfl rfl ?_
    refine jd_skip rfl rfl rfl ?_
    refine jd_skip rfl rfl rfl ?_
    refine jd_skip rfl rfl rfl ?_
    refine jd_skip rfl rfl rfl ?_
    refine jd_skip rfl rfl rfl ?_
    refine jd_skip rfl rfl rfl ?_
    refine jd_y rfl (fun w hs => yv_pick_t rfl rfl) rfl rfl ?_
    refine jd_nils [(5, _), (7, _), (8, _), (10, _), (12, _), (111, _)] ⟨rfl, rfl, rfl, rfl, rfl, rfl, trivial⟩ ?_
    refine jk_sn ?_
    refine jn_ct rfl ?_
    refine jn_seq ?_
    refine jn_reg 14 ?_
    refine jg_as rfl rfl rfl ?_
    refine jg_nils [(4, _)] ⟨rfl, trivial⟩ ?_
    refine jk_sel (is := []) (s0 rfl) rfl ?_
    refine jk_sn ?_
    refine jn_ret ?_
    refine jk_br (jk_sr (jk_lr (jk_br (jk_sr ?_))))
    exact jk_ret1 rfl (fun w hs => .tmp rfl) (fun w hs => ⟨rfl, hs.drop⟩)
  refine jd_mv rfl rfl rfl rfl ?_
  refine jd_mv rfl rfl rfl rfl ?_
  refine jd_y rfl (fun w hs => yv_ln rfl (hs.row 6 rfl)) rfl rfl ?_
  refine jd_ix fun x32 h33 => ?_
  refine jd_y rfl (fun w hs => yv_ix rfl rfl (hs.row 0 rfl) h33) rfl rfl ?_
  refine jd_y rfl (fun w hs => yv_ef rfl (hs.row 0 rfl) h33.1) rfl rfl ?_
  refine jd_y rfl (fun w hs => yv_e1 rfl (hs.row 0 rfl) h33.1 rfl) rfl rfl ?_
  refine jd_c0 rfl rfl (fun v w hs hm => r01_RootUp_c hm ) rfl rfl fun v34 => ?_
  refine jd_y rfl (fun w hs => yv_fieldAddr rfl) rfl rfl ?_
  refine jd_y rfl (fun w hs => yv_load rfl (ld1B (hs.blk (i := 5) rfl) rfl)) rfl rfl ?_
  refine jd_y rfl (fun w hs => yv_gtr rfl rfl) rfl rfl ?_
  refine jd_y rfl (fun w hs => yv_pick_f rfl rfl) rfl rfl ?_
  refine jd_nils [(5, _), (7, _), (8, _), (10, _), (12, _), (111, _)] ⟨rfl, rfl, rfl, rfl, rfl, rfl, trivial⟩ ?_
  refine jk_sn ?_
  refine jn_cond rfl ?_ ?_
  rotate_left
  · refine jn_skip ?_
    refine jk_bn (jk_sn ?_)
    refine jn_reg 11 ?_
    refine jg_mv rfl rfl rfl ?_
    refine jg_y (fun w hs => yv_add_w rfl rfl) rfl rfl ?_
    refine jg_as rfl rfl rfl ?_
    refine jg_nils [(5, _), (7, _), (8, _), (10, _), (12, _)] ⟨rfl, rfl, rfl, rfl, rfl, trivial⟩ ?_
    exact jk_use H23 (v25.2, w64 (z20.2 + 1)) () [1, 2, 3, 4, 5, 6] ⟨rfl, rfl, rfl, rfl, rfl, trivial⟩ rfl rfl rfl
  refine jn_seq ?_
  refine jn_reg 14 ?_
  refine jg_as rfl rfl rfl ?_
  refine jg_nils [(4, _)] ⟨rfl, trivial⟩ ?_
  refine jk_sel (is := []) (s0 rfl) rfl ?_
  refine jk_sn ?_
  refine jn_ret ?_
  refine jk_br (jk_sr (jk_lr (jk_br (jk_sr ?_))))
  exact jk_ret1 rfl (fun w hs => .tmp rfl) (fun w hs => ⟨rfl, hs.drop⟩)
theorem yardgen_Band_c {w : World} {a0 : HumpgenMaker} {ha0_fl : Hd} {b0 : Nat} {v : (Band × Int)} (hm : yardgen_Band a0 = some v) (Hb : Blk w b0 75 [ha0_fl.v, .int .i64 a0.fn]) (Rha0_fl : Sl w ha0_fl encI a0.fl) (Oha0_fl : Offs ha0_fl [b0]) : Calls Try.prog 30 ([.pointer (some ⟨b0, 0, none⟩)] : List Value).toArray w (fun e w' => ∃ g : Unit, e = .returned (.agg #[.int .i64 v.1.Lo, .int .i64 v.1.Hi]) ∧ St w w' [.blk b0 75 [ha0_fl.v, .int .i64 v.2]] []) := by
  refine j_enter (vs := [.pointer (some ⟨b0, 0, none⟩)]) (R := fun (v : (Band × Int)) (e : Ending) (w' : World) => ∃ g : Unit, e = .returned (.agg #[.int .i64 v.1.Lo, .int .i64 v.1.Hi]) ∧ St w w' [.blk b0 75 [ha0_fl.v, .int .i64 v.2]] []) Try.func30 rfl Try.ntmps30 rfl rfl (mk_st Hb) hm ?_
  unfold yardgen_Band
  clear hm
  refine jn_seq ?_
  refine jn_reg 0 ?_
  refine jg_alloc (l2 rfl) rfl rfl fun g1 => ?_
  refine jg_nils [(0, _), (2, _)] ⟨rfl, rfl, trivial⟩ ?_
  refine jk_sn ?_
  refine jn_seq ?_
  refine jn_reg 1 ?_
  refine jg_mv rfl rfl rfl ?_
  refine jg_lit (enc := encI) [0, 500, 900, 1200, 1500] rfl rfl rfl rfl rfl rfl rfl rfl fun hd2 => ?_
  refine jm_c rfl (fun v w hs hm => gen_Maker_Pick_c hm (hs.blkM (i := 0) rfl) (hs.argM Rha0_fl Oha0_fl) Oha0_fl (hs.row 0 rfl) (hs.offML 0 0 rfl rfl)) (fun _ => rfl) rfl rfl fun v3 q4 => ?_
  refine jg_as rfl rfl rfl ?_
  refine jg_nils [(0, _), (2, _), (3, _)] ⟨rfl, rfl, rfl, trivial⟩ ?_
  refine jk_sn ?_
  refine jn_seq ?_
  refine jn_reg 2 ?_
  refine jg_mv rfl rfl rfl ?_
  refine jg_mv rfl rfl rfl ?_
  refine jg_mv rfl rfl rfl ?_
  refine jg_lit (enc := encI) [0, 300, 800, 2500] rfl rfl rfl rfl rfl rfl rfl rfl fun hd5 => ?_
  refine jm_c rfl (fun v w hs hm => gen_Maker_Pick_c hm (hs.blkM (i := 0) rfl) (hs.argM Rha0_fl Oha0_fl) Oha0_fl (hs.row 0 rfl) (hs.offML 0 0 rfl rfl)) (fun _ => rfl) rfl rfl fun v6 q7 => ?_
  refine jg_y (fun w hs => yv_add_w rfl rfl) rfl rfl ?_
  refine jg_y (fun w hs => yv_build rfl (o2 rfl)) rfl rfl ?_
  refine jg_alloc (l2 rfl) rfl rfl fun g8 => ?_
  refine jg_store 0 rfl rfl rfl (l2 rfl) rfl rfl rfl rfl (l2 rfl) (r4 rfl) ?_
  refine jg_nils [(0, _), (2, _), (4, _)] ⟨rfl, rfl, rfl, trivial⟩ ?_
  refine jk_sel (is := [0, 3]) (s2 rfl) rfl ?_
  refine jk_sn ?_
  refine jn_seq ?_
  refine jn_seq ?_
  refine jn_reg 3 ?_
  refine jg_mv rfl rfl rfl ?_
  refine jm_c rfl (fun v w hs hm => gen_Maker_Next_c hm (hs.blkM (i := 0) rfl) (hs.argM Rha0_fl Oha0_fl) Oha0_fl) (fun _ => rfl) rfl rfl fun v9 q10 => ?_
  refine jg_y (fun w hs => yv_eql rfl rfl) rfl rfl ?_
  refine jg_nils [(0, _), (2, _), (4, _), (17, _)] ⟨rfl, rfl, rfl, rfl, trivial⟩ ?_
  refine jk_sn ?_
  refine jn_cond rfl ?_ ?_
  rotate_left
  · refine jn_skip ?_
    refine jk_sn ?_
    refine jn_seq ?_
    refine jn_reg 5 ?_
    refine jg_y (fun w hs => yv_load rfl (ldBB (hs.blkL (i := 0) rfl) rfl)) rfl rfl ?_
    refine jg_store 1 rfl rfl rfl (l2 rfl) rfl rfl rfl rfl (l2 rfl) (r2 rfl) ?_
    refine jg_nils [(2, _)] ⟨rfl, trivial⟩ ?_
    refine jk_sn ?_
    refine jn_ret ?_
    exact jk_ret1 rfl (fun w hs => .cell rfl (ldBB (hs.blkL (i := 1) rfl) rfl)) (fun w hs => ⟨(), rfl, hs.sel (is := []) rfl rfl⟩)
  refine jn_reg 4 ?_
  refine jg_mv rfl rfl rfl ?_
  refine jg_lit (enc := encI) [(-1), 5, 20000] rfl rfl rfl rfl rfl rfl rfl rfl fun hd11 => ?_
  refine jm_c rfl (fun v w hs hm => gen_Maker_Pick_c hm (hs.blkM (i := 0) rfl) (hs.argM Rha0_fl Oha0_fl) Oha0_fl (hs.row 0 rfl) (hs.offML 0 0 rfl rfl)) (fun _ => rfl) rfl rfl fun v12 q13 => ?_
  refine jg_mv rfl rfl rfl ?_
  refine jg_lit (enc := encI) [4, 20000, 20001] rfl rfl rfl rfl rfl rfl rfl rfl fun hd14 => ?_
  refine jm_c rfl (fun v w hs hm => gen_Maker_Pick_c hm (hs.blkM (i := 0) rfl) (hs.argM Rha0_fl Oha0_fl) Oha0_fl (hs.row 0 rfl) (hs.offML 0 0 rfl rfl)) (fun _ => rfl) rfl rfl fun v15 q16 => ?_
  refine jg_y (fun w hs => yv_build rfl (o2 rfl)) rfl rfl ?_
  refine jg_store 2 rfl rfl rfl (l2 rfl) rfl rfl rfl rfl (l2 rfl) (r4 rfl) ?_
  refine jg_nils [(2, _), (4, _)] ⟨rfl, rfl, trivial⟩ ?_
  refine jk_sel (is := [2, 3]) (s2 rfl) rfl ?_
  refine jk_sn ?_
  refine jn_seq ?_
  refine jn_reg 5 ?_
  refine jg_y (fun w hs => yv_load rfl (ldBB (hs.blkL (i := 0) rfl) rfl)) rfl rfl ?_
  refine jg_store 1 rfl rfl rfl (l2 rfl) rfl rfl rfl rfl (l2 rfl) (r2 rfl) ?_
  refine jg_nils [(2, _)] ⟨rfl, trivial⟩ ?_
  refine jk_sn ?_
  refine jn_ret ?_
  exact jk_ret1 rfl (fun w hs => .cell rfl (ldBB (hs.blkL (i := 1) rfl) rfl)) (fun w hs => ⟨(), rfl, hs.sel (is := []) rfl rfl⟩)
theorem r21_Valid_c {w : World} {a0 : Band}  {v : Bool} (hm : r21_Valid a0 = some v) : Gives Try.prog 55 [.agg #[.int .i64 a0.Lo, .int .i64 a0.Hi]] w (.bool v) := by
  refine j_gives (vs := [.agg #[.int .i64 a0.Lo, .int .i64 a0.Hi]]) (U := fun (v : Bool) => .bool v) Try.func55 rfl Try.ntmps55 rfl rfl hm ?_
  unfold r21_Valid
  clear hm
  refine jn_seq ?_
  refine jn_reg 0 ?_
  refine jg_box rfl (l2 rfl) rfl rfl fun g1 => ?_
  refine jg_as rfl rfl rfl ?_
  refine jg_nils [(1, _)] ⟨rfl, trivial⟩ ?_
  refine jk_sn ?_
  refine jn_seq ?_
  refine jn_reg 1 ?_
  refine jg_y (fun w hs => yv_fieldAddr rfl) rfl rfl ?_
  refine jg_y (fun w hs => yv_load rfl (ld1B (hs.blkL (i := 0) rfl) rfl)) rfl rfl ?_
  refine jg_y (fun w hs => yv_geq rfl rfl) rfl rfl ?_
  refine jg_mv rfl rfl rfl ?_
  refine jg_split 6 rfl ?_ ?_
  rotate_left
  · refine jg_skip rfl rfl ?_
    refine jg_skip rfl rfl ?_
    refine jg_skip rfl rfl ?_
    refine jg_skip rfl rfl ?_
    refine jg_skip rfl rfl ?_
    refine jg_y (fun w hs => yv_pick_f rfl rfl) rfl rfl ?_
    refine jg_mv rfl rfl rfl ?_
    refine jg_skip rfl rfl ?_
    refine jg_skip rfl rfl ?_
    refine jg_skip rfl rfl ?_
    refine jg_y (fun w hs => yv_pick_f rfl rfl) rfl rfl ?_
    refine jg_as rfl rfl rfl ?_
    refine jg_nils [(2, _)] ⟨rfl, trivial⟩ ?_
    refine jk_sn ?_
    refine jn_ret ?_
    exact jk_ret1 rfl (fun w hs => .tmp rfl) (fun w hs => ⟨rfl, hs.drop⟩)
  refine jg_y (fun w hs => yv_fieldAddr rfl) rfl rfl ?_
  refine jg_y (fun w hs => yv_load rfl (ld1B (hs.blkL (i := 0) rfl) rfl)) rfl rfl ?_
  refine jg_y (fun w hs => yv_fieldAddr rfl) rfl rfl ?_
  refine jg_y (fun w hs => yv_load rfl (ld1B (hs.blkL (i := 0) rfl) rfl)) rfl rfl ?_
  refine jg_y (fun w hs => yv_leq rfl rfl) rfl rfl ?_
  refine jg_y (fun w hs => yv_pick_t rfl rfl) rfl rfl ?_
  refine jg_mv rfl rfl rfl ?_
  refine jg_split 13 rfl ?_ ?_
  · refine jg_y (fun w hs => yv_fieldAddr rfl) rfl rfl ?_
    refine jg_y (fun w hs => yv_load rfl (ld1B (hs.blkL (i := 0) rfl) rfl)) rfl rfl ?_
    refine jg_y (fun w hs => yv_leq rfl rfl) rfl rfl ?_
    refine jg_y (fun w hs => yv_pick_t rfl rfl) rfl rfl ?_
    refine jg_as rfl rfl rfl ?_
    refine jg_nils [(2, _)] ⟨rfl, trivial⟩ ?_
    refine jk_sn ?_
    refine jn_ret ?_
    exact jk_ret1 rfl (fun w hs => .tmp rfl) (fun w hs => ⟨rfl, hs.drop⟩)
  refine jg_skip rfl rfl ?_
  refine jg_skip rfl rfl ?_
  refine jg_skip rfl rfl ?_
  refine jg_y (fun w hs => yv_pick_f rfl rfl) rfl rfl ?_
  refine jg_as rfl rfl rfl ?_
  refine jg_nils [(2, _)] ⟨rfl, trivial⟩ ?_
  refine jk_sn ?_
  refine jn_ret ?_
  exact jk_ret1 rfl (fun w hs => .tmp rfl) (fun w hs => ⟨rfl, hs.drop⟩)
theorem r21_With_c {w : World} {a0 : Motion} {a1 : Int} {a2 : Int} {ha0_Class : Hd} {ha0_Targets : Hd} {v : Motion} (hm : r21_With a0 a1 a2 = some v) (Rha0_Class : Sl w ha0_Class Interval.enc a0.Class) (Rha0_Targets : Sl w ha0_Targets encI a0.Targets) : Calls Try.prog 32 ([.agg #[.int .i64 a0.Speed.Lo, .int .i64 a0.Speed.Hi, ha0_Class.v, .int .i64 a0.Error, ha0_Targets.v], .int .i64 a1, .int .i64 a2] : List Value).toArray w (fun e w' => ∃ g : Hd, e = .returned (.agg #[.int .i64 v.Speed.Lo, .int .i64 v.Speed.Hi, ha0_Class.v, .int .i64 v.Error, g.v]) ∧ St w w' [] [(rowH g 3 1 encI v.Targets)]) := by
  refine j_enter (vs := [.agg #[.int .i64 a0.Speed.Lo, .int .i64 a0.Speed.Hi, ha0_Class.v, .int .i64 a0.Error, ha0_Targets.v], .int .i64 a1, .int .i64 a2]) (R := fun (v : Motion) (e : Ending) (w' : World) => ∃ g : Hd, e = .returned (.agg #[.int .i64 v.Speed.Lo, .int .i64 v.Speed.Hi, ha0_Class.v, .int .i64 v.Error, g.v]) ∧ St w w' [] [(rowH g 3 1 encI v.Targets)]) Try.func32 rfl Try.ntmps32 rfl rfl (St.refl w) hm ?_
  unfold r21_With
  clear hm
  refine jn_seq ?_
  refine jn_reg 0 ?_
  refine jg_box rfl (l5 rfl) rfl rfl fun g1 => ?_
  refine jg_alloc (l5 rfl) rfl rfl fun g2 => ?_
  refine jg_nils [(1, _), (2, _), (3, _), (6, _)] ⟨rfl, rfl, rfl, rfl, trivial⟩ ?_
  refine jk_sn ?_
  refine jn_seq ?_
  refine jn_reg 1 ?_
  refine jg_lit0 (enc := encI) rfl rfl fun hd3 => ?_
  refine jg_y (fun w hs => yv_fieldAddr rfl) rfl rfl ?_
  refine jg_y (fun w hs => yv_load rfl (ld1B (hs.blkL (i := 2) rfl) rfl)) rfl rfl ?_
  refine jg_append 0 rfl rfl rfl (fun w hs => (hs.arg Rha0_Targets)) rfl rfl rfl fun y4 hd5 => ?_
  refine jg_L (r3 rfl) ?_
  refine jg_y (fun w hs => yv_fieldAddr rfl) rfl rfl ?_
  refine jg_store 2 rfl rfl rfl (l1 rfl) rfl rfl rfl rfl (l5 rfl) (r3 rfl) ?_
  refine jg_nils [(1, _), (2, _), (3, _), (6, _)] ⟨rfl, rfl, rfl, rfl, trivial⟩ ?_
  refine jk_sn ?_
  refine jn_seq ?_
  refine jn_reg 2 ?_
  refine jg_y (fun w hs => yv_fieldAddr rfl) rfl rfl ?_
  refine jg_y (fun w hs => yv_load rfl (ld1B (hs.blkL (i := 2) rfl) rfl)) rfl rfl ?_
  refine jg_mv rfl rfl rfl ?_
  refine jg_mv rfl rfl rfl ?_
  refine jg_ix fun x6 h7 => ?_
  refine jg_y (fun w hs => yv_ix rfl rfl (hs.row 0 rfl) h7) rfl rfl ?_
  refine jg_storeE 0 (a' := a2) rfl rfl h7.1 rfl (l1 rfl) rfl rfl rfl rfl fun y8 => ?_
  refine jg_L (r3 rfl) ?_
  refine jg_nils [(3, _), (6, _)] ⟨rfl, rfl, trivial⟩ ?_
  refine jk_sn ?_
  refine jn_seq ?_
  refine jn_reg 3 ?_
  refine jg_y (fun w hs => yv_load rfl (ldBB (hs.blkL (i := 2) rfl) rfl)) rfl rfl ?_
  refine jg_store 1 rfl rfl rfl (l5 rfl) rfl rfl rfl rfl (l5 rfl) (r3 rfl) ?_
  refine jg_nils [(6, _)] ⟨rfl, trivial⟩ ?_
  refine jk_sn ?_
  refine jn_ret ?_
  exact jk_ret1 rfl (fun w hs => .cell rfl (ldBB (hs.blkL (i := 1) rfl) rfl)) (fun w hs => ⟨hd5, rfl, hs.sel (is := [0]) rfl rfl⟩)
theorem r21_last_c {w : World} {a0 : (List Piece)} {a1 : Motion} {ha0 : Hd} {ha1_Class : Hd} {ha1_Targets : Hd} {v : Passage} (hm : r21_last a0 a1 = some v) (Rha0 : Sl w ha0 Piece.enc a0) (Rha1_Class : Sl w ha1_Class Interval.enc a1.Class) (Rha1_Targets : Sl w ha1_Targets encI a1.Targets) : Gives Try.prog 58 [ha0.v, .agg #[.int .i64 a1.Speed.Lo, .int .i64 a1.Speed.Hi, ha1_Class.v, .int .i64 a1.Error, ha1_Targets.v]] w (.agg #[.int .i64 v.Time.Lo, .int .i64 v.Time.Hi, .int .i64 v.Energy.Lo, .int .i64 v.Energy.Hi, .bool v.Slow, .bool v.Stops]) := by
  refine j_gives (vs := [ha0.v, .agg #[.int .i64 a1.Speed.Lo, .int .i64 a1.Speed.Hi, ha1_Class.v, .int .i64 a1.Error, ha1_Targets.v]]) (U := fun (v : Passage) => .agg #[.int .i64 v.Time.Lo, .int .i64 v.Time.Hi, .int .i64 v.Energy.Lo, .int .i64 v.Energy.Hi, .bool v.Slow, .bool v.Stops]) Try.func58 rfl Try.ntmps58 rfl rfl hm ?_
  unfold r21_last
  clear hm
  refine jn_seq ?_
  refine jn_reg 0 ?_
  refine jg_box rfl (l5 rfl) rfl rfl fun g1 => ?_
  refine jg_alloc (l6 rfl) rfl rfl fun g2 => ?_
  refine jg_nils [(0, _), (3, _), (4, _)] ⟨rfl, rfl, rfl, trivial⟩ ?_
  refine jk_sn ?_
  refine jn_seq ?_
  refine jn_reg 1 ?_
  refine jg_mv rfl rfl rfl ?_
  refine jg_y (fun w hs => yv_load rfl (ldBB (hs.blkL (i := 1) rfl) rfl)) rfl rfl ?_
  refine jg_c rfl (fun v w hs hm => r20_Pass_c (a1 := a1) hm (hs.arg Rha0) (hs.arg Rha1_Class) (hs.arg Rha1_Targets)) rfl rfl fun v3 q4 => ?_
  refine jg_L (r3 rfl) ?_
  refine jg_mv rfl rfl rfl ?_
  refine jg_y (fun w hs => yv_extract rfl rfl) rfl rfl ?_
  refine jg_y (fun w hs => yv_extract rfl rfl) rfl rfl ?_
  refine jg_as rfl rfl rfl ?_
  refine jg_as rfl rfl rfl ?_
  refine jg_nils [(4, _), (5, _)] ⟨rfl, rfl, trivial⟩ ?_
  refine jk_sn ?_
  refine jn_seq ?_
  refine jn_reg 2 ?_
  refine jg_mv rfl rfl rfl ?_
  refine jg_mv rfl rfl rfl ?_
  refine jg_y (fun w hs => yv_ln rfl (hs.row 0 rfl)) rfl rfl ?_
  refine jg_y (fun w hs => yv_sub_w rfl rfl) rfl rfl ?_
  refine jg_ix fun x5 h6 => ?_
  refine jg_y (fun w hs => yv_ix rfl rfl (hs.row 0 rfl) h6) rfl rfl ?_
  refine jg_y (fun w hs => yv_eS rfl (hs.row 0 rfl) h6.1 (l6 rfl) rfl) rfl rfl ?_
  refine jg_store 1 rfl rfl rfl (l6 rfl) rfl rfl rfl rfl (l6 rfl) (r3 rfl) ?_
  refine jg_nils [(4, _)] ⟨rfl, trivial⟩ ?_
  refine jk_sel (is := [1]) (s1 rfl) rfl ?_
  refine jk_sn ?_
  refine jn_ret ?_
  exact jk_ret1 rfl (fun w hs => .cell rfl (ldBB (hs.blkL (i := 0) rfl) rfl)) (fun w hs => ⟨rfl, hs.drop⟩)
theorem r21_enough_c {w : World} {a0 : Passage} {a1 : Band}  {v : Bool} (hm : r21_enough a0 a1 = some v) : Gives Try.prog 57 [.agg #[.int .i64 a0.Time.Lo, .int .i64 a0.Time.Hi, .int .i64 a0.Energy.Lo, .int .i64 a0.Energy.Hi, .bool a0.Slow, .bool a0.Stops], .agg #[.int .i64 a1.Lo, .int .i64 a1.Hi]] w (.bool v) := by
  refine j_gives (vs := [.agg #[.int .i64 a0.Time.Lo, .int .i64 a0.Time.Hi, .int .i64 a0.Energy.Lo, .int .i64 a0.Energy.Hi, .bool a0.Slow, .bool a0.Stops], .agg #[.int .i64 a1.Lo, .int .i64 a1.Hi]]) (U := fun (v : Bool) => .bool v) Try.func57 rfl Try.ntmps57 rfl rfl hm ?_
  unfold r21_enough
  clear hm
  refine jn_seq ?_
  refine jn_reg 0 ?_
  refine jg_box rfl (l6 rfl) rfl rfl fun g1 => ?_
  refine jg_box rfl (l2 rfl) rfl rfl fun g2 => ?_
  refine jg_as rfl rfl rfl ?_
  refine jg_nils [(2, _), (3, _)] ⟨rfl, rfl, trivial⟩ ?_
  refine jk_sn ?_
  refine jn_seq ?_
  refine jn_reg 1 ?_
  refine jg_y (fun w hs => yv_fieldAddr rfl) rfl rfl ?_
  refine jg_y (fun w hs => yv_load rfl (ld1B (hs.blkL (i := 1) rfl) rfl)) rfl rfl ?_
  refine jg_y (fun w hs => yv_not rfl) rfl rfl ?_
  refine jg_mv rfl rfl rfl ?_
  refine jg_split 8 rfl ?_ ?_
  rotate_left
  · refine jg_skip rfl rfl ?_
    refine jg_skip rfl rfl ?_
    refine jg_skip rfl rfl ?_
    refine jg_y (fun w hs => yv_pick_f rfl rfl) rfl rfl ?_
    refine jg_mv rfl rfl rfl ?_
    refine jg_skip rfl rfl ?_
    refine jg_skip rfl rfl ?_
    refine jg_skip rfl rfl ?_
    refine jg_skip rfl rfl ?_
    refine jg_skip rfl rfl ?_
    refine jg_skip rfl rfl ?_
    refine jg_skip rfl rfl ?_
    refine jg_skip rfl rfl ?_
    refine jg_skip rfl rfl ?_
    refine jg_y (fun w hs => yv_pick_f rfl rfl) rfl rfl ?_
    refine jg_as rfl rfl rfl ?_
    refine jg_nils [(4, _)] ⟨rfl, trivial⟩ ?_
    refine jk_sel (is := []) (s0 rfl) rfl ?_
    refine jk_sn ?_
    refine jn_ret ?_
    exact jk_ret1 rfl (fun w hs => .tmp rfl) (fun w hs => ⟨rfl, hs.drop⟩)
  refine jg_y (fun w hs => yv_fieldAddr rfl) rfl rfl ?_
  refine jg_y (fun w hs => yv_load rfl (ld1B (hs.blkL (i := 1) rfl) rfl)) rfl rfl ?_
  refine jg_y (fun w hs => yv_not rfl) rfl rfl ?_
  refine jg_y (fun w hs => yv_pick_t rfl rfl) rfl rfl ?_
  refine jg_mv rfl rfl rfl ?_
  refine jg_split 13 rfl ?_ ?_
  · refine jg_y (fun w hs => yv_fieldAddr rfl) rfl rfl ?_
    refine jg_y (fun w hs => yv_fieldAddr rfl) rfl rfl ?_
    refine jg_y (fun w hs => yv_load rfl (ld1B (hs.blkL (i := 1) rfl) rfl)) rfl rfl ?_
    refine jg_y (fun w hs => yv_fieldAddr rfl) rfl rfl ?_
    refine jg_y (fun w hs => yv_load rfl (ld1B (hs.blkL (i := 0) rfl) rfl)) rfl rfl ?_
    refine jg_y (fun w hs => yv_fieldAddr rfl) rfl rfl ?_
    refine jg_y (fun w hs => yv_load rfl (ld1B (hs.blkL (i := 0) rfl) rfl)) rfl rfl ?_
    refine jg_y (fun w hs => yv_mul_w rfl rfl) rfl rfl ?_
    refine jg_y (fun w hs => yv_geq rfl rfl) rfl rfl ?_
    refine jg_y (fun w hs => yv_pick_t rfl rfl) rfl rfl ?_
    refine jg_as rfl rfl rfl ?_
    refine jg_nils [(4, _)] ⟨rfl, trivial⟩ ?_
    refine jk_sel (is := []) (s0 rfl) rfl ?_
    refine jk_sn ?_
    refine jn_ret ?_
    exact jk_ret1 rfl (fun w hs => .tmp rfl) (fun w hs => ⟨rfl, hs.drop⟩)
  refine jg_skip rfl rfl ?_
  refine jg_skip rfl rfl ?_
  refine jg_skip rfl rfl ?_
  refine jg_skip rfl rfl ?_
  refine jg_skip rfl rfl ?_
  refine jg_skip rfl rfl ?_
  refine jg_skip rfl rfl ?_
  refine jg_skip rfl rfl ?_
  refine jg_skip rfl rfl ?_
  refine jg_y (fun w hs => yv_pick_f rfl rfl) rfl rfl ?_
  refine jg_as rfl rfl rfl ?_
  refine jg_nils [(4, _)] ⟨rfl, trivial⟩ ?_
  refine jk_sel (is := []) (s0 rfl) rfl ?_
  refine jk_sn ?_
  refine jn_ret ?_
  exact jk_ret1 rfl (fun w hs => .tmp rfl) (fun w hs => ⟨rfl, hs.drop⟩)
theorem r21_gentle_c {w : World} {a0 : Passage} {a1 : Band}  {v : Bool} (hm : r21_gentle a0 a1 = some v) : Gives Try.prog 59 [.agg #[.int .i64 a0.Time.Lo, .int .i64 a0.Time.Hi, .int .i64 a0.Energy.Lo, .int .i64 a0.Energy.Hi, .bool a0.Slow, .bool a0.Stops], .agg #[.int .i64 a1.Lo, .int .i64 a1.Hi]] w (.bool v) := by
  refine j_gives (vs := [.agg #[.int .i64 a0.Time.Lo, .int .i64 a0.Time.Hi, .int .i64 a0.Energy.Lo, .int .i64 a0.Energy.Hi, .bool a0.Slow, .bool a0.Stops], .agg #[.int .i64 a1.Lo, .int .i64 a1.Hi]]) (U := fun (v : Bool) => .bool v) Try.func59 rfl Try.ntmps59 rfl rfl hm ?_
  unfold r21_gentle
  clear hm
  refine jn_seq ?_
  refine jn_reg 0 ?_
  refine jg_box rfl (l6 rfl) rfl rfl fun g1 => ?_
  refine jg_box rfl (l2 rfl) rfl rfl fun g2 => ?_
  refine jg_as rfl rfl rfl ?_
  refine jg_nils [(2, _), (3, _)] ⟨rfl, rfl, trivial⟩ ?_
  refine jk_sn ?_
  refine jn_seq ?_
  refine jn_reg 1 ?_
  refine jg_y (fun w hs => yv_fieldAddr rfl) rfl rfl ?_
  refine jg_y (fun w hs => yv_load rfl (ld1B (hs.blkL (i := 1) rfl) rfl)) rfl rfl ?_
  refine jg_mv rfl rfl rfl ?_
  refine jg_split 7 rfl ?_ ?_
  · refine jg_skip rfl rfl ?_
    refine jg_skip rfl rfl ?_
    refine jg_skip rfl rfl ?_
    refine jg_skip rfl rfl ?_
    refine jg_skip rfl rfl ?_
    refine jg_skip rfl rfl ?_
    refine jg_skip rfl rfl ?_
    refine jg_skip rfl rfl ?_
    refine jg_skip rfl rfl ?_
    refine jg_y (fun w hs => yv_pick_t rfl rfl) rfl rfl ?_
    refine jg_as rfl rfl rfl ?_
    refine jg_nils [(4, _)] ⟨rfl, trivial⟩ ?_
    refine jk_sel (is := []) (s0 rfl) rfl ?_
    refine jk_sn ?_
    refine jn_ret ?_
    exact jk_ret1 rfl (fun w hs => .tmp rfl) (fun w hs => ⟨rfl, hs.drop⟩)
  refine jg_y (fun w hs => yv_fieldAddr rfl) rfl rfl ?_
  refine jg_y (fun w hs => yv_fieldAddr rfl) rfl rfl ?_
  refine jg_y (fun w hs => yv_load rfl (ld1B (hs.blkL (i := 1) rfl) rfl)) rfl rfl ?_
  refine jg_y (fun w hs => yv_fieldAddr rfl) rfl rfl ?_
  refine jg_y (fun w hs => yv_load rfl (ld1B (hs.blkL (i := 0) rfl) rfl)) rfl rfl ?_
  refine jg_y (fun w hs => yv_fieldAddr rfl) rfl rfl ?_
  refine jg_y (fun w hs => yv_load rfl (ld1B (hs.blkL (i := 0) rfl) rfl)) rfl rfl ?_
  refine jg_y (fun w hs => yv_mul_w rfl rfl) rfl rfl ?_
  refine jg_y (fun w hs => yv_leq rfl rfl) rfl rfl ?_
  refine jg_y (fun w hs => yv_pick_f rfl rfl) rfl rfl ?_
  refine jg_as rfl rfl rfl ?_
  refine jg_nils [(4, _)] ⟨rfl, trivial⟩ ?_
  refine jk_sel (is := []) (s0 rfl) rfl ?_
  refine jk_sn ?_
  refine jn_ret ?_
  exact jk_ret1 rfl (fun w hs => .tmp rfl) (fun w hs => ⟨rfl, hs.drop⟩)
theorem r21_Window_c {w : World} {a0 : (List Piece)} {a1 : Motion} {a2 : Int} {a3 : Band} {ha0 : Hd} {ha1_Class : Hd} {ha1_Targets : Hd} {v : (Interval × Int)} (hm : r21_Window a0 a1 a2 a3 = some v) (Rha0 : Sl w ha0 Piece.enc a0) (Rha1_Class : Sl w ha1_Class Interval.enc a1.Class) (Rha1_Targets : Sl w ha1_Targets encI a1.Targets) : Gives Try.prog 31 [ha0.v, .agg #[.int .i64 a1.Speed.Lo, .int .i64 a1.Speed.Hi, ha1_Class.v, .int .i64 a1.Error, ha1_Targets.v], .int .i64 a2, .agg #[.int .i64 a3.Lo, .int .i64 a3.Hi]] w (.tuple #[.agg #[.int .i64 v.1.Lo, .int .i64 v.1.Hi], .int .i64 v.2]) := by
  refine j_gives (vs := [ha0.v, .agg #[.int .i64 a1.Speed.Lo, .int .i64 a1.Speed.Hi, ha1_Class.v, .int .i64 a1.Error, ha1_Targets.v], .int .i64 a2, .agg #[.int .i64 a3.Lo, .int .i64 a3.Hi]]) (U := fun (v : (Interval × Int)) => .tuple #[.agg #[.int .i64 v.1.Lo, .int .i64 v.1.Hi], .int .i64 v.2]) Try.func31 rfl Try.ntmps31 rfl rfl hm ?_
  unfold r21_Window
  clear hm
  refine jn_seq ?_
  refine jn_reg 0 ?_
  refine jg_box rfl (l5 rfl) rfl rfl fun g1 => ?_
  refine jg_box rfl (l2 rfl) rfl rfl fun g2 => ?_
  refine jg_alloc (l2 rfl) rfl rfl fun g3 => ?_
  refine jg_as rfl rfl rfl ?_
  refine jg_nils [(0, _), (2, _), (5, _), (7, _), (8, _)] ⟨rfl, rfl, rfl, rfl, rfl, trivial⟩ ?_
  refine jk_sn ?_
  refine jn_seq ?_
  refine jn_seq ?_
  refine jn_reg 1 ?_
  refine jg_y (fun w hs => yv_load rfl (ldBB (hs.blkL (i := 1) rfl) rfl)) rfl rfl ?_
  refine jg_c0 rfl (fun v w hs hm => r21_Valid_c (a0 := a3) hm ) rfl rfl fun v4 => ?_
  refine jg_y (fun w hs => yv_not rfl) rfl rfl ?_
  refine jg_nils [(0, _), (2, _), (5, _), (7, _), (8, _), (19, _)] ⟨rfl, rfl, rfl, rfl, rfl, rfl, trivial⟩ ?_
  refine jk_sn ?_
  refine jn_cond rfl ?_ ?_
  · refine jn_seq ?_
    refine jn_reg 2 ?_
    refine jg_y (fun w hs => yv_build rfl (o2 rfl)) rfl rfl ?_
    refine jg_store 0 rfl rfl rfl (l2 rfl) rfl rfl rfl rfl (l2 rfl) (r3 rfl) ?_
    refine jg_as rfl rfl rfl ?_
    refine jg_nils [(8, _), (9, _)] ⟨rfl, rfl, trivial⟩ ?_
    refine jk_sel (is := [0]) (s1 rfl) rfl ?_
    refine jk_sn ?_
    refine jn_ret ?_
    refine jk_sr ?_
    exact jk_ret2 rfl (fun w hs => .cell rfl (ldBB (hs.blkL (i := 0) rfl) rfl)) (fun w hs => .tmp rfl) (fun w hs => ⟨rfl, hs.drop⟩)
  refine jn_skip ?_
  refine jk_sn ?_
  refine jn_seq ?_
  refine jn_seq ?_
  refine jn_reg 3 ?_
  refine jg_mv rfl rfl rfl ?_
  refine jg_y (fun w hs => yv_lss rfl rfl) rfl rfl ?_
  refine jg_mv rfl rfl rfl ?_
  refine jg_split 23 rfl ?_ ?_
  · refine jg_skip rfl rfl ?_
    refine jg_skip rfl rfl ?_
    refine jg_skip rfl rfl ?_
    refine jg_skip rfl rfl ?_
    refine jg_skip rfl rfl ?_
    refine jg_y (fun w hs => yv_pick_t rfl rfl) rfl rfl ?_
    refine jg_nils [(0, _), (2, _), (5, _), (7, _), (8, _), (29, _)] ⟨rfl, rfl, rfl, rfl, rfl, rfl, trivial⟩ ?_
    refine jk_sn ?_
    refine jn_ct rfl ?_
    refine jn_seq ?_
    refine jn_reg 4 ?_
    refine jg_y (fun w hs => yv_build rfl (o2 rfl)) rfl rfl ?_
    refine jg_store 0 rfl rfl rfl (l2 rfl) rfl rfl rfl rfl (l2 rfl) (r3 rfl) ?_
    refine jg_as rfl rfl rfl ?_
    refine jg_nils [(8, _), (9, _)] ⟨rfl, rfl, trivial⟩ ?_
    refine jk_sel (is := [0]) (s1 rfl) rfl ?_
    refine jk_sn ?_
    refine jn_ret ?_
    refine jk_sr ?_
    exact jk_ret2 rfl (fun w hs => .cell rfl (ldBB (hs.blkL (i := 0) rfl) rfl)) (fun w hs => .tmp rfl) (fun w hs => ⟨rfl, hs.drop⟩)
  refine jg_mv rfl rfl rfl ?_
  refine jg_y (fun w hs => yv_fieldAddr rfl) rfl rfl ?_
  refine jg_y (fun w hs => yv_load rfl (ld1B (hs.blkL (i := 2) rfl) rfl)) rfl rfl ?_
  refine jg_y (fun w hs => yv_ln rfl (hs.arg Rha1_Targets)) rfl rfl ?_
  refine jg_y (fun w hs => yv_geq rfl rfl) rfl rfl ?_
  refine jg_y (fun w hs => yv_pick_f rfl rfl) rfl rfl ?_
  refine jg_nils [(0, _), (2, _), (5, _), (7, _), (8, _), (29, _)] ⟨rfl, rfl, rfl, rfl, rfl, rfl, trivial⟩ ?_
  refine jk_sn ?_
  refine jn_cond rfl ?_ ?_
  · refine jn_seq ?_
    refine jn_reg 4 ?_
    refine jg_y (fun w hs => yv_build rfl (o2 rfl)) rfl rfl ?_
    refine jg_store 0 rfl rfl rfl (l2 rfl) rfl rfl rfl rfl (l2 rfl) (r3 rfl) ?_
    refine jg_as rfl rfl rfl ?_
    refine jg_nils [(8, _), (9, _)] ⟨rfl, rfl, trivial⟩ ?_
    refine jk_sel (is := [0]) (s1 rfl) rfl ?_
    refine jk_sn ?_
    refine jn_ret ?_
    refine jk_sr ?_
    exact jk_ret2 rfl (fun w hs => .cell rfl (ldBB (hs.blkL (i := 0) rfl) rfl)) (fun w hs => .tmp rfl) (fun w hs => ⟨rfl, hs.drop⟩)
  refine jn_skip ?_
  refine jk_sn ?_
  refine jn_seq ?_
  refine jn_seq ?_
  refine jn_reg 5 ?_
  refine jg_mv rfl rfl rfl ?_
  refine jg_y (fun w hs => yv_load rfl (ldBB (hs.blkL (i := 2) rfl) rfl)) rfl rfl ?_
  refine jg_mv rfl rfl rfl ?_
  refine jg_c rfl (fun v w hs hm => r21_With_c (a0 := a1) hm (hs.arg Rha1_Class) (hs.arg Rha1_Targets)) rfl rfl fun v5 q6 => ?_
  refine jg_L (r4 rfl) ?_
  refine jg_c rfl (fun v w hs hm => r20_Pass_c (a1 := (Motion.mk v5.Speed a1.Class v5.Error v5.Targets)) hm (hs.arg Rha0) (hs.arg Rha1_Class) (hs.row 0 rfl)) rfl rfl fun v7 q8 => ?_
  refine jg_L (r5 rfl) ?_
  refine jg_mv rfl rfl rfl ?_
  refine jg_y (fun w hs => yv_extract rfl rfl) rfl rfl ?_
  refine jg_y (fun w hs => yv_extract rfl rfl) rfl rfl ?_
  refine jg_as rfl rfl rfl ?_
  refine jg_as rfl rfl rfl ?_
  refine jg_nils [(0, _), (2, _), (5, _), (7, _), (8, _), (11, _)] ⟨rfl, rfl, rfl, rfl, rfl, rfl, trivial⟩ ?_
  refine jk_sel (is := [2, 3, 4]) (s3 rfl) rfl ?_
  refine jk_sn ?_
  refine jn_seq ?_
  refine jn_reg 6 ?_
  refine jg_mv rfl rfl rfl ?_
  refine jg_y (fun w hs => yv_neq rfl rfl) rfl rfl ?_
  refine jg_nils [(0, _), (2, _), (5, _), (7, _), (8, _), (11, _), (40, _)] ⟨rfl, rfl, rfl, rfl, rfl, rfl, rfl, trivial⟩ ?_
  refine jk_sn ?_
  refine jn_cond rfl ?_ ?_
  · refine jn_seq ?_
    refine jn_reg 7 ?_
    refine jg_y (fun w hs => yv_build rfl (o2 rfl)) rfl rfl ?_
    refine jg_mv rfl rfl rfl ?_
    refine jg_store 0 rfl rfl rfl (l2 rfl) rfl rfl rfl rfl (l2 rfl) (r3 rfl) ?_
    refine jg_as rfl rfl rfl ?_
    refine jg_nils [(8, _), (9, _)] ⟨rfl, rfl, trivial⟩ ?_
    refine jk_sel (is := [0]) (s1 rfl) rfl ?_
    refine jk_sn ?_
    refine jn_ret ?_
    refine jk_sr ?_
    exact jk_ret2 rfl (fun w hs => .cell rfl (ldBB (hs.blkL (i := 0) rfl) rfl)) (fun w hs => .tmp rfl) (fun w hs => ⟨rfl, hs.drop⟩)
  refine jn_skip ?_
  refine jk_sn ?_
  refine jn_seq ?_
  refine jn_reg 8 ?_
  refine jg_as rfl rfl rfl ?_
  refine jg_as rfl rfl rfl ?_
  refine jg_nils [(0, _), (2, _), (5, _), (7, _), (8, _), (12, _), (13, _)] ⟨rfl, rfl, rfl, rfl, rfl, rfl, rfl, trivial⟩ ?_
  refine jk_sn ?_
  refine jn_join (fun (s : Int) (g : Unit) => [(0, ha0.v), (2, .int .i64 a2), (5, .pointer (some ⟨g1, 0, none⟩)), (7, .pointer (some ⟨g2, 0, none⟩)), (8, .pointer (some ⟨g3, 0, none⟩)), (12, .int .i64 s)]) (fun (s : Int) (g : Unit) => []) (fun (s : Int) (g : Unit) => [(Res.blk g1 37 [.int .i64 a1.Speed.Lo, .int .i64 a1.Speed.Hi, ha1_Class.v, .int .i64 a1.Error, ha1_Targets.v]), (Res.blk g2 69 [.int .i64 a3.Lo, .int .i64 a3.Hi]), (Res.blk g3 34 [.int .i64 0, .int .i64 0])]) ?_ ?_
  rotate_left
  · intro k11 H12
    refine jn_block ?_
    refine jn_lp (n := big) (fun (s : (Int × Int)) (g : Unit) => [(0, ha0.v), (2, .int .i64 a2), (5, .pointer (some ⟨g1, 0, none⟩)), (7, .pointer (some ⟨g2, 0, none⟩)), (8, .pointer (some ⟨g3, 0, none⟩)), (12, .int .i64 s.1), (13, .int .i64 s.2)]) (fun (s : (Int × Int)) (g : Unit) => []) (fun (s : (Int × Int)) (g : Unit) => [(Res.blk g1 37 [.int .i64 a1.Speed.Lo, .int .i64 a1.Speed.Hi, ha1_Class.v, .int .i64 a1.Error, ha1_Targets.v]), (Res.blk g2 69 [.int .i64 a3.Lo, .int .i64 a3.Hi]), (Res.blk g3 34 [.int .i64 0, .int .i64 0])]) (0, 20001) () [2, 1, 0] ⟨rfl, rfl, rfl, rfl, rfl, rfl, rfl, trivial⟩ rfl rfl rfl ?_
    intro z27 q28 n31 k29 H30
    refine jn_seq ?_
    refine jn_seq ?_
    refine jn_reg 9 ?_
    refine jg_mv rfl rfl rfl ?_
    refine jg_mv rfl rfl rfl ?_
    refine jg_y (fun w hs => yv_lss rfl rfl) rfl rfl ?_
    refine jg_nils [(0, _), (2, _), (5, _), (7, _), (8, _), (12, _), (13, _), (45, _)] ⟨rfl, rfl, rfl, rfl, rfl, rfl, rfl, rfl, trivial⟩ ?_
    refine jk_sn ?_
    refine jn_cond rfl ?_ ?_
    rotate_left
    · refine jn_exit ?_
      refine jk_se (jk_le (jk_bh ?_))
      exact jk_use H12 z27.1 () [0, 1, 2] ⟨rfl, rfl, rfl, rfl, rfl, rfl, trivial⟩ rfl rfl rfl
    refine jn_skip ?_
    refine jk_sn ?_
    refine jn_block ?_
    refine jn_seq ?_
    refine jn_reg 10 ?_
    refine jg_mv rfl rfl rfl ?_
    refine jg_mv rfl rfl rfl ?_
    refine jg_y (fun w hs => yv_add_w rfl rfl) rfl rfl ?_
    refine jg_yl (fun w hs => yv_tdiv_w rfl rfl (by decide)) rfl rfl fun x32 => ?_
    refine jg_as rfl rfl rfl ?_
    refine jg_nils [(0, _), (2, _), (5, _), (7, _), (8, _), (12, _), (13, _), (14, _)] ⟨rfl, rfl, rfl, rfl, rfl, rfl, rfl, rfl, trivial⟩ ?_
    refine jk_sn ?_
    refine jn_seq ?_
    refine jn_draw (L' := [_, _, _]) 11 [0, 1, 2] [0, 1, 2, 3, 6, 4, 5, 7] 255 255 [0, 0, 0, 0, 14, 17, 0, 96] [0, 0, 0, 0, 14, 31, 0, 127] [(0, true), (1, true), (2, true), (3, true), (6, true), (4, false), (5, false), (7, true)] rfl (np_seq (np_blk (np_rnd (np_blk (np_seq np_rt))))) (by kernel_rfl) (by kernel_rfl) (by kernel_rfl) (by kernel_rfl) (by kernel_rfl) (by kernel_rfl) (by kernel_rfl) (by kernel_rfl) ?_
    refine jd_mv rfl rfl rfl rfl ?_
    refine jd_y rfl (fun w hs => yv_load rfl (ldBB (hs.blk (i := 0) rfl) rfl)) rfl rfl ?_
    refine jd_mv rfl rfl rfl rfl ?_
    refine jd_mv rfl rfl rfl rfl ?_
    refine jd_y rfl (fun w hs => yv_load rfl (ldBB (hs.blk (i := 1) rfl) rfl)) rfl rfl ?_
    refine jd_h rfl ?_
    refine jg_c rfl (fun v w hs hm => r21_With_c (a0 := a1) hm (hs.arg Rha1_Class) (hs.arg Rha1_Targets)) rfl rfl fun v33 q34 => ?_
    refine jg_L (r4 rfl) ?_
    refine jg_nil ?_
    refine jk_dn [1, 2, 3] rfl ?_
    refine jd_h rfl ?_
    refine jg_c0 rfl (fun v w hs hm => r21_last_c (a1 := (Motion.mk v33.Speed a1.Class v33.Error v33.Targets)) hm (hs.arg Rha0) (hs.arg Rha1_Class) (hs.row 0 rfl)) rfl rfl fun v35 => ?_
    refine jg_nil ?_
    refine jk_dn [1, 2, 3] rfl ?_
    refine jd_c0 rfl rfl (fun v w hs hm => r21_enough_c (a0 := v35) (a1 := a3) hm ) rfl rfl fun v36 => ?_
    refine jd_nils [(0, _), (2, _), (5, _), (7, _), (8, _), (12, _), (13, _), (14, _), (57, _)] ⟨rfl, rfl, rfl, rfl, rfl, rfl, rfl, rfl, rfl, trivial⟩ ?_
    refine jk_sn ?_
    refine jn_cond rfl ?_ ?_
    · refine jn_reg 12 ?_
      refine jg_mv rfl rfl rfl ?_
      refine jg_as rfl rfl rfl ?_
      refine jg_nils [(0, _), (2, _), (5, _), (7, _), (8, _), (12, _), (13, _)] ⟨rfl, rfl, rfl, rfl, rfl, rfl, rfl, trivial⟩ ?_
      refine jk_bn ?_
      exact jk_use H30 (z27.1, x32) () [1, 2, 3] ⟨rfl, rfl, rfl, rfl, rfl, rfl, rfl, trivial⟩ rfl rfl rfl
    refine jn_reg 13 ?_
    refine jg_mv rfl rfl rfl ?_
    refine jg_y (fun w hs => yv_add_w rfl rfl) rfl rfl ?_
    refine jg_as rfl rfl rfl ?_
    refine jg_nils [(0, _), (2, _), (5, _), (7, _), (8, _), (12, _), (13, _)] ⟨rfl, rfl, rfl, rfl, rfl, rfl, rfl, trivial⟩ ?_
    refine jk_bn ?_
    exact jk_use H30 (w64 (x32 + 1), z27.2) () [1, 2, 3] ⟨rfl, rfl, rfl, rfl, rfl, rfl, rfl, trivial⟩ rfl rfl rfl
  intro z9 q10
  refine jn_seq ?_
  refine jn_reg 14 ?_
  refine jg_as rfl rfl rfl ?_
  refine jg_as rfl rfl rfl ?_
  refine jg_nils [(0, _), (2, _), (5, _), (7, _), (8, _), (12, _), (13, _), (15, _)] ⟨rfl, rfl, rfl, rfl, rfl, rfl, rfl, rfl, trivial⟩ ?_
  refine jk_sn ?_
  refine jn_join (fun (s : Int) (g : Unit) => [(8, .pointer (some ⟨g3, 0, none⟩)), (12, .int .i64 z9), (15, .int .i64 s)]) (fun (s : Int) (g : Unit) => []) (fun (s : Int) (g : Unit) => [(Res.blk g3 34 [.int .i64 0, .int .i64 0])]) ?_ ?_
  · intro z13 q14
    refine jn_seq ?_
    refine jn_seq ?_
    refine jn_reg 20 ?_
    refine jg_mv rfl rfl rfl ?_
    refine jg_mv rfl rfl rfl ?_
    refine jg_y (fun w hs => yv_geq rfl rfl) rfl rfl ?_
    refine jg_nils [(8, _), (12, _), (15, _), (81, _)] ⟨rfl, rfl, rfl, rfl, trivial⟩ ?_
    refine jk_sn ?_
    refine jn_cond rfl ?_ ?_
    · refine jn_seq ?_
      refine jn_reg 21 ?_
      refine jg_y (fun w hs => yv_build rfl (o2 rfl)) rfl rfl ?_
      refine jg_store 0 rfl rfl rfl (l2 rfl) rfl rfl rfl rfl (l2 rfl) (r1 rfl) ?_
      refine jg_as rfl rfl rfl ?_
      refine jg_nils [(8, _), (9, _)] ⟨rfl, rfl, trivial⟩ ?_
      refine jk_sn ?_
      refine jn_ret ?_
      refine jk_sr ?_
      exact jk_ret2 rfl (fun w hs => .cell rfl (ldBB (hs.blkL (i := 0) rfl) rfl)) (fun w hs => .tmp rfl) (fun w hs => ⟨rfl, hs.drop⟩)
    refine jn_skip ?_
    refine jk_sn ?_
    refine jn_seq ?_
    refine jn_reg 22 ?_
    refine jg_mv rfl rfl rfl ?_
    refine jg_mv rfl rfl rfl ?_
    refine jg_y (fun w hs => yv_sub_w rfl rfl) rfl rfl ?_
    refine jg_y (fun w hs => yv_build rfl (o2 rfl)) rfl rfl ?_
    refine jg_store 0 rfl rfl rfl (l2 rfl) rfl rfl rfl rfl (l2 rfl) (r1 rfl) ?_
    refine jg_as rfl rfl rfl ?_
    refine jg_nils [(8, _), (9, _)] ⟨rfl, rfl, trivial⟩ ?_
    refine jk_sn ?_
    refine jn_ret ?_
    exact jk_ret2 rfl (fun w hs => .cell rfl (ldBB (hs.blkL (i := 0) rfl) rfl)) (fun w hs => .tmp rfl) (fun w hs => ⟨rfl, hs.drop⟩)
  intro k15 H16
  refine jn_block ?_
  refine jn_lp (n := big) (fun (s : (Int × Int)) (g : Unit) => [(0, ha0.v), (2, .int .i64 a2), (5, .pointer (some ⟨g1, 0, none⟩)), (7, .pointer (some ⟨g2, 0, none⟩)), (8, .pointer (some ⟨g3, 0, none⟩)), (12, .int .i64 z9), (13, .int .i64 s.1), (15, .int .i64 s.2)]) (fun (s : (Int × Int)) (g : Unit) => []) (fun (s : (Int × Int)) (g : Unit) => [(Res.blk g1 37 [.int .i64 a1.Speed.Lo, .int .i64 a1.Speed.Hi, ha1_Class.v, .int .i64 a1.Error, ha1_Targets.v]), (Res.blk g2 69 [.int .i64 a3.Lo, .int .i64 a3.Hi]), (Res.blk g3 34 [.int .i64 0, .int .i64 0])]) (20001, 0) () [0, 1, 2] ⟨rfl, rfl, rfl, rfl, rfl, rfl, rfl, rfl, trivial⟩ rfl rfl rfl ?_
  intro z17 q18 n21 k19 H20
  refine jn_seq ?_
  refine jn_seq ?_
  refine jn_reg 15 ?_
  refine jg_mv rfl rfl rfl ?_
  refine jg_mv rfl rfl rfl ?_
  refine jg_y (fun w hs => yv_lss rfl rfl) rfl rfl ?_
  refine jg_nils [(0, _), (2, _), (5, _), (7, _), (8, _), (12, _), (13, _), (15, _), (63, _)] ⟨rfl, rfl, rfl, rfl, rfl, rfl, rfl, rfl, rfl, trivial⟩ ?_
  refine jk_sn ?_
  refine jn_cond rfl ?_ ?_
  rotate_left
  · refine jn_exit ?_
    refine jk_se (jk_le (jk_bh ?_))
    exact jk_use H16 z17.2 () [2] ⟨rfl, rfl, rfl, trivial⟩ rfl rfl rfl
  refine jn_skip ?_
  refine jk_sn ?_
  refine jn_block ?_
  refine jn_seq ?_
  refine jn_reg 16 ?_
  refine jg_mv rfl rfl rfl ?_
  refine jg_mv rfl rfl rfl ?_
  refine jg_y (fun w hs => yv_add_w rfl rfl) rfl rfl ?_
  refine jg_yl (fun w hs => yv_tdiv_w rfl rfl (by decide)) rfl rfl fun x22 => ?_
  refine jg_as rfl rfl rfl ?_
  refine jg_nils [(0, _), (2, _), (5, _), (7, _), (8, _), (12, _), (13, _), (15, _), (16, _)] ⟨rfl, rfl, rfl, rfl, rfl, rfl, rfl, rfl, rfl, trivial⟩ ?_
  refine jk_sn ?_
  refine jn_seq ?_
  refine jn_draw (L' := [_, _, _]) 17 [0, 1, 2] [0, 1, 2, 3, 6, 4, 5, 7] 255 255 [0, 0, 0, 0, 14, 17, 0, 96] [0, 0, 0, 0, 14, 31, 0, 127] [(0, true), (1, true), (2, true), (3, true), (6, true), (4, false), (5, false), (7, true)] rfl (np_seq (np_blk (np_rnd (np_blk (np_seq np_rt))))) (by kernel_rfl) (by kernel_rfl) (by kernel_rfl) (by kernel_rfl) (by kernel_rfl) (by kernel_rfl) (by kernel_rfl) (by kernel_rfl) ?_
  refine jd_mv rfl rfl rfl rfl ?_
  refine jd_y rfl (fun w hs => yv_load rfl (ldBB (hs.blk (i := 0) rfl) rfl)) rfl rfl ?_
  refine jd_mv rfl rfl rfl rfl ?_
  refine jd_mv rfl rfl rfl rfl ?_
  refine jd_y rfl (fun w hs => yv_load rfl (ldBB (hs.blk (i := 1) rfl) rfl)) rfl rfl ?_
  refine jd_h rfl ?_
  refine jg_c rfl (fun v w hs hm => r21_With_c (a0 := a1) hm (hs.arg Rha1_Class) (hs.arg Rha1_Targets)) rfl rfl fun v23 q24 => ?_
  refine jg_L (r4 rfl) ?_
  refine jg_nil ?_
  refine jk_dn [1, 2, 3] rfl ?_
  refine jd_h rfl ?_
  refine jg_c0 rfl (fun v w hs hm => r21_last_c (a1 := (Motion.mk v23.Speed a1.Class v23.Error v23.Targets)) hm (hs.arg Rha0) (hs.arg Rha1_Class) (hs.row 0 rfl)) rfl rfl fun v25 => ?_
  refine jg_nil ?_
  refine jk_dn [1, 2, 3] rfl ?_
  refine jd_c0 rfl rfl (fun v w hs hm => r21_gentle_c (a0 := v25) (a1 := a3) hm ) rfl rfl fun v26 => ?_
  refine jd_nils [(0, _), (2, _), (5, _), (7, _), (8, _), (12, _), (13, _), (15, _), (16, _), (75, _)] ⟨rfl, rfl, rfl, rfl, rfl, rfl, rfl, rfl, rfl, rfl, trivial⟩ ?_
  refine jk_sn ?_
  refine jn_cond rfl ?_ ?_
  rotate_left
  · refine jn_reg 19 ?_
    refine jg_mv rfl rfl rfl ?_
    refine jg_as rfl rfl rfl ?_
    refine jg_nils [(0, _), (2, _), (5, _), (7, _), (8, _), (12, _), (13, _), (15, _)] ⟨rfl, rfl, rfl, rfl, rfl, rfl, rfl, rfl, trivial⟩ ?_
    refine jk_bn ?_
    exact jk_use H20 (x22, z17.2) () [1, 2, 3] ⟨rfl, rfl, rfl, rfl, rfl, rfl, rfl, rfl, trivial⟩ rfl rfl rfl
  refine jn_reg 18 ?_
  refine jg_mv rfl rfl rfl ?_
  refine jg_y (fun w hs => yv_add_w rfl rfl) rfl rfl ?_
  refine jg_as rfl rfl rfl ?_
  refine jg_nils [(0, _), (2, _), (5, _), (7, _), (8, _), (12, _), (13, _), (15, _)] ⟨rfl, rfl, rfl, rfl, rfl, rfl, rfl, rfl, trivial⟩ ?_
  refine jk_bn ?_
  exact jk_use H20 (z17.1, w64 (x22 + 1)) () [1, 2, 3] ⟨rfl, rfl, rfl, rfl, rfl, rfl, rfl, rfl, trivial⟩ rfl rfl rfl
theorem law32_BowlBands_c {w : World} {a0 : (List Int)} {a1 : Int} {a2 : Int} {ha0 : Hd} {v : Bool} (hm : law32_BowlBands a0 a1 a2 = some v) (Rha0 : Sl w ha0 encI a0) : Gives Try.prog 7 [ha0.v, .int .i64 a1, .int .i64 a2] w (.bool v) := by
  refine j_gives (vs := [ha0.v, .int .i64 a1, .int .i64 a2]) (U := fun (v : Bool) => .bool v) Try.func7 rfl Try.ntmps7 rfl rfl hm ?_
  unfold law32_BowlBands
  clear hm
  refine jn_seq ?_
  refine jn_reg 0 ?_
  refine jg_as rfl rfl rfl ?_
  refine jg_nils [(0, _), (1, _), (2, _)] ⟨rfl, rfl, rfl, trivial⟩ ?_
  refine jk_sn ?_
  refine jn_seq ?_
  refine jn_reg 1 ?_
  refine jg_mv rfl rfl rfl ?_
  refine jg_c rfl (fun v w hs hm => gen_New_c hm (hs.arg Rha0)) rfl rfl fun v1 q2 => ?_
  refine jg_L (r1 rfl) ?_
  refine jg_as rfl rfl rfl ?_
  refine jg_nils [(1, _), (2, _), (7, _)] ⟨rfl, rfl, rfl, trivial⟩ ?_
  refine jk_sn ?_
  refine jn_seq ?_
  refine jn_reg 2 ?_
  refine jg_mv rfl rfl rfl ?_
  refine jl_c 0 rfl rfl (fun v w hs hm => gen_Maker_Pieces_c hm (hs.blkL (i := 0) rfl) (hs.arg Rha0) (hs.offAL 0 Rha0 rfl)) (fun _ => rfl) rfl rfl fun v3 q4 => ?_
  refine jg_L (r2 rfl) ?_
  refine jg_y (fun w hs => yv_build rfl (o5 rfl)) rfl rfl ?_
  refine jg_mv rfl rfl rfl ?_
  refine jg_lit (enc := encI) [0, 20, 60] rfl rfl rfl rfl rfl rfl rfl rfl fun hd5 => ?_
  refine jl_c 2 rfl rfl (fun v w hs hm => gen_Maker_Pick_c hm (hs.blkL (i := 2) rfl) (hs.arg Rha0) (hs.offAL 2 Rha0 rfl) (hs.row 0 rfl) (hs.offLL 0 2 rfl rfl)) (fun _ => rfl) rfl rfl fun v6 q7 => ?_
  refine jg_L (r3 rfl) ?_
  refine jg_y (fun w hs => yv_build rfl (o5 rfl)) rfl rfl ?_
  refine jg_lit (enc := Piece.enc) [(Piece.mk 90 9000 0 0 30000000), (Piece.mk 91 400000 v6.1 0 0)] rfl rfl rfl rfl rfl rfl rfl rfl fun hd8 => ?_
  refine jg_append 2 rfl rfl rfl (fun w hs => (hs.row 0 rfl)) rfl rfl rfl fun y9 hd10 => ?_
  refine jg_L (r4 rfl) ?_
  refine jg_as rfl rfl rfl ?_
  refine jg_nils [(1, _), (2, _), (7, _), (8, _)] ⟨rfl, rfl, rfl, rfl, trivial⟩ ?_
  refine jk_sel (is := [2, 3]) (s2 rfl) rfl ?_
  refine jk_sn ?_
  refine jn_seq ?_
  refine jn_reg 3 ?_
  refine jg_mv rfl rfl rfl ?_
  refine jg_c0 rfl (fun v w hs hm => yardgen_Place_c hm ) rfl rfl fun v11 => ?_
  refine jg_y (fun w hs => yv_add_w rfl rfl) rfl rfl ?_
  refine jg_as rfl rfl rfl ?_
  refine jg_nils [(1, _), (2, _), (7, _), (8, _)] ⟨rfl, rfl, rfl, rfl, trivial⟩ ?_
  refine jk_sn ?_
  refine jn_seq ?_
  refine jn_reg 4 ?_
  refine jg_mv rfl rfl rfl ?_
  refine jg_mv rfl rfl rfl ?_
  refine jl_c 1 rfl rfl (fun v w hs hm => gen_Maker_Motion_c hm (hs.blkL (i := 1) rfl) (hs.arg Rha0) (hs.offAL 1 Rha0 rfl) (hs.row 0 rfl) (hs.offLL 0 1 rfl rfl)) (fun _ => rfl) rfl rfl fun v12 q13 => ?_
  refine jg_L (r4 rfl) ?_
  refine jg_alloc (l5 rfl) rfl rfl fun g14 => ?_
  refine jg_store 0 rfl rfl rfl (l5 rfl) rfl rfl rfl rfl (l5 rfl) (r5 rfl) ?_
  refine jg_nils [(1, _), (2, _), (7, _), (8, _), (9, _)] ⟨rfl, rfl, rfl, rfl, rfl, trivial⟩ ?_
  refine jk_sn ?_
  refine jn_seq ?_
  refine jn_reg 5 ?_
  refine jg_mv rfl rfl rfl ?_
  refine jl_c 4 rfl rfl (fun v w hs hm => yardgen_Band_c hm (hs.blkL (i := 4) rfl) (hs.arg Rha0) (hs.offAL 4 Rha0 rfl)) (fun _ => rfl) rfl rfl fun v15 q16 => ?_
  refine jg_L (r5 rfl) ?_
  refine jg_alloc (l2 rfl) rfl rfl fun g17 => ?_
  refine jg_store 0 rfl rfl rfl (l2 rfl) rfl rfl rfl rfl (l2 rfl) (r6 rfl) ?_
  refine jg_nils [(1, _), (2, _), (8, _), (9, _), (10, _)] ⟨rfl, rfl, rfl, rfl, rfl, trivial⟩ ?_
  refine jk_sn ?_
  refine jn_seq ?_
  refine jn_reg 6 ?_
  refine jg_mv rfl rfl rfl ?_
  refine jg_mv rfl rfl rfl ?_
  refine jg_c rfl (fun v w hs hm => bowl_Shorten_c hm (hs.row 4 rfl)) rfl rfl fun v18 q19 => ?_
  refine jg_L (r7 rfl) ?_
  refine jg_mv rfl rfl rfl ?_
  refine jg_y (fun w hs => yv_extract rfl rfl) rfl rfl ?_
  refine jg_y (fun w hs => yv_extract rfl rfl) rfl rfl ?_
  refine jg_as rfl rfl rfl ?_
  refine jg_as rfl rfl rfl ?_
  refine jg_nils [(1, _), (2, _), (8, _), (9, _), (10, _), (11, _), (12, _)] ⟨rfl, rfl, rfl, rfl, rfl, rfl, rfl, trivial⟩ ?_
  refine jk_sn ?_
  refine jn_seq ?_
  refine jn_seq ?_
  refine jn_reg 7 ?_
  refine jg_mv rfl rfl rfl ?_
  refine jg_y (fun w hs => yv_neq rfl rfl) rfl rfl ?_
  refine jg_nils [(1, _), (2, _), (8, _), (9, _), (10, _), (11, _), (43, _)] ⟨rfl, rfl, rfl, rfl, rfl, rfl, rfl, trivial⟩ ?_
  refine jk_sn ?_
  refine jn_cond rfl ?_ ?_
  · refine jn_seq ?_
    refine jn_reg 8 ?_
    refine jg_as rfl rfl rfl ?_
    refine jg_nils [(6, _)] ⟨rfl, trivial⟩ ?_
    refine jk_sel (is := []) (s0 rfl) rfl ?_
    refine jk_sn ?_
    refine jn_ret ?_
    refine jk_sr ?_
    exact jk_ret1 rfl (fun w hs => .tmp rfl) (fun w hs => ⟨rfl, hs.drop⟩)
  refine jn_skip ?_
  refine jk_sn ?_
  refine jn_seq ?_
  refine jn_reg 9 ?_
  refine jg_y (fun w hs => yv_fieldAddr rfl) rfl rfl ?_
  refine jg_y (fun w hs => yv_load rfl (ld1B (hs.blkL (i := 2) rfl) rfl)) rfl rfl ?_
  refine jg_y (fun w hs => yv_ln rfl (hs.row 4 rfl)) rfl rfl ?_
  refine jg_yl (fun w hs => yv_sub_w rfl rfl) rfl rfl fun x20 => ?_
  refine jg_as rfl rfl rfl ?_
  refine jg_nils [(1, _), (2, _), (8, _), (9, _), (10, _), (11, _), (13, _)] ⟨rfl, rfl, rfl, rfl, rfl, rfl, rfl, trivial⟩ ?_
  refine jk_sn ?_
  refine jn_seq ?_
  refine jn_reg 10 ?_
  refine jg_mv rfl rfl rfl ?_
  refine jg_y (fun w hs => yv_load rfl (ldBB (hs.blkL (i := 2) rfl) rfl)) rfl rfl ?_
  refine jg_mv rfl rfl rfl ?_
  refine jg_y (fun w hs => yv_load rfl (ldBB (hs.blkL (i := 1) rfl) rfl)) rfl rfl ?_
  refine jg_c0 rfl (fun v w hs hm => r21_Window_c (a1 := v12.1) (a3 := v15.1) hm (hs.row 0 rfl) (hs.row 3 rfl) (hs.row 4 rfl)) rfl rfl fun v21 => ?_
  refine jg_mv rfl rfl rfl ?_
  refine jg_y (fun w hs => yv_extract rfl rfl) rfl rfl ?_
  refine jg_y (fun w hs => yv_extract rfl rfl) rfl rfl ?_
  refine jg_alloc (l2 rfl) rfl rfl fun g22 => ?_
  refine jg_store 0 rfl rfl rfl (l2 rfl) rfl rfl rfl rfl (l2 rfl) (r8 rfl) ?_
  refine jg_as rfl rfl rfl ?_
  refine jg_nils [(1, _), (2, _), (8, _), (9, _), (10, _), (12, _), (13, _), (14, _)] ⟨rfl, rfl, rfl, rfl, rfl, rfl, rfl, rfl, trivial⟩ ?_
  refine jk_sel (is := [0, 2, 3, 4, 5, 6]) (s6 rfl) rfl ?_
  refine jk_sn ?_
  refine jn_seq ?_
  refine jn_seq ?_
  refine jn_reg 11 ?_
  refine jg_mv rfl rfl rfl ?_
  refine jg_y (fun w hs => yv_neq rfl rfl) rfl rfl ?_
  refine jg_nils [(1, _), (2, _), (8, _), (9, _), (10, _), (13, _), (14, _), (57, _)] ⟨rfl, rfl, rfl, rfl, rfl, rfl, rfl, rfl, trivial⟩ ?_
  refine jk_sn ?_
  refine jn_cond rfl ?_ ?_
  · refine jn_seq ?_
    refine jn_reg 12 ?_
    refine jg_c0 rfl (fun v w hs hm => law32_sane_c hm ) rfl rfl fun v23 => ?_
    refine jg_as rfl rfl rfl ?_
    refine jg_nils [(6, _)] ⟨rfl, trivial⟩ ?_
    refine jk_sel (is := []) (s0 rfl) rfl ?_
    refine jk_sn ?_
    refine jn_ret ?_
    refine jk_sr ?_
    exact jk_ret1 rfl (fun w hs => .tmp rfl) (fun w hs => ⟨rfl, hs.drop⟩)
  refine jn_skip ?_
  refine jk_sn ?_
  refine jn_join (fun (s : (Int × Int × Int)) (g : Nat) => [(10, .pointer (some ⟨g17, 0, none⟩)), (15, .pointer (some ⟨g, 0, none⟩)), (16, .int .i64 s.2.2)]) (fun (s : (Int × Int × Int)) (g : Nat) => []) (fun (s : (Int × Int × Int)) (g : Nat) => [(Res.blk g17 69 [.int .i64 v15.1.Lo, .int .i64 v15.1.Hi]), (Res.blk g 34 [.int .i64 s.1, .int .i64 s.2.1])]) ?_ ?_
  · intro z24 q25
    refine jn_seq ?_
    refine jn_reg 14 ?_
    refine jg_mv rfl rfl rfl ?_
    refine jg_y (fun w hs => yv_eql rfl rfl) rfl rfl ?_
    refine jg_mv rfl rfl rfl ?_
    refine jg_split 81 rfl ?_ ?_
    rotate_left
    · refine jg_skip rfl rfl ?_
      refine jg_skip rfl rfl ?_
      refine jg_skip rfl rfl ?_
      refine jg_skip rfl rfl ?_
      refine jg_skip rfl rfl ?_
      refine jg_y (fun w hs => yv_pick_f rfl rfl) rfl rfl ?_
      refine jg_mv rfl rfl rfl ?_
      refine jg_skip rfl rfl ?_
      refine jg_skip rfl rfl ?_
      refine jg_skip rfl rfl ?_
      refine jg_skip rfl rfl ?_
      refine jg_skip rfl rfl ?_
      refine jg_y (fun w hs => yv_pick_f rfl rfl) rfl rfl ?_
      refine jg_mv rfl rfl rfl ?_
      refine jg_skip rfl rfl ?_
      refine jg_skip rfl rfl ?_
      refine jg_skip rfl rfl ?_
      refine jg_skip rfl rfl ?_
      refine jg_skip rfl rfl ?_
      refine jg_y (fun w hs => yv_pick_f rfl rfl) rfl rfl ?_
      refine jg_mv rfl rfl rfl ?_
      refine jg_skip rfl rfl ?_
      refine jg_y (fun w hs => yv_pick_f rfl rfl) rfl rfl ?_
      refine jg_as rfl rfl rfl ?_
      refine jg_nils [(6, _)] ⟨rfl, trivial⟩ ?_
      refine jk_sel (is := []) (s0 rfl) rfl ?_
      refine jk_sn ?_
      refine jn_ret ?_
      exact jk_ret1 rfl (fun w hs => .tmp rfl) (fun w hs => ⟨rfl, hs.drop⟩)
    refine jg_y (fun w hs => yv_fieldAddr rfl) rfl rfl ?_
    refine jg_y (fun w hs => yv_load rfl (ld1B (hs.blkL (i := 1) rfl) rfl)) rfl rfl ?_
    refine jg_y (fun w hs => yv_fieldAddr rfl) rfl rfl ?_
    refine jg_y (fun w hs => yv_load rfl (ld1B (hs.blkL (i := 0) rfl) rfl)) rfl rfl ?_
    refine jg_y (fun w hs => yv_geq rfl rfl) rfl rfl ?_
    refine jg_y (fun w hs => yv_pick_t rfl rfl) rfl rfl ?_
    refine jg_mv rfl rfl rfl ?_
    refine jg_split 88 rfl ?_ ?_
    rotate_left
    · refine jg_skip rfl rfl ?_
      refine jg_skip rfl rfl ?_
      refine jg_skip rfl rfl ?_
      refine jg_skip rfl rfl ?_
      refine jg_skip rfl rfl ?_
      refine jg_y (fun w hs => yv_pick_f rfl rfl) rfl rfl ?_
      refine jg_mv rfl rfl rfl ?_
      refine jg_skip rfl rfl ?_
      refine jg_skip rfl rfl ?_
      refine jg_skip rfl rfl ?_
      refine jg_skip rfl rfl ?_
      refine jg_skip rfl rfl ?_
      refine jg_y (fun w hs => yv_pick_f rfl rfl) rfl rfl ?_
      refine jg_mv rfl rfl rfl ?_
      refine jg_skip rfl rfl ?_
      refine jg_y (fun w hs => yv_pick_f rfl rfl) rfl rfl ?_
      refine jg_as rfl rfl rfl ?_
      refine jg_nils [(6, _)] ⟨rfl, trivial⟩ ?_
      refine jk_sel (is := []) (s0 rfl) rfl ?_
      refine jk_sn ?_
      refine jn_ret ?_
      exact jk_ret1 rfl (fun w hs => .tmp rfl) (fun w hs => ⟨rfl, hs.drop⟩)
    refine jg_y (fun w hs => yv_fieldAddr rfl) rfl rfl ?_
    refine jg_y (fun w hs => yv_load rfl (ld1B (hs.blkL (i := 1) rfl) rfl)) rfl rfl ?_
    refine jg_y (fun w hs => yv_fieldAddr rfl) rfl rfl ?_
    refine jg_y (fun w hs => yv_load rfl (ld1B (hs.blkL (i := 0) rfl) rfl)) rfl rfl ?_
    refine jg_y (fun w hs => yv_leq rfl rfl) rfl rfl ?_
    refine jg_y (fun w hs => yv_pick_t rfl rfl) rfl rfl ?_
    refine jg_mv rfl rfl rfl ?_
    refine jg_split 95 rfl ?_ ?_
    rotate_left
    · refine jg_skip rfl rfl ?_
      refine jg_skip rfl rfl ?_
      refine jg_skip rfl rfl ?_
      refine jg_skip rfl rfl ?_
      refine jg_skip rfl rfl ?_
      refine jg_y (fun w hs => yv_pick_f rfl rfl) rfl rfl ?_
      refine jg_mv rfl rfl rfl ?_
      refine jg_skip rfl rfl ?_
      refine jg_y (fun w hs => yv_pick_f rfl rfl) rfl rfl ?_
      refine jg_as rfl rfl rfl ?_
      refine jg_nils [(6, _)] ⟨rfl, trivial⟩ ?_
      refine jk_sel (is := []) (s0 rfl) rfl ?_
      refine jk_sn ?_
      refine jn_ret ?_
      exact jk_ret1 rfl (fun w hs => .tmp rfl) (fun w hs => ⟨rfl, hs.drop⟩)
    refine jg_y (fun w hs => yv_fieldAddr rfl) rfl rfl ?_
    refine jg_y (fun w hs => yv_load rfl (ld1B (hs.blkL (i := 1) rfl) rfl)) rfl rfl ?_
    refine jg_y (fun w hs => yv_fieldAddr rfl) rfl rfl ?_
    refine jg_y (fun w hs => yv_load rfl (ld1B (hs.blkL (i := 1) rfl) rfl)) rfl rfl ?_
    refine jg_y (fun w hs => yv_leq rfl rfl) rfl rfl ?_
    refine jg_y (fun w hs => yv_pick_t rfl rfl) rfl rfl ?_
    refine jg_mv rfl rfl rfl ?_
    refine jg_split 102 rfl ?_ ?_
    · refine jg_c0 rfl (fun v w hs hm => law32_sane_c hm ) rfl rfl fun v28 => ?_
      refine jg_y (fun w hs => yv_pick_t rfl rfl) rfl rfl ?_
      refine jg_as rfl rfl rfl ?_
      refine jg_nils [(6, _)] ⟨rfl, trivial⟩ ?_
      refine jk_sel (is := []) (s0 rfl) rfl ?_
      refine jk_sn ?_
      refine jn_ret ?_
      exact jk_ret1 rfl (fun w hs => .tmp rfl) (fun w hs => ⟨rfl, hs.drop⟩)
    refine jg_skip rfl rfl ?_
    refine jg_y (fun w hs => yv_pick_f rfl rfl) rfl rfl ?_
    refine jg_as rfl rfl rfl ?_
    refine jg_nils [(6, _)] ⟨rfl, trivial⟩ ?_
    refine jk_sel (is := []) (s0 rfl) rfl ?_
    refine jk_sn ?_
    refine jn_ret ?_
    exact jk_ret1 rfl (fun w hs => .tmp rfl) (fun w hs => ⟨rfl, hs.drop⟩)
  intro k26 H27
  refine jn_drawA 13 [0, 1, 2, 3, 4, 5, 6, 7, 8, 9, 10, 11, 12, 13, 14, 15, 16, 17, 18, 19, 20, 21, 22] 8388607 32805 19 [0, 0, 0, 0, 8, 0, 0, 64, 0, 256, 640, 1024, 2080, 4112, 12294, 0, 49153, 65536, 131072, 131072, 0, 1572863, 4194303] [0, 0, 0, 0, 8, 0, 0, 64, 0, 256, 960, 1984, 4064, 8184, 16382, 0, 65535, 131071, 262143, 262143, 0, 1572863, 4194303] [(0, true), (2, true), (5, true), (15, true)] (np_seq np_rt) (by kernel_rfl) (by kernel_rfl) (by kernel_rfl) (by kernel_rfl) (by kernel_rfl) (by kernel_rfl) (by kernel_rfl) (by kernel_rfl) ?_
  refine jt_mv rfl rfl rfl ?_
  refine jt_mv rfl rfl rfl ?_
  refine jt_mv rfl rfl rfl ?_
  refine jt_mv rfl rfl rfl ?_
  refine jd_x ?_
  refine jx_to (L' := [_, _, _, _, _, _]) [1, 3, 4, 6, 7, 8, 9, 10, 11, 12, 13, 14, 16, 17, 18, 19, 20] [21] [0, 1, 2, 3, 4, 5] rfl ?_
  refine jx_lin [0, 1, 2, 3, 4, 5] 2064346 49151 8 [0, 0, 0, 0, 8, 0, 0, 64, 0, 256, 960, 1984, 4064, 8184, 16382, 0, 65535, 131071, 262143, 262143, 0, 1572863, 4194303] [(1, true), (3, true), (4, true), (6, true), (7, true), (8, true), (9, true), (10, true), (11, true), (12, true), (13, true)] rfl (np_seq np_rt) (by kernel_rfl) (by kernel_rfl) (by kernel_rfl) (by kernel_rfl) (by kernel_rfl) (by kernel_rfl) (by kernel_rfl) (by kernel_rfl) (by kernel_rfl) ?_
  refine jd_y rfl (fun w hs => yv_load rfl (ldBB (hs.blk (i := 2) rfl) rfl)) rfl rfl ?_
  refine jd_y rfl (fun w hs => yv_fieldAddr rfl) rfl rfl ?_
  refine jd_y rfl (fun w hs => yv_load rfl (ld1B (hs.blk (i := 0) rfl) rfl)) rfl rfl ?_
  refine jd_y rfl (fun w hs => yv_fieldAddr rfl) rfl rfl ?_
  refine jd_y rfl (fun w hs => yv_load rfl (ld1B (hs.blk (i := 0) rfl) rfl)) rfl rfl ?_
  refine jd_y rfl (fun w hs => yv_fieldAddr rfl) rfl rfl ?_
  refine jd_y rfl (fun w hs => yv_load rfl (ld1B (hs.blk (i := 0) rfl) rfl)) rfl rfl ?_
  refine jd_y rfl (fun w hs => yv_sub_w rfl rfl) rfl rfl ?_
  refine jd_yl rfl (fun w hs => yv_add_w rfl rfl) rfl rfl fun x249 => ?_
  refine jd_c0 rfl rfl (fun v w hs hm => yardgen_Place_c hm ) rfl rfl fun v269 => ?_
  refine jd_y rfl (fun w hs => yv_add_w rfl rfl) rfl rfl ?_
  refine jd_x ?_
  refine jx2 (i := 14) (i2 := 20) (by kernel_rfl) (by kernel_rfl) rfl rfl ?_ ?_
  · refine jg_c rfl (fun v w hs hm => r21_With_c (a0 := v12.1) hm (hs.row 3 rfl) (hs.row 4 rfl)) rfl rfl fun v309 q310 => ?_
    refine jg_L (r7 rfl) ?_
    refine jg_nil ?_
    refine jk_xn [1, 2, 3, 4, 5, 6] rfl ?_
    refine jx2 (i := 16) (i2 := 20) (by kernel_rfl) (by kernel_rfl) rfl rfl ?_ ?_
    · refine jg_c0 rfl (fun v w hs hm => bowl_Coupling_c (a1 := (Motion.mk v309.Speed v12.1.Class v309.Error v309.Targets)) hm (hs.row 6 rfl) (hs.row 4 rfl) (hs.row 0 rfl)) rfl rfl fun v349 => ?_
      refine jg_nil ?_
      refine jk_xn [1, 2, 3, 4, 5, 6] rfl ?_
      refine jx_lin [1, 2, 3, 4, 5, 6] 2064346 524287 4 [0, 0, 0, 0, 8, 0, 0, 64, 0, 256, 960, 1984, 4064, 8184, 16382, 0, 65535, 131071, 262143, 262143, 0, 1572863, 4194303] [(17, true), (18, true)] rfl (np_seq np_rt) (by kernel_rfl) (by kernel_rfl) (by kernel_rfl) (by kernel_rfl) (by kernel_rfl) (by kernel_rfl) (by kernel_rfl) (by kernel_rfl) (by kernel_rfl) ?_
      refine jd_mv rfl rfl rfl rfl ?_
      refine jd_y rfl (fun w hs => yv_extract rfl rfl) rfl rfl ?_
      refine jd_x ?_
      refine jx2 (i := 19) (i2 := 20) (by kernel_rfl) (by kernel_rfl) rfl rfl ?_ ?_
      · refine jg_y (fun w hs => yv_extract rfl rfl) rfl rfl ?_
        refine jg_nil ?_
        refine jk_xn [1, 2, 3, 4, 5, 6] rfl ?_
        refine jx1 (i := 20) (by kernel_rfl) (by kernel_rfl) rfl ?_
        refine jg_alloc (l2 rfl) rfl rfl fun g429 => ?_
        refine jg_nil ?_
        refine jk_xn [2, 3, 4, 5, 6, 7] rfl ?_
        refine jx1 (i := 21) (by kernel_rfl) (by kernel_rfl) rfl ?_
        refine jg_store 0 rfl rfl rfl (l2 rfl) rfl rfl rfl rfl (l2 rfl) (r8 rfl) ?_
        refine jg_nil ?_
        refine jk_xf (by kernel_rfl) ?_
        refine jx1 (i := 22) (by kernel_rfl) (by kernel_rfl) rfl ?_
        refine jg_as rfl rfl rfl ?_
        refine jg_nil ?_
        refine jk_xf (by kernel_rfl) ?_
        refine jx0 [(10, _), (15, _), (16, _)] ⟨rfl, rfl, rfl, trivial⟩ (by kernel_rfl) (by kernel_rfl) ?_
        refine jk_sel (is := [0, 3]) (s2 rfl) rfl ?_
        exact jk_use H27 (v349.1.Lo, v349.1.Hi, v349.2) g429 [1, 0] ⟨rfl, rfl, rfl, trivial⟩ rfl rfl rfl
      refine jg_alloc (l2 rfl) rfl rfl fun g429 => ?_
      refine jg_nil ?_
      refine jk_xn [2, 3, 4, 5, 6, 7] rfl ?_
      refine jx2 (i := 19) (i2 := 21) (by kernel_rfl) (by kernel_rfl) rfl rfl ?_ ?_
      · refine jg_y (fun w hs => yv_extract rfl rfl) rfl rfl ?_
        refine jg_nil ?_
        refine jk_xn [2, 3, 4, 5, 6, 7] rfl ?_
        refine jx1 (i := 21) (by kernel_rfl) (by kernel_rfl) rfl ?_
        refine jg_store 0 rfl rfl rfl (l2 rfl) rfl rfl rfl rfl (l2 rfl) (r8 rfl) ?_
        refine jg_nil ?_
        refine jk_xf (by kernel_rfl) ?_
        refine jx1 (i := 22) (by kernel_rfl) (by kernel_rfl) rfl ?_
        refine jg_as rfl rfl rfl ?_
        refine jg_nil ?_
        refine jk_xf (by kernel_rfl) ?_
        refine jx0 [(10, _), (15, _), (16, _)] ⟨rfl, rfl, rfl, trivial⟩ (by kernel_rfl) (by kernel_rfl) ?_
        refine jk_sel (is := [0, 3]) (s2 rfl) rfl ?_
        exact jk_use H27 (v349.1.Lo, v349.1.Hi, v349.2) g429 [1, 0] ⟨rfl, rfl, rfl, trivial⟩ rfl rfl rfl
      refine jg_store 0 rfl rfl rfl (l2 rfl) rfl rfl rfl rfl (l2 rfl) (r8 rfl) ?_
      refine jg_nil ?_
      refine jk_xf (by kernel_rfl) ?_
      refine jx1 (i := 19) (by kernel_rfl) (by kernel_rfl) rfl ?_
      refine jg_y (fun w hs => yv_extract rfl rfl) rfl rfl ?_
      refine jg_nil ?_
      refine jk_xf (by kernel_rfl) ?_
      refine jx1 (i := 22) (by kernel_rfl) (by kernel_rfl) rfl ?_
      refine jg_as rfl rfl rfl ?_
      refine jg_nil ?_
      refine jk_xf (by kernel_rfl) ?_
      refine jx0 [(10, _), (15, _), (16, _)] ⟨rfl, rfl, rfl, trivial⟩ (by kernel_rfl) (by kernel_rfl) ?_
      refine jk_sel (is := [0, 3]) (s2 rfl) rfl ?_
      exact jk_use H27 (v349.1.Lo, v349.1.Hi, v349.2) g429 [1, 0] ⟨rfl, rfl, rfl, trivial⟩ rfl rfl rfl
    refine jg_alloc (l2 rfl) rfl rfl fun g429 => ?_
    refine jg_nil ?_
    refine jk_xn [2, 3, 4, 5, 6, 7] rfl ?_
    refine jx1 (i := 16) (by kernel_rfl) (by kernel_rfl) rfl ?_
    refine jg_c0 rfl (fun v w hs hm => bowl_Coupling_c (a1 := (Motion.mk v309.Speed v12.1.Class v309.Error v309.Targets)) hm (hs.row 7 rfl) (hs.row 5 rfl) (hs.row 1 rfl)) rfl rfl fun v349 => ?_
    refine jg_nil ?_
    refine jk_xn [2, 3, 4, 5, 6, 7] rfl ?_
    refine jx_lin [2, 3, 4, 5, 6, 7] 2064346 1572863 3 [0, 0, 0, 0, 8, 0, 0, 64, 0, 256, 960, 1984, 4064, 8184, 16382, 0, 65535, 131071, 262143, 262143, 0, 1572863, 4194303] [(17, true), (18, true)] rfl (np_seq np_rt) (by kernel_rfl) (by kernel_rfl) (by kernel_rfl) (by kernel_rfl) (by kernel_rfl) (by kernel_rfl) (by kernel_rfl) (by kernel_rfl) (by kernel_rfl) ?_
    refine jd_mv rfl rfl rfl rfl ?_
    refine jd_y rfl (fun w hs => yv_extract rfl rfl) rfl rfl ?_
    refine jd_x ?_
    refine jx2 (i := 19) (i2 := 21) (by kernel_rfl) (by kernel_rfl) rfl rfl ?_ ?_
    · refine jg_y (fun w hs => yv_extract rfl rfl) rfl rfl ?_
      refine jg_nil ?_
      refine jk_xn [2, 3, 4, 5, 6, 7] rfl ?_
      refine jx1 (i := 21) (by kernel_rfl) (by kernel_rfl) rfl ?_
      refine jg_store 0 rfl rfl rfl (l2 rfl) rfl rfl rfl rfl (l2 rfl) (r8 rfl) ?_
      refine jg_nil ?_
      refine jk_xf (by kernel_rfl) ?_
      refine jx1 (i := 22) (by kernel_rfl) (by kernel_rfl) rfl ?_
      refine jg_as rfl rfl rfl ?_
      refine jg_nil ?_
      refine jk_xf (by kernel_rfl) ?_
      refine jx0 [(10, _), (15, _), (16, _)] ⟨rfl, rfl, rfl, trivial⟩ (by kernel_rfl) (by kernel_rfl) ?_
      refine jk_sel (is := [0, 3]) (s2 rfl) rfl ?_
      exact jk_use H27 (v349.1.Lo, v349.1.Hi, v349.2) g429 [1, 0] ⟨rfl, rfl, rfl, trivial⟩ rfl rfl rfl
    refine jg_store 0 rfl rfl rfl (l2 rfl) rfl rfl rfl rfl (l2 rfl) (r8 rfl) ?_
    refine jg_nil ?_
    refine jk_xf (by kernel_rfl) ?_
    refine jx1 (i := 19) (by kernel_rfl) (by kernel_rfl) rfl ?_
    refine jg_y (fun w hs => yv_extract rfl rfl) rfl rfl ?_
    refine jg_nil ?_
    refine jk_xf (by kernel_rfl) ?_
    refine jx1 (i := 22) (by kernel_rfl) (by kernel_rfl) rfl ?_
    refine jg_as rfl rfl rfl ?_
    refine jg_nil ?_
    refine jk_xf (by kernel_rfl) ?_
    refine jx0 [(10, _), (15, _), (16, _)] ⟨rfl, rfl, rfl, trivial⟩ (by kernel_rfl) (by kernel_rfl) ?_
    refine jk_sel (is := [0, 3]) (s2 rfl) rfl ?_
    exact jk_use H27 (v349.1.Lo, v349.1.Hi, v349.2) g429 [1, 0] ⟨rfl, rfl, rfl, trivial⟩ rfl rfl rfl
  refine jg_alloc (l2 rfl) rfl rfl fun g429 => ?_
  refine jg_nil ?_
  refine jk_xn [1, 2, 3, 4, 5, 6] rfl ?_
  refine jx1 (i := 14) (by kernel_rfl) (by kernel_rfl) rfl ?_
  refine jg_c rfl (fun v w hs hm => r21_With_c (a0 := v12.1) hm (hs.row 4 rfl) (hs.row 5 rfl)) rfl rfl fun v309 q310 => ?_
  refine jg_L (r8 rfl) ?_
  refine jg_nil ?_
  refine jk_xn [2, 3, 4, 5, 6, 7] rfl ?_
  refine jx1 (i := 16) (by kernel_rfl) (by kernel_rfl) rfl ?_
  refine jg_c0 rfl (fun v w hs hm => bowl_Coupling_c (a1 := (Motion.mk v309.Speed v12.1.Class v309.Error v309.Targets)) hm (hs.row 7 rfl) (hs.row 5 rfl) (hs.row 0 rfl)) rfl rfl fun v349 => ?_
  refine jg_nil ?_
  refine jk_xn [2, 3, 4, 5, 6, 7] rfl ?_
  refine jx_lin [2, 3, 4, 5, 6, 7] 2064346 1572863 3 [0, 0, 0, 0, 8, 0, 0, 64, 0, 256, 960, 1984, 4064, 8184, 16382, 0, 65535, 131071, 262143, 262143, 0, 1572863, 4194303] [(17, true), (18, true)] rfl (np_seq np_rt) (by kernel_rfl) (by kernel_rfl) (by kernel_rfl) (by kernel_rfl) (by kernel_rfl) (by kernel_rfl) (by kernel_rfl) (by kernel_rfl) (by kernel_rfl) ?_
  refine jd_mv rfl rfl rfl rfl ?_
  refine jd_y rfl (fun w hs => yv_extract rfl rfl) rfl rfl ?_
  refine jd_x ?_
  refine jx2 (i := 19) (i2 := 21) (by kernel_rfl) (by kernel_rfl) rfl rfl ?_ ?_
  · refine jg_y (fun w hs => yv_extract rfl rfl) rfl rfl ?_
    refine jg_nil ?_
    refine jk_xn [2, 3, 4, 5, 6, 7] rfl ?_
    refine jx1 (i := 21) (by kernel_rfl) (by kernel_rfl) rfl ?_
    refine jg_store 1 rfl rfl rfl (l2 rfl) rfl rfl rfl rfl (l2 rfl) (r8 rfl) ?_
    refine jg_nil ?_
    refine jk_xf (by kernel_rfl) ?_
    refine jx1 (i := 22) (by kernel_rfl) (by kernel_rfl) rfl ?_
    refine jg_as rfl rfl rfl ?_
    refine jg_nil ?_
    refine jk_xf (by kernel_rfl) ?_
    refine jx0 [(10, _), (15, _), (16, _)] ⟨rfl, rfl, rfl, trivial⟩ (by kernel_rfl) (by kernel_rfl) ?_
    refine jk_sel (is := [1, 3]) (s2 rfl) rfl ?_
    exact jk_use H27 (v349.1.Lo, v349.1.Hi, v349.2) g429 [1, 0] ⟨rfl, rfl, rfl, trivial⟩ rfl rfl rfl
  refine jg_store 1 rfl rfl rfl (l2 rfl) rfl rfl rfl rfl (l2 rfl) (r8 rfl) ?_
  refine jg_nil ?_
  refine jk_xf (by kernel_rfl) ?_
  refine jx1 (i := 19) (by kernel_rfl) (by kernel_rfl) rfl ?_
  refine jg_y (fun w hs => yv_extract rfl rfl) rfl rfl ?_
  refine jg_nil ?_
  refine jk_xf (by kernel_rfl) ?_
  refine jx1 (i := 22) (by kernel_rfl) (by kernel_rfl) rfl ?_
  refine jg_as rfl rfl rfl ?_
  refine jg_nil ?_
  refine jk_xf (by kernel_rfl) ?_
  refine jx0 [(10, _), (15, _), (16, _)] ⟨rfl, rfl, rfl, trivial⟩ (by kernel_rfl) (by kernel_rfl) ?_
  refine jk_sel (is := [1, 3]) (s2 rfl) rfl ?_
  exact jk_use H27 (v349.1.Lo, v349.1.Hi, v349.2) g429 [1, 0] ⟨rfl, rfl, rfl, trivial⟩ rfl rfl rfl
end Go.Proofs.Ytdabnfhkojapjaa
