/-
  The functions give what their models give. Printed by a program.
-/
import Derived.Test.YtjeegociagchnaaFacts
import Derived.Test.YtjeegociagchnaaMod
import Derived.Test.YtjeegociagchnaaW0
import Derived.Test.YtjeegociagchnaaW1
import Derived.Test.YtjeegociagchnaaW2
namespace Go.Proofs.Ytjeegociagchnaa
open Go.Hy
set_option linter.unusedVariables false
set_option linter.unusedSimpArgs false
set_option maxHeartbeats 2000000
set_option maxRecDepth 100000
theorem r20_Point_c {w : World} {a0 : (List Piece)} {a1 : Run} {ha0 : Hd} {ha1_Resist : Hd} {ha1_Targets : Hd} {v : ((List Moment) × Int × Int)} (hm : r20_Point a0 a1 = some v) (Rha0 : Sl w ha0 Piece.enc a0) (Rha1_Resist : Sl w ha1_Resist encI a1.Resist) (Rha1_Targets : Sl w ha1_Targets encI a1.Targets) : Calls Try.prog 24 ([ha0.v, .agg #[.int .i64 a1.Speed, ha1_Resist.v, ha1_Targets.v]] : List Value).toArray w (fun e w' => ∃ g : Hd, e = .returned (.tuple #[g.v, .int .i64 v.2.1, .int .i64 v.2.2]) ∧ St w w' [] [(rowH g 72 2 Moment.enc v.1)]) := by
  refine j_enter (vs := [ha0.v, .agg #[.int .i64 a1.Speed, ha1_Resist.v, ha1_Targets.v]]) (R := fun (v : ((List Moment) × Int × Int)) (e : Ending) (w' : World) => ∃ g : Hd, e = .returned (.tuple #[g.v, .int .i64 v.2.1, .int .i64 v.2.2]) ∧ St w w' [] [(rowH g 72 2 Moment.enc v.1)]) Try.func24 rfl Try.ntmps24 rfl rfl (St.refl w) hm ?_
  unfold r20_Point
  clear hm
  refine jn_seq ?_
  refine jn_reg 0 ?_
  refine jg_box rfl (l3 rfl) rfl rfl fun g1 => ?_
  refine jg_as rfl rfl rfl ?_
  refine jg_as rfl rfl rfl ?_
  refine jg_as rfl rfl rfl ?_
  refine jg_nils [(0, _), (3, _)] ⟨rfl, rfl, trivial⟩ ?_
  refine jk_sn ?_
  refine jn_seq ?_
  refine jn_seq ?_
  refine jn_reg 1 ?_
  refine jg_mv rfl rfl rfl ?_
  refine jg_c0 rfl (fun v w hs hm => r20_Valid_c hm (hs.arg Rha0)) rfl rfl fun v2 => ?_
  refine jg_as rfl rfl rfl ?_
  refine jg_nils [(0, _), (3, _), (7, _)] ⟨rfl, rfl, rfl, trivial⟩ ?_
  refine jk_sn ?_
  refine jn_seq ?_
  refine jn_reg 2 ?_
  refine jg_mv rfl rfl rfl ?_
  refine jg_y (fun w hs => yv_neq rfl rfl) rfl rfl ?_
  refine jg_nils [(0, _), (3, _), (7, _), (20, _)] ⟨rfl, rfl, rfl, rfl, trivial⟩ ?_
  refine jk_sn ?_
  refine jn_cond rfl ?_ ?_
  · refine jn_seq ?_
    refine jn_reg 3 ?_
    refine jg_mv rfl rfl rfl ?_
    refine jg_as rfl rfl rfl ?_
    refine jg_as rfl rfl rfl ?_
    refine jg_as rfl rfl rfl ?_
    refine jg_nils [(4, _), (5, _), (6, _)] ⟨rfl, rfl, rfl, trivial⟩ ?_
    refine jk_sn ?_
    refine jn_ret ?_
    refine jk_sr ?_
    refine jk_addnil 72 2 Moment.enc ?_
    exact jk_ret3 rfl (fun w hs => .tmp rfl) (fun w hs => .tmp rfl) (fun w hs => .tmp rfl) (fun w hs => ⟨(Hd.mk none 0 0), rfl, hs.sel (is := [0]) rfl rfl⟩)
  refine jn_skip ?_
  refine jk_sn ?_
  refine jn_seq ?_
  refine jn_seq ?_
  refine jn_draw (L' := [_]) 4 [0] [0, 1, 2, 3, 4, 5, 6, 7, 8, 9, 10, 11, 12, 13] 16383 16383 [0, 1, 2, 0, 8, 20, 32, 64, 192, 320, 64, 1088, 2624, 4160] [0, 1, 3, 0, 8, 31, 63, 127, 255, 511, 127, 1151, 4095, 8191] [(0, true), (1, true), (2, true), (3, true), (4, true), (5, true), (6, true), (7, true), (8, true), (9, true), (10, true), (11, true), (12, true), (13, true)] rfl (np_seq (np_seq np_rt)) (by kernel_rfl) (by kernel_rfl) (by kernel_rfl) (by kernel_rfl) (by kernel_rfl) (by kernel_rfl) (by kernel_rfl) (by kernel_rfl) ?_
  refine jd_y rfl (fun w hs => yv_fieldAddr rfl) rfl rfl ?_
  refine jd_y rfl (fun w hs => yv_load rfl (ld1B (hs.blk (i := 0) rfl) rfl)) rfl rfl ?_
  refine jd_y rfl (fun w hs => yv_ln rfl (hs.arg Rha1_Resist)) rfl rfl ?_
  refine jd_mv rfl rfl rfl rfl ?_
  refine jd_y rfl (fun w hs => yv_ln rfl (hs.arg Rha0)) rfl rfl ?_
  refine jd_y rfl (fun w hs => yv_neq rfl rfl) rfl rfl ?_
  refine jd_mv rfl rfl rfl rfl ?_
  refine jd_split 28 rfl ?_ ?_
  · refine jd_skip rfl rfl rfl ?_
    refine jd_skip rfl rfl rfl ?_
    refine jd_skip rfl rfl rfl ?_
    refine jd_skip rfl rfl rfl ?_
    refine jd_skip rfl rfl rfl ?_
    refine jd_skip rfl rfl rfl ?_
    refine jd_y rfl (fun w hs => yv_pick_t rfl rfl) rfl rfl ?_
    refine jd_nils [(0, _), (3, _), (35, _)] ⟨rfl, rfl, rfl, trivial⟩ ?_
    refine jk_sn ?_
    refine jn_ct rfl ?_
    refine jn_seq ?_
    refine jn_reg 5 ?_
    refine jg_as rfl rfl rfl ?_
    refine jg_as rfl rfl rfl ?_
    refine jg_as rfl rfl rfl ?_
    refine jg_nils [(4, _), (5, _), (6, _)] ⟨rfl, rfl, rfl, trivial⟩ ?_
    refine jk_sn ?_
    refine jn_ret ?_
    refine jk_sr ?_
    refine jk_addnil 72 2 Moment.enc ?_
    exact jk_ret3 rfl (fun w hs => .tmp rfl) (fun w hs => .tmp rfl) (fun w hs => .tmp rfl) (fun w hs => ⟨(Hd.mk none 0 0), rfl, hs.sel (is := [0]) rfl rfl⟩)
  refine jd_y rfl (fun w hs => yv_fieldAddr rfl) rfl rfl ?_
  refine jd_y rfl (fun w hs => yv_load rfl (ld1B (hs.blk (i := 0) rfl) rfl)) rfl rfl ?_
  refine jd_y rfl (fun w hs => yv_ln rfl (hs.arg Rha1_Targets)) rfl rfl ?_
  refine jd_mv rfl rfl rfl rfl ?_
  refine jd_c0 rfl rfl (fun v w hs hm => r20_Retarders_c hm (hs.arg Rha0)) rfl rfl fun v3 => ?_
  refine jd_y rfl (fun w hs => yv_neq rfl rfl) rfl rfl ?_
  refine jd_y rfl (fun w hs => yv_pick_f rfl rfl) rfl rfl ?_
  refine jd_nils [(0, _), (3, _), (35, _)] ⟨rfl, rfl, rfl, trivial⟩ ?_
  refine jk_sn ?_
  refine jn_cond rfl ?_ ?_
  · refine jn_seq ?_
    refine jn_reg 5 ?_
    refine jg_as rfl rfl rfl ?_
    refine jg_as rfl rfl rfl ?_
    refine jg_as rfl rfl rfl ?_
    refine jg_nils [(4, _), (5, _), (6, _)] ⟨rfl, rfl, rfl, trivial⟩ ?_
    refine jk_sn ?_
    refine jn_ret ?_
    refine jk_sr ?_
    refine jk_addnil 72 2 Moment.enc ?_
    exact jk_ret3 rfl (fun w hs => .tmp rfl) (fun w hs => .tmp rfl) (fun w hs => .tmp rfl) (fun w hs => ⟨(Hd.mk none 0 0), rfl, hs.sel (is := [0]) rfl rfl⟩)
  refine jn_skip ?_
  refine jk_sn ?_
  refine jn_join (fun (s : Bool) (g : Unit) => [(0, ha0.v), (3, .pointer (some ⟨g1, 0, none⟩)), (8, .bool s)]) (fun (s : Bool) (g : Unit) => []) (fun (s : Bool) (g : Unit) => [(Res.blk g1 58 [.int .i64 a1.Speed, ha1_Resist.v, ha1_Targets.v])]) ?_ ?_
  rotate_left
  · intro k6 H7
    refine jn_reg 6 ?_
    refine jg_y (fun w hs => yv_fieldAddr rfl) rfl rfl ?_
    refine jg_y (fun w hs => yv_load rfl (ld1B (hs.blkL (i := 0) rfl) rfl)) rfl rfl ?_
    refine jg_y (fun w hs => yv_geq rfl rfl) rfl rfl ?_
    refine jg_mv rfl rfl rfl ?_
    refine jg_split 39 rfl ?_ ?_
    rotate_left
    · refine jg_skip rfl rfl ?_
      refine jg_skip rfl rfl ?_
      refine jg_skip rfl rfl ?_
      refine jg_y (fun w hs => yv_pick_f rfl rfl) rfl rfl ?_
      refine jg_mv rfl rfl rfl ?_
      refine jg_skip rfl rfl ?_
      refine jg_skip rfl rfl ?_
      refine jg_skip rfl rfl ?_
      refine jg_y (fun w hs => yv_pick_f rfl rfl) rfl rfl ?_
      refine jg_as rfl rfl rfl ?_
      refine jg_nils [(0, _), (3, _), (8, _)] ⟨rfl, rfl, rfl, trivial⟩ ?_
      exact jk_use H7 false () [0] ⟨rfl, rfl, rfl, trivial⟩ rfl rfl rfl
    refine jg_y (fun w hs => yv_fieldAddr rfl) rfl rfl ?_
    refine jg_y (fun w hs => yv_load rfl (ld1B (hs.blkL (i := 0) rfl) rfl)) rfl rfl ?_
    refine jg_y (fun w hs => yv_leq rfl rfl) rfl rfl ?_
    refine jg_y (fun w hs => yv_pick_t rfl rfl) rfl rfl ?_
    refine jg_mv rfl rfl rfl ?_
    refine jg_split 44 rfl ?_ ?_
    · refine jg_y (fun w hs => yv_fieldAddr rfl) rfl rfl ?_
      refine jg_y (fun w hs => yv_load rfl (ld1B (hs.blkL (i := 0) rfl) rfl)) rfl rfl ?_
      refine jg_c0 rfl (fun v w hs hm => r20_targets_c hm (hs.arg Rha1_Targets)) rfl rfl fun v57 => ?_
      refine jg_y (fun w hs => yv_pick_t rfl rfl) rfl rfl ?_
      refine jg_as rfl rfl rfl ?_
      refine jg_nils [(0, _), (3, _), (8, _)] ⟨rfl, rfl, rfl, trivial⟩ ?_
      exact jk_use H7 v57 () [0] ⟨rfl, rfl, rfl, trivial⟩ rfl rfl rfl
    refine jg_skip rfl rfl ?_
    refine jg_skip rfl rfl ?_
    refine jg_skip rfl rfl ?_
    refine jg_y (fun w hs => yv_pick_f rfl rfl) rfl rfl ?_
    refine jg_as rfl rfl rfl ?_
    refine jg_nils [(0, _), (3, _), (8, _)] ⟨rfl, rfl, rfl, trivial⟩ ?_
    exact jk_use H7 false () [0] ⟨rfl, rfl, rfl, trivial⟩ rfl rfl rfl
  intro z4 q5
  refine jn_join (fun (s : Bool) (g : Unit) => [(0, ha0.v), (3, .pointer (some ⟨g1, 0, none⟩)), (8, .bool s)]) (fun (s : Bool) (g : Unit) => []) (fun (s : Bool) (g : Unit) => [(Res.blk g1 58 [.int .i64 a1.Speed, ha1_Resist.v, ha1_Targets.v])]) ?_ ?_
  rotate_left
  · intro k10 H11
    refine jn_seq ?_
    refine jn_reg 7 ?_
    refine jg_as rfl rfl rfl ?_
    refine jg_nils [(0, _), (3, _), (8, _), (9, _)] ⟨rfl, rfl, rfl, rfl, trivial⟩ ?_
    refine jk_sn ?_
    refine jn_block ?_
    refine jn_lp (n := big) (fun (s : (Bool × Int)) (g : Unit) => [(0, ha0.v), (3, .pointer (some ⟨g1, 0, none⟩)), (8, .bool s.1), (9, .int .i64 s.2)]) (fun (s : (Bool × Int)) (g : Unit) => []) (fun (s : (Bool × Int)) (g : Unit) => [(Res.blk g1 58 [.int .i64 a1.Speed, ha1_Resist.v, ha1_Targets.v])]) (z4, 0) () [0] ⟨rfl, rfl, rfl, rfl, trivial⟩ rfl rfl rfl ?_
    intro z48 q49 n52 k50 H51
    refine jn_seq ?_
    refine jn_seq ?_
    refine jn_reg 8 ?_
    refine jg_mv rfl rfl rfl ?_
    refine jg_mv rfl rfl rfl ?_
    refine jg_y (fun w hs => yv_ln rfl (hs.arg Rha0)) rfl rfl ?_
    refine jg_y (fun w hs => yv_lss rfl rfl) rfl rfl ?_
    refine jg_nils [(0, _), (3, _), (8, _), (9, _), (52, _)] ⟨rfl, rfl, rfl, rfl, rfl, trivial⟩ ?_
    refine jk_sn ?_
    refine jn_cond rfl ?_ ?_
    rotate_left
    · refine jn_exit ?_
      refine jk_se (jk_le (jk_bh ?_))
      exact jk_use H11 z48.1 () [0] ⟨rfl, rfl, rfl, trivial⟩ rfl rfl rfl
    refine jn_skip ?_
    refine jk_sn ?_
    refine jn_seq ?_
    refine jn_block ?_
    refine jn_reg 10 ?_
    refine jg_mv rfl rfl rfl ?_
    refine jg_mv rfl rfl rfl ?_
    refine jg_split 56 rfl ?_ ?_
    rotate_left
    · refine jg_skip rfl rfl ?_
      refine jg_skip rfl rfl ?_
      refine jg_skip rfl rfl ?_
      refine jg_skip rfl rfl ?_
      refine jg_skip rfl rfl ?_
      refine jg_skip rfl rfl ?_
      refine jg_y (fun w hs => yv_pick_f rfl rfl) rfl rfl ?_
      refine jg_mv rfl rfl rfl ?_
      refine jg_skip rfl rfl ?_
      refine jg_skip rfl rfl ?_
      refine jg_skip rfl rfl ?_
      refine jg_skip rfl rfl ?_
      refine jg_skip rfl rfl ?_
      refine jg_skip rfl rfl ?_
      refine jg_y (fun w hs => yv_pick_f rfl rfl) rfl rfl ?_
      refine jg_as rfl rfl rfl ?_
      refine jg_nils [(0, _), (3, _), (8, _), (9, _)] ⟨rfl, rfl, rfl, rfl, trivial⟩ ?_
      refine jk_bn (jk_sn ?_)
      refine jn_reg 9 ?_
      refine jg_mv rfl rfl rfl ?_
      refine jg_y (fun w hs => yv_add_w rfl rfl) rfl rfl ?_
      refine jg_as rfl rfl rfl ?_
      refine jg_nils [(0, _), (3, _), (8, _), (9, _)] ⟨rfl, rfl, rfl, rfl, trivial⟩ ?_
      exact jk_use H51 (false, w64 (z48.2 + 1)) () [0] ⟨rfl, rfl, rfl, rfl, trivial⟩ rfl rfl rfl
    refine jg_y (fun w hs => yv_fieldAddr rfl) rfl rfl ?_
    refine jg_y (fun w hs => yv_load rfl (ld1B (hs.blkL (i := 0) rfl) rfl)) rfl rfl ?_
    refine jg_mv rfl rfl rfl ?_
    refine jg_ix fun x53 h54 => ?_
    refine jg_y (fun w hs => yv_ix rfl rfl (hs.arg Rha1_Resist) h54) rfl rfl ?_
    refine jg_y (fun w hs => yv_e1 rfl (hs.arg Rha1_Resist) h54.1 rfl) rfl rfl ?_
    refine jg_y (fun w hs => yv_geq rfl rfl) rfl rfl ?_
    refine jg_y (fun w hs => yv_pick_t rfl rfl) rfl rfl ?_
    refine jg_mv rfl rfl rfl ?_
    refine jg_split 64 rfl ?_ ?_
    rotate_left
    · refine jg_skip rfl rfl ?_
      refine jg_skip rfl rfl ?_
      refine jg_skip rfl rfl ?_
      refine jg_skip rfl rfl ?_
      refine jg_skip rfl rfl ?_
      refine jg_skip rfl rfl ?_
      refine jg_y (fun w hs => yv_pick_f rfl rfl) rfl rfl ?_
      refine jg_as rfl rfl rfl ?_
      refine jg_nils [(0, _), (3, _), (8, _), (9, _)] ⟨rfl, rfl, rfl, rfl, trivial⟩ ?_
      refine jk_bn (jk_sn ?_)
      refine jn_reg 9 ?_
      refine jg_mv rfl rfl rfl ?_
      refine jg_y (fun w hs => yv_add_w rfl rfl) rfl rfl ?_
      refine jg_as rfl rfl rfl ?_
      refine jg_nils [(0, _), (3, _), (8, _), (9, _)] ⟨rfl, rfl, rfl, rfl, trivial⟩ ?_
      exact jk_use H51 (false, w64 (z48.2 + 1)) () [0] ⟨rfl, rfl, rfl, rfl, trivial⟩ rfl rfl rfl
    refine jg_y (fun w hs => yv_fieldAddr rfl) rfl rfl ?_
    refine jg_y (fun w hs => yv_load rfl (ld1B (hs.blkL (i := 0) rfl) rfl)) rfl rfl ?_
    refine jg_mv rfl rfl rfl ?_
    refine jg_ix fun x55 h56 => ?_
    refine jg_y (fun w hs => yv_ix rfl rfl (hs.arg Rha1_Resist) h56) rfl rfl ?_
    refine jg_y (fun w hs => yv_e1 rfl (hs.arg Rha1_Resist) h56.1 rfl) rfl rfl ?_
    refine jg_y (fun w hs => yv_leq rfl rfl) rfl rfl ?_
    refine jg_y (fun w hs => yv_pick_t rfl rfl) rfl rfl ?_
    refine jg_as rfl rfl rfl ?_
    refine jg_nils [(0, _), (3, _), (8, _), (9, _)] ⟨rfl, rfl, rfl, rfl, trivial⟩ ?_
    refine jk_bn (jk_sn ?_)
    refine jn_reg 9 ?_
    refine jg_mv rfl rfl rfl ?_
    refine jg_y (fun w hs => yv_add_w rfl rfl) rfl rfl ?_
    refine jg_as rfl rfl rfl ?_
    refine jg_nils [(0, _), (3, _), (8, _), (9, _)] ⟨rfl, rfl, rfl, rfl, trivial⟩ ?_
    exact jk_use H51 (decide (x55 ≤ 10000), w64 (z48.2 + 1)) () [0] ⟨rfl, rfl, rfl, rfl, trivial⟩ rfl rfl rfl
  intro z8 q9
  refine jn_seq ?_
  refine jn_seq ?_
  refine jn_reg 11 ?_
  refine jg_mv rfl rfl rfl ?_
  refine jg_y (fun w hs => yv_not rfl) rfl rfl ?_
  refine jg_nils [(0, _), (3, _), (73, _)] ⟨rfl, rfl, rfl, trivial⟩ ?_
  refine jk_sn ?_
  refine jn_cond rfl ?_ ?_
  · refine jn_seq ?_
    refine jn_reg 12 ?_
    refine jg_as rfl rfl rfl ?_
    refine jg_as rfl rfl rfl ?_
    refine jg_as rfl rfl rfl ?_
    refine jg_nils [(4, _), (5, _), (6, _)] ⟨rfl, rfl, rfl, trivial⟩ ?_
    refine jk_sn ?_
    refine jn_ret ?_
    refine jk_sr ?_
    refine jk_addnil 72 2 Moment.enc ?_
    exact jk_ret3 rfl (fun w hs => .tmp rfl) (fun w hs => .tmp rfl) (fun w hs => .tmp rfl) (fun w hs => ⟨(Hd.mk none 0 0), rfl, hs.sel (is := [0]) rfl rfl⟩)
  refine jn_skip ?_
  refine jk_sn ?_
  refine jn_seq ?_
  refine jn_reg 13 ?_
  refine jg_y (fun w hs => yv_fieldAddr rfl) rfl rfl ?_
  refine jg_y (fun w hs => yv_load rfl (ld1B (hs.blkL (i := 0) rfl) rfl)) rfl rfl ?_
  refine jg_y (fun w hs => yv_fieldAddr rfl) rfl rfl ?_
  refine jg_y (fun w hs => yv_load rfl (ld1B (hs.blkL (i := 0) rfl) rfl)) rfl rfl ?_
  refine jg_y (fun w hs => yv_mul_w rfl rfl) rfl rfl ?_
  refine jg_y (fun w hs => yv_build rfl (o2 rfl)) rfl rfl ?_
  refine jg_alloc (l2 rfl) rfl rfl fun g12 => ?_
  refine jg_store 0 rfl rfl rfl (l2 rfl) rfl rfl rfl rfl (l2 rfl) (r2 rfl) ?_
  refine jg_nils [(0, _), (3, _), (10, _)] ⟨rfl, rfl, rfl, trivial⟩ ?_
  refine jk_sn ?_
  refine jn_seq ?_
  refine jn_reg 14 ?_
  refine jg_y (fun w hs => yv_load rfl (ldBB (hs.blkL (i := 0) rfl) rfl)) rfl rfl ?_
  refine jg_lit (enc := Moment.enc) [(Moment.mk 0 (w64 (a1.Speed * a1.Speed)))] rfl rfl rfl rfl rfl rfl rfl rfl fun hd13 => ?_
  refine jg_as rfl rfl rfl ?_
  refine jg_nils [(0, _), (3, _), (10, _), (11, _)] ⟨rfl, rfl, rfl, rfl, trivial⟩ ?_
  refine jk_sn ?_
  refine jn_seq ?_
  refine jn_reg 15 ?_
  refine jg_as rfl rfl rfl ?_
  refine jg_nils [(0, _), (3, _), (10, _), (11, _), (12, _)] ⟨rfl, rfl, rfl, rfl, rfl, trivial⟩ ?_
  refine jk_sn ?_
  refine jn_seq ?_
  refine jn_seq ?_
  refine jn_reg 16 ?_
  refine jg_as rfl rfl rfl ?_
  refine jg_nils [(0, _), (3, _), (10, _), (11, _), (12, _), (13, _)] ⟨rfl, rfl, rfl, rfl, rfl, rfl, trivial⟩ ?_
  refine jk_sn ?_
  refine jn_block ?_
  refine jn_lp (n := big) (fun (s : (Int × Int × (List Moment) × Int × Int)) (g : Hd) => [(0, ha0.v), (3, .pointer (some ⟨g1, 0, none⟩)), (10, .pointer (some ⟨g12, 0, none⟩)), (11, g.v), (12, .int .i64 s.2.2.2.1), (13, .int .i64 s.2.2.2.2)]) (fun (s : (Int × Int × (List Moment) × Int × Int)) (g : Hd) => []) (fun (s : (Int × Int × (List Moment) × Int × Int)) (g : Hd) => [(Res.blk g1 58 [.int .i64 a1.Speed, ha1_Resist.v, ha1_Targets.v]), (Res.blk g12 72 [.int .i64 s.1, .int .i64 s.2.1]), (rowH g 72 2 Moment.enc s.2.2.1)]) (0, w64 (a1.Speed * a1.Speed), ([(Moment.mk 0 (w64 (a1.Speed * a1.Speed)))] : List Moment), 0, 0) hd13 [2, 1, 0] ⟨rfl, rfl, rfl, rfl, rfl, rfl, trivial⟩ rfl rfl rfl ?_
  intro z14 q15 n18 k16 H17
  refine jn_seq ?_
  refine jn_seq ?_
  refine jn_reg 17 ?_
  refine jg_mv rfl rfl rfl ?_
  refine jg_mv rfl rfl rfl ?_
  refine jg_y (fun w hs => yv_ln rfl (hs.arg Rha0)) rfl rfl ?_
  refine jg_y (fun w hs => yv_lss rfl rfl) rfl rfl ?_
  refine jg_nils [(0, _), (3, _), (10, _), (11, _), (12, _), (13, _), (85, _)] ⟨rfl, rfl, rfl, rfl, rfl, rfl, rfl, trivial⟩ ?_
  refine jk_sn ?_
  refine jn_cond rfl ?_ ?_
  rotate_left
  · refine jn_exit ?_
    refine jk_se (jk_le (jk_bh (jk_sn ?_)))
    refine jn_seq ?_
    refine jn_reg 32 ?_
    refine jg_mv rfl rfl rfl ?_
    refine jg_as rfl rfl rfl ?_
    refine jg_as rfl rfl rfl ?_
    refine jg_as rfl rfl rfl ?_
    refine jg_nils [(4, _), (5, _), (6, _)] ⟨rfl, rfl, rfl, trivial⟩ ?_
    refine jk_sel (is := [2]) (s1 rfl) rfl ?_
    refine jk_sn ?_
    refine jn_ret ?_
    exact jk_ret3 rfl (fun w hs => .tmp rfl) (fun w hs => .tmp rfl) (fun w hs => .tmp rfl) (fun w hs => ⟨q15, rfl, hs.sel (is := [0]) rfl rfl⟩)
  refine jn_skip ?_
  refine jk_sn ?_
  refine jn_seq ?_
  refine jn_block ?_
  refine jn_seq ?_
  refine jn_draw (L' := [_, _, _]) 19 [0, 1, 2] [0, 1, 2, 3, 4, 5, 6, 7, 8, 9, 10, 11, 12, 13, 14] 32767 32767 [0, 1, 0, 0, 12, 16, 0, 64, 0, 384, 512, 1056, 2048, 4098, 16383] [0, 1, 0, 0, 12, 28, 0, 64, 0, 448, 960, 2044, 4092, 8191, 16383] [(0, true), (1, true), (2, true), (3, true), (4, true), (5, true), (6, true), (7, true), (8, true), (9, true), (10, true), (11, true), (12, true), (13, true), (14, true)] rfl (np_seq (np_blk (np_seq (np_rnd (np_blk (np_seq np_rt)))))) (by kernel_rfl) (by kernel_rfl) (by kernel_rfl) (by kernel_rfl) (by kernel_rfl) (by kernel_rfl) (by kernel_rfl) (by kernel_rfl) ?_
  refine jd_y rfl (fun w hs => yv_fieldAddr rfl) rfl rfl ?_
  refine jd_y rfl (fun w hs => yv_load rfl (ld1B (hs.blk (i := 1) rfl) rfl)) rfl rfl ?_
  refine jd_mv rfl rfl rfl rfl ?_
  refine jd_mv rfl rfl rfl rfl ?_
  refine jd_ix fun x19 h20 => ?_
  refine jd_y rfl (fun w hs => yv_ix rfl rfl (hs.arg Rha0) h20) rfl rfl ?_
  refine jd_y rfl (fun w hs => yv_eS rfl (hs.arg Rha0) h20.1 (l5 rfl) rfl) rfl rfl ?_
  refine jd_y rfl (fun w hs => yv_fieldAddr rfl) rfl rfl ?_
  refine jd_y rfl (fun w hs => yv_load rfl (ld1B (hs.blk (i := 0) rfl) rfl)) rfl rfl ?_
  refine jd_mv rfl rfl rfl rfl ?_
  refine jd_ix fun x21 h22 => ?_
  refine jd_y rfl (fun w hs => yv_ix rfl rfl (hs.arg Rha1_Resist) h22) rfl rfl ?_
  refine jd_y rfl (fun w hs => yv_e1 rfl (hs.arg Rha1_Resist) h22.1 rfl) rfl rfl ?_
  refine jd_c0 rfl rfl (fun v w hs hm => r20_gain_c (a0 := x19) hm ) rfl rfl fun v23 => ?_
  refine jd_c0 rfl rfl (fun v w hs hm => r01_Down_c hm ) rfl rfl fun v24 => ?_
  refine jd_y rfl (fun w hs => yv_add_w rfl rfl) rfl rfl ?_
  refine jd_as rfl rfl rfl rfl ?_
  refine jd_nils [(0, _), (3, _), (10, _), (11, _), (12, _), (13, _), (14, _)] ⟨rfl, rfl, rfl, rfl, rfl, rfl, rfl, trivial⟩ ?_
  refine jk_sn ?_
  refine jn_seq ?_
  refine jn_seq ?_
  refine jn_reg 20 ?_
  refine jg_mv rfl rfl rfl ?_
  refine jg_y (fun w hs => yv_lss rfl rfl) rfl rfl ?_
  refine jg_nils [(0, _), (3, _), (10, _), (11, _), (12, _), (13, _), (14, _), (103, _)] ⟨rfl, rfl, rfl, rfl, rfl, rfl, rfl, rfl, trivial⟩ ?_
  refine jk_sn ?_
  refine jn_cond rfl ?_ ?_
  · refine jn_seq ?_
    refine jn_reg 21 ?_
    refine jg_mv rfl rfl rfl ?_
    refine jg_mv rfl rfl rfl ?_
    refine jg_as rfl rfl rfl ?_
    refine jg_as rfl rfl rfl ?_
    refine jg_as rfl rfl rfl ?_
    refine jg_nils [(4, _), (5, _), (6, _)] ⟨rfl, rfl, rfl, trivial⟩ ?_
    refine jk_sel (is := [2]) (s1 rfl) rfl ?_
    refine jk_sn ?_
    refine jn_ret ?_
    refine jk_sr (jk_br (jk_sr (jk_lr (jk_br (jk_sr ?_)))))
    exact jk_ret3 rfl (fun w hs => .tmp rfl) (fun w hs => .tmp rfl) (fun w hs => .tmp rfl) (fun w hs => ⟨q15, rfl, hs.sel (is := [0]) rfl rfl⟩)
  refine jn_skip ?_
  refine jk_sn ?_
  refine jn_seq ?_
  refine jn_reg 22 ?_
  refine jg_y (fun w hs => yv_fieldAddr rfl) rfl rfl ?_
  refine jg_y (fun w hs => yv_load rfl (ld1B (hs.blkL (i := 1) rfl) rfl)) rfl rfl ?_
  refine jg_c0 rfl (fun v w hs hm => r01_RootDown_c hm ) rfl rfl fun v25 => ?_
  refine jg_mv rfl rfl rfl ?_
  refine jg_c0 rfl (fun v w hs hm => r01_RootDown_c hm ) rfl rfl fun v26 => ?_
  refine jg_y (fun w hs => yv_add_w rfl rfl) rfl rfl ?_
  refine jg_as rfl rfl rfl ?_
  refine jg_nils [(0, _), (3, _), (10, _), (11, _), (12, _), (13, _), (14, _), (15, _)] ⟨rfl, rfl, rfl, rfl, rfl, rfl, rfl, rfl, trivial⟩ ?_
  refine jk_sn ?_
  refine jn_seq ?_
  refine jn_seq ?_
  refine jn_reg 23 ?_
  refine jg_mv rfl rfl rfl ?_
  refine jg_y (fun w hs => yv_eql rfl rfl) rfl rfl ?_
  refine jg_nils [(0, _), (3, _), (10, _), (11, _), (12, _), (13, _), (14, _), (15, _), (113, _)] ⟨rfl, rfl, rfl, rfl, rfl, rfl, rfl, rfl, rfl, trivial⟩ ?_
  refine jk_sn ?_
  refine jn_cond rfl ?_ ?_
  · refine jn_seq ?_
    refine jn_reg 24 ?_
    refine jg_mv rfl rfl rfl ?_
    refine jg_mv rfl rfl rfl ?_
    refine jg_as rfl rfl rfl ?_
    refine jg_as rfl rfl rfl ?_
    refine jg_as rfl rfl rfl ?_
    refine jg_nils [(4, _), (5, _), (6, _)] ⟨rfl, rfl, rfl, trivial⟩ ?_
    refine jk_sel (is := [2]) (s1 rfl) rfl ?_
    refine jk_sn ?_
    refine jn_ret ?_
    refine jk_sr (jk_br (jk_sr (jk_lr (jk_br (jk_sr ?_)))))
    exact jk_ret3 rfl (fun w hs => .tmp rfl) (fun w hs => .tmp rfl) (fun w hs => .tmp rfl) (fun w hs => ⟨q15, rfl, hs.sel (is := [0]) rfl rfl⟩)
  refine jn_skip ?_
  refine jk_sn ?_
  refine jn_seq ?_
  refine jn_draw (L' := [_, _, _]) 25 [0, 1, 2] [0, 1, 2, 3, 4, 5, 6, 7, 8, 9, 10, 11, 12, 13] 16383 32767 [0, 1, 0, 0, 12, 16, 32, 64, 0, 384, 514, 1024, 0, 6144, 16383] [0, 1, 0, 0, 12, 28, 60, 124, 0, 508, 1023, 2047, 0, 8191, 16383] [(0, true), (1, true), (2, true), (3, true), (4, true), (5, true), (6, true), (7, true), (8, true), (9, true), (10, true), (11, true), (12, true), (13, true), (14, false)] rfl (np_seq (np_blk (np_seq (np_rnd (np_blk (np_seq np_rt)))))) (by kernel_rfl) (by kernel_rfl) (by kernel_rfl) (by kernel_rfl) (by kernel_rfl) (by kernel_rfl) (by kernel_rfl) (by kernel_rfl) ?_
  refine jd_y rfl (fun w hs => yv_fieldAddr rfl) rfl rfl ?_
  refine jd_y rfl (fun w hs => yv_load rfl (ld1B (hs.blk (i := 1) rfl) rfl)) rfl rfl ?_
  refine jd_mv rfl rfl rfl rfl ?_
  refine jd_mv rfl rfl rfl rfl ?_
  refine jd_ix fun x27 h28 => ?_
  refine jd_y rfl (fun w hs => yv_ix rfl rfl (hs.arg Rha0) h28) rfl rfl ?_
  refine jd_y rfl (fun w hs => yv_ef rfl (hs.arg Rha0) h28.1) rfl rfl ?_
  refine jd_y rfl (fun w hs => yv_e1 rfl (hs.arg Rha0) h28.1 rfl) rfl rfl ?_
  refine jd_y rfl (fun w hs => yv_mul_w rfl rfl) rfl rfl ?_
  refine jd_mv rfl rfl rfl rfl ?_
  refine jd_c0 rfl rfl (fun v w hs hm => r01_Up_c hm ) rfl rfl fun v29 => ?_
  refine jd_y rfl (fun w hs => yv_add_w rfl rfl) rfl rfl ?_
  refine jd_yl rfl (fun w hs => yv_min rfl rfl) rfl rfl fun x30 => ?_
  refine jd_mv rfl rfl rfl rfl ?_
  refine jd_y rfl (fun w hs => yv_build rfl (o2 rfl)) rfl rfl ?_
  refine jd_h rfl ?_
  refine jg_store 1 rfl rfl rfl (l2 rfl) rfl rfl rfl rfl (l2 rfl) (r3 rfl) ?_
  refine jg_nil ?_
  refine jk_df rfl ?_
  refine jf_nils [(0, _), (3, _), (10, _), (11, _), (12, _), (13, _)] ⟨rfl, rfl, rfl, rfl, rfl, rfl, trivial⟩ ?_
  refine jk_sn ?_
  refine jn_seq ?_
  refine jn_seq ?_
  refine jn_reg 26 ?_
  refine jg_mv rfl rfl rfl ?_
  refine jg_mv rfl rfl rfl ?_
  refine jg_ix fun x31 h32 => ?_
  refine jg_y (fun w hs => yv_ix rfl rfl (hs.arg Rha0) h32) rfl rfl ?_
  refine jg_y (fun w hs => yv_ef rfl (hs.arg Rha0) h32.1) rfl rfl ?_
  refine jg_y (fun w hs => yv_e1 rfl (hs.arg Rha0) h32.1 rfl) rfl rfl ?_
  refine jg_y (fun w hs => yv_gtr rfl rfl) rfl rfl ?_
  refine jg_nils [(0, _), (3, _), (10, _), (11, _), (12, _), (13, _), (135, _)] ⟨rfl, rfl, rfl, rfl, rfl, rfl, rfl, trivial⟩ ?_
  refine jk_sn ?_
  refine jn_cond rfl ?_ ?_
  rotate_left
  · refine jn_skip ?_
    refine jk_sn ?_
    refine jn_reg 31 ?_
    refine jg_mv rfl rfl rfl ?_
    refine jg_y (fun w hs => yv_load rfl (ldBB (hs.blkL (i := 1) rfl) rfl)) rfl rfl ?_
    refine jg_lit (enc := Moment.enc) [(Moment.mk x30 (w64 (z14.2.1 + v24)))] rfl rfl rfl rfl rfl rfl rfl rfl fun hd45 => ?_
    refine jg_append 3 rfl rfl rfl (fun w hs => (hs.row 0 rfl)) rfl rfl rfl fun y46 hd47 => ?_
    refine jg_L (r4 rfl) ?_
    refine jg_as rfl rfl rfl ?_
    refine jg_nils [(0, _), (3, _), (10, _), (11, _), (12, _), (13, _)] ⟨rfl, rfl, rfl, rfl, rfl, rfl, trivial⟩ ?_
    refine jk_bn (jk_sn ?_)
    refine jn_reg 18 ?_
    refine jg_mv rfl rfl rfl ?_
    refine jg_y (fun w hs => yv_add_w rfl rfl) rfl rfl ?_
    refine jg_as rfl rfl rfl ?_
    refine jg_nils [(0, _), (3, _), (10, _), (11, _), (12, _), (13, _)] ⟨rfl, rfl, rfl, rfl, rfl, rfl, trivial⟩ ?_
    exact jk_use H17 (x30, w64 (z14.2.1 + v24), y46, z14.2.2.2.1, w64 (z14.2.2.2.2 + 1)) hd47 [1, 2, 3] ⟨rfl, rfl, rfl, rfl, rfl, rfl, trivial⟩ rfl rfl rfl
  refine jn_seq ?_
  refine jn_seq ?_
  refine jn_reg 27 ?_
  refine jg_y (fun w hs => yv_fieldAddr rfl) rfl rfl ?_
  refine jg_y (fun w hs => yv_load rfl (ld1B (hs.blkL (i := 0) rfl) rfl)) rfl rfl ?_
  refine jg_mv rfl rfl rfl ?_
  refine jg_ix fun x33 h34 => ?_
  refine jg_y (fun w hs => yv_ix rfl rfl (hs.arg Rha1_Targets) h34) rfl rfl ?_
  refine jg_y (fun w hs => yv_e1 rfl (hs.arg Rha1_Targets) h34.1 rfl) rfl rfl ?_
  refine jg_as rfl rfl rfl ?_
  refine jg_nils [(0, _), (3, _), (10, _), (11, _), (12, _), (13, _), (16, _)] ⟨rfl, rfl, rfl, rfl, rfl, rfl, rfl, trivial⟩ ?_
  refine jk_sn ?_
  refine jn_seq ?_
  refine jn_reg 28 ?_
  refine jg_mv rfl rfl rfl ?_
  refine jg_y (fun w hs => yv_geq rfl rfl) rfl rfl ?_
  refine jg_nils [(0, _), (3, _), (10, _), (11, _), (12, _), (13, _), (16, _), (142, _)] ⟨rfl, rfl, rfl, rfl, rfl, rfl, rfl, rfl, trivial⟩ ?_
  refine jk_sn ?_
  refine jn_cond rfl ?_ ?_
  rotate_left
  · refine jn_skip ?_
    refine jk_sn ?_
    refine jn_reg 30 ?_
    refine jg_mv rfl rfl rfl ?_
    refine jg_y (fun w hs => yv_add_w rfl rfl) rfl rfl ?_
    refine jg_as rfl rfl rfl ?_
    refine jg_nils [(0, _), (3, _), (10, _), (11, _), (12, _), (13, _)] ⟨rfl, rfl, rfl, rfl, rfl, rfl, trivial⟩ ?_
    refine jk_sn ?_
    refine jn_reg 31 ?_
    refine jg_mv rfl rfl rfl ?_
    refine jg_y (fun w hs => yv_load rfl (ldBB (hs.blkL (i := 1) rfl) rfl)) rfl rfl ?_
    refine jg_lit (enc := Moment.enc) [(Moment.mk x30 (w64 (z14.2.1 + v24)))] rfl rfl rfl rfl rfl rfl rfl rfl fun hd42 => ?_
    refine jg_append 3 rfl rfl rfl (fun w hs => (hs.row 0 rfl)) rfl rfl rfl fun y43 hd44 => ?_
    refine jg_L (r4 rfl) ?_
    refine jg_as rfl rfl rfl ?_
    refine jg_nils [(0, _), (3, _), (10, _), (11, _), (12, _), (13, _)] ⟨rfl, rfl, rfl, rfl, rfl, rfl, trivial⟩ ?_
    refine jk_bn (jk_sn ?_)
    refine jn_reg 18 ?_
    refine jg_mv rfl rfl rfl ?_
    refine jg_y (fun w hs => yv_add_w rfl rfl) rfl rfl ?_
    refine jg_as rfl rfl rfl ?_
    refine jg_nils [(0, _), (3, _), (10, _), (11, _), (12, _), (13, _)] ⟨rfl, rfl, rfl, rfl, rfl, rfl, trivial⟩ ?_
    exact jk_use H17 (x30, w64 (z14.2.1 + v24), y43, w64 (z14.2.2.2.1 + 1), w64 (z14.2.2.2.2 + 1)) hd44 [1, 2, 3] ⟨rfl, rfl, rfl, rfl, rfl, rfl, trivial⟩ rfl rfl rfl
  refine jn_draw (L' := [_, _, _]) 29 [0, 1, 2] [0, 1, 2, 3, 4, 5, 6, 7, 8, 9, 10, 11, 12, 13, 14, 15] 65535 131071 [0, 1, 0, 0, 12, 18, 0, 64, 0, 0, 768, 1024, 2048, 4224, 8224, 32767, 65535] [0, 1, 0, 0, 12, 31, 0, 64, 0, 0, 768, 1792, 3840, 8128, 16383, 32767, 65535] [(0, true), (1, true), (2, true), (3, true), (4, true), (5, true), (6, true), (7, true), (8, true), (9, true), (10, true), (11, true), (12, true), (13, true), (14, true), (15, true), (16, false)] rfl (np_seq (np_seq (np_blk (np_seq (np_rnd (np_blk (np_seq np_rt))))))) (by kernel_rfl) (by kernel_rfl) (by kernel_rfl) (by kernel_rfl) (by kernel_rfl) (by kernel_rfl) (by kernel_rfl) (by kernel_rfl) ?_
  refine jd_y rfl (fun w hs => yv_fieldAddr rfl) rfl rfl ?_
  refine jd_y rfl (fun w hs => yv_load rfl (ld1B (hs.blk (i := 1) rfl) rfl)) rfl rfl ?_
  refine jd_mv rfl rfl rfl rfl ?_
  refine jd_mv rfl rfl rfl rfl ?_
  refine jd_y rfl (fun w hs => yv_mul_w rfl rfl) rfl rfl ?_
  refine jd_yl rfl (fun w hs => yv_min rfl rfl) rfl rfl fun x35 => ?_
  refine jd_y rfl (fun w hs => yv_fieldAddr rfl) rfl rfl ?_
  refine jd_y rfl (fun w hs => yv_load rfl (ld1B (hs.blk (i := 1) rfl) rfl)) rfl rfl ?_
  refine jd_mv rfl rfl rfl rfl ?_
  refine jd_mv rfl rfl rfl rfl ?_
  refine jd_ix fun x36 h37 => ?_
  refine jd_y rfl (fun w hs => yv_ix rfl rfl (hs.arg Rha0) h37) rfl rfl ?_
  refine jd_y rfl (fun w hs => yv_ef rfl (hs.arg Rha0) h37.1) rfl rfl ?_
  refine jd_y rfl (fun w hs => yv_e1 rfl (hs.arg Rha0) h37.1 rfl) rfl rfl ?_
  refine jd_yl rfl (fun w hs => yv_sub_w rfl rfl) rfl rfl fun x38 => ?_
  refine jd_y rfl (fun w hs => yv_max rfl rfl) rfl rfl ?_
  refine jd_y rfl (fun w hs => yv_fieldAddr rfl) rfl rfl ?_
  refine jd_h rfl ?_
  refine jg_store 1 rfl rfl rfl (l1 rfl) rfl rfl rfl rfl (l2 rfl) (r3 rfl) ?_
  refine jg_nil ?_
  refine jk_df rfl ?_
  refine jf_nils [(0, _), (3, _), (10, _), (11, _), (12, _), (13, _)] ⟨rfl, rfl, rfl, rfl, rfl, rfl, trivial⟩ ?_
  refine jk_sn ?_
  refine jn_reg 30 ?_
  refine jg_mv rfl rfl rfl ?_
  refine jg_y (fun w hs => yv_add_w rfl rfl) rfl rfl ?_
  refine jg_as rfl rfl rfl ?_
  refine jg_nils [(0, _), (3, _), (10, _), (11, _), (12, _), (13, _)] ⟨rfl, rfl, rfl, rfl, rfl, rfl, trivial⟩ ?_
  refine jk_sn ?_
  refine jn_reg 31 ?_
  refine jg_mv rfl rfl rfl ?_
  refine jg_y (fun w hs => yv_load rfl (ldBB (hs.blkL (i := 1) rfl) rfl)) rfl rfl ?_
  refine jg_lit (enc := Moment.enc) [(Moment.mk x30 (max x35 x38))] rfl rfl rfl rfl rfl rfl rfl rfl fun hd39 => ?_
  refine jg_append 3 rfl rfl rfl (fun w hs => (hs.row 0 rfl)) rfl rfl rfl fun y40 hd41 => ?_
  refine jg_L (r4 rfl) ?_
  refine jg_as rfl rfl rfl ?_
  refine jg_nils [(0, _), (3, _), (10, _), (11, _), (12, _), (13, _)] ⟨rfl, rfl, rfl, rfl, rfl, rfl, trivial⟩ ?_
  refine jk_bn (jk_sn ?_)
  refine jn_reg 18 ?_
  refine jg_mv rfl rfl rfl ?_
  refine jg_y (fun w hs => yv_add_w rfl rfl) rfl rfl ?_
  refine jg_as rfl rfl rfl ?_
  refine jg_nils [(0, _), (3, _), (10, _), (11, _), (12, _), (13, _)] ⟨rfl, rfl, rfl, rfl, rfl, rfl, trivial⟩ ?_
  exact jk_use H17 (x30, max x35 x38, y40, w64 (z14.2.2.2.1 + 1), w64 (z14.2.2.2.2 + 1)) hd41 [1, 2, 3] ⟨rfl, rfl, rfl, rfl, rfl, rfl, trivial⟩ rfl rfl rfl
theorem occupancy_Inside_c {w : World} {a0 : (List Span)} {a1 : (List Span)} {ha0 : Hd} {ha1 : Hd} {v : Bool} (hm : occupancy_Inside a0 a1 = some v) (Rha0 : Sl w ha0 Span.enc a0) (Rha1 : Sl w ha1 Span.enc a1) : Gives Try.prog 30 [ha0.v, ha1.v] w (.bool v) := by
  refine j_gives (vs := [ha0.v, ha1.v]) (U := fun (v : Bool) => .bool v) Try.func30 rfl Try.ntmps30 rfl rfl hm ?_
  unfold occupancy_Inside
  clear hm
  refine jn_seq ?_
  refine jn_reg 0 ?_
  refine jg_as rfl rfl rfl ?_
  refine jg_nils [(0, _), (1, _)] ⟨rfl, rfl, trivial⟩ ?_
  refine jk_sn ?_
  refine jn_seq ?_
  refine jn_seq ?_
  refine jn_reg 1 ?_
  refine jg_mv rfl rfl rfl ?_
  refine jg_y (fun w hs => yv_ln rfl (hs.arg Rha0)) rfl rfl ?_
  refine jg_mv rfl rfl rfl ?_
  refine jg_y (fun w hs => yv_ln rfl (hs.arg Rha1)) rfl rfl ?_
  refine jg_y (fun w hs => yv_gtr rfl rfl) rfl rfl ?_
  refine jg_nils [(0, _), (1, _), (12, _)] ⟨rfl, rfl, rfl, trivial⟩ ?_
  refine jk_sn ?_
  refine jn_cond rfl ?_ ?_
  · refine jn_seq ?_
    refine jn_reg 2 ?_
    refine jg_as rfl rfl rfl ?_
    refine jg_nils [(4, _)] ⟨rfl, trivial⟩ ?_
    refine jk_sn ?_
    refine jn_ret ?_
    refine jk_sr ?_
    exact jk_ret1 rfl (fun w hs => .tmp rfl) (fun w hs => ⟨rfl, hs.drop⟩)
  refine jn_skip ?_
  refine jk_sn ?_
  refine jn_seq ?_
  refine jn_seq ?_
  refine jn_reg 3 ?_
  refine jg_mv rfl rfl rfl ?_
  refine jg_y (fun w hs => yv_ln rfl (hs.arg Rha0)) rfl rfl ?_
  refine jg_mv rfl rfl rfl ?_
  refine jg_nils [(1, _), (13, _), (14, _), (15, _)] ⟨rfl, rfl, rfl, rfl, trivial⟩ ?_
  refine jk_sn ?_
  refine jn_block ?_
  refine jn_lp (n := big) (fun (s : Int) (g : Unit) => [(1, ha1.v), (13, ha0.v), (14, .int .i64 (a0.length : Int)), (15, .int .i64 s)]) (fun (s : Int) (g : Unit) => []) (fun (s : Int) (g : Unit) => []) 0 () [] ⟨rfl, rfl, rfl, rfl, trivial⟩ rfl rfl rfl ?_
  intro z1 q2 n5 k3 H4
  refine jn_seq ?_
  refine jn_reg 4 ?_
  refine jg_y (fun w hs => yv_lss rfl rfl) rfl rfl ?_
  refine jg_nils [(1, _), (13, _), (14, _), (15, _), (16, _)] ⟨rfl, rfl, rfl, rfl, rfl, trivial⟩ ?_
  refine jk_sn ?_
  refine jn_seq ?_
  refine jn_cond rfl ?_ ?_
  rotate_left
  · refine jn_exit ?_
    refine jk_se (jk_le (jk_bh (jk_sn ?_)))
    refine jn_seq ?_
    refine jn_reg 10 ?_
    refine jg_as rfl rfl rfl ?_
    refine jg_nils [(4, _)] ⟨rfl, trivial⟩ ?_
    refine jk_sn ?_
    refine jn_ret ?_
    exact jk_ret1 rfl (fun w hs => .tmp rfl) (fun w hs => ⟨rfl, hs.drop⟩)
  refine jn_skip ?_
  refine jk_sn ?_
  refine jn_seq ?_
  refine jn_block ?_
  refine jn_seq ?_
  refine jn_reg 5 ?_
  refine jg_mv rfl rfl rfl ?_
  refine jg_ix fun x6 h7 => ?_
  refine jg_y (fun w hs => yv_ix rfl rfl (hs.arg Rha0) h7) rfl rfl ?_
  refine jg_y (fun w hs => yv_eS rfl (hs.arg Rha0) h7.1 (l4 rfl) rfl) rfl rfl ?_
  refine jg_alloc (l4 rfl) rfl rfl fun g8 => ?_
  refine jg_as rfl rfl rfl ?_
  refine jg_store 0 rfl rfl rfl (l4 rfl) rfl rfl rfl rfl (l4 rfl) (r1 rfl) ?_
  refine jg_nils [(1, _), (5, _), (6, _), (13, _), (14, _), (15, _)] ⟨rfl, rfl, rfl, rfl, rfl, rfl, trivial⟩ ?_
  refine jk_sn ?_
  refine jn_seq ?_
  refine jn_reg 6 ?_
  refine jg_mv rfl rfl rfl ?_
  refine jg_mv rfl rfl rfl ?_
  refine jg_ix fun x9 h10 => ?_
  refine jg_y (fun w hs => yv_ix rfl rfl (hs.arg Rha1) h10) rfl rfl ?_
  refine jg_y (fun w hs => yv_eS rfl (hs.arg Rha1) h10.1 (l4 rfl) rfl) rfl rfl ?_
  refine jg_alloc (l4 rfl) rfl rfl fun g11 => ?_
  refine jg_store 0 rfl rfl rfl (l4 rfl) rfl rfl rfl rfl (l4 rfl) (r2 rfl) ?_
  refine jg_nils [(1, _), (6, _), (7, _), (13, _), (14, _), (15, _)] ⟨rfl, rfl, rfl, rfl, rfl, rfl, trivial⟩ ?_
  refine jk_sn ?_
  refine jn_seq ?_
  refine jn_reg 7 ?_
  refine jg_y (fun w hs => yv_fieldAddr rfl) rfl rfl ?_
  refine jg_y (fun w hs => yv_load rfl (ld1B (hs.blkL (i := 1) rfl) rfl)) rfl rfl ?_
  refine jg_y (fun w hs => yv_fieldAddr rfl) rfl rfl ?_
  refine jg_y (fun w hs => yv_load rfl (ld1B (hs.blkL (i := 0) rfl) rfl)) rfl rfl ?_
  refine jg_y (fun w hs => yv_neq rfl rfl) rfl rfl ?_
  refine jg_mv rfl rfl rfl ?_
  refine jg_split 29 rfl ?_ ?_
  · refine jg_skip rfl rfl ?_
    refine jg_skip rfl rfl ?_
    refine jg_skip rfl rfl ?_
    refine jg_skip rfl rfl ?_
    refine jg_skip rfl rfl ?_
    refine jg_y (fun w hs => yv_pick_t rfl rfl) rfl rfl ?_
    refine jg_mv rfl rfl rfl ?_
    refine jg_skip rfl rfl ?_
    refine jg_skip rfl rfl ?_
    refine jg_skip rfl rfl ?_
    refine jg_skip rfl rfl ?_
    refine jg_skip rfl rfl ?_
    refine jg_y (fun w hs => yv_pick_t rfl rfl) rfl rfl ?_
    refine jg_mv rfl rfl rfl ?_
    refine jg_skip rfl rfl ?_
    refine jg_skip rfl rfl ?_
    refine jg_skip rfl rfl ?_
    refine jg_skip rfl rfl ?_
    refine jg_skip rfl rfl ?_
    refine jg_y (fun w hs => yv_pick_t rfl rfl) rfl rfl ?_
    refine jg_nils [(1, _), (13, _), (14, _), (15, _), (49, _)] ⟨rfl, rfl, rfl, rfl, rfl, trivial⟩ ?_
    refine jk_sel (is := []) (s0 rfl) rfl ?_
    refine jk_sn ?_
    refine jn_ct rfl ?_
    refine jn_seq ?_
    refine jn_reg 8 ?_
    refine jg_as rfl rfl rfl ?_
    refine jg_nils [(4, _)] ⟨rfl, trivial⟩ ?_
    refine jk_sn ?_
    refine jn_ret ?_
    refine jk_br (jk_sr (jk_lr (jk_br (jk_sr ?_))))
    exact jk_ret1 rfl (fun w hs => .tmp rfl) (fun w hs => ⟨rfl, hs.drop⟩)
  refine jg_y (fun w hs => yv_fieldAddr rfl) rfl rfl ?_
  refine jg_y (fun w hs => yv_load rfl (ld1B (hs.blkL (i := 1) rfl) rfl)) rfl rfl ?_
  refine jg_y (fun w hs => yv_fieldAddr rfl) rfl rfl ?_
  refine jg_y (fun w hs => yv_load rfl (ld1B (hs.blkL (i := 0) rfl) rfl)) rfl rfl ?_
  refine jg_y (fun w hs => yv_neq rfl rfl) rfl rfl ?_
  refine jg_y (fun w hs => yv_pick_f rfl rfl) rfl rfl ?_
  refine jg_mv rfl rfl rfl ?_
  refine jg_split 36 rfl ?_ ?_
  · refine jg_skip rfl rfl ?_
    refine jg_skip rfl rfl ?_
    refine jg_skip rfl rfl ?_
    refine jg_skip rfl rfl ?_
    refine jg_skip rfl rfl ?_
    refine jg_y (fun w hs => yv_pick_t rfl rfl) rfl rfl ?_
    refine jg_mv rfl rfl rfl ?_
    refine jg_skip rfl rfl ?_
    refine jg_skip rfl rfl ?_
    refine jg_skip rfl rfl ?_
    refine jg_skip rfl rfl ?_
    refine jg_skip rfl rfl ?_
    refine jg_y (fun w hs => yv_pick_t rfl rfl) rfl rfl ?_
    refine jg_nils [(1, _), (13, _), (14, _), (15, _), (49, _)] ⟨rfl, rfl, rfl, rfl, rfl, trivial⟩ ?_
    refine jk_sel (is := []) (s0 rfl) rfl ?_
    refine jk_sn ?_
    refine jn_ct rfl ?_
    refine jn_seq ?_
    refine jn_reg 8 ?_
    refine jg_as rfl rfl rfl ?_
    refine jg_nils [(4, _)] ⟨rfl, trivial⟩ ?_
    refine jk_sn ?_
    refine jn_ret ?_
    refine jk_br (jk_sr (jk_lr (jk_br (jk_sr ?_))))
    exact jk_ret1 rfl (fun w hs => .tmp rfl) (fun w hs => ⟨rfl, hs.drop⟩)
  refine jg_y (fun w hs => yv_fieldAddr rfl) rfl rfl ?_
  refine jg_y (fun w hs => yv_load rfl (ld1B (hs.blkL (i := 1) rfl) rfl)) rfl rfl ?_
  refine jg_y (fun w hs => yv_fieldAddr rfl) rfl rfl ?_
  refine jg_y (fun w hs => yv_load rfl (ld1B (hs.blkL (i := 0) rfl) rfl)) rfl rfl ?_
  refine jg_y (fun w hs => yv_lss rfl rfl) rfl rfl ?_
  refine jg_y (fun w hs => yv_pick_f rfl rfl) rfl rfl ?_
  refine jg_mv rfl rfl rfl ?_
  refine jg_split 43 rfl ?_ ?_
  · refine jg_skip rfl rfl ?_
    refine jg_skip rfl rfl ?_
    refine jg_skip rfl rfl ?_
    refine jg_skip rfl rfl ?_
    refine jg_skip rfl rfl ?_
    refine jg_y (fun w hs => yv_pick_t rfl rfl) rfl rfl ?_
    refine jg_nils [(1, _), (13, _), (14, _), (15, _), (49, _)] ⟨rfl, rfl, rfl, rfl, rfl, trivial⟩ ?_
    refine jk_sel (is := []) (s0 rfl) rfl ?_
    refine jk_sn ?_
    refine jn_ct rfl ?_
    refine jn_seq ?_
    refine jn_reg 8 ?_
    refine jg_as rfl rfl rfl ?_
    refine jg_nils [(4, _)] ⟨rfl, trivial⟩ ?_
    refine jk_sn ?_
    refine jn_ret ?_
    refine jk_br (jk_sr (jk_lr (jk_br (jk_sr ?_))))
    exact jk_ret1 rfl (fun w hs => .tmp rfl) (fun w hs => ⟨rfl, hs.drop⟩)
  refine jg_y (fun w hs => yv_fieldAddr rfl) rfl rfl ?_
  refine jg_y (fun w hs => yv_load rfl (ld1B (hs.blkL (i := 1) rfl) rfl)) rfl rfl ?_
  refine jg_y (fun w hs => yv_fieldAddr rfl) rfl rfl ?_
  refine jg_y (fun w hs => yv_load rfl (ld1B (hs.blkL (i := 0) rfl) rfl)) rfl rfl ?_
  refine jg_y (fun w hs => yv_gtr rfl rfl) rfl rfl ?_
  refine jg_y (fun w hs => yv_pick_f rfl rfl) rfl rfl ?_
  refine jg_nils [(1, _), (13, _), (14, _), (15, _), (49, _)] ⟨rfl, rfl, rfl, rfl, rfl, trivial⟩ ?_
  refine jk_sel (is := []) (s0 rfl) rfl ?_
  refine jk_sn ?_
  refine jn_cond rfl ?_ ?_
  rotate_left
  · refine jn_skip ?_
    refine jk_bn (jk_sn ?_)
    refine jn_reg 9 ?_
    refine jg_y (fun w hs => yv_add_w rfl rfl) rfl rfl ?_
    refine jg_mv rfl rfl rfl ?_
    refine jg_nils [(1, _), (13, _), (14, _), (15, _)] ⟨rfl, rfl, rfl, rfl, trivial⟩ ?_
    exact jk_use H4 (w64 (z1 + 1)) () [] ⟨rfl, rfl, rfl, rfl, trivial⟩ rfl rfl rfl
  refine jn_seq ?_
  refine jn_reg 8 ?_
  refine jg_as rfl rfl rfl ?_
  refine jg_nils [(4, _)] ⟨rfl, trivial⟩ ?_
  refine jk_sn ?_
  refine jn_ret ?_
  refine jk_br (jk_sr (jk_lr (jk_br (jk_sr ?_))))
  exact jk_ret1 rfl (fun w hs => .tmp rfl) (fun w hs => ⟨rfl, hs.drop⟩)
theorem law22_OccupancyContains_c {w : World} {a0 : (List Int)} {a1 : Int} {ha0 : Hd} {v : Bool} (hm : law22_OccupancyContains a0 a1 = some v) (Rha0 : Sl w ha0 encI a0) : Gives Try.prog 7 [ha0.v, .int .i64 a1] w (.bool v) := by
  refine j_gives (vs := [ha0.v, .int .i64 a1]) (U := fun (v : Bool) => .bool v) Try.func7 rfl Try.ntmps7 rfl rfl hm ?_
  unfold law22_OccupancyContains
  clear hm
  refine jn_seq ?_
  refine jn_reg 0 ?_
  refine jg_as rfl rfl rfl ?_
  refine jg_nils [(0, _), (1, _)] ⟨rfl, rfl, trivial⟩ ?_
  refine jk_sn ?_
  refine jn_seq ?_
  refine jn_reg 1 ?_
  refine jg_mv rfl rfl rfl ?_
  refine jg_c rfl (fun v w hs hm => gen_New_c hm (hs.arg Rha0)) rfl rfl fun v1 q2 => ?_
  refine jg_L (r1 rfl) ?_
  refine jg_as rfl rfl rfl ?_
  refine jg_nils [(1, _), (5, _)] ⟨rfl, rfl, trivial⟩ ?_
  refine jk_sn ?_
  refine jn_seq ?_
  refine jn_reg 2 ?_
  refine jg_mv rfl rfl rfl ?_
  refine jl_c 0 rfl rfl (fun v w hs hm => law22_path_c hm (hs.blkL (i := 0) rfl) (hs.arg Rha0) (hs.offAL 0 Rha0 rfl)) (fun _ => rfl) rfl rfl fun v3 q4 => ?_
  refine jg_L (r3 rfl) ?_
  refine jg_mv rfl rfl rfl ?_
  refine jg_y (fun w hs => yv_extract rfl rfl) rfl rfl ?_
  refine jg_y (fun w hs => yv_extract rfl rfl) rfl rfl ?_
  refine jg_y (fun w hs => yv_extract rfl rfl) rfl rfl ?_
  refine jg_as rfl rfl rfl ?_
  refine jg_as rfl rfl rfl ?_
  refine jg_as rfl rfl rfl ?_
  refine jg_nils [(1, _), (5, _), (6, _), (7, _)] ⟨rfl, rfl, rfl, rfl, trivial⟩ ?_
  refine jk_sn ?_
  refine jn_seq ?_
  refine jn_reg 3 ?_
  refine jg_mv rfl rfl rfl ?_
  refine jg_mv rfl rfl rfl ?_
  refine jg_mv rfl rfl rfl ?_
  refine jg_y (fun w hs => yv_ln rfl (hs.row 1 rfl)) rfl rfl ?_
  refine jg_yl (fun w hs => yv_sub_w rfl rfl) rfl rfl fun x5 => ?_
  refine jg_ix fun x6 h7 => ?_
  refine jg_y (fun w hs => yv_ix rfl rfl (hs.row 1 rfl) h7) rfl rfl ?_
  refine jg_y (fun w hs => yv_ef rfl (hs.row 1 rfl) h7.1) rfl rfl ?_
  refine jg_y (fun w hs => yv_e1 rfl (hs.row 1 rfl) h7.1 rfl) rfl rfl ?_
  refine jg_c0 rfl (fun v w hs hm => yardgen_Place_c hm ) rfl rfl fun v8 => ?_
  refine jg_y (fun w hs => yv_add_w rfl rfl) rfl rfl ?_
  refine jg_as rfl rfl rfl ?_
  refine jg_nils [(5, _), (6, _), (7, _), (9, _)] ⟨rfl, rfl, rfl, rfl, trivial⟩ ?_
  refine jk_sn ?_
  refine jn_seq ?_
  refine jn_reg 4 ?_
  refine jg_mv rfl rfl rfl ?_
  refine jg_mv rfl rfl rfl ?_
  refine jg_c rfl (fun v w hs hm => occupancy_Approach_c hm (hs.row 1 rfl)) rfl rfl fun v9 q10 => ?_
  refine jg_L (r4 rfl) ?_
  refine jg_mv rfl rfl rfl ?_
  refine jg_y (fun w hs => yv_extract rfl rfl) rfl rfl ?_
  refine jg_y (fun w hs => yv_extract rfl rfl) rfl rfl ?_
  refine jg_as rfl rfl rfl ?_
  refine jg_as rfl rfl rfl ?_
  refine jg_nils [(5, _), (6, _), (7, _), (9, _), (10, _)] ⟨rfl, rfl, rfl, rfl, rfl, trivial⟩ ?_
  refine jk_sn ?_
  refine jn_seq ?_
  refine jn_seq ?_
  refine jn_reg 5 ?_
  refine jg_mv rfl rfl rfl ?_
  refine jg_y (fun w hs => yv_neq rfl rfl) rfl rfl ?_
  refine jg_nils [(5, _), (6, _), (7, _), (9, _), (47, _)] ⟨rfl, rfl, rfl, rfl, rfl, trivial⟩ ?_
  refine jk_sn ?_
  refine jn_cond rfl ?_ ?_
  · refine jn_seq ?_
    refine jn_reg 6 ?_
    refine jg_as rfl rfl rfl ?_
    refine jg_nils [(4, _)] ⟨rfl, trivial⟩ ?_
    refine jk_sel (is := []) (s0 rfl) rfl ?_
    refine jk_sn ?_
    refine jn_ret ?_
    refine jk_sr ?_
    exact jk_ret1 rfl (fun w hs => .tmp rfl) (fun w hs => ⟨rfl, hs.drop⟩)
  refine jn_skip ?_
  refine jk_sn ?_
  refine jn_seq ?_
  refine jn_reg 7 ?_
  refine jg_mv rfl rfl rfl ?_
  refine jg_mv rfl rfl rfl ?_
  refine jl_c 3 rfl rfl (fun v w hs hm => gen_Maker_Motion_c hm (hs.blkL (i := 3) rfl) (hs.arg Rha0) (hs.offAL 3 Rha0 rfl) (hs.row 0 rfl) (hs.offLL 0 3 rfl rfl)) (fun _ => rfl) rfl rfl fun v11 q12 => ?_
  refine jg_L (r6 rfl) ?_
  refine jg_alloc (l5 rfl) rfl rfl fun g13 => ?_
  refine jg_store 0 rfl rfl rfl (l5 rfl) rfl rfl rfl rfl (l5 rfl) (r7 rfl) ?_
  refine jg_nils [(5, _), (6, _), (7, _), (9, _), (11, _)] ⟨rfl, rfl, rfl, rfl, rfl, trivial⟩ ?_
  refine jk_sn ?_
  refine jn_seq ?_
  refine jn_reg 8 ?_
  refine jg_mv rfl rfl rfl ?_
  refine jg_y (fun w hs => yv_load rfl (ldBB (hs.blkL (i := 0) rfl) rfl)) rfl rfl ?_
  refine jg_c rfl (fun v w hs hm => r20_Pass_c (a1 := v11.1) hm (hs.row 3 rfl) (hs.row 1 rfl) (hs.row 2 rfl)) rfl rfl fun v14 q15 => ?_
  refine jg_L (r8 rfl) ?_
  refine jg_mv rfl rfl rfl ?_
  refine jg_y (fun w hs => yv_extract rfl rfl) rfl rfl ?_
  refine jg_y (fun w hs => yv_extract rfl rfl) rfl rfl ?_
  refine jg_as rfl rfl rfl ?_
  refine jg_as rfl rfl rfl ?_
  refine jg_nils [(5, _), (6, _), (7, _), (9, _), (11, _), (12, _)] ⟨rfl, rfl, rfl, rfl, rfl, rfl, trivial⟩ ?_
  refine jk_sn ?_
  refine jn_seq ?_
  refine jn_reg 9 ?_
  refine jg_mv rfl rfl rfl ?_
  refine jg_mv rfl rfl rfl ?_
  refine jg_mv rfl rfl rfl ?_
  refine jg_mv rfl rfl rfl ?_
  refine jg_c rfl (fun v w hs hm => occupancy_Spans_c hm (hs.row 5 rfl) (hs.row 4 rfl) (hs.row 0 rfl)) rfl rfl fun v16 q17 => ?_
  refine jg_L (r9 rfl) ?_
  refine jg_mv rfl rfl rfl ?_
  refine jg_y (fun w hs => yv_extract rfl rfl) rfl rfl ?_
  refine jg_y (fun w hs => yv_extract rfl rfl) rfl rfl ?_
  refine jg_as rfl rfl rfl ?_
  refine jg_as rfl rfl rfl ?_
  refine jg_nils [(5, _), (6, _), (7, _), (9, _), (11, _), (14, _), (15, _)] ⟨rfl, rfl, rfl, rfl, rfl, rfl, rfl, trivial⟩ ?_
  refine jk_sel (is := [0, 2, 3, 4, 5, 6, 8]) (s7 rfl) rfl ?_
  refine jk_sn ?_
  refine jn_seq ?_
  refine jn_seq ?_
  refine jn_reg 10 ?_
  refine jg_as rfl rfl rfl ?_
  refine jg_nils [(5, _), (6, _), (7, _), (9, _), (11, _), (14, _), (15, _), (16, _)] ⟨rfl, rfl, rfl, rfl, rfl, rfl, rfl, rfl, trivial⟩ ?_
  refine jk_sn ?_
  refine jn_block ?_
  refine jn_lp (n := big) (fun (s : (Int × Int)) (g : Unit) => [(5, .pointer (some ⟨q2, 0, none⟩)), (6, q4.1.v), (7, q10.v), (9, .int .i64 (w64 (1 + v8))), (11, .pointer (some ⟨g13, 0, none⟩)), (14, q17.v), (15, .int .i64 v16.2), (16, .int .i64 s.2)]) (fun (s : (Int × Int)) (g : Unit) => []) (fun (s : (Int × Int)) (g : Unit) => [(Res.blk q2 82 [ha0.v, .int .i64 s.1]), (rowH q4.1 85 8 Element.enc v3.1), (rowH q10 30 5 Piece.enc v9.1), (Res.blk g13 44 [.int .i64 v11.1.Speed.Lo, .int .i64 v11.1.Speed.Hi, q12.1.v, .int .i64 v11.1.Error, q12.2.v]), (rowH q12.1 41 2 Interval.enc v11.1.Class), (rowH q12.2 3 1 encI v11.1.Targets), (rowH q17 53 4 Span.enc v16.1)]) (v11.2, 0) () [6, 5, 4, 1, 2, 3, 0] ⟨rfl, rfl, rfl, rfl, rfl, rfl, rfl, rfl, trivial⟩ rfl rfl rfl ?_
  intro z18 q19 n22 k20 H21
  refine jn_seq ?_
  refine jn_seq ?_
  refine jn_reg 11 ?_
  refine jg_mv rfl rfl rfl ?_
  refine jg_y (fun w hs => yv_lss rfl rfl) rfl rfl ?_
  refine jg_nils [(5, _), (6, _), (7, _), (9, _), (11, _), (14, _), (15, _), (16, _), (66, _)] ⟨rfl, rfl, rfl, rfl, rfl, rfl, rfl, rfl, rfl, trivial⟩ ?_
  refine jk_sn ?_
  refine jn_cond rfl ?_ ?_
  rotate_left
  · refine jn_exit ?_
    refine jk_se (jk_le (jk_bh (jk_sn ?_)))
    refine jn_seq ?_
    refine jn_reg 17 ?_
    refine jg_c0 rfl (fun v w hs hm => law22_sane_c hm ) rfl rfl fun v30 => ?_
    refine jg_as rfl rfl rfl ?_
    refine jg_nils [(4, _)] ⟨rfl, trivial⟩ ?_
    refine jk_sel (is := []) (s0 rfl) rfl ?_
    refine jk_sn ?_
    refine jn_ret ?_
    exact jk_ret1 rfl (fun w hs => .tmp rfl) (fun w hs => ⟨rfl, hs.drop⟩)
  refine jn_skip ?_
  refine jk_sn ?_
  refine jn_seq ?_
  refine jn_block ?_
  refine jn_seq ?_
  refine jn_reg 13 ?_
  refine jg_mv rfl rfl rfl ?_
  refine jg_mv rfl rfl rfl ?_
  refine jg_y (fun w hs => yv_load rfl (ldBB (hs.blkL (i := 3) rfl) rfl)) rfl rfl ?_
  refine jl_c 0 rfl rfl (fun v w hs hm => gen_Maker_Run_c (a1 := v11.1) hm (hs.blkL (i := 0) rfl) (hs.arg Rha0) (hs.offAL 0 Rha0 rfl) (hs.row 4 rfl) (hs.offLL 4 0 rfl rfl) (hs.row 5 rfl) (hs.offLL 5 0 rfl rfl)) (fun _ => rfl) rfl rfl fun v23 q24 => ?_
  refine jg_L (r9 rfl) ?_
  refine jg_c rfl (fun v w hs hm => r20_Point_c (a1 := v23.1) hm (hs.row 4 rfl) (hs.row 0 rfl) (hs.row 1 rfl)) rfl rfl fun v25 q26 => ?_
  refine jg_L (r10 rfl) ?_
  refine jg_mv rfl rfl rfl ?_
  refine jg_y (fun w hs => yv_extract rfl rfl) rfl rfl ?_
  refine jg_y (fun w hs => yv_extract rfl rfl) rfl rfl ?_
  refine jg_y (fun w hs => yv_extract rfl rfl) rfl rfl ?_
  refine jg_as rfl rfl rfl ?_
  refine jg_as rfl rfl rfl ?_
  refine jg_as rfl rfl rfl ?_
  refine jg_nils [(5, _), (6, _), (7, _), (9, _), (11, _), (14, _), (15, _), (16, _), (17, _)] ⟨rfl, rfl, rfl, rfl, rfl, rfl, rfl, rfl, rfl, trivial⟩ ?_
  refine jk_sel (is := [0, 3, 4, 5, 6, 7, 8, 9]) (s8 rfl) rfl ?_
  refine jk_sn ?_
  refine jn_seq ?_
  refine jn_reg 14 ?_
  refine jg_mv rfl rfl rfl ?_
  refine jg_mv rfl rfl rfl ?_
  refine jg_mv rfl rfl rfl ?_
  refine jg_mv rfl rfl rfl ?_
  refine jg_c rfl (fun v w hs hm => occupancy_Exact_c hm (hs.row 2 rfl) (hs.row 3 rfl) (hs.row 0 rfl)) rfl rfl fun v27 q28 => ?_
  refine jg_L (r9 rfl) ?_
  refine jg_mv rfl rfl rfl ?_
  refine jg_y (fun w hs => yv_extract rfl rfl) rfl rfl ?_
  refine jg_y (fun w hs => yv_extract rfl rfl) rfl rfl ?_
  refine jg_as rfl rfl rfl ?_
  refine jg_as rfl rfl rfl ?_
  refine jg_nils [(5, _), (6, _), (7, _), (9, _), (11, _), (14, _), (15, _), (16, _), (20, _), (21, _)] ⟨rfl, rfl, rfl, rfl, rfl, rfl, rfl, rfl, rfl, rfl, trivial⟩ ?_
  refine jk_sn ?_
  refine jn_seq ?_
  refine jn_reg 15 ?_
  refine jg_mv rfl rfl rfl ?_
  refine jg_y (fun w hs => yv_neq rfl rfl) rfl rfl ?_
  refine jg_mv rfl rfl rfl ?_
  refine jg_split 88 rfl ?_ ?_
  · refine jg_skip rfl rfl ?_
    refine jg_skip rfl rfl ?_
    refine jg_y (fun w hs => yv_pick_t rfl rfl) rfl rfl ?_
    refine jg_mv rfl rfl rfl ?_
    refine jg_skip rfl rfl ?_
    refine jg_skip rfl rfl ?_
    refine jg_skip rfl rfl ?_
    refine jg_skip rfl rfl ?_
    refine jg_y (fun w hs => yv_pick_t rfl rfl) rfl rfl ?_
    refine jg_nils [(5, _), (6, _), (7, _), (9, _), (11, _), (14, _), (15, _), (16, _), (97, _)] ⟨rfl, rfl, rfl, rfl, rfl, rfl, rfl, rfl, rfl, trivial⟩ ?_
    refine jk_sel (is := [2, 3, 4, 5, 6, 7, 8]) (s7 rfl) rfl ?_
    refine jk_sn ?_
    refine jn_ct rfl ?_
    refine jn_seq ?_
    refine jn_reg 16 ?_
    refine jg_as rfl rfl rfl ?_
    refine jg_nils [(4, _)] ⟨rfl, trivial⟩ ?_
    refine jk_sel (is := []) (s0 rfl) rfl ?_
    refine jk_sn ?_
    refine jn_ret ?_
    refine jk_br (jk_sr (jk_lr (jk_br (jk_sr ?_))))
    exact jk_ret1 rfl (fun w hs => .tmp rfl) (fun w hs => ⟨rfl, hs.drop⟩)
  refine jg_mv rfl rfl rfl ?_
  refine jg_y (fun w hs => yv_neq rfl rfl) rfl rfl ?_
  refine jg_y (fun w hs => yv_pick_f rfl rfl) rfl rfl ?_
  refine jg_mv rfl rfl rfl ?_
  refine jg_split 92 rfl ?_ ?_
  · refine jg_skip rfl rfl ?_
    refine jg_skip rfl rfl ?_
    refine jg_skip rfl rfl ?_
    refine jg_skip rfl rfl ?_
    refine jg_y (fun w hs => yv_pick_t rfl rfl) rfl rfl ?_
    refine jg_nils [(5, _), (6, _), (7, _), (9, _), (11, _), (14, _), (15, _), (16, _), (97, _)] ⟨rfl, rfl, rfl, rfl, rfl, rfl, rfl, rfl, rfl, trivial⟩ ?_
    refine jk_sel (is := [2, 3, 4, 5, 6, 7, 8]) (s7 rfl) rfl ?_
    refine jk_sn ?_
    refine jn_ct rfl ?_
    refine jn_seq ?_
    refine jn_reg 16 ?_
    refine jg_as rfl rfl rfl ?_
    refine jg_nils [(4, _)] ⟨rfl, trivial⟩ ?_
    refine jk_sel (is := []) (s0 rfl) rfl ?_
    refine jk_sn ?_
    refine jn_ret ?_
    refine jk_br (jk_sr (jk_lr (jk_br (jk_sr ?_))))
    exact jk_ret1 rfl (fun w hs => .tmp rfl) (fun w hs => ⟨rfl, hs.drop⟩)
  refine jg_mv rfl rfl rfl ?_
  refine jg_mv rfl rfl rfl ?_
  refine jg_c0 rfl (fun v w hs hm => occupancy_Inside_c hm (hs.row 0 rfl) (hs.row 8 rfl)) rfl rfl fun v29 => ?_
  refine jg_y (fun w hs => yv_not rfl) rfl rfl ?_
  refine jg_y (fun w hs => yv_pick_f rfl rfl) rfl rfl ?_
  refine jg_nils [(5, _), (6, _), (7, _), (9, _), (11, _), (14, _), (15, _), (16, _), (97, _)] ⟨rfl, rfl, rfl, rfl, rfl, rfl, rfl, rfl, rfl, trivial⟩ ?_
  refine jk_sel (is := [2, 3, 4, 5, 6, 7, 8]) (s7 rfl) rfl ?_
  refine jk_sn ?_
  refine jn_cond rfl ?_ ?_
  rotate_left
  · refine jn_skip ?_
    refine jk_bn (jk_sn ?_)
    refine jn_reg 12 ?_
    refine jg_mv rfl rfl rfl ?_
    refine jg_y (fun w hs => yv_add_w rfl rfl) rfl rfl ?_
    refine jg_as rfl rfl rfl ?_
    refine jg_nils [(5, _), (6, _), (7, _), (9, _), (11, _), (14, _), (15, _), (16, _)] ⟨rfl, rfl, rfl, rfl, rfl, rfl, rfl, rfl, trivial⟩ ?_
    exact jk_use H21 (v23.2, w64 (z18.2 + 1)) () [0, 1, 2, 3, 4, 5, 6] ⟨rfl, rfl, rfl, rfl, rfl, rfl, rfl, rfl, trivial⟩ rfl rfl rfl
  refine jn_seq ?_
  refine jn_reg 16 ?_
  refine jg_as rfl rfl rfl ?_
  refine jg_nils [(4, _)] ⟨rfl, trivial⟩ ?_
  refine jk_sel (is := []) (s0 rfl) rfl ?_
  refine jk_sn ?_
  refine jn_ret ?_
  refine jk_br (jk_sr (jk_lr (jk_br (jk_sr ?_))))
  exact jk_ret1 rfl (fun w hs => .tmp rfl) (fun w hs => ⟨rfl, hs.drop⟩)
theorem r22_Clear_c {w : World} {a0 : (List Piece)} {a1 : Int} {a2 : Int} {ha0 : Hd} {v : Int} (hm : r22_Clear a0 a1 a2 = some v) (Rha0 : Sl w ha0 Piece.enc a0) : Gives Try.prog 58 [ha0.v, .int .i64 a1, .int .i64 a2] w (.int .i64 v) := by
  refine j_gives (vs := [ha0.v, .int .i64 a1, .int .i64 a2]) (U := fun (v : Int) => .int .i64 v) Try.func58 rfl Try.ntmps58 rfl rfl hm ?_
  unfold r22_Clear
  clear hm
  refine jn_seq ?_
  refine jn_reg 0 ?_
  refine jg_as rfl rfl rfl ?_
  refine jg_nils [(0, _), (1, _), (2, _)] ⟨rfl, rfl, rfl, trivial⟩ ?_
  refine jk_sn ?_
  refine jn_seq ?_
  refine jn_seq ?_
  refine jn_reg 1 ?_
  refine jg_mv rfl rfl rfl ?_
  refine jg_y (fun w hs => yv_lss rfl rfl) rfl rfl ?_
  refine jg_mv rfl rfl rfl ?_
  refine jg_split 12 rfl ?_ ?_
  · refine jg_skip rfl rfl ?_
    refine jg_skip rfl rfl ?_
    refine jg_skip rfl rfl ?_
    refine jg_skip rfl rfl ?_
    refine jg_y (fun w hs => yv_pick_t rfl rfl) rfl rfl ?_
    refine jg_mv rfl rfl rfl ?_
    refine jg_skip rfl rfl ?_
    refine jg_skip rfl rfl ?_
    refine jg_y (fun w hs => yv_pick_t rfl rfl) rfl rfl ?_
    refine jg_mv rfl rfl rfl ?_
    refine jg_skip rfl rfl ?_
    refine jg_skip rfl rfl ?_
    refine jg_y (fun w hs => yv_pick_t rfl rfl) rfl rfl ?_
    refine jg_nils [(0, _), (1, _), (2, _), (25, _)] ⟨rfl, rfl, rfl, rfl, trivial⟩ ?_
    refine jk_sn ?_
    refine jn_ct rfl ?_
    refine jn_seq ?_
    refine jn_reg 2 ?_
    refine jg_as rfl rfl rfl ?_
    refine jg_nils [(6, _)] ⟨rfl, trivial⟩ ?_
    refine jk_sn ?_
    refine jn_ret ?_
    refine jk_sr ?_
    exact jk_ret1 rfl (fun w hs => .tmp rfl) (fun w hs => ⟨rfl, hs.drop⟩)
  refine jg_mv rfl rfl rfl ?_
  refine jg_mv rfl rfl rfl ?_
  refine jg_y (fun w hs => yv_ln rfl (hs.arg Rha0)) rfl rfl ?_
  refine jg_y (fun w hs => yv_geq rfl rfl) rfl rfl ?_
  refine jg_y (fun w hs => yv_pick_f rfl rfl) rfl rfl ?_
  refine jg_mv rfl rfl rfl ?_
  refine jg_split 18 rfl ?_ ?_
  · refine jg_skip rfl rfl ?_
    refine jg_skip rfl rfl ?_
    refine jg_y (fun w hs => yv_pick_t rfl rfl) rfl rfl ?_
    refine jg_mv rfl rfl rfl ?_
    refine jg_skip rfl rfl ?_
    refine jg_skip rfl rfl ?_
    refine jg_y (fun w hs => yv_pick_t rfl rfl) rfl rfl ?_
    refine jg_nils [(0, _), (1, _), (2, _), (25, _)] ⟨rfl, rfl, rfl, rfl, trivial⟩ ?_
    refine jk_sn ?_
    refine jn_ct rfl ?_
    refine jn_seq ?_
    refine jn_reg 2 ?_
    refine jg_as rfl rfl rfl ?_
    refine jg_nils [(6, _)] ⟨rfl, trivial⟩ ?_
    refine jk_sn ?_
    refine jn_ret ?_
    refine jk_sr ?_
    exact jk_ret1 rfl (fun w hs => .tmp rfl) (fun w hs => ⟨rfl, hs.drop⟩)
  refine jg_mv rfl rfl rfl ?_
  refine jg_y (fun w hs => yv_lss rfl rfl) rfl rfl ?_
  refine jg_y (fun w hs => yv_pick_f rfl rfl) rfl rfl ?_
  refine jg_mv rfl rfl rfl ?_
  refine jg_split 22 rfl ?_ ?_
  · refine jg_skip rfl rfl ?_
    refine jg_skip rfl rfl ?_
    refine jg_y (fun w hs => yv_pick_t rfl rfl) rfl rfl ?_
    refine jg_nils [(0, _), (1, _), (2, _), (25, _)] ⟨rfl, rfl, rfl, rfl, trivial⟩ ?_
    refine jk_sn ?_
    refine jn_ct rfl ?_
    refine jn_seq ?_
    refine jn_reg 2 ?_
    refine jg_as rfl rfl rfl ?_
    refine jg_nils [(6, _)] ⟨rfl, trivial⟩ ?_
    refine jk_sn ?_
    refine jn_ret ?_
    refine jk_sr ?_
    exact jk_ret1 rfl (fun w hs => .tmp rfl) (fun w hs => ⟨rfl, hs.drop⟩)
  refine jg_mv rfl rfl rfl ?_
  refine jg_y (fun w hs => yv_gtr rfl rfl) rfl rfl ?_
  refine jg_y (fun w hs => yv_pick_f rfl rfl) rfl rfl ?_
  refine jg_nils [(0, _), (1, _), (2, _), (25, _)] ⟨rfl, rfl, rfl, rfl, trivial⟩ ?_
  refine jk_sn ?_
  refine jn_cond rfl ?_ ?_
  · refine jn_seq ?_
    refine jn_reg 2 ?_
    refine jg_as rfl rfl rfl ?_
    refine jg_nils [(6, _)] ⟨rfl, trivial⟩ ?_
    refine jk_sn ?_
    refine jn_ret ?_
    refine jk_sr ?_
    exact jk_ret1 rfl (fun w hs => .tmp rfl) (fun w hs => ⟨rfl, hs.drop⟩)
  refine jn_skip ?_
  refine jk_sn ?_
  refine jn_join (fun (s : Unit) (g : Unit) => [(0, ha0.v), (1, .int .i64 a1), (2, .int .i64 a2)]) (fun (s : Unit) (g : Unit) => []) (fun (s : Unit) (g : Unit) => []) ?_ ?_
  rotate_left
  · intro k3 H4
    refine jn_seq ?_
    refine jn_reg 3 ?_
    refine jg_as rfl rfl rfl ?_
    refine jg_nils [(0, _), (1, _), (2, _), (7, _)] ⟨rfl, rfl, rfl, rfl, trivial⟩ ?_
    refine jk_sn ?_
    refine jn_block ?_
    refine jn_lp (n := big) (fun (s : Int) (g : Unit) => [(0, ha0.v), (1, .int .i64 a1), (2, .int .i64 a2), (7, .int .i64 s)]) (fun (s : Int) (g : Unit) => []) (fun (s : Int) (g : Unit) => []) 0 () [] ⟨rfl, rfl, rfl, rfl, trivial⟩ rfl rfl rfl ?_
    intro z12 q13 n16 k14 H15
    refine jn_seq ?_
    refine jn_seq ?_
    refine jn_reg 4 ?_
    refine jg_mv rfl rfl rfl ?_
    refine jg_mv rfl rfl rfl ?_
    refine jg_y (fun w hs => yv_ln rfl (hs.arg Rha0)) rfl rfl ?_
    refine jg_y (fun w hs => yv_lss rfl rfl) rfl rfl ?_
    refine jg_nils [(0, _), (1, _), (2, _), (7, _), (29, _)] ⟨rfl, rfl, rfl, rfl, rfl, trivial⟩ ?_
    refine jk_sn ?_
    refine jn_cond rfl ?_ ?_
    rotate_left
    · refine jn_exit ?_
      refine jk_se (jk_le (jk_bh ?_))
      exact jk_use H4 () () [] ⟨rfl, rfl, rfl, trivial⟩ rfl rfl rfl
    refine jn_skip ?_
    refine jk_sn ?_
    refine jn_seq ?_
    refine jn_block ?_
    refine jn_seq ?_
    refine jn_reg 6 ?_
    refine jg_mv rfl rfl rfl ?_
    refine jg_mv rfl rfl rfl ?_
    refine jg_ix fun x17 h18 => ?_
    refine jg_y (fun w hs => yv_ix rfl rfl (hs.arg Rha0) h18) rfl rfl ?_
    refine jg_y (fun w hs => yv_ef rfl (hs.arg Rha0) h18.1) rfl rfl ?_
    refine jg_y (fun w hs => yv_e1 rfl (hs.arg Rha0) h18.1 rfl) rfl rfl ?_
    refine jg_y (fun w hs => yv_lss rfl rfl) rfl rfl ?_
    refine jg_mv rfl rfl rfl ?_
    refine jg_split 38 rfl ?_ ?_
    · refine jg_skip rfl rfl ?_
      refine jg_skip rfl rfl ?_
      refine jg_skip rfl rfl ?_
      refine jg_skip rfl rfl ?_
      refine jg_skip rfl rfl ?_
      refine jg_skip rfl rfl ?_
      refine jg_y (fun w hs => yv_pick_t rfl rfl) rfl rfl ?_
      refine jg_nils [(0, _), (1, _), (2, _), (7, _), (45, _)] ⟨rfl, rfl, rfl, rfl, rfl, trivial⟩ ?_
      refine jk_sn ?_
      refine jn_ct rfl ?_
      refine jn_seq ?_
      refine jn_reg 7 ?_
      refine jg_as rfl rfl rfl ?_
      refine jg_nils [(6, _)] ⟨rfl, trivial⟩ ?_
      refine jk_sn ?_
      refine jn_ret ?_
      refine jk_br (jk_sr (jk_lr (jk_br (jk_sr ?_))))
      exact jk_ret1 rfl (fun w hs => .tmp rfl) (fun w hs => ⟨rfl, hs.drop⟩)
    refine jg_mv rfl rfl rfl ?_
    refine jg_mv rfl rfl rfl ?_
    refine jg_ix fun x19 h20 => ?_
    refine jg_y (fun w hs => yv_ix rfl rfl (hs.arg Rha0) h20) rfl rfl ?_
    refine jg_y (fun w hs => yv_ef rfl (hs.arg Rha0) h20.1) rfl rfl ?_
    refine jg_y (fun w hs => yv_e1 rfl (hs.arg Rha0) h20.1 rfl) rfl rfl ?_
    refine jg_y (fun w hs => yv_gtr rfl rfl) rfl rfl ?_
    refine jg_y (fun w hs => yv_pick_f rfl rfl) rfl rfl ?_
    refine jg_nils [(0, _), (1, _), (2, _), (7, _), (45, _)] ⟨rfl, rfl, rfl, rfl, rfl, trivial⟩ ?_
    refine jk_sn ?_
    refine jn_cond rfl ?_ ?_
    · refine jn_seq ?_
      refine jn_reg 7 ?_
      refine jg_as rfl rfl rfl ?_
      refine jg_nils [(6, _)] ⟨rfl, trivial⟩ ?_
      refine jk_sn ?_
      refine jn_ret ?_
      refine jk_br (jk_sr (jk_lr (jk_br (jk_sr ?_))))
      exact jk_ret1 rfl (fun w hs => .tmp rfl) (fun w hs => ⟨rfl, hs.drop⟩)
    refine jn_skip ?_
    refine jk_bn (jk_sn ?_)
    refine jn_reg 5 ?_
    refine jg_mv rfl rfl rfl ?_
    refine jg_y (fun w hs => yv_add_w rfl rfl) rfl rfl ?_
    refine jg_as rfl rfl rfl ?_
    refine jg_nils [(0, _), (1, _), (2, _), (7, _)] ⟨rfl, rfl, rfl, rfl, trivial⟩ ?_
    exact jk_use H15 (w64 (z12 + 1)) () [] ⟨rfl, rfl, rfl, rfl, trivial⟩ rfl rfl rfl
  intro z1 q2
  refine jn_seq ?_
  refine jn_reg 8 ?_
  refine jg_as rfl rfl rfl ?_
  refine jg_nils [(0, _), (1, _), (2, _), (8, _)] ⟨rfl, rfl, rfl, rfl, trivial⟩ ?_
  refine jk_sn ?_
  refine jn_seq ?_
  refine jn_seq ?_
  refine jn_reg 9 ?_
  refine jg_mv rfl rfl rfl ?_
  refine jg_as rfl rfl rfl ?_
  refine jg_nils [(0, _), (1, _), (2, _), (8, _), (9, _)] ⟨rfl, rfl, rfl, rfl, rfl, trivial⟩ ?_
  refine jk_sn ?_
  refine jn_block ?_
  refine jn_lp (n := big) (fun (s : (Int × Int)) (g : Unit) => [(0, ha0.v), (1, .int .i64 a1), (2, .int .i64 a2), (8, .int .i64 s.1), (9, .int .i64 s.2)]) (fun (s : (Int × Int)) (g : Unit) => []) (fun (s : (Int × Int)) (g : Unit) => []) (0, a1) () [] ⟨rfl, rfl, rfl, rfl, rfl, trivial⟩ rfl rfl rfl ?_
  intro z5 q6 n9 k7 H8
  refine jn_seq ?_
  refine jn_seq ?_
  refine jn_reg 10 ?_
  refine jg_mv rfl rfl rfl ?_
  refine jg_mv rfl rfl rfl ?_
  refine jg_y (fun w hs => yv_ln rfl (hs.arg Rha0)) rfl rfl ?_
  refine jg_y (fun w hs => yv_lss rfl rfl) rfl rfl ?_
  refine jg_nils [(0, _), (1, _), (2, _), (8, _), (9, _), (50, _)] ⟨rfl, rfl, rfl, rfl, rfl, rfl, trivial⟩ ?_
  refine jk_sn ?_
  refine jn_cond rfl ?_ ?_
  rotate_left
  · refine jn_exit ?_
    refine jk_se (jk_le (jk_bh (jk_sn ?_)))
    refine jn_seq ?_
    refine jn_reg 16 ?_
    refine jg_as rfl rfl rfl ?_
    refine jg_nils [(6, _)] ⟨rfl, trivial⟩ ?_
    refine jk_sn ?_
    refine jn_ret ?_
    exact jk_ret1 rfl (fun w hs => .tmp rfl) (fun w hs => ⟨rfl, hs.drop⟩)
  refine jn_skip ?_
  refine jk_sn ?_
  refine jn_seq ?_
  refine jn_block ?_
  refine jn_seq ?_
  refine jn_seq ?_
  refine jn_reg 12 ?_
  refine jg_mv rfl rfl rfl ?_
  refine jg_mv rfl rfl rfl ?_
  refine jg_y (fun w hs => yv_gtr rfl rfl) rfl rfl ?_
  refine jg_nils [(0, _), (1, _), (2, _), (8, _), (9, _), (55, _)] ⟨rfl, rfl, rfl, rfl, rfl, rfl, trivial⟩ ?_
  refine jk_sn ?_
  refine jn_cond rfl ?_ ?_
  rotate_left
  · refine jn_skip ?_
    refine jk_sn ?_
    refine jn_seq ?_
    refine jn_reg 14 ?_
    refine jg_mv rfl rfl rfl ?_
    refine jg_mv rfl rfl rfl ?_
    refine jg_y (fun w hs => yv_geq rfl rfl) rfl rfl ?_
    refine jg_nils [(0, _), (1, _), (2, _), (8, _), (9, _), (65, _)] ⟨rfl, rfl, rfl, rfl, rfl, rfl, trivial⟩ ?_
    refine jk_sn ?_
    refine jn_cond rfl ?_ ?_
    rotate_left
    · refine jn_skip ?_
      refine jk_bn (jk_sn ?_)
      refine jn_reg 11 ?_
      refine jg_mv rfl rfl rfl ?_
      refine jg_y (fun w hs => yv_add_w rfl rfl) rfl rfl ?_
      refine jg_as rfl rfl rfl ?_
      refine jg_nils [(0, _), (1, _), (2, _), (8, _), (9, _)] ⟨rfl, rfl, rfl, rfl, rfl, trivial⟩ ?_
      exact jk_use H8 (z5.1, w64 (z5.2 + 1)) () [] ⟨rfl, rfl, rfl, rfl, rfl, trivial⟩ rfl rfl rfl
    refine jn_seq ?_
    refine jn_reg 15 ?_
    refine jg_mv rfl rfl rfl ?_
    refine jg_as rfl rfl rfl ?_
    refine jg_nils [(6, _)] ⟨rfl, trivial⟩ ?_
    refine jk_sn ?_
    refine jn_ret ?_
    refine jk_br (jk_sr (jk_lr (jk_br (jk_sr ?_))))
    exact jk_ret1 rfl (fun w hs => .tmp rfl) (fun w hs => ⟨rfl, hs.drop⟩)
  refine jn_reg 13 ?_
  refine jg_mv rfl rfl rfl ?_
  refine jg_mv rfl rfl rfl ?_
  refine jg_mv rfl rfl rfl ?_
  refine jg_ix fun x10 h11 => ?_
  refine jg_y (fun w hs => yv_ix rfl rfl (hs.arg Rha0) h11) rfl rfl ?_
  refine jg_y (fun w hs => yv_ef rfl (hs.arg Rha0) h11.1) rfl rfl ?_
  refine jg_y (fun w hs => yv_e1 rfl (hs.arg Rha0) h11.1 rfl) rfl rfl ?_
  refine jg_y (fun w hs => yv_add_w rfl rfl) rfl rfl ?_
  refine jg_as rfl rfl rfl ?_
  refine jg_nils [(0, _), (1, _), (2, _), (8, _), (9, _)] ⟨rfl, rfl, rfl, rfl, rfl, trivial⟩ ?_
  refine jk_sn ?_
  refine jn_seq ?_
  refine jn_reg 14 ?_
  refine jg_mv rfl rfl rfl ?_
  refine jg_mv rfl rfl rfl ?_
  refine jg_y (fun w hs => yv_geq rfl rfl) rfl rfl ?_
  refine jg_nils [(0, _), (1, _), (2, _), (8, _), (9, _), (65, _)] ⟨rfl, rfl, rfl, rfl, rfl, rfl, trivial⟩ ?_
  refine jk_sn ?_
  refine jn_cond rfl ?_ ?_
  rotate_left
  · refine jn_skip ?_
    refine jk_bn (jk_sn ?_)
    refine jn_reg 11 ?_
    refine jg_mv rfl rfl rfl ?_
    refine jg_y (fun w hs => yv_add_w rfl rfl) rfl rfl ?_
    refine jg_as rfl rfl rfl ?_
    refine jg_nils [(0, _), (1, _), (2, _), (8, _), (9, _)] ⟨rfl, rfl, rfl, rfl, rfl, trivial⟩ ?_
    exact jk_use H8 (w64 (z5.1 + x10.Length), w64 (z5.2 + 1)) () [] ⟨rfl, rfl, rfl, rfl, rfl, trivial⟩ rfl rfl rfl
  refine jn_seq ?_
  refine jn_reg 15 ?_
  refine jg_mv rfl rfl rfl ?_
  refine jg_as rfl rfl rfl ?_
  refine jg_nils [(6, _)] ⟨rfl, trivial⟩ ?_
  refine jk_sn ?_
  refine jn_ret ?_
  refine jk_br (jk_sr (jk_lr (jk_br (jk_sr ?_))))
  exact jk_ret1 rfl (fun w hs => .tmp rfl) (fun w hs => ⟨rfl, hs.drop⟩)
theorem r22_check_c {w : World} {a0 : (List Element)} {a1 : (List Piece)} {a2 : Bool} {a3 : Int} {ha0 : Hd} {ha1 : Hd} {v : Int} (hm : r22_check a0 a1 a2 a3 = some v) (Rha0 : Sl w ha0 Element.enc a0) (Rha1 : Sl w ha1 Piece.enc a1) : Gives Try.prog 78 [ha0.v, ha1.v, .bool a2, .int .i64 a3] w (.int .i64 v) := by
  refine j_gives (vs := [ha0.v, ha1.v, .bool a2, .int .i64 a3]) (U := fun (v : Int) => .int .i64 v) Try.func78 rfl Try.ntmps78 rfl rfl hm ?_
  unfold r22_check
  clear hm
  refine jn_seq ?_
  refine jn_reg 0 ?_
  refine jg_as rfl rfl rfl ?_
  refine jg_nils [(0, _), (1, _), (2, _), (3, _)] ⟨rfl, rfl, rfl, rfl, trivial⟩ ?_
  refine jk_sn ?_
  refine jn_seq ?_
  refine jn_seq ?_
  refine jn_reg 1 ?_
  refine jg_mv rfl rfl rfl ?_
  refine jg_c0 rfl (fun v w hs hm => r20_Valid_c hm (hs.arg Rha1)) rfl rfl fun v1 => ?_
  refine jg_as rfl rfl rfl ?_
  refine jg_nils [(0, _), (1, _), (2, _), (3, _), (9, _)] ⟨rfl, rfl, rfl, rfl, rfl, trivial⟩ ?_
  refine jk_sn ?_
  refine jn_seq ?_
  refine jn_reg 2 ?_
  refine jg_mv rfl rfl rfl ?_
  refine jg_y (fun w hs => yv_neq rfl rfl) rfl rfl ?_
  refine jg_nils [(0, _), (1, _), (2, _), (3, _), (9, _), (15, _)] ⟨rfl, rfl, rfl, rfl, rfl, rfl, trivial⟩ ?_
  refine jk_sn ?_
  refine jn_cond rfl ?_ ?_
  · refine jn_seq ?_
    refine jn_reg 3 ?_
    refine jg_mv rfl rfl rfl ?_
    refine jg_as rfl rfl rfl ?_
    refine jg_nils [(8, _)] ⟨rfl, trivial⟩ ?_
    refine jk_sn ?_
    refine jn_ret ?_
    refine jk_sr ?_
    exact jk_ret1 rfl (fun w hs => .tmp rfl) (fun w hs => ⟨rfl, hs.drop⟩)
  refine jn_skip ?_
  refine jk_sn ?_
  refine jn_seq ?_
  refine jn_seq ?_
  refine jn_reg 4 ?_
  refine jg_mv rfl rfl rfl ?_
  refine jg_y (fun w hs => yv_lss rfl rfl) rfl rfl ?_
  refine jg_mv rfl rfl rfl ?_
  refine jg_split 19 rfl ?_ ?_
  · refine jg_skip rfl rfl ?_
    refine jg_skip rfl rfl ?_
    refine jg_y (fun w hs => yv_pick_t rfl rfl) rfl rfl ?_
    refine jg_nils [(0, _), (1, _), (2, _), (3, _), (22, _)] ⟨rfl, rfl, rfl, rfl, rfl, trivial⟩ ?_
    refine jk_sn ?_
    refine jn_ct rfl ?_
    refine jn_seq ?_
    refine jn_reg 5 ?_
    refine jg_as rfl rfl rfl ?_
    refine jg_nils [(8, _)] ⟨rfl, trivial⟩ ?_
    refine jk_sn ?_
    refine jn_ret ?_
    refine jk_sr ?_
    exact jk_ret1 rfl (fun w hs => .tmp rfl) (fun w hs => ⟨rfl, hs.drop⟩)
  refine jg_mv rfl rfl rfl ?_
  refine jg_y (fun w hs => yv_gtr rfl rfl) rfl rfl ?_
  refine jg_y (fun w hs => yv_pick_f rfl rfl) rfl rfl ?_
  refine jg_nils [(0, _), (1, _), (2, _), (3, _), (22, _)] ⟨rfl, rfl, rfl, rfl, rfl, trivial⟩ ?_
  refine jk_sn ?_
  refine jn_cond rfl ?_ ?_
  · refine jn_seq ?_
    refine jn_reg 5 ?_
    refine jg_as rfl rfl rfl ?_
    refine jg_nils [(8, _)] ⟨rfl, trivial⟩ ?_
    refine jk_sn ?_
    refine jn_ret ?_
    refine jk_sr ?_
    exact jk_ret1 rfl (fun w hs => .tmp rfl) (fun w hs => ⟨rfl, hs.drop⟩)
  refine jn_skip ?_
  refine jk_sn ?_
  refine jn_join (fun (s : Bool) (g : Unit) => [(1, ha1.v), (2, .bool s), (3, .int .i64 a3)]) (fun (s : Bool) (g : Unit) => []) (fun (s : Bool) (g : Unit) => []) ?_ ?_
  rotate_left
  · intro k4 H5
    refine jn_seq ?_
    refine jn_reg 6 ?_
    refine jg_as rfl rfl rfl ?_
    refine jg_nils [(0, _), (1, _), (2, _), (3, _), (10, _)] ⟨rfl, rfl, rfl, rfl, rfl, trivial⟩ ?_
    refine jk_sn ?_
    refine jn_block ?_
    refine jn_lp (n := big) (fun (s : (Bool × Int)) (g : Unit) => [(0, ha0.v), (1, ha1.v), (2, .bool s.1), (3, .int .i64 a3), (10, .int .i64 s.2)]) (fun (s : (Bool × Int)) (g : Unit) => []) (fun (s : (Bool × Int)) (g : Unit) => []) (a2, 0) () [] ⟨rfl, rfl, rfl, rfl, rfl, trivial⟩ rfl rfl rfl ?_
    intro z12 q13 n16 k14 H15
    refine jn_seq ?_
    refine jn_seq ?_
    refine jn_reg 7 ?_
    refine jg_mv rfl rfl rfl ?_
    refine jg_mv rfl rfl rfl ?_
    refine jg_y (fun w hs => yv_ln rfl (hs.arg Rha1)) rfl rfl ?_
    refine jg_y (fun w hs => yv_lss rfl rfl) rfl rfl ?_
    refine jg_nils [(0, _), (1, _), (2, _), (3, _), (10, _), (26, _)] ⟨rfl, rfl, rfl, rfl, rfl, rfl, trivial⟩ ?_
    refine jk_sn ?_
    refine jn_cond rfl ?_ ?_
    rotate_left
    · refine jn_exit ?_
      refine jk_se (jk_le (jk_bh ?_))
      exact jk_use H5 z12.1 () [] ⟨rfl, rfl, rfl, trivial⟩ rfl rfl rfl
    refine jn_skip ?_
    refine jk_sn ?_
    refine jn_seq ?_
    refine jn_block ?_
    refine jn_reg 9 ?_
    refine jg_mv rfl rfl rfl ?_
    refine jg_mv rfl rfl rfl ?_
    refine jg_split 30 rfl ?_ ?_
    rotate_left
    · refine jg_skip rfl rfl ?_
      refine jg_skip rfl rfl ?_
      refine jg_skip rfl rfl ?_
      refine jg_skip rfl rfl ?_
      refine jg_skip rfl rfl ?_
      refine jg_skip rfl rfl ?_
      refine jg_skip rfl rfl ?_
      refine jg_skip rfl rfl ?_
      refine jg_y (fun w hs => yv_pick_f rfl rfl) rfl rfl ?_
      refine jg_as rfl rfl rfl ?_
      refine jg_nils [(0, _), (1, _), (2, _), (3, _), (10, _)] ⟨rfl, rfl, rfl, rfl, rfl, trivial⟩ ?_
      refine jk_bn (jk_sn ?_)
      refine jn_reg 8 ?_
      refine jg_mv rfl rfl rfl ?_
      refine jg_y (fun w hs => yv_add_w rfl rfl) rfl rfl ?_
      refine jg_as rfl rfl rfl ?_
      refine jg_nils [(0, _), (1, _), (2, _), (3, _), (10, _)] ⟨rfl, rfl, rfl, rfl, rfl, trivial⟩ ?_
      exact jk_use H15 (false, w64 (z12.2 + 1)) () [] ⟨rfl, rfl, rfl, rfl, rfl, trivial⟩ rfl rfl rfl
    refine jg_mv rfl rfl rfl ?_
    refine jg_mv rfl rfl rfl ?_
    refine jg_ix fun x17 h18 => ?_
    refine jg_y (fun w hs => yv_ix rfl rfl (hs.arg Rha1) h18) rfl rfl ?_
    refine jg_y (fun w hs => yv_ef rfl (hs.arg Rha1) h18.1) rfl rfl ?_
    refine jg_y (fun w hs => yv_e1 rfl (hs.arg Rha1) h18.1 rfl) rfl rfl ?_
    refine jg_mv rfl rfl rfl ?_
    refine jg_y (fun w hs => yv_ln rfl (hs.arg Rha0)) rfl rfl ?_
    refine jg_y (fun w hs => yv_lss rfl rfl) rfl rfl ?_
    refine jg_y (fun w hs => yv_pick_t rfl rfl) rfl rfl ?_
    refine jg_as rfl rfl rfl ?_
    refine jg_nils [(0, _), (1, _), (2, _), (3, _), (10, _)] ⟨rfl, rfl, rfl, rfl, rfl, trivial⟩ ?_
    refine jk_bn (jk_sn ?_)
    refine jn_reg 8 ?_
    refine jg_mv rfl rfl rfl ?_
    refine jg_y (fun w hs => yv_add_w rfl rfl) rfl rfl ?_
    refine jg_as rfl rfl rfl ?_
    refine jg_nils [(0, _), (1, _), (2, _), (3, _), (10, _)] ⟨rfl, rfl, rfl, rfl, rfl, trivial⟩ ?_
    exact jk_use H15 (decide (x17.Element < (a0.length : Int)), w64 (z12.2 + 1)) () [] ⟨rfl, rfl, rfl, rfl, rfl, trivial⟩ rfl rfl rfl
  intro z2 q3
  refine jn_seq ?_
  refine jn_seq ?_
  refine jn_reg 10 ?_
  refine jg_mv rfl rfl rfl ?_
  refine jg_y (fun w hs => yv_not rfl) rfl rfl ?_
  refine jg_nils [(1, _), (3, _), (41, _)] ⟨rfl, rfl, rfl, trivial⟩ ?_
  refine jk_sn ?_
  refine jn_cond rfl ?_ ?_
  · refine jn_seq ?_
    refine jn_reg 11 ?_
    refine jg_as rfl rfl rfl ?_
    refine jg_nils [(8, _)] ⟨rfl, trivial⟩ ?_
    refine jk_sn ?_
    refine jn_ret ?_
    refine jk_sr ?_
    exact jk_ret1 rfl (fun w hs => .tmp rfl) (fun w hs => ⟨rfl, hs.drop⟩)
  refine jn_skip ?_
  refine jk_sn ?_
  refine jn_seq ?_
  refine jn_seq ?_
  refine jn_reg 12 ?_
  refine jg_as rfl rfl rfl ?_
  refine jg_nils [(1, _), (3, _), (11, _)] ⟨rfl, rfl, rfl, trivial⟩ ?_
  refine jk_sn ?_
  refine jn_block ?_
  refine jn_lp (n := big) (fun (s : Int) (g : Unit) => [(1, ha1.v), (3, .int .i64 a3), (11, .int .i64 s)]) (fun (s : Int) (g : Unit) => []) (fun (s : Int) (g : Unit) => []) 0 () [] ⟨rfl, rfl, rfl, trivial⟩ rfl rfl rfl ?_
  intro z6 q7 n10 k8 H9
  refine jn_seq ?_
  refine jn_seq ?_
  refine jn_reg 13 ?_
  refine jg_mv rfl rfl rfl ?_
  refine jg_y (fun w hs => yv_add_w rfl rfl) rfl rfl ?_
  refine jg_mv rfl rfl rfl ?_
  refine jg_y (fun w hs => yv_ln rfl (hs.arg Rha1)) rfl rfl ?_
  refine jg_y (fun w hs => yv_lss rfl rfl) rfl rfl ?_
  refine jg_nils [(1, _), (3, _), (11, _), (46, _)] ⟨rfl, rfl, rfl, rfl, trivial⟩ ?_
  refine jk_sn ?_
  refine jn_cond rfl ?_ ?_
  rotate_left
  · refine jn_exit ?_
    refine jk_se (jk_le (jk_bh (jk_sn ?_)))
    refine jn_seq ?_
    refine jn_reg 17 ?_
    refine jg_as rfl rfl rfl ?_
    refine jg_nils [(8, _)] ⟨rfl, trivial⟩ ?_
    refine jk_sn ?_
    refine jn_ret ?_
    exact jk_ret1 rfl (fun w hs => .tmp rfl) (fun w hs => ⟨rfl, hs.drop⟩)
  refine jn_skip ?_
  refine jk_sn ?_
  refine jn_seq ?_
  refine jn_block ?_
  refine jn_seq ?_
  refine jn_reg 15 ?_
  refine jg_mv rfl rfl rfl ?_
  refine jg_mv rfl rfl rfl ?_
  refine jg_mv rfl rfl rfl ?_
  refine jg_c0 rfl (fun v w hs hm => r22_Clear_c hm (hs.arg Rha1)) rfl rfl fun v11 => ?_
  refine jg_y (fun w hs => yv_lss rfl rfl) rfl rfl ?_
  refine jg_nils [(1, _), (3, _), (11, _), (53, _)] ⟨rfl, rfl, rfl, rfl, trivial⟩ ?_
  refine jk_sn ?_
  refine jn_cond rfl ?_ ?_
  · refine jn_seq ?_
    refine jn_reg 16 ?_
    refine jg_as rfl rfl rfl ?_
    refine jg_nils [(8, _)] ⟨rfl, trivial⟩ ?_
    refine jk_sn ?_
    refine jn_ret ?_
    refine jk_br (jk_sr (jk_lr (jk_br (jk_sr ?_))))
    exact jk_ret1 rfl (fun w hs => .tmp rfl) (fun w hs => ⟨rfl, hs.drop⟩)
  refine jn_skip ?_
  refine jk_bn (jk_sn ?_)
  refine jn_reg 14 ?_
  refine jg_mv rfl rfl rfl ?_
  refine jg_y (fun w hs => yv_add_w rfl rfl) rfl rfl ?_
  refine jg_as rfl rfl rfl ?_
  refine jg_nils [(1, _), (3, _), (11, _)] ⟨rfl, rfl, rfl, trivial⟩ ?_
  exact jk_use H9 (w64 (z6 + 1)) () [] ⟨rfl, rfl, rfl, trivial⟩ rfl rfl rfl
theorem r22_Side_c {w : World} {a0 : (List Element)} {a1 : (List Piece)} {a2 : Int} {ha0 : Hd} {ha1 : Hd} {v : Int} (hm : r22_Side a0 a1 a2 = some v) (Rha0 : Sl w ha0 Element.enc a0) (Rha1 : Sl w ha1 Piece.enc a1) : Gives Try.prog 79 [ha0.v, ha1.v, .int .i64 a2] w (.int .i64 v) := by
  refine j_gives (vs := [ha0.v, ha1.v, .int .i64 a2]) (U := fun (v : Int) => .int .i64 v) Try.func79 rfl Try.ntmps79 rfl rfl hm ?_
  unfold r22_Side
  clear hm
  refine jn_seq ?_
  refine jn_reg 0 ?_
  refine jg_as rfl rfl rfl ?_
  refine jg_nils [(0, _), (1, _), (2, _)] ⟨rfl, rfl, rfl, trivial⟩ ?_
  refine jk_sn ?_
  refine jn_seq ?_
  refine jn_seq ?_
  refine jn_reg 1 ?_
  refine jg_mv rfl rfl rfl ?_
  refine jg_mv rfl rfl rfl ?_
  refine jg_mv rfl rfl rfl ?_
  refine jg_ix fun x1 h2 => ?_
  refine jg_y (fun w hs => yv_ix rfl rfl (hs.arg Rha1) h2) rfl rfl ?_
  refine jg_y (fun w hs => yv_ef rfl (hs.arg Rha1) h2.1) rfl rfl ?_
  refine jg_y (fun w hs => yv_e1 rfl (hs.arg Rha1) h2.1 rfl) rfl rfl ?_
  refine jg_ix fun x3 h4 => ?_
  refine jg_y (fun w hs => yv_ix rfl rfl (hs.arg Rha0) h4) rfl rfl ?_
  refine jg_y (fun w hs => yv_ef rfl (hs.arg Rha0) h4.1) rfl rfl ?_
  refine jg_y (fun w hs => yv_e1 rfl (hs.arg Rha0) h4.1 rfl) rfl rfl ?_
  refine jg_y (fun w hs => yv_neq rfl rfl) rfl rfl ?_
  refine jg_nils [(0, _), (1, _), (2, _), (16, _)] ⟨rfl, rfl, rfl, rfl, trivial⟩ ?_
  refine jk_sn ?_
  refine jn_cond rfl ?_ ?_
  · refine jn_seq ?_
    refine jn_reg 2 ?_
    refine jg_as rfl rfl rfl ?_
    refine jg_nils [(6, _)] ⟨rfl, trivial⟩ ?_
    refine jk_sn ?_
    refine jn_ret ?_
    refine jk_sr ?_
    exact jk_ret1 rfl (fun w hs => .tmp rfl) (fun w hs => ⟨rfl, hs.drop⟩)
  refine jn_skip ?_
  refine jk_sn ?_
  refine jn_seq ?_
  refine jn_reg 3 ?_
  refine jg_mv rfl rfl rfl ?_
  refine jg_mv rfl rfl rfl ?_
  refine jg_mv rfl rfl rfl ?_
  refine jg_y (fun w hs => yv_add_w rfl rfl) rfl rfl ?_
  refine jg_ix fun x5 h6 => ?_
  refine jg_y (fun w hs => yv_ix rfl rfl (hs.arg Rha1) h6) rfl rfl ?_
  refine jg_y (fun w hs => yv_ef rfl (hs.arg Rha1) h6.1) rfl rfl ?_
  refine jg_y (fun w hs => yv_e1 rfl (hs.arg Rha1) h6.1 rfl) rfl rfl ?_
  refine jg_ix fun x7 h8 => ?_
  refine jg_y (fun w hs => yv_ix rfl rfl (hs.arg Rha0) h8) rfl rfl ?_
  refine jg_y (fun w hs => yv_ef rfl (hs.arg Rha0) h8.1) rfl rfl ?_
  refine jg_y (fun w hs => yv_e1 rfl (hs.arg Rha0) h8.1 rfl) rfl rfl ?_
  refine jg_as rfl rfl rfl ?_
  refine jg_nils [(6, _)] ⟨rfl, trivial⟩ ?_
  refine jk_sn ?_
  refine jn_ret ?_
  exact jk_ret1 rfl (fun w hs => .tmp rfl) (fun w hs => ⟨rfl, hs.drop⟩)
theorem r22_Spans_c {w : World} {a0 : (List Element)} {a1 : (List Piece)} {a2 : (List Passage)} {a3 : Int} {ha0 : Hd} {ha1 : Hd} {ha2 : Hd} {v : ((List Span) × Int)} (hm : r22_Spans a0 a1 a2 a3 = some v) (Rha0 : Sl w ha0 Element.enc a0) (Rha1 : Sl w ha1 Piece.enc a1) (Rha2 : Sl w ha2 Passage.enc a2) : Calls Try.prog 55 ([ha0.v, ha1.v, ha2.v, .int .i64 a3] : List Value).toArray w (fun e w' => ∃ g : Hd, e = .returned (.tuple #[g.v, .int .i64 v.2]) ∧ St w w' [] [(rowH g 53 4 Span.enc v.1)]) := by
  refine j_enter (vs := [ha0.v, ha1.v, ha2.v, .int .i64 a3]) (R := fun (v : ((List Span) × Int)) (e : Ending) (w' : World) => ∃ g : Hd, e = .returned (.tuple #[g.v, .int .i64 v.2]) ∧ St w w' [] [(rowH g 53 4 Span.enc v.1)]) Try.func55 rfl Try.ntmps55 rfl rfl (St.refl w) hm ?_
  unfold r22_Spans
  clear hm
  refine jn_seq ?_
  refine jn_reg 0 ?_
  refine jg_as rfl rfl rfl ?_
  refine jg_as rfl rfl rfl ?_
  refine jg_nils [(0, _), (1, _), (2, _), (3, _)] ⟨rfl, rfl, rfl, rfl, trivial⟩ ?_
  refine jk_sn ?_
  refine jn_seq ?_
  refine jn_seq ?_
  refine jn_reg 1 ?_
  refine jg_mv rfl rfl rfl ?_
  refine jg_mv rfl rfl rfl ?_
  refine jg_mv rfl rfl rfl ?_
  refine jg_y (fun w hs => yv_ln rfl (hs.arg Rha2)) rfl rfl ?_
  refine jg_mv rfl rfl rfl ?_
  refine jg_y (fun w hs => yv_ln rfl (hs.arg Rha1)) rfl rfl ?_
  refine jg_y (fun w hs => yv_add_w rfl rfl) rfl rfl ?_
  refine jg_y (fun w hs => yv_eql rfl rfl) rfl rfl ?_
  refine jg_mv rfl rfl rfl ?_
  refine jg_c0 rfl (fun v w hs hm => r22_check_c hm (hs.arg Rha0) (hs.arg Rha1)) rfl rfl fun v1 => ?_
  refine jg_as rfl rfl rfl ?_
  refine jg_nils [(0, _), (1, _), (2, _), (3, _), (10, _)] ⟨rfl, rfl, rfl, rfl, rfl, trivial⟩ ?_
  refine jk_sn ?_
  refine jn_seq ?_
  refine jn_reg 2 ?_
  refine jg_mv rfl rfl rfl ?_
  refine jg_y (fun w hs => yv_neq rfl rfl) rfl rfl ?_
  refine jg_nils [(0, _), (1, _), (2, _), (3, _), (10, _), (26, _)] ⟨rfl, rfl, rfl, rfl, rfl, rfl, trivial⟩ ?_
  refine jk_sn ?_
  refine jn_cond rfl ?_ ?_
  · refine jn_seq ?_
    refine jn_reg 3 ?_
    refine jg_mv rfl rfl rfl ?_
    refine jg_as rfl rfl rfl ?_
    refine jg_as rfl rfl rfl ?_
    refine jg_nils [(8, _), (9, _)] ⟨rfl, rfl, trivial⟩ ?_
    refine jk_sn ?_
    refine jn_ret ?_
    refine jk_sr ?_
    refine jk_addnil 53 4 Span.enc ?_
    exact jk_ret2 rfl (fun w hs => .tmp rfl) (fun w hs => .tmp rfl) (fun w hs => ⟨(Hd.mk none 0 0), rfl, hs.sel (is := [0]) rfl rfl⟩)
  refine jn_skip ?_
  refine jk_sn ?_
  refine jn_seq ?_
  refine jn_reg 4 ?_
  refine jg_as rfl rfl rfl ?_
  refine jg_nils [(0, _), (1, _), (2, _), (3, _), (11, _)] ⟨rfl, rfl, rfl, rfl, rfl, trivial⟩ ?_
  refine jk_sn ?_
  refine jn_seq ?_
  refine jn_seq ?_
  refine jn_reg 5 ?_
  refine jg_as rfl rfl rfl ?_
  refine jg_nils [(0, _), (1, _), (2, _), (3, _), (11, _), (12, _)] ⟨rfl, rfl, rfl, rfl, rfl, rfl, trivial⟩ ?_
  refine jk_sn ?_
  refine jn_block ?_
  refine jn_addnil 53 4 Span.enc ?_
  refine jn_lp (n := big) (fun (s : ((List Span) × Int)) (g : Hd) => [(0, ha0.v), (1, ha1.v), (2, ha2.v), (3, .int .i64 a3), (11, g.v), (12, .int .i64 s.2)]) (fun (s : ((List Span) × Int)) (g : Hd) => []) (fun (s : ((List Span) × Int)) (g : Hd) => [(rowH g 53 4 Span.enc s.1)]) (([] : List Span), 0) (Hd.mk none 0 0) [0] ⟨rfl, rfl, rfl, rfl, rfl, rfl, trivial⟩ rfl rfl rfl ?_
  intro z2 q3 n6 k4 H5
  refine jn_seq ?_
  refine jn_seq ?_
  refine jn_reg 6 ?_
  refine jg_mv rfl rfl rfl ?_
  refine jg_y (fun w hs => yv_add_w rfl rfl) rfl rfl ?_
  refine jg_mv rfl rfl rfl ?_
  refine jg_y (fun w hs => yv_ln rfl (hs.arg Rha1)) rfl rfl ?_
  refine jg_y (fun w hs => yv_lss rfl rfl) rfl rfl ?_
  refine jg_mv rfl rfl rfl ?_
  refine jg_split 33 rfl ?_ ?_
  rotate_left
  · refine jg_skip rfl rfl ?_
    refine jg_skip rfl rfl ?_
    refine jg_skip rfl rfl ?_
    refine jg_skip rfl rfl ?_
    refine jg_skip rfl rfl ?_
    refine jg_skip rfl rfl ?_
    refine jg_y (fun w hs => yv_pick_f rfl rfl) rfl rfl ?_
    refine jg_nils [(0, _), (1, _), (2, _), (3, _), (11, _), (12, _), (40, _)] ⟨rfl, rfl, rfl, rfl, rfl, rfl, rfl, trivial⟩ ?_
    refine jk_sn ?_
    refine jn_cf rfl ?_
    refine jn_exit ?_
    refine jk_se (jk_le (jk_bh (jk_sn ?_)))
    refine jn_seq ?_
    refine jn_reg 13 ?_
    refine jg_mv rfl rfl rfl ?_
    refine jg_as rfl rfl rfl ?_
    refine jg_as rfl rfl rfl ?_
    refine jg_nils [(8, _), (9, _)] ⟨rfl, rfl, trivial⟩ ?_
    refine jk_sn ?_
    refine jn_ret ?_
    exact jk_ret2 rfl (fun w hs => .tmp rfl) (fun w hs => .tmp rfl) (fun w hs => ⟨q3, rfl, hs.sel (is := [0]) rfl rfl⟩)
  refine jg_mv rfl rfl rfl ?_
  refine jg_mv rfl rfl rfl ?_
  refine jg_ix fun x7 h8 => ?_
  refine jg_y (fun w hs => yv_ix rfl rfl (hs.arg Rha2) h8) rfl rfl ?_
  refine jg_y (fun w hs => yv_ef rfl (hs.arg Rha2) h8.1) rfl rfl ?_
  refine jg_y (fun w hs => yv_e1 rfl (hs.arg Rha2) h8.1 rfl) rfl rfl ?_
  refine jg_y (fun w hs => yv_not rfl) rfl rfl ?_
  refine jg_y (fun w hs => yv_pick_t rfl rfl) rfl rfl ?_
  refine jg_nils [(0, _), (1, _), (2, _), (3, _), (11, _), (12, _), (40, _)] ⟨rfl, rfl, rfl, rfl, rfl, rfl, rfl, trivial⟩ ?_
  refine jk_sn ?_
  refine jn_cond rfl ?_ ?_
  rotate_left
  · refine jn_exit ?_
    refine jk_se (jk_le (jk_bh (jk_sn ?_)))
    refine jn_seq ?_
    refine jn_reg 13 ?_
    refine jg_mv rfl rfl rfl ?_
    refine jg_as rfl rfl rfl ?_
    refine jg_as rfl rfl rfl ?_
    refine jg_nils [(8, _), (9, _)] ⟨rfl, rfl, trivial⟩ ?_
    refine jk_sn ?_
    refine jn_ret ?_
    exact jk_ret2 rfl (fun w hs => .tmp rfl) (fun w hs => .tmp rfl) (fun w hs => ⟨q3, rfl, hs.sel (is := [0]) rfl rfl⟩)
  refine jn_skip ?_
  refine jk_sn ?_
  refine jn_seq ?_
  refine jn_block ?_
  refine jn_seq ?_
  refine jn_draw (L' := [_]) 8 [0] [0, 1, 2, 3, 4, 5, 6, 7, 8, 9, 10, 11, 12, 13, 14, 15, 16] 131071 262143 [0, 0, 3, 4, 8, 0, 0, 0, 224, 0, 0, 1536, 2048, 4096, 8192, 16656, 0, 131071] [0, 0, 3, 7, 15, 0, 0, 0, 224, 0, 0, 1536, 3584, 7680, 15872, 32767, 0, 131071] [(0, true), (1, true), (2, true), (3, true), (4, true), (5, true), (6, true), (7, true), (8, true), (9, true), (10, true), (11, true), (12, true), (13, true), (14, true), (15, true), (16, false), (17, false)] rfl (np_seq (np_blk (np_seq (np_rnd (np_blk (np_seq np_rt)))))) (by kernel_rfl) (by kernel_rfl) (by kernel_rfl) (by kernel_rfl) (by kernel_rfl) (by kernel_rfl) (by kernel_rfl) (by kernel_rfl) ?_
  refine jd_mv rfl rfl rfl rfl ?_
  refine jd_mv rfl rfl rfl rfl ?_
  refine jd_ix fun x9 h10 => ?_
  refine jd_y rfl (fun w hs => yv_ix rfl rfl (hs.arg Rha1) h10) rfl rfl ?_
  refine jd_y rfl (fun w hs => yv_ef rfl (hs.arg Rha1) h10.1) rfl rfl ?_
  refine jd_y rfl (fun w hs => yv_e1 rfl (hs.arg Rha1) h10.1 rfl) rfl rfl ?_
  refine jd_mv rfl rfl rfl rfl ?_
  refine jd_mv rfl rfl rfl rfl ?_
  refine jd_mv rfl rfl rfl rfl ?_
  refine jd_c0 rfl rfl (fun v w hs hm => r22_Side_c hm (hs.arg Rha0) (hs.arg Rha1)) rfl rfl fun v11 => ?_
  refine jd_mv rfl rfl rfl rfl ?_
  refine jd_mv rfl rfl rfl rfl ?_
  refine jd_ix fun x12 h13 => ?_
  refine jd_y rfl (fun w hs => yv_ix rfl rfl (hs.arg Rha2) h13) rfl rfl ?_
  refine jd_y rfl (fun w hs => yv_ef rfl (hs.arg Rha2) h13.1) rfl rfl ?_
  refine jd_y rfl (fun w hs => yv_ef rfl (hs.arg Rha2) h13.1) rfl rfl ?_
  refine jd_y rfl (fun w hs => yv_e1 rfl (hs.arg Rha2) h13.1 rfl) rfl rfl ?_
  refine jd_y rfl (fun w hs => yv_build rfl (o4 rfl)) rfl rfl ?_
  refine jd_h rfl ?_
  refine jg_alloc (l4 rfl) rfl rfl fun g14 => ?_
  refine jg_nil ?_
  refine jk_dn [1] rfl ?_
  refine jd_h rfl ?_
  refine jg_store 0 rfl rfl rfl (l4 rfl) rfl rfl rfl rfl (l4 rfl) (r2 rfl) ?_
  refine jg_nil ?_
  refine jk_df rfl ?_
  refine jf_nils [(0, _), (1, _), (2, _), (3, _), (11, _), (12, _), (13, _)] ⟨rfl, rfl, rfl, rfl, rfl, rfl, rfl, trivial⟩ ?_
  refine jk_sn ?_
  refine jn_seq ?_
  refine jn_seq ?_
  refine jn_reg 9 ?_
  refine jg_mv rfl rfl rfl ?_
  refine jg_mv rfl rfl rfl ?_
  refine jg_mv rfl rfl rfl ?_
  refine jg_mv rfl rfl rfl ?_
  refine jg_c0 rfl (fun v w hs hm => r22_Clear_c hm (hs.arg Rha1)) rfl rfl fun v15 => ?_
  refine jg_y (fun w hs => yv_add_w rfl rfl) rfl rfl ?_
  refine jg_ix fun x16 h17 => ?_
  refine jg_y (fun w hs => yv_ix rfl rfl (hs.arg Rha2) h17) rfl rfl ?_
  refine jg_y (fun w hs => yv_eS rfl (hs.arg Rha2) h17.1 (l6 rfl) rfl) rfl rfl ?_
  refine jg_alloc (l6 rfl) rfl rfl fun g18 => ?_
  refine jg_store 0 rfl rfl rfl (l6 rfl) rfl rfl rfl rfl (l6 rfl) (r3 rfl) ?_
  refine jg_nils [(0, _), (1, _), (2, _), (3, _), (11, _), (12, _), (13, _), (14, _)] ⟨rfl, rfl, rfl, rfl, rfl, rfl, rfl, rfl, trivial⟩ ?_
  refine jk_sn ?_
  refine jn_seq ?_
  refine jn_reg 10 ?_
  refine jg_y (fun w hs => yv_fieldAddr rfl) rfl rfl ?_
  refine jg_y (fun w hs => yv_load rfl (ld1B (hs.blkL (i := 0) rfl) rfl)) rfl rfl ?_
  refine jg_y (fun w hs => yv_not rfl) rfl rfl ?_
  refine jg_nils [(0, _), (1, _), (2, _), (3, _), (11, _), (12, _), (13, _), (14, _), (69, _)] ⟨rfl, rfl, rfl, rfl, rfl, rfl, rfl, rfl, rfl, trivial⟩ ?_
  refine jk_sn ?_
  refine jn_cond rfl ?_ ?_
  rotate_left
  · refine jn_skip ?_
    refine jk_sn ?_
    refine jn_reg 12 ?_
    refine jg_mv rfl rfl rfl ?_
    refine jg_y (fun w hs => yv_load rfl (ldBB (hs.blkL (i := 1) rfl) rfl)) rfl rfl ?_
    refine jg_lit (enc := Span.enc) [(Span.mk x9.Element v11 x12.Time.Lo 1000000000)] rfl rfl rfl rfl rfl rfl rfl rfl fun hd22 => ?_
    refine jg_append 3 rfl rfl rfl (fun w hs => (hs.row 0 rfl)) rfl rfl rfl fun y23 hd24 => ?_
    refine jg_L (r4 rfl) ?_
    refine jg_as rfl rfl rfl ?_
    refine jg_nils [(0, _), (1, _), (2, _), (3, _), (11, _), (12, _)] ⟨rfl, rfl, rfl, rfl, rfl, rfl, trivial⟩ ?_
    refine jk_sel (is := [3]) (s1 rfl) rfl ?_
    refine jk_bn (jk_sn ?_)
    refine jn_reg 7 ?_
    refine jg_mv rfl rfl rfl ?_
    refine jg_y (fun w hs => yv_add_w rfl rfl) rfl rfl ?_
    refine jg_as rfl rfl rfl ?_
    refine jg_nils [(0, _), (1, _), (2, _), (3, _), (11, _), (12, _)] ⟨rfl, rfl, rfl, rfl, rfl, rfl, trivial⟩ ?_
    exact jk_use H5 (y23, w64 (z2.2 + 1)) hd24 [0] ⟨rfl, rfl, rfl, rfl, rfl, rfl, trivial⟩ rfl rfl rfl
  refine jn_reg 11 ?_
  refine jg_y (fun w hs => yv_fieldAddr rfl) rfl rfl ?_
  refine jg_y (fun w hs => yv_fieldAddr rfl) rfl rfl ?_
  refine jg_y (fun w hs => yv_load rfl (ld1B (hs.blkL (i := 0) rfl) rfl)) rfl rfl ?_
  refine jg_y (fun w hs => yv_fieldAddr rfl) rfl rfl ?_
  refine jg_store 1 rfl rfl rfl (l1 rfl) rfl rfl rfl rfl (l4 rfl) (r3 rfl) ?_
  refine jg_nils [(0, _), (1, _), (2, _), (3, _), (11, _), (12, _), (13, _)] ⟨rfl, rfl, rfl, rfl, rfl, rfl, rfl, trivial⟩ ?_
  refine jk_sn ?_
  refine jn_reg 12 ?_
  refine jg_mv rfl rfl rfl ?_
  refine jg_y (fun w hs => yv_load rfl (ldBB (hs.blkL (i := 1) rfl) rfl)) rfl rfl ?_
  refine jg_lit (enc := Span.enc) [(Span.mk x9.Element v11 x12.Time.Lo x16.Time.Hi)] rfl rfl rfl rfl rfl rfl rfl rfl fun hd19 => ?_
  refine jg_append 3 rfl rfl rfl (fun w hs => (hs.row 0 rfl)) rfl rfl rfl fun y20 hd21 => ?_
  refine jg_L (r4 rfl) ?_
  refine jg_as rfl rfl rfl ?_
  refine jg_nils [(0, _), (1, _), (2, _), (3, _), (11, _), (12, _)] ⟨rfl, rfl, rfl, rfl, rfl, rfl, trivial⟩ ?_
  refine jk_sel (is := [3]) (s1 rfl) rfl ?_
  refine jk_bn (jk_sn ?_)
  refine jn_reg 7 ?_
  refine jg_mv rfl rfl rfl ?_
  refine jg_y (fun w hs => yv_add_w rfl rfl) rfl rfl ?_
  refine jg_as rfl rfl rfl ?_
  refine jg_nils [(0, _), (1, _), (2, _), (3, _), (11, _), (12, _)] ⟨rfl, rfl, rfl, rfl, rfl, rfl, trivial⟩ ?_
  exact jk_use H5 (y20, w64 (z2.2 + 1)) hd21 [0] ⟨rfl, rfl, rfl, rfl, rfl, rfl, trivial⟩ rfl rfl rfl
theorem r22_Exact_c {w : World} {a0 : (List Element)} {a1 : (List Piece)} {a2 : (List Moment)} {a3 : Int} {ha0 : Hd} {ha1 : Hd} {ha2 : Hd} {v : ((List Span) × Int)} (hm : r22_Exact a0 a1 a2 a3 = some v) (Rha0 : Sl w ha0 Element.enc a0) (Rha1 : Sl w ha1 Piece.enc a1) (Rha2 : Sl w ha2 Moment.enc a2) : Calls Try.prog 56 ([ha0.v, ha1.v, ha2.v, .int .i64 a3] : List Value).toArray w (fun e w' => ∃ g : Hd, e = .returned (.tuple #[g.v, .int .i64 v.2]) ∧ St w w' [] [(rowH g 53 4 Span.enc v.1)]) := by
  refine j_enter (vs := [ha0.v, ha1.v, ha2.v, .int .i64 a3]) (R := fun (v : ((List Span) × Int)) (e : Ending) (w' : World) => ∃ g : Hd, e = .returned (.tuple #[g.v, .int .i64 v.2]) ∧ St w w' [] [(rowH g 53 4 Span.enc v.1)]) Try.func56 rfl Try.ntmps56 rfl rfl (St.refl w) hm ?_
  unfold r22_Exact
  clear hm
  refine jn_seq ?_
  refine jn_reg 0 ?_
  refine jg_as rfl rfl rfl ?_
  refine jg_as rfl rfl rfl ?_
  refine jg_nils [(0, _), (1, _), (2, _), (3, _)] ⟨rfl, rfl, rfl, rfl, trivial⟩ ?_
  refine jk_sn ?_
  refine jn_join (fun (s : Unit) (g : Unit) => [(0, ha0.v), (1, ha1.v), (2, ha2.v), (3, .int .i64 a3)]) (fun (s : Unit) (g : Unit) => []) (fun (s : Unit) (g : Unit) => []) ?_ ?_
  rotate_left
  · intro k3 H4
    refine jn_seq ?_
    refine jn_reg 1 ?_
    refine jg_mv rfl rfl rfl ?_
    refine jg_mv rfl rfl rfl ?_
    refine jg_mv rfl rfl rfl ?_
    refine jg_y (fun w hs => yv_ln rfl (hs.arg Rha2)) rfl rfl ?_
    refine jg_y (fun w hs => yv_geq rfl rfl) rfl rfl ?_
    refine jg_mv rfl rfl rfl ?_
    refine jg_split 20 rfl ?_ ?_
    · refine jg_mv rfl rfl rfl ?_
      refine jg_y (fun w hs => yv_ln rfl (hs.arg Rha2)) rfl rfl ?_
      refine jg_mv rfl rfl rfl ?_
      refine jg_y (fun w hs => yv_ln rfl (hs.arg Rha1)) rfl rfl ?_
      refine jg_y (fun w hs => yv_add_w rfl rfl) rfl rfl ?_
      refine jg_y (fun w hs => yv_leq rfl rfl) rfl rfl ?_
      refine jg_y (fun w hs => yv_pick_t rfl rfl) rfl rfl ?_
      refine jg_mv rfl rfl rfl ?_
      refine jg_c0 rfl (fun v w hs hm => r22_check_c hm (hs.arg Rha0) (hs.arg Rha1)) rfl rfl fun v25 => ?_
      refine jg_as rfl rfl rfl ?_
      refine jg_nils [(0, _), (1, _), (2, _), (3, _), (10, _)] ⟨rfl, rfl, rfl, rfl, rfl, trivial⟩ ?_
      refine jk_sn ?_
      refine jn_seq ?_
      refine jn_reg 2 ?_
      refine jg_mv rfl rfl rfl ?_
      refine jg_y (fun w hs => yv_neq rfl rfl) rfl rfl ?_
      refine jg_nils [(0, _), (1, _), (2, _), (3, _), (10, _), (31, _)] ⟨rfl, rfl, rfl, rfl, rfl, rfl, trivial⟩ ?_
      refine jk_sn ?_
      refine jn_cond rfl ?_ ?_
      rotate_left
      · refine jn_skip ?_
        exact jk_use H4 () () [] ⟨rfl, rfl, rfl, rfl, trivial⟩ rfl rfl rfl
      refine jn_seq ?_
      refine jn_reg 3 ?_
      refine jg_mv rfl rfl rfl ?_
      refine jg_as rfl rfl rfl ?_
      refine jg_as rfl rfl rfl ?_
      refine jg_nils [(8, _), (9, _)] ⟨rfl, rfl, trivial⟩ ?_
      refine jk_sn ?_
      refine jn_ret ?_
      refine jk_sr ?_
      refine jk_addnil 53 4 Span.enc ?_
      exact jk_ret2 rfl (fun w hs => .tmp rfl) (fun w hs => .tmp rfl) (fun w hs => ⟨(Hd.mk none 0 0), rfl, hs.sel (is := [0]) rfl rfl⟩)
    refine jg_skip rfl rfl ?_
    refine jg_skip rfl rfl ?_
    refine jg_skip rfl rfl ?_
    refine jg_skip rfl rfl ?_
    refine jg_skip rfl rfl ?_
    refine jg_skip rfl rfl ?_
    refine jg_y (fun w hs => yv_pick_f rfl rfl) rfl rfl ?_
    refine jg_mv rfl rfl rfl ?_
    refine jg_c0 rfl (fun v w hs hm => r22_check_c hm (hs.arg Rha0) (hs.arg Rha1)) rfl rfl fun v26 => ?_
    refine jg_as rfl rfl rfl ?_
    refine jg_nils [(0, _), (1, _), (2, _), (3, _), (10, _)] ⟨rfl, rfl, rfl, rfl, rfl, trivial⟩ ?_
    refine jk_sn ?_
    refine jn_seq ?_
    refine jn_reg 2 ?_
    refine jg_mv rfl rfl rfl ?_
    refine jg_y (fun w hs => yv_neq rfl rfl) rfl rfl ?_
    refine jg_nils [(0, _), (1, _), (2, _), (3, _), (10, _), (31, _)] ⟨rfl, rfl, rfl, rfl, rfl, rfl, trivial⟩ ?_
    refine jk_sn ?_
    refine jn_cond rfl ?_ ?_
    rotate_left
    · refine jn_skip ?_
      exact jk_use H4 () () [] ⟨rfl, rfl, rfl, rfl, trivial⟩ rfl rfl rfl
    refine jn_seq ?_
    refine jn_reg 3 ?_
    refine jg_mv rfl rfl rfl ?_
    refine jg_as rfl rfl rfl ?_
    refine jg_as rfl rfl rfl ?_
    refine jg_nils [(8, _), (9, _)] ⟨rfl, rfl, trivial⟩ ?_
    refine jk_sn ?_
    refine jn_ret ?_
    refine jk_sr ?_
    refine jk_addnil 53 4 Span.enc ?_
    exact jk_ret2 rfl (fun w hs => .tmp rfl) (fun w hs => .tmp rfl) (fun w hs => ⟨(Hd.mk none 0 0), rfl, hs.sel (is := [0]) rfl rfl⟩)
  intro z1 q2
  refine jn_seq ?_
  refine jn_reg 4 ?_
  refine jg_as rfl rfl rfl ?_
  refine jg_nils [(0, _), (1, _), (2, _), (3, _), (11, _)] ⟨rfl, rfl, rfl, rfl, rfl, trivial⟩ ?_
  refine jk_sn ?_
  refine jn_seq ?_
  refine jn_seq ?_
  refine jn_reg 5 ?_
  refine jg_as rfl rfl rfl ?_
  refine jg_nils [(0, _), (1, _), (2, _), (3, _), (11, _), (12, _)] ⟨rfl, rfl, rfl, rfl, rfl, rfl, trivial⟩ ?_
  refine jk_sn ?_
  refine jn_block ?_
  refine jn_addnil 53 4 Span.enc ?_
  refine jn_lp (n := big) (fun (s : ((List Span) × Int)) (g : Hd) => [(0, ha0.v), (1, ha1.v), (2, ha2.v), (3, .int .i64 a3), (11, g.v), (12, .int .i64 s.2)]) (fun (s : ((List Span) × Int)) (g : Hd) => []) (fun (s : ((List Span) × Int)) (g : Hd) => [(rowH g 53 4 Span.enc s.1)]) (([] : List Span), 0) (Hd.mk none 0 0) [0] ⟨rfl, rfl, rfl, rfl, rfl, rfl, trivial⟩ rfl rfl rfl ?_
  intro z5 q6 n9 k7 H8
  refine jn_seq ?_
  refine jn_seq ?_
  refine jn_reg 6 ?_
  refine jg_mv rfl rfl rfl ?_
  refine jg_y (fun w hs => yv_add_w rfl rfl) rfl rfl ?_
  refine jg_mv rfl rfl rfl ?_
  refine jg_y (fun w hs => yv_ln rfl (hs.arg Rha1)) rfl rfl ?_
  refine jg_y (fun w hs => yv_lss rfl rfl) rfl rfl ?_
  refine jg_mv rfl rfl rfl ?_
  refine jg_split 38 rfl ?_ ?_
  rotate_left
  · refine jg_skip rfl rfl ?_
    refine jg_skip rfl rfl ?_
    refine jg_skip rfl rfl ?_
    refine jg_skip rfl rfl ?_
    refine jg_y (fun w hs => yv_pick_f rfl rfl) rfl rfl ?_
    refine jg_nils [(0, _), (1, _), (2, _), (3, _), (11, _), (12, _), (43, _)] ⟨rfl, rfl, rfl, rfl, rfl, rfl, rfl, trivial⟩ ?_
    refine jk_sn ?_
    refine jn_cf rfl ?_
    refine jn_exit ?_
    refine jk_se (jk_le (jk_bh (jk_sn ?_)))
    refine jn_seq ?_
    refine jn_reg 13 ?_
    refine jg_mv rfl rfl rfl ?_
    refine jg_as rfl rfl rfl ?_
    refine jg_as rfl rfl rfl ?_
    refine jg_nils [(8, _), (9, _)] ⟨rfl, rfl, trivial⟩ ?_
    refine jk_sn ?_
    refine jn_ret ?_
    exact jk_ret2 rfl (fun w hs => .tmp rfl) (fun w hs => .tmp rfl) (fun w hs => ⟨q6, rfl, hs.sel (is := [0]) rfl rfl⟩)
  refine jg_mv rfl rfl rfl ?_
  refine jg_mv rfl rfl rfl ?_
  refine jg_y (fun w hs => yv_ln rfl (hs.arg Rha2)) rfl rfl ?_
  refine jg_y (fun w hs => yv_lss rfl rfl) rfl rfl ?_
  refine jg_y (fun w hs => yv_pick_t rfl rfl) rfl rfl ?_
  refine jg_nils [(0, _), (1, _), (2, _), (3, _), (11, _), (12, _), (43, _)] ⟨rfl, rfl, rfl, rfl, rfl, rfl, rfl, trivial⟩ ?_
  refine jk_sn ?_
  refine jn_cond rfl ?_ ?_
  rotate_left
  · refine jn_exit ?_
    refine jk_se (jk_le (jk_bh (jk_sn ?_)))
    refine jn_seq ?_
    refine jn_reg 13 ?_
    refine jg_mv rfl rfl rfl ?_
    refine jg_as rfl rfl rfl ?_
    refine jg_as rfl rfl rfl ?_
    refine jg_nils [(8, _), (9, _)] ⟨rfl, rfl, trivial⟩ ?_
    refine jk_sn ?_
    refine jn_ret ?_
    exact jk_ret2 rfl (fun w hs => .tmp rfl) (fun w hs => .tmp rfl) (fun w hs => ⟨q6, rfl, hs.sel (is := [0]) rfl rfl⟩)
  refine jn_skip ?_
  refine jk_sn ?_
  refine jn_seq ?_
  refine jn_block ?_
  refine jn_seq ?_
  refine jn_draw (L' := [_]) 8 [0] [0, 1, 2, 3, 4, 5, 6, 7, 8, 9, 10, 11, 12, 13, 14, 15] 65535 131071 [0, 0, 3, 4, 8, 0, 0, 0, 224, 0, 0, 1536, 2048, 4096, 8464, 0, 65535] [0, 0, 3, 7, 15, 0, 0, 0, 224, 0, 0, 1536, 3584, 7680, 16383, 0, 65535] [(0, true), (1, true), (2, true), (3, true), (4, true), (5, true), (6, true), (7, true), (8, true), (9, true), (10, true), (11, true), (12, true), (13, true), (14, true), (15, false), (16, false)] rfl (np_seq (np_blk (np_seq (np_rnd (np_blk (np_seq np_rt)))))) (by kernel_rfl) (by kernel_rfl) (by kernel_rfl) (by kernel_rfl) (by kernel_rfl) (by kernel_rfl) (by kernel_rfl) (by kernel_rfl) ?_
  refine jd_mv rfl rfl rfl rfl ?_
  refine jd_mv rfl rfl rfl rfl ?_
  refine jd_ix fun x10 h11 => ?_
  refine jd_y rfl (fun w hs => yv_ix rfl rfl (hs.arg Rha1) h11) rfl rfl ?_
  refine jd_y rfl (fun w hs => yv_ef rfl (hs.arg Rha1) h11.1) rfl rfl ?_
  refine jd_y rfl (fun w hs => yv_e1 rfl (hs.arg Rha1) h11.1 rfl) rfl rfl ?_
  refine jd_mv rfl rfl rfl rfl ?_
  refine jd_mv rfl rfl rfl rfl ?_
  refine jd_mv rfl rfl rfl rfl ?_
  refine jd_c0 rfl rfl (fun v w hs hm => r22_Side_c hm (hs.arg Rha0) (hs.arg Rha1)) rfl rfl fun v12 => ?_
  refine jd_mv rfl rfl rfl rfl ?_
  refine jd_mv rfl rfl rfl rfl ?_
  refine jd_ix fun x13 h14 => ?_
  refine jd_y rfl (fun w hs => yv_ix rfl rfl (hs.arg Rha2) h14) rfl rfl ?_
  refine jd_y rfl (fun w hs => yv_ef rfl (hs.arg Rha2) h14.1) rfl rfl ?_
  refine jd_y rfl (fun w hs => yv_e1 rfl (hs.arg Rha2) h14.1 rfl) rfl rfl ?_
  refine jd_y rfl (fun w hs => yv_build rfl (o4 rfl)) rfl rfl ?_
  refine jd_h rfl ?_
  refine jg_alloc (l4 rfl) rfl rfl fun g15 => ?_
  refine jg_nil ?_
  refine jk_dn [1] rfl ?_
  refine jd_h rfl ?_
  refine jg_store 0 rfl rfl rfl (l4 rfl) rfl rfl rfl rfl (l4 rfl) (r2 rfl) ?_
  refine jg_nil ?_
  refine jk_df rfl ?_
  refine jf_nils [(0, _), (1, _), (2, _), (3, _), (11, _), (12, _), (13, _)] ⟨rfl, rfl, rfl, rfl, rfl, rfl, rfl, trivial⟩ ?_
  refine jk_sn ?_
  refine jn_seq ?_
  refine jn_seq ?_
  refine jn_reg 9 ?_
  refine jg_mv rfl rfl rfl ?_
  refine jg_mv rfl rfl rfl ?_
  refine jg_mv rfl rfl rfl ?_
  refine jg_c0 rfl (fun v w hs hm => r22_Clear_c hm (hs.arg Rha1)) rfl rfl fun v16 => ?_
  refine jg_y (fun w hs => yv_add_w rfl rfl) rfl rfl ?_
  refine jg_as rfl rfl rfl ?_
  refine jg_nils [(0, _), (1, _), (2, _), (3, _), (11, _), (12, _), (13, _), (14, _)] ⟨rfl, rfl, rfl, rfl, rfl, rfl, rfl, rfl, trivial⟩ ?_
  refine jk_sn ?_
  refine jn_seq ?_
  refine jn_reg 10 ?_
  refine jg_mv rfl rfl rfl ?_
  refine jg_mv rfl rfl rfl ?_
  refine jg_y (fun w hs => yv_ln rfl (hs.arg Rha2)) rfl rfl ?_
  refine jg_y (fun w hs => yv_lss rfl rfl) rfl rfl ?_
  refine jg_nils [(0, _), (1, _), (2, _), (3, _), (11, _), (12, _), (13, _), (14, _), (69, _)] ⟨rfl, rfl, rfl, rfl, rfl, rfl, rfl, rfl, rfl, trivial⟩ ?_
  refine jk_sn ?_
  refine jn_cond rfl ?_ ?_
  rotate_left
  · refine jn_skip ?_
    refine jk_sn ?_
    refine jn_reg 12 ?_
    refine jg_mv rfl rfl rfl ?_
    refine jg_y (fun w hs => yv_load rfl (ldBB (hs.blkL (i := 0) rfl) rfl)) rfl rfl ?_
    refine jg_lit (enc := Span.enc) [(Span.mk x10.Element v12 x13.Time 1000000000)] rfl rfl rfl rfl rfl rfl rfl rfl fun hd22 => ?_
    refine jg_append 2 rfl rfl rfl (fun w hs => (hs.row 0 rfl)) rfl rfl rfl fun y23 hd24 => ?_
    refine jg_L (r3 rfl) ?_
    refine jg_as rfl rfl rfl ?_
    refine jg_nils [(0, _), (1, _), (2, _), (3, _), (11, _), (12, _)] ⟨rfl, rfl, rfl, rfl, rfl, rfl, trivial⟩ ?_
    refine jk_sel (is := [2]) (s1 rfl) rfl ?_
    refine jk_bn (jk_sn ?_)
    refine jn_reg 7 ?_
    refine jg_mv rfl rfl rfl ?_
    refine jg_y (fun w hs => yv_add_w rfl rfl) rfl rfl ?_
    refine jg_as rfl rfl rfl ?_
    refine jg_nils [(0, _), (1, _), (2, _), (3, _), (11, _), (12, _)] ⟨rfl, rfl, rfl, rfl, rfl, rfl, trivial⟩ ?_
    exact jk_use H8 (y23, w64 (z5.2 + 1)) hd24 [0] ⟨rfl, rfl, rfl, rfl, rfl, rfl, trivial⟩ rfl rfl rfl
  refine jn_reg 11 ?_
  refine jg_mv rfl rfl rfl ?_
  refine jg_mv rfl rfl rfl ?_
  refine jg_ix fun x17 h18 => ?_
  refine jg_y (fun w hs => yv_ix rfl rfl (hs.arg Rha2) h18) rfl rfl ?_
  refine jg_y (fun w hs => yv_ef rfl (hs.arg Rha2) h18.1) rfl rfl ?_
  refine jg_y (fun w hs => yv_e1 rfl (hs.arg Rha2) h18.1 rfl) rfl rfl ?_
  refine jg_y (fun w hs => yv_fieldAddr rfl) rfl rfl ?_
  refine jg_store 0 rfl rfl rfl (l1 rfl) rfl rfl rfl rfl (l4 rfl) (r2 rfl) ?_
  refine jg_nils [(0, _), (1, _), (2, _), (3, _), (11, _), (12, _), (13, _)] ⟨rfl, rfl, rfl, rfl, rfl, rfl, rfl, trivial⟩ ?_
  refine jk_sn ?_
  refine jn_reg 12 ?_
  refine jg_mv rfl rfl rfl ?_
  refine jg_y (fun w hs => yv_load rfl (ldBB (hs.blkL (i := 0) rfl) rfl)) rfl rfl ?_
  refine jg_lit (enc := Span.enc) [(Span.mk x10.Element v12 x13.Time x17.Time)] rfl rfl rfl rfl rfl rfl rfl rfl fun hd19 => ?_
  refine jg_append 2 rfl rfl rfl (fun w hs => (hs.row 0 rfl)) rfl rfl rfl fun y20 hd21 => ?_
  refine jg_L (r3 rfl) ?_
  refine jg_as rfl rfl rfl ?_
  refine jg_nils [(0, _), (1, _), (2, _), (3, _), (11, _), (12, _)] ⟨rfl, rfl, rfl, rfl, rfl, rfl, trivial⟩ ?_
  refine jk_sel (is := [2]) (s1 rfl) rfl ?_
  refine jk_bn (jk_sn ?_)
  refine jn_reg 7 ?_
  refine jg_mv rfl rfl rfl ?_
  refine jg_y (fun w hs => yv_add_w rfl rfl) rfl rfl ?_
  refine jg_as rfl rfl rfl ?_
  refine jg_nils [(0, _), (1, _), (2, _), (3, _), (11, _), (12, _)] ⟨rfl, rfl, rfl, rfl, rfl, rfl, trivial⟩ ?_
  exact jk_use H8 (y20, w64 (z5.2 + 1)) hd21 [0] ⟨rfl, rfl, rfl, rfl, rfl, rfl, trivial⟩ rfl rfl rfl
theorem gen_Pieces_c {w : World} {a0 : (List Piece)} {a1 : (List Piece)} {ha0 : Hd} {ha1 : Hd} {v : Bool} (hm : gen_Pieces a0 a1 = some v) (Rha0 : Sl w ha0 Piece.enc a0) (Rha1 : Sl w ha1 Piece.enc a1) : Gives Try.prog 57 [ha0.v, ha1.v] w (.bool v) := by
  refine j_gives (vs := [ha0.v, ha1.v]) (U := fun (v : Bool) => .bool v) Try.func57 rfl Try.ntmps57 rfl rfl hm ?_
  unfold gen_Pieces
  clear hm
  refine jn_seq ?_
  refine jn_reg 0 ?_
  refine jg_as rfl rfl rfl ?_
  refine jg_nils [(0, _), (1, _)] ⟨rfl, rfl, trivial⟩ ?_
  refine jk_sn ?_
  refine jn_seq ?_
  refine jn_seq ?_
  refine jn_reg 1 ?_
  refine jg_mv rfl rfl rfl ?_
  refine jg_y (fun w hs => yv_ln rfl (hs.arg Rha0)) rfl rfl ?_
  refine jg_mv rfl rfl rfl ?_
  refine jg_y (fun w hs => yv_ln rfl (hs.arg Rha1)) rfl rfl ?_
  refine jg_y (fun w hs => yv_neq rfl rfl) rfl rfl ?_
  refine jg_nils [(0, _), (1, _), (10, _)] ⟨rfl, rfl, rfl, trivial⟩ ?_
  refine jk_sn ?_
  refine jn_cond rfl ?_ ?_
  · refine jn_seq ?_
    refine jn_reg 2 ?_
    refine jg_as rfl rfl rfl ?_
    refine jg_nils [(4, _)] ⟨rfl, trivial⟩ ?_
    refine jk_sn ?_
    refine jn_ret ?_
    refine jk_sr ?_
    exact jk_ret1 rfl (fun w hs => .tmp rfl) (fun w hs => ⟨rfl, hs.drop⟩)
  refine jn_skip ?_
  refine jk_sn ?_
  refine jn_seq ?_
  refine jn_seq ?_
  refine jn_reg 3 ?_
  refine jg_as rfl rfl rfl ?_
  refine jg_nils [(0, _), (1, _), (5, _)] ⟨rfl, rfl, rfl, trivial⟩ ?_
  refine jk_sn ?_
  refine jn_block ?_
  refine jn_lp (n := big) (fun (s : Int) (g : Unit) => [(0, ha0.v), (1, ha1.v), (5, .int .i64 s)]) (fun (s : Int) (g : Unit) => []) (fun (s : Int) (g : Unit) => []) 0 () [] ⟨rfl, rfl, rfl, trivial⟩ rfl rfl rfl ?_
  intro z1 q2 n5 k3 H4
  refine jn_seq ?_
  refine jn_seq ?_
  refine jn_reg 4 ?_
  refine jg_mv rfl rfl rfl ?_
  refine jg_mv rfl rfl rfl ?_
  refine jg_y (fun w hs => yv_ln rfl (hs.arg Rha0)) rfl rfl ?_
  refine jg_y (fun w hs => yv_lss rfl rfl) rfl rfl ?_
  refine jg_nils [(0, _), (1, _), (5, _), (14, _)] ⟨rfl, rfl, rfl, rfl, trivial⟩ ?_
  refine jk_sn ?_
  refine jn_cond rfl ?_ ?_
  rotate_left
  · refine jn_exit ?_
    refine jk_se (jk_le (jk_bh (jk_sn ?_)))
    refine jn_seq ?_
    refine jn_reg 8 ?_
    refine jg_as rfl rfl rfl ?_
    refine jg_nils [(4, _)] ⟨rfl, trivial⟩ ?_
    refine jk_sn ?_
    refine jn_ret ?_
    exact jk_ret1 rfl (fun w hs => .tmp rfl) (fun w hs => ⟨rfl, hs.drop⟩)
  refine jn_skip ?_
  refine jk_sn ?_
  refine jn_seq ?_
  refine jn_block ?_
  refine jn_seq ?_
  refine jn_draw (L' := []) 6 [] [0, 1, 2, 3, 4, 5, 6, 7, 8] 511 511 [0, 0, 3, 4, 0, 0, 48, 64, 136] [0, 0, 3, 7, 0, 0, 48, 112, 255] [(0, true), (1, true), (2, true), (3, true), (4, true), (5, true), (6, true), (7, true), (8, true)] rfl (np_seq (np_blk (np_seq (np_rnd (np_blk (np_seq np_rt)))))) (by kernel_rfl) (by kernel_rfl) (by kernel_rfl) (by kernel_rfl) (by kernel_rfl) (by kernel_rfl) (by kernel_rfl) (by kernel_rfl) ?_
  refine jd_mv rfl rfl rfl rfl ?_
  refine jd_mv rfl rfl rfl rfl ?_
  refine jd_ix fun x6 h7 => ?_
  refine jd_y rfl (fun w hs => yv_ix rfl rfl (hs.arg Rha0) h7) rfl rfl ?_
  refine jd_y rfl (fun w hs => yv_eS rfl (hs.arg Rha0) h7.1 (l5 rfl) rfl) rfl rfl ?_
  refine jd_mv rfl rfl rfl rfl ?_
  refine jd_mv rfl rfl rfl rfl ?_
  refine jd_ix fun x8 h9 => ?_
  refine jd_y rfl (fun w hs => yv_ix rfl rfl (hs.arg Rha1) h9) rfl rfl ?_
  refine jd_y rfl (fun w hs => yv_eS rfl (hs.arg Rha1) h9.1 (l5 rfl) rfl) rfl rfl ?_
  refine jd_y rfl (fun w hs => yne30 rfl rfl) rfl rfl ?_
  refine jd_nils [(0, _), (1, _), (5, _), (25, _)] ⟨rfl, rfl, rfl, rfl, trivial⟩ ?_
  refine jk_sn ?_
  refine jn_cond rfl ?_ ?_
  · refine jn_seq ?_
    refine jn_reg 7 ?_
    refine jg_as rfl rfl rfl ?_
    refine jg_nils [(4, _)] ⟨rfl, trivial⟩ ?_
    refine jk_sn ?_
    refine jn_ret ?_
    refine jk_br (jk_sr (jk_lr (jk_br (jk_sr ?_))))
    exact jk_ret1 rfl (fun w hs => .tmp rfl) (fun w hs => ⟨rfl, hs.drop⟩)
  refine jn_skip ?_
  refine jk_bn (jk_sn ?_)
  refine jn_reg 5 ?_
  refine jg_mv rfl rfl rfl ?_
  refine jg_y (fun w hs => yv_add_w rfl rfl) rfl rfl ?_
  refine jg_as rfl rfl rfl ?_
  refine jg_nils [(0, _), (1, _), (5, _)] ⟨rfl, rfl, rfl, trivial⟩ ?_
  exact jk_use H4 (w64 (z1 + 1)) () [] ⟨rfl, rfl, rfl, trivial⟩ rfl rfl rfl
theorem yardgen_SameSpans_c {w : World} {a0 : (List Span)} {a1 : (List Span)} {ha0 : Hd} {ha1 : Hd} {v : Bool} (hm : yardgen_SameSpans a0 a1 = some v) (Rha0 : Sl w ha0 Span.enc a0) (Rha1 : Sl w ha1 Span.enc a1) : Gives Try.prog 59 [ha0.v, ha1.v] w (.bool v) := by
  refine j_gives (vs := [ha0.v, ha1.v]) (U := fun (v : Bool) => .bool v) Try.func59 rfl Try.ntmps59 rfl rfl hm ?_
  unfold yardgen_SameSpans
  clear hm
  refine jn_seq ?_
  refine jn_reg 0 ?_
  refine jg_as rfl rfl rfl ?_
  refine jg_nils [(0, _), (1, _)] ⟨rfl, rfl, trivial⟩ ?_
  refine jk_sn ?_
  refine jn_seq ?_
  refine jn_seq ?_
  refine jn_reg 1 ?_
  refine jg_mv rfl rfl rfl ?_
  refine jg_y (fun w hs => yv_ln rfl (hs.arg Rha0)) rfl rfl ?_
  refine jg_mv rfl rfl rfl ?_
  refine jg_y (fun w hs => yv_ln rfl (hs.arg Rha1)) rfl rfl ?_
  refine jg_y (fun w hs => yv_neq rfl rfl) rfl rfl ?_
  refine jg_nils [(0, _), (1, _), (10, _)] ⟨rfl, rfl, rfl, trivial⟩ ?_
  refine jk_sn ?_
  refine jn_cond rfl ?_ ?_
  · refine jn_seq ?_
    refine jn_reg 2 ?_
    refine jg_as rfl rfl rfl ?_
    refine jg_nils [(4, _)] ⟨rfl, trivial⟩ ?_
    refine jk_sn ?_
    refine jn_ret ?_
    refine jk_sr ?_
    exact jk_ret1 rfl (fun w hs => .tmp rfl) (fun w hs => ⟨rfl, hs.drop⟩)
  refine jn_skip ?_
  refine jk_sn ?_
  refine jn_seq ?_
  refine jn_seq ?_
  refine jn_reg 3 ?_
  refine jg_as rfl rfl rfl ?_
  refine jg_nils [(0, _), (1, _), (5, _)] ⟨rfl, rfl, rfl, trivial⟩ ?_
  refine jk_sn ?_
  refine jn_block ?_
  refine jn_lp (n := big) (fun (s : Int) (g : Unit) => [(0, ha0.v), (1, ha1.v), (5, .int .i64 s)]) (fun (s : Int) (g : Unit) => []) (fun (s : Int) (g : Unit) => []) 0 () [] ⟨rfl, rfl, rfl, trivial⟩ rfl rfl rfl ?_
  intro z1 q2 n5 k3 H4
  refine jn_seq ?_
  refine jn_seq ?_
  refine jn_reg 4 ?_
  refine jg_mv rfl rfl rfl ?_
  refine jg_mv rfl rfl rfl ?_
  refine jg_y (fun w hs => yv_ln rfl (hs.arg Rha0)) rfl rfl ?_
  refine jg_y (fun w hs => yv_lss rfl rfl) rfl rfl ?_
  refine jg_nils [(0, _), (1, _), (5, _), (14, _)] ⟨rfl, rfl, rfl, rfl, trivial⟩ ?_
  refine jk_sn ?_
  refine jn_cond rfl ?_ ?_
  rotate_left
  · refine jn_exit ?_
    refine jk_se (jk_le (jk_bh (jk_sn ?_)))
    refine jn_seq ?_
    refine jn_reg 8 ?_
    refine jg_as rfl rfl rfl ?_
    refine jg_nils [(4, _)] ⟨rfl, trivial⟩ ?_
    refine jk_sn ?_
    refine jn_ret ?_
    exact jk_ret1 rfl (fun w hs => .tmp rfl) (fun w hs => ⟨rfl, hs.drop⟩)
  refine jn_skip ?_
  refine jk_sn ?_
  refine jn_seq ?_
  refine jn_block ?_
  refine jn_seq ?_
  refine jn_draw (L' := []) 6 [] [0, 1, 2, 3, 4, 5, 6, 7, 8] 511 511 [0, 0, 3, 4, 0, 0, 48, 64, 136] [0, 0, 3, 7, 0, 0, 48, 112, 255] [(0, true), (1, true), (2, true), (3, true), (4, true), (5, true), (6, true), (7, true), (8, true)] rfl (np_seq (np_blk (np_seq (np_rnd (np_blk (np_seq np_rt)))))) (by kernel_rfl) (by kernel_rfl) (by kernel_rfl) (by kernel_rfl) (by kernel_rfl) (by kernel_rfl) (by kernel_rfl) (by kernel_rfl) ?_
  refine jd_mv rfl rfl rfl rfl ?_
  refine jd_mv rfl rfl rfl rfl ?_
  refine jd_ix fun x6 h7 => ?_
  refine jd_y rfl (fun w hs => yv_ix rfl rfl (hs.arg Rha0) h7) rfl rfl ?_
  refine jd_y rfl (fun w hs => yv_eS rfl (hs.arg Rha0) h7.1 (l4 rfl) rfl) rfl rfl ?_
  refine jd_mv rfl rfl rfl rfl ?_
  refine jd_mv rfl rfl rfl rfl ?_
  refine jd_ix fun x8 h9 => ?_
  refine jd_y rfl (fun w hs => yv_ix rfl rfl (hs.arg Rha1) h9) rfl rfl ?_
  refine jd_y rfl (fun w hs => yv_eS rfl (hs.arg Rha1) h9.1 (l4 rfl) rfl) rfl rfl ?_
  refine jd_y rfl (fun w hs => yne53 rfl rfl) rfl rfl ?_
  refine jd_nils [(0, _), (1, _), (5, _), (25, _)] ⟨rfl, rfl, rfl, rfl, trivial⟩ ?_
  refine jk_sn ?_
  refine jn_cond rfl ?_ ?_
  · refine jn_seq ?_
    refine jn_reg 7 ?_
    refine jg_as rfl rfl rfl ?_
    refine jg_nils [(4, _)] ⟨rfl, trivial⟩ ?_
    refine jk_sn ?_
    refine jn_ret ?_
    refine jk_br (jk_sr (jk_lr (jk_br (jk_sr ?_))))
    exact jk_ret1 rfl (fun w hs => .tmp rfl) (fun w hs => ⟨rfl, hs.drop⟩)
  refine jn_skip ?_
  refine jk_bn (jk_sn ?_)
  refine jn_reg 5 ?_
  refine jg_mv rfl rfl rfl ?_
  refine jg_y (fun w hs => yv_add_w rfl rfl) rfl rfl ?_
  refine jg_as rfl rfl rfl ?_
  refine jg_nils [(0, _), (1, _), (5, _)] ⟨rfl, rfl, rfl, trivial⟩ ?_
  exact jk_use H4 (w64 (z1 + 1)) () [] ⟨rfl, rfl, rfl, trivial⟩ rfl rfl rfl
theorem r22_Inside_c {w : World} {a0 : (List Span)} {a1 : (List Span)} {ha0 : Hd} {ha1 : Hd} {v : Bool} (hm : r22_Inside a0 a1 = some v) (Rha0 : Sl w ha0 Span.enc a0) (Rha1 : Sl w ha1 Span.enc a1) : Gives Try.prog 60 [ha0.v, ha1.v] w (.bool v) := by
  refine j_gives (vs := [ha0.v, ha1.v]) (U := fun (v : Bool) => .bool v) Try.func60 rfl Try.ntmps60 rfl rfl hm ?_
  unfold r22_Inside
  clear hm
  refine jn_seq ?_
  refine jn_reg 0 ?_
  refine jg_as rfl rfl rfl ?_
  refine jg_nils [(0, _), (1, _)] ⟨rfl, rfl, trivial⟩ ?_
  refine jk_sn ?_
  refine jn_seq ?_
  refine jn_seq ?_
  refine jn_reg 1 ?_
  refine jg_mv rfl rfl rfl ?_
  refine jg_y (fun w hs => yv_ln rfl (hs.arg Rha0)) rfl rfl ?_
  refine jg_mv rfl rfl rfl ?_
  refine jg_y (fun w hs => yv_ln rfl (hs.arg Rha1)) rfl rfl ?_
  refine jg_y (fun w hs => yv_gtr rfl rfl) rfl rfl ?_
  refine jg_nils [(0, _), (1, _), (10, _)] ⟨rfl, rfl, rfl, trivial⟩ ?_
  refine jk_sn ?_
  refine jn_cond rfl ?_ ?_
  · refine jn_seq ?_
    refine jn_reg 2 ?_
    refine jg_as rfl rfl rfl ?_
    refine jg_nils [(4, _)] ⟨rfl, trivial⟩ ?_
    refine jk_sn ?_
    refine jn_ret ?_
    refine jk_sr ?_
    exact jk_ret1 rfl (fun w hs => .tmp rfl) (fun w hs => ⟨rfl, hs.drop⟩)
  refine jn_skip ?_
  refine jk_sn ?_
  refine jn_seq ?_
  refine jn_seq ?_
  refine jn_reg 3 ?_
  refine jg_as rfl rfl rfl ?_
  refine jg_nils [(0, _), (1, _), (5, _)] ⟨rfl, rfl, rfl, trivial⟩ ?_
  refine jk_sn ?_
  refine jn_block ?_
  refine jn_lp (n := big) (fun (s : Int) (g : Unit) => [(0, ha0.v), (1, ha1.v), (5, .int .i64 s)]) (fun (s : Int) (g : Unit) => []) (fun (s : Int) (g : Unit) => []) 0 () [] ⟨rfl, rfl, rfl, trivial⟩ rfl rfl rfl ?_
  intro z1 q2 n5 k3 H4
  refine jn_seq ?_
  refine jn_seq ?_
  refine jn_reg 4 ?_
  refine jg_mv rfl rfl rfl ?_
  refine jg_mv rfl rfl rfl ?_
  refine jg_y (fun w hs => yv_ln rfl (hs.arg Rha0)) rfl rfl ?_
  refine jg_y (fun w hs => yv_lss rfl rfl) rfl rfl ?_
  refine jg_nils [(0, _), (1, _), (5, _), (14, _)] ⟨rfl, rfl, rfl, rfl, trivial⟩ ?_
  refine jk_sn ?_
  refine jn_cond rfl ?_ ?_
  rotate_left
  · refine jn_exit ?_
    refine jk_se (jk_le (jk_bh (jk_sn ?_)))
    refine jn_seq ?_
    refine jn_reg 8 ?_
    refine jg_as rfl rfl rfl ?_
    refine jg_nils [(4, _)] ⟨rfl, trivial⟩ ?_
    refine jk_sn ?_
    refine jn_ret ?_
    exact jk_ret1 rfl (fun w hs => .tmp rfl) (fun w hs => ⟨rfl, hs.drop⟩)
  refine jn_skip ?_
  refine jk_sn ?_
  refine jn_seq ?_
  refine jn_block ?_
  refine jn_seq ?_
  refine jn_draw (L' := []) 6 [] [0, 1, 2, 3, 4, 5, 6, 7, 8, 9, 10, 11, 12, 13, 14, 15, 16, 17, 18, 19, 20, 21, 22, 23, 24, 25, 26, 27, 28, 29, 30, 31, 32, 33, 34, 35, 36, 37, 38, 39, 40, 41, 42, 43, 44, 45, 46, 47, 48, 49] 1125899906842623 1125899906842623 [0, 0, 3, 4, 8, 0, 0, 96, 128, 256, 528, 1024, 2048, 2048, 14336, 18432, 34816, 2048, 2048, 395264, 526336, 1050624, 2164736, 4196352, 8390656, 16777216, 16777216, 117440512, 150994944, 285212672, 16777216, 16777216, 3238002688, 4311744512, 8606711808, 17733517312, 34376515584, 68736253952, 137438953472, 137438953472, 962072674304, 1236950581248, 2336462209024, 137438953472, 137438953472, 26525718020096, 35321811042304, 70506183131136, 145272973819904, 281612415664128] [0, 0, 3, 7, 15, 0, 0, 96, 224, 480, 1023, 2047, 4095, 4095, 16383, 32767, 65535, 4095, 4095, 397311, 921599, 1970175, 4194303, 8388607, 16777215, 33554431, 33554431, 134217727, 268435455, 536870911, 33554431, 33554431, 3254779903, 7549747199, 16139681791, 34359738367, 68719476735, 137438953471, 274877906943, 274877906943, 1099511627775, 2199023255551, 4398046511103, 274877906943, 274877906943, 26663156973567, 61847529062399, 132216273240063, 281474976710655, 562949953421311] [(0, true), (1, true), (2, true), (3, true), (4, true), (5, true), (6, true), (7, true), (8, true), (9, true), (10, true), (11, true), (12, true), (13, true), (14, true), (15, true), (16, true), (17, true), (18, true), (19, true), (20, true), (21, true), (22, true), (23, true), (24, true), (25, true), (26, true), (27, true), (28, true), (29, true), (30, true), (31, true), (32, true), (33, true), (34, true), (35, true), (36, true), (37, true), (38, true), (39, true), (40, true), (41, true), (42, true), (43, true), (44, true), (45, true), (46, true), (47, true), (48, true), (49, true)] rfl (np_seq (np_blk (np_seq (np_rnd (np_blk (np_seq np_rt)))))) (by kernel_rfl) (by kernel_rfl) (by kernel_rfl) (by kernel_rfl) (by kernel_rfl) (by kernel_rfl) (by kernel_rfl) (by kernel_rfl) ?_
  refine jd_mv rfl rfl rfl rfl ?_
  refine jd_mv rfl rfl rfl rfl ?_
  refine jd_ix fun x6 h7 => ?_
  refine jd_y rfl (fun w hs => yv_ix rfl rfl (hs.arg Rha0) h7) rfl rfl ?_
  refine jd_y rfl (fun w hs => yv_ef rfl (hs.arg Rha0) h7.1) rfl rfl ?_
  refine jd_y rfl (fun w hs => yv_e1 rfl (hs.arg Rha0) h7.1 rfl) rfl rfl ?_
  refine jd_mv rfl rfl rfl rfl ?_
  refine jd_mv rfl rfl rfl rfl ?_
  refine jd_ix fun x8 h9 => ?_
  refine jd_y rfl (fun w hs => yv_ix rfl rfl (hs.arg Rha1) h9) rfl rfl ?_
  refine jd_y rfl (fun w hs => yv_ef rfl (hs.arg Rha1) h9.1) rfl rfl ?_
  refine jd_y rfl (fun w hs => yv_e1 rfl (hs.arg Rha1) h9.1 rfl) rfl rfl ?_
  refine jd_y rfl (fun w hs => yv_neq rfl rfl) rfl rfl ?_
  refine jd_mv rfl rfl rfl rfl ?_
  refine jd_split 28 rfl ?_ ?_
  · refine jd_skip rfl rfl rfl ?_
    refine jd_skip rfl rfl rfl ?_
    refine jd_skip rfl rfl rfl ?_
    refine jd_skip rfl rfl rfl ?_
    refine jd_skip rfl rfl rfl ?_
    refine jd_skip rfl rfl rfl ?_
    refine jd_skip rfl rfl rfl ?_
    refine jd_skip rfl rfl rfl ?_
    refine jd_skip rfl rfl rfl ?_
    refine jd_skip rfl rfl rfl ?_
    refine jd_skip rfl rfl rfl ?_
    refine jd_y rfl (fun w hs => yv_pick_t rfl rfl) rfl rfl ?_
    refine jd_mv rfl rfl rfl rfl ?_
    refine jd_skip rfl rfl rfl ?_
    refine jd_skip rfl rfl rfl ?_
    refine jd_skip rfl rfl rfl ?_
    refine jd_skip rfl rfl rfl ?_
    refine jd_skip rfl rfl rfl ?_
    refine jd_skip rfl rfl rfl ?_
    refine jd_skip rfl rfl rfl ?_
    refine jd_skip rfl rfl rfl ?_
    refine jd_skip rfl rfl rfl ?_
    refine jd_skip rfl rfl rfl ?_
    refine jd_skip rfl rfl rfl ?_
    refine jd_y rfl (fun w hs => yv_pick_t rfl rfl) rfl rfl ?_
    refine jd_mv rfl rfl rfl rfl ?_
    refine jd_skip rfl rfl rfl ?_
    refine jd_skip rfl rfl rfl ?_
    refine jd_skip rfl rfl rfl ?_
    refine jd_skip rfl rfl rfl ?_
    refine jd_skip rfl rfl rfl ?_
    refine jd_skip rfl rfl rfl ?_
    refine jd_skip rfl rfl rfl ?_
    refine jd_skip rfl rfl rfl ?_
    refine jd_skip rfl rfl rfl ?_
    refine jd_skip rfl rfl rfl ?_
    refine jd_skip rfl rfl rfl ?_
    refine jd_y rfl (fun w hs => yv_pick_t rfl rfl) rfl rfl ?_
    refine jd_nils [(0, _), (1, _), (5, _), (66, _)] ⟨rfl, rfl, rfl, rfl, trivial⟩ ?_
    refine jk_sn ?_
    refine jn_ct rfl ?_
    refine jn_seq ?_
    refine jn_reg 7 ?_
    refine jg_as rfl rfl rfl ?_
    refine jg_nils [(4, _)] ⟨rfl, trivial⟩ ?_
    refine jk_sn ?_
    refine jn_ret ?_
    refine jk_br (jk_sr (jk_lr (jk_br (jk_sr ?_))))
    exact jk_ret1 rfl (fun w hs => .tmp rfl) (fun w hs => ⟨rfl, hs.drop⟩)
  refine jd_mv rfl rfl rfl rfl ?_
  refine jd_mv rfl rfl rfl rfl ?_
  refine jd_ix fun x10 h11 => ?_
  refine jd_y rfl (fun w hs => yv_ix rfl rfl (hs.arg Rha0) h11) rfl rfl ?_
  refine jd_y rfl (fun w hs => yv_ef rfl (hs.arg Rha0) h11.1) rfl rfl ?_
  refine jd_y rfl (fun w hs => yv_e1 rfl (hs.arg Rha0) h11.1 rfl) rfl rfl ?_
  refine jd_mv rfl rfl rfl rfl ?_
  refine jd_mv rfl rfl rfl rfl ?_
  refine jd_ix fun x12 h13 => ?_
  refine jd_y rfl (fun w hs => yv_ix rfl rfl (hs.arg Rha1) h13) rfl rfl ?_
  refine jd_y rfl (fun w hs => yv_ef rfl (hs.arg Rha1) h13.1) rfl rfl ?_
  refine jd_y rfl (fun w hs => yv_e1 rfl (hs.arg Rha1) h13.1 rfl) rfl rfl ?_
  refine jd_y rfl (fun w hs => yv_neq rfl rfl) rfl rfl ?_
  refine jd_y rfl (fun w hs => yv_pick_f rfl rfl) rfl rfl ?_
  refine jd_mv rfl rfl rfl rfl ?_
  refine jd_split 41 rfl ?_ ?_
  · refine jd_skip rfl rfl rfl ?_
    refine jd_skip rfl rfl rfl ?_
    refine jd_skip rfl rfl rfl ?_
    refine jd_skip rfl rfl rfl ?_
    refine jd_skip rfl rfl rfl ?_
    refine jd_skip rfl rfl rfl ?_
    refine jd_skip rfl rfl rfl ?_
    refine jd_skip rfl rfl rfl ?_
    refine jd_skip rfl rfl rfl ?_
    refine jd_skip rfl rfl rfl ?_
    refine jd_skip rfl rfl rfl ?_
    refine jd_y rfl (fun w hs => yv_pick_t rfl rfl) rfl rfl ?_
    refine jd_mv rfl rfl rfl rfl ?_
    refine jd_skip rfl rfl rfl ?_
    refine jd_skip rfl rfl rfl ?_
    refine jd_skip rfl rfl rfl ?_
    refine jd_skip rfl rfl rfl ?_
    refine jd_skip rfl rfl rfl ?_
    refine jd_skip rfl rfl rfl ?_
    refine jd_skip rfl rfl rfl ?_
    refine jd_skip rfl rfl rfl ?_
    refine jd_skip rfl rfl rfl ?_
    refine jd_skip rfl rfl rfl ?_
    refine jd_skip rfl rfl rfl ?_
    refine jd_y rfl (fun w hs => yv_pick_t rfl rfl) rfl rfl ?_
    refine jd_nils [(0, _), (1, _), (5, _), (66, _)] ⟨rfl, rfl, rfl, rfl, trivial⟩ ?_
    refine jk_sn ?_
    refine jn_ct rfl ?_
    refine jn_seq ?_
    refine jn_reg 7 ?_
    refine jg_as rfl rfl rfl ?_
    refine jg_nils [(4, _)] ⟨rfl, trivial⟩ ?_
    refine jk_sn ?_
    refine jn_ret ?_
    refine jk_br (jk_sr (jk_lr (jk_br (jk_sr ?_))))
    exact jk_ret1 rfl (fun w hs => .tmp rfl) (fun w hs => ⟨rfl, hs.drop⟩)
  refine jd_mv rfl rfl rfl rfl ?_
  refine jd_mv rfl rfl rfl rfl ?_
  refine jd_ix fun x14 h15 => ?_
  refine jd_y rfl (fun w hs => yv_ix rfl rfl (hs.arg Rha0) h15) rfl rfl ?_
  refine jd_y rfl (fun w hs => yv_ef rfl (hs.arg Rha0) h15.1) rfl rfl ?_
  refine jd_y rfl (fun w hs => yv_e1 rfl (hs.arg Rha0) h15.1 rfl) rfl rfl ?_
  refine jd_mv rfl rfl rfl rfl ?_
  refine jd_mv rfl rfl rfl rfl ?_
  refine jd_ix fun x16 h17 => ?_
  refine jd_y rfl (fun w hs => yv_ix rfl rfl (hs.arg Rha1) h17) rfl rfl ?_
  refine jd_y rfl (fun w hs => yv_ef rfl (hs.arg Rha1) h17.1) rfl rfl ?_
  refine jd_y rfl (fun w hs => yv_e1 rfl (hs.arg Rha1) h17.1 rfl) rfl rfl ?_
  refine jd_y rfl (fun w hs => yv_lss rfl rfl) rfl rfl ?_
  refine jd_y rfl (fun w hs => yv_pick_f rfl rfl) rfl rfl ?_
  refine jd_mv rfl rfl rfl rfl ?_
  refine jd_split 54 rfl ?_ ?_
  · refine jd_skip rfl rfl rfl ?_
    refine jd_skip rfl rfl rfl ?_
    refine jd_skip rfl rfl rfl ?_
    refine jd_skip rfl rfl rfl ?_
    refine jd_skip rfl rfl rfl ?_
    refine jd_skip rfl rfl rfl ?_
    refine jd_skip rfl rfl rfl ?_
    refine jd_skip rfl rfl rfl ?_
    refine jd_skip rfl rfl rfl ?_
    refine jd_skip rfl rfl rfl ?_
    refine jd_skip rfl rfl rfl ?_
    refine jd_y rfl (fun w hs => yv_pick_t rfl rfl) rfl rfl ?_
    refine jd_nils [(0, _), (1, _), (5, _), (66, _)] ⟨rfl, rfl, rfl, rfl, trivial⟩ ?_
    refine jk_sn ?_
    refine jn_ct rfl ?_
    refine jn_seq ?_
    refine jn_reg 7 ?_
    refine jg_as rfl rfl rfl ?_
    refine jg_nils [(4, _)] ⟨rfl, trivial⟩ ?_
    refine jk_sn ?_
    refine jn_ret ?_
    refine jk_br (jk_sr (jk_lr (jk_br (jk_sr ?_))))
    exact jk_ret1 rfl (fun w hs => .tmp rfl) (fun w hs => ⟨rfl, hs.drop⟩)
  refine jd_mv rfl rfl rfl rfl ?_
  refine jd_mv rfl rfl rfl rfl ?_
  refine jd_ix fun x18 h19 => ?_
  refine jd_y rfl (fun w hs => yv_ix rfl rfl (hs.arg Rha0) h19) rfl rfl ?_
  refine jd_y rfl (fun w hs => yv_ef rfl (hs.arg Rha0) h19.1) rfl rfl ?_
  refine jd_y rfl (fun w hs => yv_e1 rfl (hs.arg Rha0) h19.1 rfl) rfl rfl ?_
  refine jd_mv rfl rfl rfl rfl ?_
  refine jd_mv rfl rfl rfl rfl ?_
  refine jd_ix fun x20 h21 => ?_
  refine jd_y rfl (fun w hs => yv_ix rfl rfl (hs.arg Rha1) h21) rfl rfl ?_
  refine jd_y rfl (fun w hs => yv_ef rfl (hs.arg Rha1) h21.1) rfl rfl ?_
  refine jd_y rfl (fun w hs => yv_e1 rfl (hs.arg Rha1) h21.1 rfl) rfl rfl ?_
  refine jd_y rfl (fun w hs => yv_gtr rfl rfl) rfl rfl ?_
  refine jd_y rfl (fun w hs => yv_pick_f rfl rfl) rfl rfl ?_
  refine jd_nils [(0, _), (1, _), (5, _), (66, _)] ⟨rfl, rfl, rfl, rfl, trivial⟩ ?_
  refine jk_sn ?_
  refine jn_cond rfl ?_ ?_
  · refine jn_seq ?_
    refine jn_reg 7 ?_
    refine jg_as rfl rfl rfl ?_
    refine jg_nils [(4, _)] ⟨rfl, trivial⟩ ?_
    refine jk_sn ?_
    refine jn_ret ?_
    refine jk_br (jk_sr (jk_lr (jk_br (jk_sr ?_))))
    exact jk_ret1 rfl (fun w hs => .tmp rfl) (fun w hs => ⟨rfl, hs.drop⟩)
  refine jn_skip ?_
  refine jk_bn (jk_sn ?_)
  refine jn_reg 5 ?_
  refine jg_mv rfl rfl rfl ?_
  refine jg_y (fun w hs => yv_add_w rfl rfl) rfl rfl ?_
  refine jg_as rfl rfl rfl ?_
  refine jg_nils [(0, _), (1, _), (5, _)] ⟨rfl, rfl, rfl, trivial⟩ ?_
  exact jk_use H4 (w64 (z1 + 1)) () [] ⟨rfl, rfl, rfl, trivial⟩ rfl rfl rfl
theorem law22_exact_c {w : World} {a0 : (List Element)} {a1 : (List Piece)} {a2 : (List Passage)} {a3 : (List Moment)} {a4 : Int} {a5 : Int} {ha0 : Hd} {ha1 : Hd} {ha2 : Hd} {ha3 : Hd} {v : Bool} (hm : law22_exact a0 a1 a2 a3 a4 a5 = some v) (Rha0 : Sl w ha0 Element.enc a0) (Rha1 : Sl w ha1 Piece.enc a1) (Rha2 : Sl w ha2 Passage.enc a2) (Rha3 : Sl w ha3 Moment.enc a3) : Gives Try.prog 28 [ha0.v, ha1.v, ha2.v, ha3.v, .int .i64 a4, .int .i64 a5] w (.bool v) := by
  refine j_gives (vs := [ha0.v, ha1.v, ha2.v, ha3.v, .int .i64 a4, .int .i64 a5]) (U := fun (v : Bool) => .bool v) Try.func28 rfl Try.ntmps28 rfl rfl hm ?_
  unfold law22_exact
  clear hm
  refine jn_seq ?_
  refine jn_reg 0 ?_
  refine jg_as rfl rfl rfl ?_
  refine jg_nils [(0, _), (1, _), (2, _), (3, _), (4, _), (5, _)] ⟨rfl, rfl, rfl, rfl, rfl, rfl, trivial⟩ ?_
  refine jk_sn ?_
  refine jn_seq ?_
  refine jn_reg 1 ?_
  refine jg_mv rfl rfl rfl ?_
  refine jg_mv rfl rfl rfl ?_
  refine jg_c rfl (fun v w hs hm => occupancy_Approach_c hm (hs.arg Rha1)) rfl rfl fun v1 q2 => ?_
  refine jg_L (r1 rfl) ?_
  refine jg_mv rfl rfl rfl ?_
  refine jg_y (fun w hs => yv_extract rfl rfl) rfl rfl ?_
  refine jg_y (fun w hs => yv_extract rfl rfl) rfl rfl ?_
  refine jg_as rfl rfl rfl ?_
  refine jg_as rfl rfl rfl ?_
  refine jg_nils [(0, _), (1, _), (2, _), (3, _), (4, _), (5, _), (13, _), (14, _)] ⟨rfl, rfl, rfl, rfl, rfl, rfl, rfl, rfl, trivial⟩ ?_
  refine jk_sn ?_
  refine jn_seq ?_
  refine jn_reg 2 ?_
  refine jg_mv rfl rfl rfl ?_
  refine jg_mv rfl rfl rfl ?_
  refine jg_c rfl (fun v w hs hm => r22_Approach_c hm (hs.arg Rha1)) rfl rfl fun v3 q4 => ?_
  refine jg_L (r2 rfl) ?_
  refine jg_mv rfl rfl rfl ?_
  refine jg_y (fun w hs => yv_extract rfl rfl) rfl rfl ?_
  refine jg_y (fun w hs => yv_extract rfl rfl) rfl rfl ?_
  refine jg_as rfl rfl rfl ?_
  refine jg_as rfl rfl rfl ?_
  refine jg_nils [(0, _), (1, _), (2, _), (3, _), (4, _), (5, _), (13, _), (14, _), (15, _), (16, _)] ⟨rfl, rfl, rfl, rfl, rfl, rfl, rfl, rfl, rfl, rfl, trivial⟩ ?_
  refine jk_sn ?_
  refine jn_seq ?_
  refine jn_reg 3 ?_
  refine jg_mv rfl rfl rfl ?_
  refine jg_mv rfl rfl rfl ?_
  refine jg_mv rfl rfl rfl ?_
  refine jg_mv rfl rfl rfl ?_
  refine jg_c rfl (fun v w hs hm => occupancy_Spans_c hm (hs.arg Rha0) (hs.arg Rha1) (hs.arg Rha2)) rfl rfl fun v5 q6 => ?_
  refine jg_L (r3 rfl) ?_
  refine jg_mv rfl rfl rfl ?_
  refine jg_y (fun w hs => yv_extract rfl rfl) rfl rfl ?_
  refine jg_y (fun w hs => yv_extract rfl rfl) rfl rfl ?_
  refine jg_as rfl rfl rfl ?_
  refine jg_as rfl rfl rfl ?_
  refine jg_nils [(0, _), (1, _), (2, _), (3, _), (4, _), (5, _), (13, _), (14, _), (15, _), (16, _), (17, _), (18, _)] ⟨rfl, rfl, rfl, rfl, rfl, rfl, rfl, rfl, rfl, rfl, rfl, rfl, trivial⟩ ?_
  refine jk_sn ?_
  refine jn_seq ?_
  refine jn_reg 4 ?_
  refine jg_mv rfl rfl rfl ?_
  refine jg_mv rfl rfl rfl ?_
  refine jg_mv rfl rfl rfl ?_
  refine jg_mv rfl rfl rfl ?_
  refine jg_c rfl (fun v w hs hm => r22_Spans_c hm (hs.arg Rha0) (hs.arg Rha1) (hs.arg Rha2)) rfl rfl fun v7 q8 => ?_
  refine jg_L (r4 rfl) ?_
  refine jg_mv rfl rfl rfl ?_
  refine jg_y (fun w hs => yv_extract rfl rfl) rfl rfl ?_
  refine jg_y (fun w hs => yv_extract rfl rfl) rfl rfl ?_
  refine jg_as rfl rfl rfl ?_
  refine jg_as rfl rfl rfl ?_
  refine jg_nils [(0, _), (1, _), (3, _), (4, _), (5, _), (13, _), (14, _), (15, _), (16, _), (17, _), (18, _), (19, _), (20, _)] ⟨rfl, rfl, rfl, rfl, rfl, rfl, rfl, rfl, rfl, rfl, rfl, rfl, rfl, trivial⟩ ?_
  refine jk_sn ?_
  refine jn_seq ?_
  refine jn_reg 5 ?_
  refine jg_mv rfl rfl rfl ?_
  refine jg_mv rfl rfl rfl ?_
  refine jg_mv rfl rfl rfl ?_
  refine jg_mv rfl rfl rfl ?_
  refine jg_c rfl (fun v w hs hm => occupancy_Exact_c hm (hs.arg Rha0) (hs.arg Rha1) (hs.arg Rha3)) rfl rfl fun v9 q10 => ?_
  refine jg_L (r5 rfl) ?_
  refine jg_mv rfl rfl rfl ?_
  refine jg_y (fun w hs => yv_extract rfl rfl) rfl rfl ?_
  refine jg_y (fun w hs => yv_extract rfl rfl) rfl rfl ?_
  refine jg_as rfl rfl rfl ?_
  refine jg_as rfl rfl rfl ?_
  refine jg_nils [(0, _), (1, _), (3, _), (4, _), (5, _), (13, _), (14, _), (15, _), (16, _), (17, _), (18, _), (19, _), (20, _), (21, _), (22, _)] ⟨rfl, rfl, rfl, rfl, rfl, rfl, rfl, rfl, rfl, rfl, rfl, rfl, rfl, rfl, rfl, trivial⟩ ?_
  refine jk_sn ?_
  refine jn_seq ?_
  refine jn_reg 6 ?_
  refine jg_mv rfl rfl rfl ?_
  refine jg_mv rfl rfl rfl ?_
  refine jg_mv rfl rfl rfl ?_
  refine jg_mv rfl rfl rfl ?_
  refine jg_c rfl (fun v w hs hm => r22_Exact_c hm (hs.arg Rha0) (hs.arg Rha1) (hs.arg Rha3)) rfl rfl fun v11 q12 => ?_
  refine jg_L (r6 rfl) ?_
  refine jg_mv rfl rfl rfl ?_
  refine jg_y (fun w hs => yv_extract rfl rfl) rfl rfl ?_
  refine jg_y (fun w hs => yv_extract rfl rfl) rfl rfl ?_
  refine jg_as rfl rfl rfl ?_
  refine jg_as rfl rfl rfl ?_
  refine jg_nils [(1, _), (4, _), (5, _), (13, _), (14, _), (15, _), (16, _), (17, _), (18, _), (19, _), (20, _), (21, _), (22, _), (23, _), (24, _)] ⟨rfl, rfl, rfl, rfl, rfl, rfl, rfl, rfl, rfl, rfl, rfl, rfl, rfl, rfl, rfl, trivial⟩ ?_
  refine jk_sn ?_
  refine jn_seq ?_
  refine jn_reg 7 ?_
  refine jg_mv rfl rfl rfl ?_
  refine jg_mv rfl rfl rfl ?_
  refine jg_c0 rfl (fun v w hs hm => gen_Pieces_c hm (hs.row 5 rfl) (hs.row 4 rfl)) rfl rfl fun v13 => ?_
  refine jg_mv rfl rfl rfl ?_
  refine jg_split 72 rfl ?_ ?_
  rotate_left
  · refine jg_skip rfl rfl ?_
    refine jg_skip rfl rfl ?_
    refine jg_skip rfl rfl ?_
    refine jg_y (fun w hs => yv_pick_f rfl rfl) rfl rfl ?_
    refine jg_mv rfl rfl rfl ?_
    refine jg_skip rfl rfl ?_
    refine jg_skip rfl rfl ?_
    refine jg_skip rfl rfl ?_
    refine jg_skip rfl rfl ?_
    refine jg_skip rfl rfl ?_
    refine jg_skip rfl rfl ?_
    refine jg_skip rfl rfl ?_
    refine jg_skip rfl rfl ?_
    refine jg_skip rfl rfl ?_
    refine jg_y (fun w hs => yv_pick_f rfl rfl) rfl rfl ?_
    refine jg_mv rfl rfl rfl ?_
    refine jg_skip rfl rfl ?_
    refine jg_skip rfl rfl ?_
    refine jg_skip rfl rfl ?_
    refine jg_y (fun w hs => yv_pick_f rfl rfl) rfl rfl ?_
    refine jg_mv rfl rfl rfl ?_
    refine jg_skip rfl rfl ?_
    refine jg_skip rfl rfl ?_
    refine jg_skip rfl rfl ?_
    refine jg_y (fun w hs => yv_pick_f rfl rfl) rfl rfl ?_
    refine jg_mv rfl rfl rfl ?_
    refine jg_skip rfl rfl ?_
    refine jg_skip rfl rfl ?_
    refine jg_skip rfl rfl ?_
    refine jg_y (fun w hs => yv_pick_f rfl rfl) rfl rfl ?_
    refine jg_mv rfl rfl rfl ?_
    refine jg_skip rfl rfl ?_
    refine jg_skip rfl rfl ?_
    refine jg_skip rfl rfl ?_
    refine jg_y (fun w hs => yv_pick_f rfl rfl) rfl rfl ?_
    refine jg_mv rfl rfl rfl ?_
    refine jg_skip rfl rfl ?_
    refine jg_skip rfl rfl ?_
    refine jg_skip rfl rfl ?_
    refine jg_skip rfl rfl ?_
    refine jg_skip rfl rfl ?_
    refine jg_skip rfl rfl ?_
    refine jg_skip rfl rfl ?_
    refine jg_y (fun w hs => yv_pick_f rfl rfl) rfl rfl ?_
    refine jg_mv rfl rfl rfl ?_
    refine jg_skip rfl rfl ?_
    refine jg_skip rfl rfl ?_
    refine jg_skip rfl rfl ?_
    refine jg_skip rfl rfl ?_
    refine jg_skip rfl rfl ?_
    refine jg_skip rfl rfl ?_
    refine jg_skip rfl rfl ?_
    refine jg_y (fun w hs => yv_pick_f rfl rfl) rfl rfl ?_
    refine jg_as rfl rfl rfl ?_
    refine jg_nils [(12, _)] ⟨rfl, trivial⟩ ?_
    refine jk_sel (is := []) (s0 rfl) rfl ?_
    refine jk_sn ?_
    refine jn_ret ?_
    exact jk_ret1 rfl (fun w hs => .tmp rfl) (fun w hs => ⟨rfl, hs.drop⟩)
  refine jg_mv rfl rfl rfl ?_
  refine jg_mv rfl rfl rfl ?_
  refine jg_y (fun w hs => yv_eql rfl rfl) rfl rfl ?_
  refine jg_y (fun w hs => yv_pick_t rfl rfl) rfl rfl ?_
  refine jg_mv rfl rfl rfl ?_
  refine jg_split 77 rfl ?_ ?_
  rotate_left
  · refine jg_skip rfl rfl ?_
    refine jg_skip rfl rfl ?_
    refine jg_skip rfl rfl ?_
    refine jg_skip rfl rfl ?_
    refine jg_skip rfl rfl ?_
    refine jg_skip rfl rfl ?_
    refine jg_skip rfl rfl ?_
    refine jg_skip rfl rfl ?_
    refine jg_skip rfl rfl ?_
    refine jg_y (fun w hs => yv_pick_f rfl rfl) rfl rfl ?_
    refine jg_mv rfl rfl rfl ?_
    refine jg_skip rfl rfl ?_
    refine jg_skip rfl rfl ?_
    refine jg_skip rfl rfl ?_
    refine jg_y (fun w hs => yv_pick_f rfl rfl) rfl rfl ?_
    refine jg_mv rfl rfl rfl ?_
    refine jg_skip rfl rfl ?_
    refine jg_skip rfl rfl ?_
    refine jg_skip rfl rfl ?_
    refine jg_y (fun w hs => yv_pick_f rfl rfl) rfl rfl ?_
    refine jg_mv rfl rfl rfl ?_
    refine jg_skip rfl rfl ?_
    refine jg_skip rfl rfl ?_
    refine jg_skip rfl rfl ?_
    refine jg_y (fun w hs => yv_pick_f rfl rfl) rfl rfl ?_
    refine jg_mv rfl rfl rfl ?_
    refine jg_skip rfl rfl ?_
    refine jg_skip rfl rfl ?_
    refine jg_skip rfl rfl ?_
    refine jg_y (fun w hs => yv_pick_f rfl rfl) rfl rfl ?_
    refine jg_mv rfl rfl rfl ?_
    refine jg_skip rfl rfl ?_
    refine jg_skip rfl rfl ?_
    refine jg_skip rfl rfl ?_
    refine jg_skip rfl rfl ?_
    refine jg_skip rfl rfl ?_
    refine jg_skip rfl rfl ?_
    refine jg_skip rfl rfl ?_
    refine jg_y (fun w hs => yv_pick_f rfl rfl) rfl rfl ?_
    refine jg_mv rfl rfl rfl ?_
    refine jg_skip rfl rfl ?_
    refine jg_skip rfl rfl ?_
    refine jg_skip rfl rfl ?_
    refine jg_skip rfl rfl ?_
    refine jg_skip rfl rfl ?_
    refine jg_skip rfl rfl ?_
    refine jg_skip rfl rfl ?_
    refine jg_y (fun w hs => yv_pick_f rfl rfl) rfl rfl ?_
    refine jg_as rfl rfl rfl ?_
    refine jg_nils [(12, _)] ⟨rfl, trivial⟩ ?_
    refine jk_sel (is := []) (s0 rfl) rfl ?_
    refine jk_sn ?_
    refine jn_ret ?_
    exact jk_ret1 rfl (fun w hs => .tmp rfl) (fun w hs => ⟨rfl, hs.drop⟩)
  refine jg_mv rfl rfl rfl ?_
  refine jg_mv rfl rfl rfl ?_
  refine jg_mv rfl rfl rfl ?_
  refine jg_c0 rfl (fun v w hs hm => occupancy_Clear_c hm (hs.arg Rha1)) rfl rfl fun v14 => ?_
  refine jg_mv rfl rfl rfl ?_
  refine jg_mv rfl rfl rfl ?_
  refine jg_mv rfl rfl rfl ?_
  refine jg_c0 rfl (fun v w hs hm => r22_Clear_c hm (hs.arg Rha1)) rfl rfl fun v15 => ?_
  refine jg_y (fun w hs => yv_eql rfl rfl) rfl rfl ?_
  refine jg_y (fun w hs => yv_pick_t rfl rfl) rfl rfl ?_
  refine jg_mv rfl rfl rfl ?_
  refine jg_split 88 rfl ?_ ?_
  rotate_left
  · refine jg_skip rfl rfl ?_
    refine jg_skip rfl rfl ?_
    refine jg_skip rfl rfl ?_
    refine jg_y (fun w hs => yv_pick_f rfl rfl) rfl rfl ?_
    refine jg_mv rfl rfl rfl ?_
    refine jg_skip rfl rfl ?_
    refine jg_skip rfl rfl ?_
    refine jg_skip rfl rfl ?_
    refine jg_y (fun w hs => yv_pick_f rfl rfl) rfl rfl ?_
    refine jg_mv rfl rfl rfl ?_
    refine jg_skip rfl rfl ?_
    refine jg_skip rfl rfl ?_
    refine jg_skip rfl rfl ?_
    refine jg_y (fun w hs => yv_pick_f rfl rfl) rfl rfl ?_
    refine jg_mv rfl rfl rfl ?_
    refine jg_skip rfl rfl ?_
    refine jg_skip rfl rfl ?_
    refine jg_skip rfl rfl ?_
    refine jg_y (fun w hs => yv_pick_f rfl rfl) rfl rfl ?_
    refine jg_mv rfl rfl rfl ?_
    refine jg_skip rfl rfl ?_
    refine jg_skip rfl rfl ?_
    refine jg_skip rfl rfl ?_
    refine jg_skip rfl rfl ?_
    refine jg_skip rfl rfl ?_
    refine jg_skip rfl rfl ?_
    refine jg_skip rfl rfl ?_
    refine jg_y (fun w hs => yv_pick_f rfl rfl) rfl rfl ?_
    refine jg_mv rfl rfl rfl ?_
    refine jg_skip rfl rfl ?_
    refine jg_skip rfl rfl ?_
    refine jg_skip rfl rfl ?_
    refine jg_skip rfl rfl ?_
    refine jg_skip rfl rfl ?_
    refine jg_skip rfl rfl ?_
    refine jg_skip rfl rfl ?_
    refine jg_y (fun w hs => yv_pick_f rfl rfl) rfl rfl ?_
    refine jg_as rfl rfl rfl ?_
    refine jg_nils [(12, _)] ⟨rfl, trivial⟩ ?_
    refine jk_sel (is := []) (s0 rfl) rfl ?_
    refine jk_sn ?_
    refine jn_ret ?_
    exact jk_ret1 rfl (fun w hs => .tmp rfl) (fun w hs => ⟨rfl, hs.drop⟩)
  refine jg_mv rfl rfl rfl ?_
  refine jg_mv rfl rfl rfl ?_
  refine jg_c0 rfl (fun v w hs hm => yardgen_SameSpans_c hm (hs.row 3 rfl) (hs.row 2 rfl)) rfl rfl fun v16 => ?_
  refine jg_y (fun w hs => yv_pick_t rfl rfl) rfl rfl ?_
  refine jg_mv rfl rfl rfl ?_
  refine jg_split 93 rfl ?_ ?_
  rotate_left
  · refine jg_skip rfl rfl ?_
    refine jg_skip rfl rfl ?_
    refine jg_skip rfl rfl ?_
    refine jg_y (fun w hs => yv_pick_f rfl rfl) rfl rfl ?_
    refine jg_mv rfl rfl rfl ?_
    refine jg_skip rfl rfl ?_
    refine jg_skip rfl rfl ?_
    refine jg_skip rfl rfl ?_
    refine jg_y (fun w hs => yv_pick_f rfl rfl) rfl rfl ?_
    refine jg_mv rfl rfl rfl ?_
    refine jg_skip rfl rfl ?_
    refine jg_skip rfl rfl ?_
    refine jg_skip rfl rfl ?_
    refine jg_y (fun w hs => yv_pick_f rfl rfl) rfl rfl ?_
    refine jg_mv rfl rfl rfl ?_
    refine jg_skip rfl rfl ?_
    refine jg_skip rfl rfl ?_
    refine jg_skip rfl rfl ?_
    refine jg_skip rfl rfl ?_
    refine jg_skip rfl rfl ?_
    refine jg_skip rfl rfl ?_
    refine jg_skip rfl rfl ?_
    refine jg_y (fun w hs => yv_pick_f rfl rfl) rfl rfl ?_
    refine jg_mv rfl rfl rfl ?_
    refine jg_skip rfl rfl ?_
    refine jg_skip rfl rfl ?_
    refine jg_skip rfl rfl ?_
    refine jg_skip rfl rfl ?_
    refine jg_skip rfl rfl ?_
    refine jg_skip rfl rfl ?_
    refine jg_skip rfl rfl ?_
    refine jg_y (fun w hs => yv_pick_f rfl rfl) rfl rfl ?_
    refine jg_as rfl rfl rfl ?_
    refine jg_nils [(12, _)] ⟨rfl, trivial⟩ ?_
    refine jk_sel (is := []) (s0 rfl) rfl ?_
    refine jk_sn ?_
    refine jn_ret ?_
    exact jk_ret1 rfl (fun w hs => .tmp rfl) (fun w hs => ⟨rfl, hs.drop⟩)
  refine jg_mv rfl rfl rfl ?_
  refine jg_mv rfl rfl rfl ?_
  refine jg_y (fun w hs => yv_eql rfl rfl) rfl rfl ?_
  refine jg_y (fun w hs => yv_pick_t rfl rfl) rfl rfl ?_
  refine jg_mv rfl rfl rfl ?_
  refine jg_split 98 rfl ?_ ?_
  rotate_left
  · refine jg_skip rfl rfl ?_
    refine jg_skip rfl rfl ?_
    refine jg_skip rfl rfl ?_
    refine jg_y (fun w hs => yv_pick_f rfl rfl) rfl rfl ?_
    refine jg_mv rfl rfl rfl ?_
    refine jg_skip rfl rfl ?_
    refine jg_skip rfl rfl ?_
    refine jg_skip rfl rfl ?_
    refine jg_y (fun w hs => yv_pick_f rfl rfl) rfl rfl ?_
    refine jg_mv rfl rfl rfl ?_
    refine jg_skip rfl rfl ?_
    refine jg_skip rfl rfl ?_
    refine jg_skip rfl rfl ?_
    refine jg_skip rfl rfl ?_
    refine jg_skip rfl rfl ?_
    refine jg_skip rfl rfl ?_
    refine jg_skip rfl rfl ?_
    refine jg_y (fun w hs => yv_pick_f rfl rfl) rfl rfl ?_
    refine jg_mv rfl rfl rfl ?_
    refine jg_skip rfl rfl ?_
    refine jg_skip rfl rfl ?_
    refine jg_skip rfl rfl ?_
    refine jg_skip rfl rfl ?_
    refine jg_skip rfl rfl ?_
    refine jg_skip rfl rfl ?_
    refine jg_skip rfl rfl ?_
    refine jg_y (fun w hs => yv_pick_f rfl rfl) rfl rfl ?_
    refine jg_as rfl rfl rfl ?_
    refine jg_nils [(12, _)] ⟨rfl, trivial⟩ ?_
    refine jk_sel (is := []) (s0 rfl) rfl ?_
    refine jk_sn ?_
    refine jn_ret ?_
    exact jk_ret1 rfl (fun w hs => .tmp rfl) (fun w hs => ⟨rfl, hs.drop⟩)
  refine jg_mv rfl rfl rfl ?_
  refine jg_mv rfl rfl rfl ?_
  refine jg_c0 rfl (fun v w hs hm => yardgen_SameSpans_c hm (hs.row 1 rfl) (hs.row 0 rfl)) rfl rfl fun v17 => ?_
  refine jg_y (fun w hs => yv_pick_t rfl rfl) rfl rfl ?_
  refine jg_mv rfl rfl rfl ?_
  refine jg_split 103 rfl ?_ ?_
  rotate_left
  · refine jg_skip rfl rfl ?_
    refine jg_skip rfl rfl ?_
    refine jg_skip rfl rfl ?_
    refine jg_y (fun w hs => yv_pick_f rfl rfl) rfl rfl ?_
    refine jg_mv rfl rfl rfl ?_
    refine jg_skip rfl rfl ?_
    refine jg_skip rfl rfl ?_
    refine jg_skip rfl rfl ?_
    refine jg_skip rfl rfl ?_
    refine jg_skip rfl rfl ?_
    refine jg_skip rfl rfl ?_
    refine jg_skip rfl rfl ?_
    refine jg_y (fun w hs => yv_pick_f rfl rfl) rfl rfl ?_
    refine jg_mv rfl rfl rfl ?_
    refine jg_skip rfl rfl ?_
    refine jg_skip rfl rfl ?_
    refine jg_skip rfl rfl ?_
    refine jg_skip rfl rfl ?_
    refine jg_skip rfl rfl ?_
    refine jg_skip rfl rfl ?_
    refine jg_skip rfl rfl ?_
    refine jg_y (fun w hs => yv_pick_f rfl rfl) rfl rfl ?_
    refine jg_as rfl rfl rfl ?_
    refine jg_nils [(12, _)] ⟨rfl, trivial⟩ ?_
    refine jk_sel (is := []) (s0 rfl) rfl ?_
    refine jk_sn ?_
    refine jn_ret ?_
    exact jk_ret1 rfl (fun w hs => .tmp rfl) (fun w hs => ⟨rfl, hs.drop⟩)
  refine jg_mv rfl rfl rfl ?_
  refine jg_mv rfl rfl rfl ?_
  refine jg_y (fun w hs => yv_eql rfl rfl) rfl rfl ?_
  refine jg_y (fun w hs => yv_pick_t rfl rfl) rfl rfl ?_
  refine jg_mv rfl rfl rfl ?_
  refine jg_split 108 rfl ?_ ?_
  rotate_left
  · refine jg_skip rfl rfl ?_
    refine jg_skip rfl rfl ?_
    refine jg_skip rfl rfl ?_
    refine jg_skip rfl rfl ?_
    refine jg_skip rfl rfl ?_
    refine jg_skip rfl rfl ?_
    refine jg_skip rfl rfl ?_
    refine jg_y (fun w hs => yv_pick_f rfl rfl) rfl rfl ?_
    refine jg_mv rfl rfl rfl ?_
    refine jg_skip rfl rfl ?_
    refine jg_skip rfl rfl ?_
    refine jg_skip rfl rfl ?_
    refine jg_skip rfl rfl ?_
    refine jg_skip rfl rfl ?_
    refine jg_skip rfl rfl ?_
    refine jg_skip rfl rfl ?_
    refine jg_y (fun w hs => yv_pick_f rfl rfl) rfl rfl ?_
    refine jg_as rfl rfl rfl ?_
    refine jg_nils [(12, _)] ⟨rfl, trivial⟩ ?_
    refine jk_sel (is := []) (s0 rfl) rfl ?_
    refine jk_sn ?_
    refine jn_ret ?_
    exact jk_ret1 rfl (fun w hs => .tmp rfl) (fun w hs => ⟨rfl, hs.drop⟩)
  refine jg_mv rfl rfl rfl ?_
  refine jg_mv rfl rfl rfl ?_
  refine jg_c0 rfl (fun v w hs hm => occupancy_Inside_c hm (hs.row 1 rfl) (hs.row 3 rfl)) rfl rfl fun v18 => ?_
  refine jg_mv rfl rfl rfl ?_
  refine jg_mv rfl rfl rfl ?_
  refine jg_c0 rfl (fun v w hs hm => r22_Inside_c hm (hs.row 0 rfl) (hs.row 2 rfl)) rfl rfl fun v19 => ?_
  refine jg_y (fun w hs => yv_eqlb Try.underlying4 rfl rfl) rfl rfl ?_
  refine jg_y (fun w hs => yv_pick_t rfl rfl) rfl rfl ?_
  refine jg_mv rfl rfl rfl ?_
  refine jg_split 117 rfl ?_ ?_
  · refine jg_mv rfl rfl rfl ?_
    refine jg_mv rfl rfl rfl ?_
    refine jg_c0 rfl (fun v w hs hm => occupancy_Inside_c hm (hs.row 3 rfl) (hs.row 1 rfl)) rfl rfl fun v20 => ?_
    refine jg_mv rfl rfl rfl ?_
    refine jg_mv rfl rfl rfl ?_
    refine jg_c0 rfl (fun v w hs hm => r22_Inside_c hm (hs.row 2 rfl) (hs.row 0 rfl)) rfl rfl fun v21 => ?_
    refine jg_y (fun w hs => yv_eqlb Try.underlying4 rfl rfl) rfl rfl ?_
    refine jg_y (fun w hs => yv_pick_t rfl rfl) rfl rfl ?_
    refine jg_as rfl rfl rfl ?_
    refine jg_nils [(12, _)] ⟨rfl, trivial⟩ ?_
    refine jk_sel (is := []) (s0 rfl) rfl ?_
    refine jk_sn ?_
    refine jn_ret ?_
    exact jk_ret1 rfl (fun w hs => .tmp rfl) (fun w hs => ⟨rfl, hs.drop⟩)
  refine jg_skip rfl rfl ?_
  refine jg_skip rfl rfl ?_
  refine jg_skip rfl rfl ?_
  refine jg_skip rfl rfl ?_
  refine jg_skip rfl rfl ?_
  refine jg_skip rfl rfl ?_
  refine jg_skip rfl rfl ?_
  refine jg_y (fun w hs => yv_pick_f rfl rfl) rfl rfl ?_
  refine jg_as rfl rfl rfl ?_
  refine jg_nils [(12, _)] ⟨rfl, trivial⟩ ?_
  refine jk_sel (is := []) (s0 rfl) rfl ?_
  refine jk_sn ?_
  refine jn_ret ?_
  exact jk_ret1 rfl (fun w hs => .tmp rfl) (fun w hs => ⟨rfl, hs.drop⟩)
end Go.Proofs.Ytjeegociagchnaa
