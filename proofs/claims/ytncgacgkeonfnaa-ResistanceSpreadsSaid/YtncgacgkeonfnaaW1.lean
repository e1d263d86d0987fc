/-
  The functions give what their models give. Printed by a program.
-/
import Derived.Test.YtncgacgkeonfnaaFacts
import Derived.Test.YtncgacgkeonfnaaMod
import Derived.Test.YtncgacgkeonfnaaW0
namespace Go.Proofs.Ytncgacgkeonfnaa
open Go.Hy
set_option linter.unusedVariables false
set_option linter.unusedSimpArgs false
set_option maxHeartbeats 2000000
set_option maxRecDepth 100000
theorem interval_Within_c {w : World} {a0 : Interval} {a1 : Interval}  {v : Bool} (hm : interval_Within a0 a1 = some v) : Gives Try.prog 36 [.agg #[.int .i64 a0.Lo, .int .i64 a0.Hi], .agg #[.int .i64 a1.Lo, .int .i64 a1.Hi]] w (.bool v) := by
  refine j_gives (vs := [.agg #[.int .i64 a0.Lo, .int .i64 a0.Hi], .agg #[.int .i64 a1.Lo, .int .i64 a1.Hi]]) (U := fun (v : Bool) => .bool v) Try.func36 rfl Try.ntmps36 rfl rfl hm ?_
  unfold interval_Within
  clear hm
  refine jn_seq ?_
  refine jn_reg 0 ?_
  refine jg_box rfl (l2 rfl) rfl rfl fun g1 => ?_
  refine jg_box rfl (l2 rfl) rfl rfl fun g2 => ?_
  refine jg_as rfl rfl rfl ?_
  refine jg_nils [(2, _), (3, _)] ⟨rfl, rfl, trivial⟩ ?_
  refine jk_sn ?_
  refine jn_seq ?_
  refine jn_reg 1 ?_
  refine jg_y (fun w hs => yv_load rfl (ldBB (hs.blkL (i := 1) rfl) rfl)) rfl rfl ?_
  refine jg_c0 rfl (fun v w hs hm => interval_Valid_c (a0 := a0) hm ) rfl rfl fun v3 => ?_
  refine jg_mv rfl rfl rfl ?_
  refine jg_split 7 rfl ?_ ?_
  rotate_left
  · refine jg_skip rfl rfl ?_
    refine jg_skip rfl rfl ?_
    refine jg_y (fun w hs => yv_pick_f rfl rfl) rfl rfl ?_
    refine jg_mv rfl rfl rfl ?_
    refine jg_skip rfl rfl ?_
    refine jg_skip rfl rfl ?_
    refine jg_skip rfl rfl ?_
    refine jg_skip rfl rfl ?_
    refine jg_skip rfl rfl ?_
    refine jg_y (fun w hs => yv_pick_f rfl rfl) rfl rfl ?_
    refine jg_mv rfl rfl rfl ?_
    refine jg_skip rfl rfl ?_
    refine jg_skip rfl rfl ?_
    refine jg_skip rfl rfl ?_
    refine jg_skip rfl rfl ?_
    refine jg_skip rfl rfl ?_
    refine jg_y (fun w hs => yv_pick_f rfl rfl) rfl rfl ?_
    refine jg_as rfl rfl rfl ?_
    refine jg_nils [(4, _)] ⟨rfl, trivial⟩ ?_
    refine jk_sel (is := []) (s0 rfl) rfl ?_
    refine jk_sn ?_
    refine jn_ret ?_
    exact jk_ret1 rfl (fun w hs => .tmp rfl) (fun w hs => ⟨rfl, hs.drop⟩)
  refine jg_y (fun w hs => yv_load rfl (ldBB (hs.blkL (i := 0) rfl) rfl)) rfl rfl ?_
  refine jg_c0 rfl (fun v w hs hm => interval_Valid_c (a0 := a1) hm ) rfl rfl fun v4 => ?_
  refine jg_y (fun w hs => yv_pick_t rfl rfl) rfl rfl ?_
  refine jg_mv rfl rfl rfl ?_
  refine jg_split 11 rfl ?_ ?_
  rotate_left
  · refine jg_skip rfl rfl ?_
    refine jg_skip rfl rfl ?_
    refine jg_skip rfl rfl ?_
    refine jg_skip rfl rfl ?_
    refine jg_skip rfl rfl ?_
    refine jg_y (fun w hs => yv_pick_f rfl rfl) rfl rfl ?_
    refine jg_mv rfl rfl rfl ?_
    refine jg_skip rfl rfl ?_
    refine jg_skip rfl rfl ?_
    refine jg_skip rfl rfl ?_
    refine jg_skip rfl rfl ?_
    refine jg_skip rfl rfl ?_
    refine jg_y (fun w hs => yv_pick_f rfl rfl) rfl rfl ?_
    refine jg_as rfl rfl rfl ?_
    refine jg_nils [(4, _)] ⟨rfl, trivial⟩ ?_
    refine jk_sel (is := []) (s0 rfl) rfl ?_
    refine jk_sn ?_
    refine jn_ret ?_
    exact jk_ret1 rfl (fun w hs => .tmp rfl) (fun w hs => ⟨rfl, hs.drop⟩)
  refine jg_y (fun w hs => yv_fieldAddr rfl) rfl rfl ?_
  refine jg_y (fun w hs => yv_load rfl (ld1B (hs.blkL (i := 1) rfl) rfl)) rfl rfl ?_
  refine jg_y (fun w hs => yv_fieldAddr rfl) rfl rfl ?_
  refine jg_y (fun w hs => yv_load rfl (ld1B (hs.blkL (i := 0) rfl) rfl)) rfl rfl ?_
  refine jg_y (fun w hs => yv_geq rfl rfl) rfl rfl ?_
  refine jg_y (fun w hs => yv_pick_t rfl rfl) rfl rfl ?_
  refine jg_mv rfl rfl rfl ?_
  refine jg_split 18 rfl ?_ ?_
  · refine jg_y (fun w hs => yv_fieldAddr rfl) rfl rfl ?_
    refine jg_y (fun w hs => yv_load rfl (ld1B (hs.blkL (i := 1) rfl) rfl)) rfl rfl ?_
    refine jg_y (fun w hs => yv_fieldAddr rfl) rfl rfl ?_
    refine jg_y (fun w hs => yv_load rfl (ld1B (hs.blkL (i := 0) rfl) rfl)) rfl rfl ?_
    refine jg_y (fun w hs => yv_leq rfl rfl) rfl rfl ?_
    refine jg_y (fun w hs => yv_pick_t rfl rfl) rfl rfl ?_
    refine jg_as rfl rfl rfl ?_
    refine jg_nils [(4, _)] ⟨rfl, trivial⟩ ?_
    refine jk_sel (is := []) (s0 rfl) rfl ?_
    refine jk_sn ?_
    refine jn_ret ?_
    exact jk_ret1 rfl (fun w hs => .tmp rfl) (fun w hs => ⟨rfl, hs.drop⟩)
  refine jg_skip rfl rfl ?_
  refine jg_skip rfl rfl ?_
  refine jg_skip rfl rfl ?_
  refine jg_skip rfl rfl ?_
  refine jg_skip rfl rfl ?_
  refine jg_y (fun w hs => yv_pick_f rfl rfl) rfl rfl ?_
  refine jg_as rfl rfl rfl ?_
  refine jg_nils [(4, _)] ⟨rfl, trivial⟩ ?_
  refine jk_sel (is := []) (s0 rfl) rfl ?_
  refine jk_sn ?_
  refine jn_ret ?_
  exact jk_ret1 rfl (fun w hs => .tmp rfl) (fun w hs => ⟨rfl, hs.drop⟩)
theorem law19_ResistanceBetween_c {w : World} {a0 : (List Int)} {a1 : Int} {ha0 : Hd} {v : Bool} (hm : law19_ResistanceBetween a0 a1 = some v) (Rha0 : Sl w ha0 encI a0) : Gives Try.prog 12 [ha0.v, .int .i64 a1] w (.bool v) := by
  refine j_gives (vs := [ha0.v, .int .i64 a1]) (U := fun (v : Bool) => .bool v) Try.func12 rfl Try.ntmps12 rfl rfl hm ?_
  unfold law19_ResistanceBetween
  clear hm
  refine jn_seq ?_
  refine jn_reg 0 ?_
  refine jg_as rfl rfl rfl ?_
  refine jg_nils [(0, _), (1, _)] ⟨rfl, rfl, trivial⟩ ?_
  refine jk_sn ?_
  refine jn_seq ?_
  refine jn_reg 1 ?_
  refine jg_mv rfl rfl rfl ?_
  refine jg_c rfl (fun v w hs hm => gen_New_c hm (hs.arg Rha0)) rfl rfl fun v1 q2 => ?_
  refine jg_L (r1 rfl) ?_
  refine jl_c 0 rfl rfl (fun v w hs hm => gen_Maker_Table_c hm (hs.blkL (i := 0) rfl) (hs.arg Rha0) (hs.offAL 0 Rha0 rfl)) (fun _ => rfl) rfl rfl fun v3 q4 => ?_
  refine jg_L (r2 rfl) ?_
  refine jg_as rfl rfl rfl ?_
  refine jg_nils [(1, _), (5, _)] ⟨rfl, rfl, trivial⟩ ?_
  refine jk_sn ?_
  refine jn_seq ?_
  refine jn_reg 2 ?_
  refine jg_mv rfl rfl rfl ?_
  refine jg_y (fun w hs => yv_tmod rfl rfl (by decide)) rfl rfl ?_
  refine jg_y (fun w hs => yv_add_w rfl rfl) rfl rfl ?_
  refine jg_yl (fun w hs => yv_tmod rfl rfl (by decide)) rfl rfl fun x5 => ?_
  refine jg_y (fun w hs => yv_add_w rfl rfl) rfl rfl ?_
  refine jg_as rfl rfl rfl ?_
  refine jg_nils [(1, _), (5, _)] ⟨rfl, rfl, trivial⟩ ?_
  refine jk_sn ?_
  refine jn_seq ?_
  refine jn_reg 3 ?_
  refine jg_mv rfl rfl rfl ?_
  refine jg_mv rfl rfl rfl ?_
  refine jg_c0 rfl (fun v w hs hm => resistance_Rolling_c hm (hs.row 0 rfl)) rfl rfl fun v6 => ?_
  refine jg_mv rfl rfl rfl ?_
  refine jg_y (fun w hs => yv_extract rfl rfl) rfl rfl ?_
  refine jg_y (fun w hs => yv_extract rfl rfl) rfl rfl ?_
  refine jg_alloc (l2 rfl) rfl rfl fun g7 => ?_
  refine jg_store 0 rfl rfl rfl (l2 rfl) rfl rfl rfl rfl (l2 rfl) (r3 rfl) ?_
  refine jg_as rfl rfl rfl ?_
  refine jg_nils [(1, _), (5, _), (6, _), (7, _)] ⟨rfl, rfl, rfl, rfl, trivial⟩ ?_
  refine jk_sn ?_
  refine jn_seq ?_
  refine jn_seq ?_
  refine jn_reg 4 ?_
  refine jg_mv rfl rfl rfl ?_
  refine jg_y (fun w hs => yv_neq rfl rfl) rfl rfl ?_
  refine jg_nils [(1, _), (5, _), (6, _), (28, _)] ⟨rfl, rfl, rfl, rfl, trivial⟩ ?_
  refine jk_sn ?_
  refine jn_cond rfl ?_ ?_
  · refine jn_seq ?_
    refine jn_reg 5 ?_
    refine jg_as rfl rfl rfl ?_
    refine jg_nils [(4, _)] ⟨rfl, trivial⟩ ?_
    refine jk_sel (is := []) (s0 rfl) rfl ?_
    refine jk_sn ?_
    refine jn_ret ?_
    refine jk_sr ?_
    exact jk_ret1 rfl (fun w hs => .tmp rfl) (fun w hs => ⟨rfl, hs.drop⟩)
  refine jn_skip ?_
  refine jk_sn ?_
  refine jn_seq ?_
  refine jn_seq ?_
  refine jn_reg 6 ?_
  refine jg_mv rfl rfl rfl ?_
  refine jg_y (fun w hs => yv_ln rfl (hs.row 1 rfl)) rfl rfl ?_
  refine jg_mv rfl rfl rfl ?_
  refine jg_nils [(1, _), (5, _), (6, _), (29, _), (30, _), (31, _)] ⟨rfl, rfl, rfl, rfl, rfl, rfl, trivial⟩ ?_
  refine jk_sn ?_
  refine jn_block ?_
  refine jn_lp (n := big) (fun (s : Int) (g : Unit) => [(1, .int .i64 (w64 (1 + x5))), (5, q4.v), (6, .pointer (some ⟨g7, 0, none⟩)), (29, q4.v), (30, .int .i64 (v3.1.length : Int)), (31, .int .i64 s)]) (fun (s : Int) (g : Unit) => []) (fun (s : Int) (g : Unit) => [(rowH q4 50 3 Resistance.enc v3.1), (Res.blk g7 55 [.int .i64 v6.1.Lo, .int .i64 v6.1.Hi])]) 0 () [1, 0] ⟨rfl, rfl, rfl, rfl, rfl, rfl, trivial⟩ rfl rfl rfl ?_
  intro z8 q9 n12 k10 H11
  refine jn_seq ?_
  refine jn_reg 7 ?_
  refine jg_y (fun w hs => yv_lss rfl rfl) rfl rfl ?_
  refine jg_nils [(1, _), (5, _), (6, _), (29, _), (30, _), (31, _), (32, _)] ⟨rfl, rfl, rfl, rfl, rfl, rfl, rfl, trivial⟩ ?_
  refine jk_sn ?_
  refine jn_seq ?_
  refine jn_cond rfl ?_ ?_
  rotate_left
  · refine jn_exit ?_
    refine jk_se (jk_le (jk_bh (jk_sn ?_)))
    refine jn_seq ?_
    refine jn_reg 16 ?_
    refine jg_as rfl rfl rfl ?_
    refine jg_nils [(4, _)] ⟨rfl, trivial⟩ ?_
    refine jk_sel (is := []) (s0 rfl) rfl ?_
    refine jk_sn ?_
    refine jn_ret ?_
    exact jk_ret1 rfl (fun w hs => .tmp rfl) (fun w hs => ⟨rfl, hs.drop⟩)
  refine jn_skip ?_
  refine jk_sn ?_
  refine jn_seq ?_
  refine jn_block ?_
  refine jn_seq ?_
  refine jn_reg 8 ?_
  refine jg_mv rfl rfl rfl ?_
  refine jg_ix fun x13 h14 => ?_
  refine jg_y (fun w hs => yv_ix rfl rfl (hs.row 0 rfl) h14) rfl rfl ?_
  refine jg_y (fun w hs => yv_eS rfl (hs.row 0 rfl) h14.1 (l3 rfl) rfl) rfl rfl ?_
  refine jg_alloc (l3 rfl) rfl rfl fun g15 => ?_
  refine jg_as rfl rfl rfl ?_
  refine jg_store 0 rfl rfl rfl (l3 rfl) rfl rfl rfl rfl (l3 rfl) (r3 rfl) ?_
  refine jg_nils [(1, _), (5, _), (6, _), (8, _), (9, _), (29, _), (30, _), (31, _)] ⟨rfl, rfl, rfl, rfl, rfl, rfl, rfl, rfl, trivial⟩ ?_
  refine jk_sn ?_
  refine jn_seq ?_
  refine jn_reg 9 ?_
  refine jg_y (fun w hs => yv_fieldAddr rfl) rfl rfl ?_
  refine jg_y (fun w hs => yv_load rfl (ld1B (hs.blkL (i := 0) rfl) rfl)) rfl rfl ?_
  refine jg_y (fun w hs => yv_fieldAddr rfl) rfl rfl ?_
  refine jg_y (fun w hs => yv_load rfl (ld1B (hs.blkL (i := 0) rfl) rfl)) rfl rfl ?_
  refine jg_y (fun w hs => yv_build rfl (o2 rfl)) rfl rfl ?_
  refine jg_alloc (l2 rfl) rfl rfl fun g16 => ?_
  refine jg_store 0 rfl rfl rfl (l2 rfl) rfl rfl rfl rfl (l2 rfl) (r4 rfl) ?_
  refine jg_nils [(1, _), (5, _), (6, _), (8, _), (9, _), (10, _), (29, _), (30, _), (31, _)] ⟨rfl, rfl, rfl, rfl, rfl, rfl, rfl, rfl, rfl, trivial⟩ ?_
  refine jk_sn ?_
  refine jn_seq ?_
  refine jn_join (fun (s : Bool) (g : Unit) => [(1, .int .i64 (w64 (1 + x5))), (5, q4.v), (6, .pointer (some ⟨g7, 0, none⟩)), (8, .int .i64 z8), (9, .pointer (some ⟨g15, 0, none⟩)), (10, .pointer (some ⟨g16, 0, none⟩)), (29, q4.v), (30, .int .i64 (v3.1.length : Int)), (31, .int .i64 z8), (67, .bool s)]) (fun (s : Bool) (g : Unit) => []) (fun (s : Bool) (g : Unit) => [(rowH q4 50 3 Resistance.enc v3.1), (Res.blk g7 55 [.int .i64 v6.1.Lo, .int .i64 v6.1.Hi]), (Res.blk g15 50 [.int .i64 x13.Mass, .int .i64 x13.Lo, .int .i64 x13.Hi]), (Res.blk g16 55 [.int .i64 x13.Lo, .int .i64 x13.Hi])]) ?_ ?_
  rotate_left
  · intro k19 H20
    refine jn_reg 10 ?_
    refine jg_mv rfl rfl rfl ?_
    refine jg_y (fun w hs => yv_fieldAddr rfl) rfl rfl ?_
    refine jg_y (fun w hs => yv_load rfl (ld1B (hs.blkL (i := 1) rfl) rfl)) rfl rfl ?_
    refine jg_y (fun w hs => yv_eql rfl rfl) rfl rfl ?_
    refine jg_mv rfl rfl rfl ?_
    refine jg_split 45 rfl ?_ ?_
    · refine jg_skip rfl rfl ?_
      refine jg_skip rfl rfl ?_
      refine jg_skip rfl rfl ?_
      refine jg_skip rfl rfl ?_
      refine jg_skip rfl rfl ?_
      refine jg_skip rfl rfl ?_
      refine jg_skip rfl rfl ?_
      refine jg_skip rfl rfl ?_
      refine jg_y (fun w hs => yv_pick_t rfl rfl) rfl rfl ?_
      refine jg_mv rfl rfl rfl ?_
      refine jg_skip rfl rfl ?_
      refine jg_skip rfl rfl ?_
      refine jg_skip rfl rfl ?_
      refine jg_skip rfl rfl ?_
      refine jg_skip rfl rfl ?_
      refine jg_skip rfl rfl ?_
      refine jg_skip rfl rfl ?_
      refine jg_skip rfl rfl ?_
      refine jg_skip rfl rfl ?_
      refine jg_skip rfl rfl ?_
      refine jg_skip rfl rfl ?_
      refine jg_y (fun w hs => yv_pick_t rfl rfl) rfl rfl ?_
      refine jg_nils [(1, _), (5, _), (6, _), (8, _), (9, _), (10, _), (29, _), (30, _), (31, _), (67, _)] ⟨rfl, rfl, rfl, rfl, rfl, rfl, rfl, rfl, rfl, rfl, trivial⟩ ?_
      exact jk_use H20 true () [2, 3, 1, 0] ⟨rfl, rfl, rfl, rfl, rfl, rfl, rfl, rfl, rfl, rfl, trivial⟩ rfl rfl rfl
    refine jg_mv rfl rfl rfl ?_
    refine jg_y (fun w hs => yv_eql rfl rfl) rfl rfl ?_
    refine jg_mv rfl rfl rfl ?_
    refine jg_split 48 rfl ?_ ?_
    rotate_left
    · refine jg_skip rfl rfl ?_
      refine jg_skip rfl rfl ?_
      refine jg_skip rfl rfl ?_
      refine jg_skip rfl rfl ?_
      refine jg_y (fun w hs => yv_pick_f rfl rfl) rfl rfl ?_
      refine jg_y (fun w hs => yv_pick_f rfl rfl) rfl rfl ?_
      refine jg_mv rfl rfl rfl ?_
      refine jg_mv rfl rfl rfl ?_
      refine jg_mv rfl rfl rfl ?_
      refine jg_y (fun w hs => yv_ln rfl (hs.row 2 rfl)) rfl rfl ?_
      refine jg_y (fun w hs => yv_sub_w rfl rfl) rfl rfl ?_
      refine jg_y (fun w hs => yv_eql rfl rfl) rfl rfl ?_
      refine jg_mv rfl rfl rfl ?_
      refine jg_split 61 rfl ?_ ?_
      · refine jg_mv rfl rfl rfl ?_
        refine jg_y (fun w hs => yv_fieldAddr rfl) rfl rfl ?_
        refine jg_y (fun w hs => yv_load rfl (ld1B (hs.blkL (i := 1) rfl) rfl)) rfl rfl ?_
        refine jg_y (fun w hs => yv_gtr rfl rfl) rfl rfl ?_
        refine jg_y (fun w hs => yv_pick_t rfl rfl) rfl rfl ?_
        refine jg_y (fun w hs => yv_pick_f rfl rfl) rfl rfl ?_
        refine jg_nils [(1, _), (5, _), (6, _), (8, _), (9, _), (10, _), (29, _), (30, _), (31, _), (67, _)] ⟨rfl, rfl, rfl, rfl, rfl, rfl, rfl, rfl, rfl, rfl, trivial⟩ ?_
        exact jk_use H20 (decide (x13.Mass < (w64 (1 + x5)))) () [2, 3, 1, 0] ⟨rfl, rfl, rfl, rfl, rfl, rfl, rfl, rfl, rfl, rfl, trivial⟩ rfl rfl rfl
      refine jg_skip rfl rfl ?_
      refine jg_skip rfl rfl ?_
      refine jg_skip rfl rfl ?_
      refine jg_skip rfl rfl ?_
      refine jg_y (fun w hs => yv_pick_f rfl rfl) rfl rfl ?_
      refine jg_y (fun w hs => yv_pick_f rfl rfl) rfl rfl ?_
      refine jg_nils [(1, _), (5, _), (6, _), (8, _), (9, _), (10, _), (29, _), (30, _), (31, _), (67, _)] ⟨rfl, rfl, rfl, rfl, rfl, rfl, rfl, rfl, rfl, rfl, trivial⟩ ?_
      exact jk_use H20 false () [2, 3, 1, 0] ⟨rfl, rfl, rfl, rfl, rfl, rfl, rfl, rfl, rfl, rfl, trivial⟩ rfl rfl rfl
    refine jg_mv rfl rfl rfl ?_
    refine jg_y (fun w hs => yv_fieldAddr rfl) rfl rfl ?_
    refine jg_y (fun w hs => yv_load rfl (ld1B (hs.blkL (i := 1) rfl) rfl)) rfl rfl ?_
    refine jg_y (fun w hs => yv_lss rfl rfl) rfl rfl ?_
    refine jg_y (fun w hs => yv_pick_t rfl rfl) rfl rfl ?_
    refine jg_y (fun w hs => yv_pick_f rfl rfl) rfl rfl ?_
    refine jg_mv rfl rfl rfl ?_
    refine jg_split 55 rfl ?_ ?_
    · refine jg_skip rfl rfl ?_
      refine jg_skip rfl rfl ?_
      refine jg_skip rfl rfl ?_
      refine jg_skip rfl rfl ?_
      refine jg_skip rfl rfl ?_
      refine jg_skip rfl rfl ?_
      refine jg_skip rfl rfl ?_
      refine jg_skip rfl rfl ?_
      refine jg_skip rfl rfl ?_
      refine jg_skip rfl rfl ?_
      refine jg_skip rfl rfl ?_
      refine jg_y (fun w hs => yv_pick_t rfl rfl) rfl rfl ?_
      refine jg_nils [(1, _), (5, _), (6, _), (8, _), (9, _), (10, _), (29, _), (30, _), (31, _), (67, _)] ⟨rfl, rfl, rfl, rfl, rfl, rfl, rfl, rfl, rfl, rfl, trivial⟩ ?_
      exact jk_use H20 true () [2, 3, 1, 0] ⟨rfl, rfl, rfl, rfl, rfl, rfl, rfl, rfl, rfl, rfl, trivial⟩ rfl rfl rfl
    refine jg_mv rfl rfl rfl ?_
    refine jg_mv rfl rfl rfl ?_
    refine jg_y (fun w hs => yv_ln rfl (hs.row 2 rfl)) rfl rfl ?_
    refine jg_y (fun w hs => yv_sub_w rfl rfl) rfl rfl ?_
    refine jg_y (fun w hs => yv_eql rfl rfl) rfl rfl ?_
    refine jg_mv rfl rfl rfl ?_
    refine jg_split 61 rfl ?_ ?_
    · refine jg_mv rfl rfl rfl ?_
      refine jg_y (fun w hs => yv_fieldAddr rfl) rfl rfl ?_
      refine jg_y (fun w hs => yv_load rfl (ld1B (hs.blkL (i := 1) rfl) rfl)) rfl rfl ?_
      refine jg_y (fun w hs => yv_gtr rfl rfl) rfl rfl ?_
      refine jg_y (fun w hs => yv_pick_t rfl rfl) rfl rfl ?_
      refine jg_y (fun w hs => yv_pick_f rfl rfl) rfl rfl ?_
      refine jg_nils [(1, _), (5, _), (6, _), (8, _), (9, _), (10, _), (29, _), (30, _), (31, _), (67, _)] ⟨rfl, rfl, rfl, rfl, rfl, rfl, rfl, rfl, rfl, rfl, trivial⟩ ?_
      exact jk_use H20 (decide (x13.Mass < (w64 (1 + x5)))) () [2, 3, 1, 0] ⟨rfl, rfl, rfl, rfl, rfl, rfl, rfl, rfl, rfl, rfl, trivial⟩ rfl rfl rfl
    refine jg_skip rfl rfl ?_
    refine jg_skip rfl rfl ?_
    refine jg_skip rfl rfl ?_
    refine jg_skip rfl rfl ?_
    refine jg_y (fun w hs => yv_pick_f rfl rfl) rfl rfl ?_
    refine jg_y (fun w hs => yv_pick_f rfl rfl) rfl rfl ?_
    refine jg_nils [(1, _), (5, _), (6, _), (8, _), (9, _), (10, _), (29, _), (30, _), (31, _), (67, _)] ⟨rfl, rfl, rfl, rfl, rfl, rfl, rfl, rfl, rfl, rfl, trivial⟩ ?_
    exact jk_use H20 false () [2, 3, 1, 0] ⟨rfl, rfl, rfl, rfl, rfl, rfl, rfl, rfl, rfl, rfl, trivial⟩ rfl rfl rfl
  intro z17 q18
  refine jn_cond rfl ?_ ?_
  · refine jn_seq ?_
    refine jn_reg 11 ?_
    refine jg_y (fun w hs => yv_load rfl (ldBB (hs.blkL (i := 1) rfl) rfl)) rfl rfl ?_
    refine jg_y (fun w hs => yv_load rfl (ldBB (hs.blkL (i := 3) rfl) rfl)) rfl rfl ?_
    refine jg_y (fun w hs => yeq55 rfl rfl) rfl rfl ?_
    refine jg_mv rfl rfl rfl ?_
    refine jg_split 71 rfl ?_ ?_
    · refine jg_c0 rfl (fun v w hs hm => law19_sane_c hm ) rfl rfl fun v21 => ?_
      refine jg_y (fun w hs => yv_pick_t rfl rfl) rfl rfl ?_
      refine jg_as rfl rfl rfl ?_
      refine jg_nils [(4, _)] ⟨rfl, trivial⟩ ?_
      refine jk_sel (is := []) (s0 rfl) rfl ?_
      refine jk_sn ?_
      refine jn_ret ?_
      refine jk_sr (jk_br (jk_sr (jk_lr (jk_br (jk_sr ?_)))))
      exact jk_ret1 rfl (fun w hs => .tmp rfl) (fun w hs => ⟨rfl, hs.drop⟩)
    refine jg_skip rfl rfl ?_
    refine jg_y (fun w hs => yv_pick_f rfl rfl) rfl rfl ?_
    refine jg_as rfl rfl rfl ?_
    refine jg_nils [(4, _)] ⟨rfl, trivial⟩ ?_
    refine jk_sel (is := []) (s0 rfl) rfl ?_
    refine jk_sn ?_
    refine jn_ret ?_
    refine jk_sr (jk_br (jk_sr (jk_lr (jk_br (jk_sr ?_)))))
    exact jk_ret1 rfl (fun w hs => .tmp rfl) (fun w hs => ⟨rfl, hs.drop⟩)
  refine jn_skip ?_
  refine jk_sn ?_
  refine jn_join (fun (s : Bool) (g : Unit) => [(1, .int .i64 (w64 (1 + x5))), (5, q4.v), (6, .pointer (some ⟨g7, 0, none⟩)), (8, .int .i64 z8), (10, .pointer (some ⟨g16, 0, none⟩)), (29, q4.v), (30, .int .i64 (v3.1.length : Int)), (31, .int .i64 z8), (91, .bool s)]) (fun (s : Bool) (g : Unit) => []) (fun (s : Bool) (g : Unit) => [(rowH q4 50 3 Resistance.enc v3.1), (Res.blk g7 55 [.int .i64 v6.1.Lo, .int .i64 v6.1.Hi]), (Res.blk g16 55 [.int .i64 x13.Lo, .int .i64 x13.Hi])]) ?_ ?_
  rotate_left
  · intro k24 H25
    refine jn_reg 12 ?_
    refine jg_mv rfl rfl rfl ?_
    refine jg_y (fun w hs => yv_gtr rfl rfl) rfl rfl ?_
    refine jg_mv rfl rfl rfl ?_
    refine jg_split 76 rfl ?_ ?_
    rotate_left
    · refine jg_skip rfl rfl ?_
      refine jg_skip rfl rfl ?_
      refine jg_skip rfl rfl ?_
      refine jg_skip rfl rfl ?_
      refine jg_skip rfl rfl ?_
      refine jg_skip rfl rfl ?_
      refine jg_skip rfl rfl ?_
      refine jg_skip rfl rfl ?_
      refine jg_y (fun w hs => yv_pick_f rfl rfl) rfl rfl ?_
      refine jg_mv rfl rfl rfl ?_
      refine jg_skip rfl rfl ?_
      refine jg_skip rfl rfl ?_
      refine jg_skip rfl rfl ?_
      refine jg_skip rfl rfl ?_
      refine jg_y (fun w hs => yv_pick_f rfl rfl) rfl rfl ?_
      refine jg_nils [(1, _), (5, _), (6, _), (8, _), (10, _), (29, _), (30, _), (31, _), (91, _)] ⟨rfl, rfl, rfl, rfl, rfl, rfl, rfl, rfl, rfl, trivial⟩ ?_
      exact jk_use H25 false () [0, 1, 3] ⟨rfl, rfl, rfl, rfl, rfl, rfl, rfl, rfl, rfl, trivial⟩ rfl rfl rfl
    refine jg_mv rfl rfl rfl ?_
    refine jg_mv rfl rfl rfl ?_
    refine jg_y (fun w hs => yv_sub_w rfl rfl) rfl rfl ?_
    refine jg_ix fun x34 h35 => ?_
    refine jg_y (fun w hs => yv_ix rfl rfl (hs.row 0 rfl) h35) rfl rfl ?_
    refine jg_y (fun w hs => yv_ef rfl (hs.row 0 rfl) h35.1) rfl rfl ?_
    refine jg_y (fun w hs => yv_e1 rfl (hs.row 0 rfl) h35.1 rfl) rfl rfl ?_
    refine jg_mv rfl rfl rfl ?_
    refine jg_y (fun w hs => yv_lss rfl rfl) rfl rfl ?_
    refine jg_y (fun w hs => yv_pick_t rfl rfl) rfl rfl ?_
    refine jg_mv rfl rfl rfl ?_
    refine jg_split 86 rfl ?_ ?_
    · refine jg_mv rfl rfl rfl ?_
      refine jg_y (fun w hs => yv_fieldAddr rfl) rfl rfl ?_
      refine jg_y (fun w hs => yv_load rfl (ld1B (hs.blkL (i := 2) rfl) rfl)) rfl rfl ?_
      refine jg_y (fun w hs => yv_lss rfl rfl) rfl rfl ?_
      refine jg_y (fun w hs => yv_pick_t rfl rfl) rfl rfl ?_
      refine jg_nils [(1, _), (5, _), (6, _), (8, _), (10, _), (29, _), (30, _), (31, _), (91, _)] ⟨rfl, rfl, rfl, rfl, rfl, rfl, rfl, rfl, rfl, trivial⟩ ?_
      exact jk_use H25 (decide ((w64 (1 + x5)) < x13.Mass)) () [0, 1, 3] ⟨rfl, rfl, rfl, rfl, rfl, rfl, rfl, rfl, rfl, trivial⟩ rfl rfl rfl
    refine jg_skip rfl rfl ?_
    refine jg_skip rfl rfl ?_
    refine jg_skip rfl rfl ?_
    refine jg_skip rfl rfl ?_
    refine jg_y (fun w hs => yv_pick_f rfl rfl) rfl rfl ?_
    refine jg_nils [(1, _), (5, _), (6, _), (8, _), (10, _), (29, _), (30, _), (31, _), (91, _)] ⟨rfl, rfl, rfl, rfl, rfl, rfl, rfl, rfl, rfl, trivial⟩ ?_
    exact jk_use H25 false () [0, 1, 3] ⟨rfl, rfl, rfl, rfl, rfl, rfl, rfl, rfl, rfl, trivial⟩ rfl rfl rfl
  intro z22 q23
  refine jn_cond rfl ?_ ?_
  rotate_left
  · refine jn_skip ?_
    refine jk_bn (jk_sn ?_)
    refine jn_reg 15 ?_
    refine jg_y (fun w hs => yv_add_w rfl rfl) rfl rfl ?_
    refine jg_mv rfl rfl rfl ?_
    refine jg_nils [(1, _), (5, _), (6, _), (29, _), (30, _), (31, _)] ⟨rfl, rfl, rfl, rfl, rfl, rfl, trivial⟩ ?_
    exact jk_use H11 (w64 (z8 + 1)) () [0, 1] ⟨rfl, rfl, rfl, rfl, rfl, rfl, trivial⟩ rfl rfl rfl
  refine jn_seq ?_
  refine jn_draw (L' := [_, _, _]) 13 [0, 1, 2] [0, 1, 2, 3, 4, 5, 6, 7, 8, 9, 10, 11, 12, 13, 14, 15, 16, 17, 18, 19] 1048575 2097151 [0, 0, 0, 4, 10, 16, 32, 0, 0, 256, 640, 1024, 2048, 4160, 8193, 16384, 32768, 32768, 0, 393215, 1048575] [0, 0, 0, 4, 14, 30, 62, 0, 0, 256, 896, 1920, 3968, 8190, 16383, 32767, 65535, 65535, 0, 393215, 1048575] [(0, true), (1, true), (2, true), (3, true), (4, true), (5, true), (6, true), (7, true), (8, true), (9, true), (10, true), (11, true), (12, true), (13, true), (14, true), (15, true), (16, true), (17, true), (18, false), (19, false), (20, false)] rfl (np_seq (np_blk (np_seq (np_rnd (np_blk (np_seq np_rt)))))) (by kernel_rfl) (by kernel_rfl) (by kernel_rfl) (by kernel_rfl) (by kernel_rfl) (by kernel_rfl) (by kernel_rfl) (by kernel_rfl) ?_
  refine jd_y rfl (fun w hs => yv_load rfl (ldBB (hs.blk (i := 2) rfl) rfl)) rfl rfl ?_
  refine jd_mv rfl rfl rfl rfl ?_
  refine jd_mv rfl rfl rfl rfl ?_
  refine jd_y rfl (fun w hs => yv_sub_w rfl rfl) rfl rfl ?_
  refine jd_ix fun x26 h27 => ?_
  refine jd_y rfl (fun w hs => yv_ix rfl rfl (hs.row 0 rfl) h27) rfl rfl ?_
  refine jd_y rfl (fun w hs => yv_ef rfl (hs.row 0 rfl) h27.1) rfl rfl ?_
  refine jd_y rfl (fun w hs => yv_e1 rfl (hs.row 0 rfl) h27.1 rfl) rfl rfl ?_
  refine jd_mv rfl rfl rfl rfl ?_
  refine jd_mv rfl rfl rfl rfl ?_
  refine jd_y rfl (fun w hs => yv_sub_w rfl rfl) rfl rfl ?_
  refine jd_ix fun x28 h29 => ?_
  refine jd_y rfl (fun w hs => yv_ix rfl rfl (hs.row 0 rfl) h29) rfl rfl ?_
  refine jd_y rfl (fun w hs => yv_ef rfl (hs.row 0 rfl) h29.1) rfl rfl ?_
  refine jd_y rfl (fun w hs => yv_e1 rfl (hs.row 0 rfl) h29.1 rfl) rfl rfl ?_
  refine jd_y rfl (fun w hs => yv_build rfl (o2 rfl)) rfl rfl ?_
  refine jd_c0 rfl rfl (fun v w hs hm => interval_Hull_c (a0 := (Interval.mk x13.Lo x13.Hi)) (a1 := (Interval.mk x26.Lo x28.Hi)) hm ) rfl rfl fun v30 => ?_
  refine jd_mv rfl rfl rfl rfl ?_
  refine jd_y rfl (fun w hs => yv_extract rfl rfl) rfl rfl ?_
  refine jd_y rfl (fun w hs => yv_extract rfl rfl) rfl rfl ?_
  refine jd_h rfl ?_
  refine jg_alloc (l2 rfl) rfl rfl fun g31 => ?_
  refine jg_nil ?_
  refine jk_dn [1, 2, 3] rfl ?_
  refine jd_h rfl ?_
  refine jg_store 0 rfl rfl rfl (l2 rfl) rfl rfl rfl rfl (l2 rfl) (r4 rfl) ?_
  refine jg_nil ?_
  refine jk_dn [1, 2, 3] rfl ?_
  refine jd_h rfl ?_
  refine jg_as rfl rfl rfl ?_
  refine jg_nil ?_
  refine jk_df rfl ?_
  refine jf_nils [(6, _), (11, _), (12, _)] ⟨rfl, rfl, rfl, trivial⟩ ?_
  refine jk_sel (is := [0, 2]) (s2 rfl) rfl ?_
  refine jk_sn ?_
  refine jn_seq ?_
  refine jn_reg 14 ?_
  refine jg_mv rfl rfl rfl ?_
  refine jg_y (fun w hs => yv_eql rfl rfl) rfl rfl ?_
  refine jg_mv rfl rfl rfl ?_
  refine jg_split 112 rfl ?_ ?_
  rotate_left
  · refine jg_skip rfl rfl ?_
    refine jg_skip rfl rfl ?_
    refine jg_skip rfl rfl ?_
    refine jg_y (fun w hs => yv_pick_f rfl rfl) rfl rfl ?_
    refine jg_mv rfl rfl rfl ?_
    refine jg_skip rfl rfl ?_
    refine jg_y (fun w hs => yv_pick_f rfl rfl) rfl rfl ?_
    refine jg_as rfl rfl rfl ?_
    refine jg_nils [(4, _)] ⟨rfl, trivial⟩ ?_
    refine jk_sel (is := []) (s0 rfl) rfl ?_
    refine jk_sn ?_
    refine jn_ret ?_
    refine jk_br (jk_sr (jk_lr (jk_br (jk_sr ?_))))
    exact jk_ret1 rfl (fun w hs => .tmp rfl) (fun w hs => ⟨rfl, hs.drop⟩)
  refine jg_y (fun w hs => yv_load rfl (ldBB (hs.blkL (i := 1) rfl) rfl)) rfl rfl ?_
  refine jg_y (fun w hs => yv_load rfl (ldBB (hs.blkL (i := 0) rfl) rfl)) rfl rfl ?_
  refine jg_c0 rfl (fun v w hs hm => interval_Within_c (a0 := v6.1) (a1 := v30.1) hm ) rfl rfl fun v32 => ?_
  refine jg_y (fun w hs => yv_pick_t rfl rfl) rfl rfl ?_
  refine jg_mv rfl rfl rfl ?_
  refine jg_split 117 rfl ?_ ?_
  · refine jg_c0 rfl (fun v w hs hm => law19_sane_c hm ) rfl rfl fun v33 => ?_
    refine jg_y (fun w hs => yv_pick_t rfl rfl) rfl rfl ?_
    refine jg_as rfl rfl rfl ?_
    refine jg_nils [(4, _)] ⟨rfl, trivial⟩ ?_
    refine jk_sel (is := []) (s0 rfl) rfl ?_
    refine jk_sn ?_
    refine jn_ret ?_
    refine jk_br (jk_sr (jk_lr (jk_br (jk_sr ?_))))
    exact jk_ret1 rfl (fun w hs => .tmp rfl) (fun w hs => ⟨rfl, hs.drop⟩)
  refine jg_skip rfl rfl ?_
  refine jg_y (fun w hs => yv_pick_f rfl rfl) rfl rfl ?_
  refine jg_as rfl rfl rfl ?_
  refine jg_nils [(4, _)] ⟨rfl, trivial⟩ ?_
  refine jk_sel (is := []) (s0 rfl) rfl ?_
  refine jk_sn ?_
  refine jn_ret ?_
  refine jk_br (jk_sr (jk_lr (jk_br (jk_sr ?_))))
  exact jk_ret1 rfl (fun w hs => .tmp rfl) (fun w hs => ⟨rfl, hs.drop⟩)
theorem law19_samples_c {w : World} {a0 : HumpgenMaker} {a1 : Int} {ha0_fl : Hd} {b0 : Nat} {v : ((List Sample) × Int)} (hm : law19_samples a0 a1 = some v) (Hb : Blk w b0 84 [ha0_fl.v, .int .i64 a0.fn]) (Rha0_fl : Sl w ha0_fl encI a0.fl) (Oha0_fl : Offs ha0_fl [b0]) : Calls Try.prog 37 ([.pointer (some ⟨b0, 0, none⟩), .int .i64 a1] : List Value).toArray w (fun e w' => ∃ g : Hd, e = .returned (g.v) ∧ St w w' [.blk b0 84 [ha0_fl.v, .int .i64 v.2]] [(rowH g 53 4 Sample.enc v.1)]) := by
  refine j_enter (vs := [.pointer (some ⟨b0, 0, none⟩), .int .i64 a1]) (R := fun (v : ((List Sample) × Int)) (e : Ending) (w' : World) => ∃ g : Hd, e = .returned (g.v) ∧ St w w' [.blk b0 84 [ha0_fl.v, .int .i64 v.2]] [(rowH g 53 4 Sample.enc v.1)]) Try.func37 rfl Try.ntmps37 rfl rfl (mk_st Hb) hm ?_
  unfold law19_samples
  clear hm
  refine jn_seq ?_
  refine jn_reg 0 ?_
  refine jg_as rfl rfl rfl ?_
  refine jg_nils [(0, _), (1, _)] ⟨rfl, rfl, trivial⟩ ?_
  refine jk_sn ?_
  refine jn_seq ?_
  refine jn_reg 1 ?_
  refine jg_as rfl rfl rfl ?_
  refine jg_nils [(0, _), (1, _), (5, _)] ⟨rfl, rfl, rfl, trivial⟩ ?_
  refine jk_sn ?_
  refine jn_seq ?_
  refine jn_seq ?_
  refine jn_reg 2 ?_
  refine jg_mv rfl rfl rfl ?_
  refine jg_mv rfl rfl rfl ?_
  refine jg_y (fun w hs => yv_add_w rfl rfl) rfl rfl ?_
  refine jm_c rfl (fun v w hs hm => gen_Maker_Next_c hm (hs.blkM (i := 0) rfl) (hs.argM Rha0_fl Oha0_fl) Oha0_fl) (fun _ => rfl) rfl rfl fun v1 q2 => ?_
  refine jg_as rfl rfl rfl ?_
  refine jg_nils [(0, _), (5, _), (6, _)] ⟨rfl, rfl, rfl, trivial⟩ ?_
  refine jk_sn ?_
  refine jn_block ?_
  refine jn_addnil 53 4 Sample.enc ?_
  refine jn_lp (n := big) (fun (s : ((List Sample) × Int × Int)) (g : Hd) => [(0, .pointer (some ⟨b0, 0, none⟩)), (5, g.v), (6, .int .i64 s.2.1)]) (fun (s : ((List Sample) × Int × Int)) (g : Hd) => [(Res.blk b0 84 [ha0_fl.v, .int .i64 s.2.2])]) (fun (s : ((List Sample) × Int × Int)) (g : Hd) => [(rowH g 53 4 Sample.enc s.1)]) (([] : List Sample), v1.1, v1.2) (Hd.mk none 0 0) [0] ⟨rfl, rfl, rfl, trivial⟩ rfl rfl rfl ?_
  intro z3 q4 n7 k5 H6
  refine jn_seq ?_
  refine jn_seq ?_
  refine jn_reg 3 ?_
  refine jg_mv rfl rfl rfl ?_
  refine jg_y (fun w hs => yv_gtr rfl rfl) rfl rfl ?_
  refine jg_nils [(0, _), (5, _), (6, _), (13, _)] ⟨rfl, rfl, rfl, rfl, trivial⟩ ?_
  refine jk_sn ?_
  refine jn_cond rfl ?_ ?_
  rotate_left
  · refine jn_exit ?_
    refine jk_se (jk_le (jk_bh (jk_sn ?_)))
    refine jn_seq ?_
    refine jn_reg 7 ?_
    refine jg_mv rfl rfl rfl ?_
    refine jg_as rfl rfl rfl ?_
    refine jg_nils [(4, _)] ⟨rfl, trivial⟩ ?_
    refine jk_sn ?_
    refine jn_ret ?_
    exact jk_ret1 rfl (fun w hs => .tmp rfl) (fun w hs => ⟨q4, rfl, hs.sel (is := [0]) rfl rfl⟩)
  refine jn_skip ?_
  refine jk_sn ?_
  refine jn_seq ?_
  refine jn_block ?_
  refine jn_seq ?_
  refine jn_reg 5 ?_
  refine jg_mv rfl rfl rfl ?_
  refine jg_lit (enc := encI) [0, 500, 1400, 5000] rfl rfl rfl rfl rfl rfl rfl rfl fun hd8 => ?_
  refine jm_c rfl (fun v w hs hm => gen_Maker_Pick_c hm (hs.blkM (i := 0) rfl) (hs.argM Rha0_fl Oha0_fl) Oha0_fl (hs.row 0 rfl) (hs.offML 0 0 rfl rfl)) (fun _ => rfl) rfl rfl fun v9 q10 => ?_
  refine jg_as rfl rfl rfl ?_
  refine jg_nils [(0, _), (5, _), (6, _), (7, _)] ⟨rfl, rfl, rfl, rfl, trivial⟩ ?_
  refine jk_sn ?_
  refine jn_reg 6 ?_
  refine jg_mv rfl rfl rfl ?_
  refine jg_mv rfl rfl rfl ?_
  refine jg_lit (enc := encI) [1, 1000, 19620, 50000] rfl rfl rfl rfl rfl rfl rfl rfl fun hd11 => ?_
  refine jm_c rfl (fun v w hs hm => gen_Maker_Pick_c hm (hs.blkM (i := 0) rfl) (hs.argM Rha0_fl Oha0_fl) Oha0_fl (hs.row 0 rfl) (hs.offML 0 0 rfl rfl)) (fun _ => rfl) rfl rfl fun v12 q13 => ?_
  refine jg_mv rfl rfl rfl ?_
  refine jg_lit (enc := encI) [0, 100, (-100), 3000] rfl rfl rfl rfl rfl rfl rfl rfl fun hd14 => ?_
  refine jm_c rfl (fun v w hs hm => gen_Maker_Pick_c hm (hs.blkM (i := 0) rfl) (hs.argM Rha0_fl Oha0_fl) Oha0_fl (hs.row 0 rfl) (hs.offML 0 0 rfl rfl)) (fun _ => rfl) rfl rfl fun v15 q16 => ?_
  refine jg_mv rfl rfl rfl ?_
  refine jg_mv rfl rfl rfl ?_
  refine jg_mv rfl rfl rfl ?_
  refine jm_c rfl (fun v w hs hm => gen_Maker_From_c hm (hs.blkM (i := 0) rfl) (hs.argM Rha0_fl Oha0_fl) Oha0_fl) (fun _ => rfl) rfl rfl fun v17 q18 => ?_
  refine jg_y (fun w hs => yv_add_w rfl rfl) rfl rfl ?_
  refine jg_y (fun w hs => yv_max rfl rfl) rfl rfl ?_
  refine jg_y (fun w hs => yv_build rfl (o4 rfl)) rfl rfl ?_
  refine jg_lit (enc := Sample.enc) [(Sample.mk v12.1 v15.1 v9.1 (max 0 (w64 (v9.1 + v17.1))))] rfl rfl rfl rfl rfl rfl rfl rfl fun hd19 => ?_
  refine jg_append 4 rfl rfl rfl (fun w hs => (hs.row 0 rfl)) rfl rfl rfl fun y20 hd21 => ?_
  refine jg_L (r5 rfl) ?_
  refine jg_as rfl rfl rfl ?_
  refine jg_nils [(0, _), (5, _), (6, _)] ⟨rfl, rfl, rfl, trivial⟩ ?_
  refine jk_sel (is := [4]) (s1 rfl) rfl ?_
  refine jk_bn (jk_sn ?_)
  refine jn_reg 4 ?_
  refine jg_mv rfl rfl rfl ?_
  refine jg_y (fun w hs => yv_sub_w rfl rfl) rfl rfl ?_
  refine jg_as rfl rfl rfl ?_
  refine jg_nils [(0, _), (5, _), (6, _)] ⟨rfl, rfl, rfl, trivial⟩ ?_
  exact jk_use H6 (y20, w64 (z3.2.1 - 1), v17.2) hd21 [0] ⟨rfl, rfl, rfl, trivial⟩ rfl rfl rfl
theorem law19_ResistanceSamples_c {w : World} {a0 : (List Int)} {ha0 : Hd} {v : Bool} (hm : law19_ResistanceSamples a0 = some v) (Rha0 : Sl w ha0 encI a0) : Gives Try.prog 11 [ha0.v] w (.bool v) := by
  refine j_gives (vs := [ha0.v]) (U := fun (v : Bool) => .bool v) Try.func11 rfl Try.ntmps11 rfl rfl hm ?_
  unfold law19_ResistanceSamples
  clear hm
  refine jn_seq ?_
  refine jn_reg 0 ?_
  refine jg_as rfl rfl rfl ?_
  refine jg_nils [(0, _)] ⟨rfl, trivial⟩ ?_
  refine jk_sn ?_
  refine jn_seq ?_
  refine jn_reg 1 ?_
  refine jg_mv rfl rfl rfl ?_
  refine jg_c rfl (fun v w hs hm => gen_New_c hm (hs.arg Rha0)) rfl rfl fun v1 q2 => ?_
  refine jg_L (r1 rfl) ?_
  refine jg_as rfl rfl rfl ?_
  refine jg_nils [(3, _)] ⟨rfl, trivial⟩ ?_
  refine jk_sn ?_
  refine jn_seq ?_
  refine jn_reg 2 ?_
  refine jg_mv rfl rfl rfl ?_
  refine jl_c 0 rfl rfl (fun v w hs hm => law19_samples_c hm (hs.blkL (i := 0) rfl) (hs.arg Rha0) (hs.offAL 0 Rha0 rfl)) (fun _ => rfl) rfl rfl fun v3 q4 => ?_
  refine jg_L (r2 rfl) ?_
  refine jg_as rfl rfl rfl ?_
  refine jg_nils [(4, _)] ⟨rfl, trivial⟩ ?_
  refine jk_sn ?_
  refine jn_seq ?_
  refine jn_reg 3 ?_
  refine jg_mv rfl rfl rfl ?_
  refine jg_c0 rfl (fun v w hs hm => resistance_Measured_c hm (hs.row 0 rfl)) rfl rfl fun v5 => ?_
  refine jg_mv rfl rfl rfl ?_
  refine jg_y (fun w hs => yv_extract rfl rfl) rfl rfl ?_
  refine jg_y (fun w hs => yv_extract rfl rfl) rfl rfl ?_
  refine jg_alloc (l2 rfl) rfl rfl fun g6 => ?_
  refine jg_store 0 rfl rfl rfl (l2 rfl) rfl rfl rfl rfl (l2 rfl) (r3 rfl) ?_
  refine jg_as rfl rfl rfl ?_
  refine jg_nils [(4, _), (5, _), (6, _)] ⟨rfl, rfl, rfl, trivial⟩ ?_
  refine jk_sn ?_
  refine jn_seq ?_
  refine jn_seq ?_
  refine jn_reg 4 ?_
  refine jg_mv rfl rfl rfl ?_
  refine jg_y (fun w hs => yv_ln rfl (hs.row 1 rfl)) rfl rfl ?_
  refine jg_y (fun w hs => yv_eql rfl rfl) rfl rfl ?_
  refine jg_nils [(4, _), (5, _), (6, _), (23, _)] ⟨rfl, rfl, rfl, rfl, trivial⟩ ?_
  refine jk_sn ?_
  refine jn_cond rfl ?_ ?_
  · refine jn_seq ?_
    refine jn_reg 5 ?_
    refine jg_mv rfl rfl rfl ?_
    refine jg_y (fun w hs => yv_eql rfl rfl) rfl rfl ?_
    refine jg_mv rfl rfl rfl ?_
    refine jg_split 26 rfl ?_ ?_
    · refine jg_c0 rfl (fun v w hs hm => law19_sane_c hm ) rfl rfl fun v7 => ?_
      refine jg_y (fun w hs => yv_pick_t rfl rfl) rfl rfl ?_
      refine jg_as rfl rfl rfl ?_
      refine jg_nils [(2, _)] ⟨rfl, trivial⟩ ?_
      refine jk_sel (is := []) (s0 rfl) rfl ?_
      refine jk_sn ?_
      refine jn_ret ?_
      refine jk_sr ?_
      exact jk_ret1 rfl (fun w hs => .tmp rfl) (fun w hs => ⟨rfl, hs.drop⟩)
    refine jg_skip rfl rfl ?_
    refine jg_y (fun w hs => yv_pick_f rfl rfl) rfl rfl ?_
    refine jg_as rfl rfl rfl ?_
    refine jg_nils [(2, _)] ⟨rfl, trivial⟩ ?_
    refine jk_sel (is := []) (s0 rfl) rfl ?_
    refine jk_sn ?_
    refine jn_ret ?_
    refine jk_sr ?_
    exact jk_ret1 rfl (fun w hs => .tmp rfl) (fun w hs => ⟨rfl, hs.drop⟩)
  refine jn_skip ?_
  refine jk_sn ?_
  refine jn_seq ?_
  refine jn_reg 6 ?_
  refine jg_as rfl rfl rfl ?_
  refine jg_as rfl rfl rfl ?_
  refine jg_nils [(4, _), (5, _), (6, _), (7, _), (8, _)] ⟨rfl, rfl, rfl, rfl, rfl, trivial⟩ ?_
  refine jk_sn ?_
  refine jn_join (fun (s : (Bool × Bool)) (g : Unit) => [(7, .bool s.1), (8, .bool s.2)]) (fun (s : (Bool × Bool)) (g : Unit) => []) (fun (s : (Bool × Bool)) (g : Unit) => []) ?_ ?_
  · intro z8 q9
    refine jn_seq ?_
    refine jn_reg 15 ?_
    refine jg_mv rfl rfl rfl ?_
    refine jg_mv rfl rfl rfl ?_
    refine jg_split 73 rfl ?_ ?_
    rotate_left
    · refine jg_skip rfl rfl ?_
      refine jg_y (fun w hs => yv_pick_f rfl rfl) rfl rfl ?_
      refine jg_mv rfl rfl rfl ?_
      refine jg_skip rfl rfl ?_
      refine jg_y (fun w hs => yv_pick_f rfl rfl) rfl rfl ?_
      refine jg_as rfl rfl rfl ?_
      refine jg_nils [(2, _)] ⟨rfl, trivial⟩ ?_
      refine jk_sn ?_
      refine jn_ret ?_
      exact jk_ret1 rfl (fun w hs => .tmp rfl) (fun w hs => ⟨rfl, hs.drop⟩)
    refine jg_mv rfl rfl rfl ?_
    refine jg_y (fun w hs => yv_pick_t rfl rfl) rfl rfl ?_
    refine jg_mv rfl rfl rfl ?_
    refine jg_split 76 rfl ?_ ?_
    · refine jg_c0 rfl (fun v w hs hm => law19_sane_c hm ) rfl rfl fun v12 => ?_
      refine jg_y (fun w hs => yv_pick_t rfl rfl) rfl rfl ?_
      refine jg_as rfl rfl rfl ?_
      refine jg_nils [(2, _)] ⟨rfl, trivial⟩ ?_
      refine jk_sn ?_
      refine jn_ret ?_
      exact jk_ret1 rfl (fun w hs => .tmp rfl) (fun w hs => ⟨rfl, hs.drop⟩)
    refine jg_skip rfl rfl ?_
    refine jg_y (fun w hs => yv_pick_f rfl rfl) rfl rfl ?_
    refine jg_as rfl rfl rfl ?_
    refine jg_nils [(2, _)] ⟨rfl, trivial⟩ ?_
    refine jk_sn ?_
    refine jn_ret ?_
    exact jk_ret1 rfl (fun w hs => .tmp rfl) (fun w hs => ⟨rfl, hs.drop⟩)
  intro k10 H11
  refine jn_seq ?_
  refine jn_reg 7 ?_
  refine jg_mv rfl rfl rfl ?_
  refine jg_y (fun w hs => yv_ln rfl (hs.row 1 rfl)) rfl rfl ?_
  refine jg_mv rfl rfl rfl ?_
  refine jg_nils [(4, _), (5, _), (6, _), (7, _), (8, _), (30, _), (31, _)] ⟨rfl, rfl, rfl, rfl, rfl, rfl, rfl, trivial⟩ ?_
  refine jk_sn ?_
  refine jn_block ?_
  refine jn_lp (n := big) (fun (s : (Bool × Bool × Int)) (g : Unit) => [(4, q4.v), (5, .pointer (some ⟨g6, 0, none⟩)), (6, .int .i64 v5.2), (7, .bool s.1), (8, .bool s.2.1), (30, .int .i64 (v3.1.length : Int)), (31, .int .i64 s.2.2)]) (fun (s : (Bool × Bool × Int)) (g : Unit) => []) (fun (s : (Bool × Bool × Int)) (g : Unit) => [(rowH q4 53 4 Sample.enc v3.1), (Res.blk g6 55 [.int .i64 v5.1.Lo, .int .i64 v5.1.Hi])]) (false, false, 0) () [1, 0] ⟨rfl, rfl, rfl, rfl, rfl, rfl, rfl, trivial⟩ rfl rfl rfl ?_
  intro z13 q14 n17 k15 H16
  refine jn_seq ?_
  refine jn_reg 8 ?_
  refine jg_y (fun w hs => yv_lss rfl rfl) rfl rfl ?_
  refine jg_nils [(4, _), (5, _), (6, _), (7, _), (8, _), (30, _), (31, _), (32, _)] ⟨rfl, rfl, rfl, rfl, rfl, rfl, rfl, rfl, trivial⟩ ?_
  refine jk_sn ?_
  refine jn_seq ?_
  refine jn_cond rfl ?_ ?_
  rotate_left
  · refine jn_exit ?_
    refine jk_se (jk_le (jk_bh ?_))
    exact jk_use H11 (z13.1, z13.2.1) () [] ⟨rfl, rfl, trivial⟩ rfl rfl rfl
  refine jn_skip ?_
  refine jk_sn ?_
  refine jn_seq ?_
  refine jn_block ?_
  refine jn_seq ?_
  refine jn_reg 9 ?_
  refine jg_mv rfl rfl rfl ?_
  refine jg_as rfl rfl rfl ?_
  refine jg_nils [(4, _), (5, _), (6, _), (7, _), (8, _), (9, _), (30, _), (31, _)] ⟨rfl, rfl, rfl, rfl, rfl, rfl, rfl, rfl, trivial⟩ ?_
  refine jk_sn ?_
  refine jn_seq ?_
  refine jn_reg 10 ?_
  refine jg_mv rfl rfl rfl ?_
  refine jg_mv rfl rfl rfl ?_
  refine jg_mv rfl rfl rfl ?_
  refine jg_y (fun w hs => yv_add_w rfl rfl) rfl rfl ?_
  refine jg_ck fun h18 => ?_
  refine jg_y (fun w hs => yv_lh rfl rfl rfl (hs.row 0 rfl) (of_decide_eq_true h18)) rfl rfl ?_
  refine jg_c0 rfl (fun v w hs hm => resistance_Measured_c hm (Sl.lo (sz := 4) (Sl.hi (hs.row 0 rfl) (of_decide_eq_true (slh1 h18))) (of_decide_eq_true (slh2 h18)))) rfl rfl fun v21 => ?_
  refine jg_mv rfl rfl rfl ?_
  refine jg_y (fun w hs => yv_extract rfl rfl) rfl rfl ?_
  refine jg_y (fun w hs => yv_extract rfl rfl) rfl rfl ?_
  refine jg_alloc (l2 rfl) rfl rfl fun g22 => ?_
  refine jg_store 0 rfl rfl rfl (l2 rfl) rfl rfl rfl rfl (l2 rfl) (r3 rfl) ?_
  refine jg_as rfl rfl rfl ?_
  refine jg_nils [(4, _), (5, _), (6, _), (7, _), (8, _), (10, _), (11, _), (30, _), (31, _)] ⟨rfl, rfl, rfl, rfl, rfl, rfl, rfl, rfl, rfl, trivial⟩ ?_
  refine jk_sn ?_
  refine jn_seq ?_
  refine jn_seq ?_
  refine jn_reg 11 ?_
  refine jg_mv rfl rfl rfl ?_
  refine jg_y (fun w hs => yv_neq rfl rfl) rfl rfl ?_
  refine jg_mv rfl rfl rfl ?_
  refine jg_split 45 rfl ?_ ?_
  · refine jg_skip rfl rfl ?_
    refine jg_skip rfl rfl ?_
    refine jg_y (fun w hs => yv_pick_t rfl rfl) rfl rfl ?_
    refine jg_mv rfl rfl rfl ?_
    refine jg_skip rfl rfl ?_
    refine jg_skip rfl rfl ?_
    refine jg_skip rfl rfl ?_
    refine jg_skip rfl rfl ?_
    refine jg_y (fun w hs => yv_pick_t rfl rfl) rfl rfl ?_
    refine jg_nils [(4, _), (5, _), (6, _), (7, _), (8, _), (10, _), (30, _), (31, _), (54, _)] ⟨rfl, rfl, rfl, rfl, rfl, rfl, rfl, rfl, rfl, trivial⟩ ?_
    refine jk_sn ?_
    refine jn_ct rfl ?_
    refine jn_seq ?_
    refine jn_reg 12 ?_
    refine jg_as rfl rfl rfl ?_
    refine jg_nils [(2, _)] ⟨rfl, trivial⟩ ?_
    refine jk_sel (is := []) (s0 rfl) rfl ?_
    refine jk_sn ?_
    refine jn_ret ?_
    refine jk_sr (jk_br (jk_sr (jk_lr (jk_br (jk_sr ?_)))))
    exact jk_ret1 rfl (fun w hs => .tmp rfl) (fun w hs => ⟨rfl, hs.drop⟩)
  refine jg_mv rfl rfl rfl ?_
  refine jg_y (fun w hs => yv_neq rfl rfl) rfl rfl ?_
  refine jg_y (fun w hs => yv_pick_f rfl rfl) rfl rfl ?_
  refine jg_mv rfl rfl rfl ?_
  refine jg_split 49 rfl ?_ ?_
  · refine jg_skip rfl rfl ?_
    refine jg_skip rfl rfl ?_
    refine jg_skip rfl rfl ?_
    refine jg_skip rfl rfl ?_
    refine jg_y (fun w hs => yv_pick_t rfl rfl) rfl rfl ?_
    refine jg_nils [(4, _), (5, _), (6, _), (7, _), (8, _), (10, _), (30, _), (31, _), (54, _)] ⟨rfl, rfl, rfl, rfl, rfl, rfl, rfl, rfl, rfl, trivial⟩ ?_
    refine jk_sn ?_
    refine jn_ct rfl ?_
    refine jn_seq ?_
    refine jn_reg 12 ?_
    refine jg_as rfl rfl rfl ?_
    refine jg_nils [(2, _)] ⟨rfl, trivial⟩ ?_
    refine jk_sel (is := []) (s0 rfl) rfl ?_
    refine jk_sn ?_
    refine jn_ret ?_
    refine jk_sr (jk_br (jk_sr (jk_lr (jk_br (jk_sr ?_)))))
    exact jk_ret1 rfl (fun w hs => .tmp rfl) (fun w hs => ⟨rfl, hs.drop⟩)
  refine jg_y (fun w hs => yv_load rfl (ldBB (hs.blkL (i := 0) rfl) rfl)) rfl rfl ?_
  refine jg_y (fun w hs => yv_load rfl (ldBB (hs.blkL (i := 2) rfl) rfl)) rfl rfl ?_
  refine jg_c0 rfl (fun v w hs hm => interval_Within_c (a0 := v21.1) (a1 := v5.1) hm ) rfl rfl fun v23 => ?_
  refine jg_y (fun w hs => yv_not rfl) rfl rfl ?_
  refine jg_y (fun w hs => yv_pick_f rfl rfl) rfl rfl ?_
  refine jg_nils [(4, _), (5, _), (6, _), (7, _), (8, _), (10, _), (30, _), (31, _), (54, _)] ⟨rfl, rfl, rfl, rfl, rfl, rfl, rfl, rfl, rfl, trivial⟩ ?_
  refine jk_sn ?_
  refine jn_cond rfl ?_ ?_
  · refine jn_seq ?_
    refine jn_reg 12 ?_
    refine jg_as rfl rfl rfl ?_
    refine jg_nils [(2, _)] ⟨rfl, trivial⟩ ?_
    refine jk_sel (is := []) (s0 rfl) rfl ?_
    refine jk_sn ?_
    refine jn_ret ?_
    refine jk_sr (jk_br (jk_sr (jk_lr (jk_br (jk_sr ?_)))))
    exact jk_ret1 rfl (fun w hs => .tmp rfl) (fun w hs => ⟨rfl, hs.drop⟩)
  refine jn_skip ?_
  refine jk_sn ?_
  refine jn_draw (L' := [_, _, _]) 13 [0, 1, 2] [0, 1, 2, 3, 4, 5, 6, 7, 8, 9, 10, 11, 12, 13, 14, 15, 16, 17] 262143 262143 [0, 1, 2, 6, 2, 18, 42, 66, 0, 258, 512, 1536, 512, 4608, 10752, 16896, 767, 131071] [0, 1, 3, 7, 3, 19, 63, 127, 0, 259, 771, 1795, 771, 4867, 16131, 32515, 1023, 131071] [(0, true), (1, true), (2, true), (3, true), (4, true), (5, true), (6, true), (7, true), (8, true), (9, true), (10, true), (11, true), (12, true), (13, true), (14, true), (15, true), (16, true), (17, true)] rfl (np_blk (np_seq (np_rnd (np_blk (np_seq np_rt))))) (by kernel_rfl) (by kernel_rfl) (by kernel_rfl) (by kernel_rfl) (by kernel_rfl) (by kernel_rfl) (by kernel_rfl) (by kernel_rfl) ?_
  refine jd_mv rfl rfl rfl rfl ?_
  refine jd_mv rfl rfl rfl rfl ?_
  refine jd_split 56 rfl ?_ ?_
  · refine jd_skip rfl rfl rfl ?_
    refine jd_skip rfl rfl rfl ?_
    refine jd_skip rfl rfl rfl ?_
    refine jd_skip rfl rfl rfl ?_
    refine jd_skip rfl rfl rfl ?_
    refine jd_y rfl (fun w hs => yv_pick_t rfl rfl) rfl rfl ?_
    refine jd_mv rfl rfl rfl rfl ?_
    refine jd_mv rfl rfl rfl rfl ?_
    refine jd_split 64 rfl ?_ ?_
    · refine jd_skip rfl rfl rfl ?_
      refine jd_skip rfl rfl rfl ?_
      refine jd_skip rfl rfl rfl ?_
      refine jd_skip rfl rfl rfl ?_
      refine jd_skip rfl rfl rfl ?_
      refine jd_y rfl (fun w hs => yv_pick_t rfl rfl) rfl rfl ?_
      refine jd_as rfl rfl rfl rfl ?_
      refine jd_as rfl rfl rfl rfl ?_
      refine jd_nils [(4, _), (5, _), (6, _), (7, _), (8, _), (30, _), (31, _)] ⟨rfl, rfl, rfl, rfl, rfl, rfl, rfl, trivial⟩ ?_
      refine jk_bn (jk_sn ?_)
      refine jn_reg 14 ?_
      refine jg_y (fun w hs => yv_add_w rfl rfl) rfl rfl ?_
      refine jg_mv rfl rfl rfl ?_
      refine jg_nils [(4, _), (5, _), (6, _), (7, _), (8, _), (30, _), (31, _)] ⟨rfl, rfl, rfl, rfl, rfl, rfl, rfl, trivial⟩ ?_
      exact jk_use H16 (true, true, w64 (z13.2.2 + 1)) () [1, 2] ⟨rfl, rfl, rfl, rfl, rfl, rfl, rfl, trivial⟩ rfl rfl rfl
    refine jd_y rfl (fun w hs => yv_fieldAddr rfl) rfl rfl ?_
    refine jd_y rfl (fun w hs => yv_load rfl (ld1B (hs.blk (i := 0) rfl) rfl)) rfl rfl ?_
    refine jd_y rfl (fun w hs => yv_fieldAddr rfl) rfl rfl ?_
    refine jd_y rfl (fun w hs => yv_load rfl (ld1B (hs.blk (i := 2) rfl) rfl)) rfl rfl ?_
    refine jd_y rfl (fun w hs => yv_eql rfl rfl) rfl rfl ?_
    refine jd_y rfl (fun w hs => yv_pick_f rfl rfl) rfl rfl ?_
    refine jd_as rfl rfl rfl rfl ?_
    refine jd_as rfl rfl rfl rfl ?_
    refine jd_nils [(4, _), (5, _), (6, _), (7, _), (8, _), (30, _), (31, _)] ⟨rfl, rfl, rfl, rfl, rfl, rfl, rfl, trivial⟩ ?_
    refine jk_bn (jk_sn ?_)
    refine jn_reg 14 ?_
    refine jg_y (fun w hs => yv_add_w rfl rfl) rfl rfl ?_
    refine jg_mv rfl rfl rfl ?_
    refine jg_nils [(4, _), (5, _), (6, _), (7, _), (8, _), (30, _), (31, _)] ⟨rfl, rfl, rfl, rfl, rfl, rfl, rfl, trivial⟩ ?_
    exact jk_use H16 (true, decide (v21.1.Hi = v5.1.Hi), w64 (z13.2.2 + 1)) () [1, 2] ⟨rfl, rfl, rfl, rfl, rfl, rfl, rfl, trivial⟩ rfl rfl rfl
  refine jd_y rfl (fun w hs => yv_fieldAddr rfl) rfl rfl ?_
  refine jd_y rfl (fun w hs => yv_load rfl (ld1B (hs.blk (i := 0) rfl) rfl)) rfl rfl ?_
  refine jd_y rfl (fun w hs => yv_fieldAddr rfl) rfl rfl ?_
  refine jd_y rfl (fun w hs => yv_load rfl (ld1B (hs.blk (i := 2) rfl) rfl)) rfl rfl ?_
  refine jd_y rfl (fun w hs => yv_eql rfl rfl) rfl rfl ?_
  refine jd_y rfl (fun w hs => yv_pick_f rfl rfl) rfl rfl ?_
  refine jd_mv rfl rfl rfl rfl ?_
  refine jd_mv rfl rfl rfl rfl ?_
  refine jd_split 64 rfl ?_ ?_
  · refine jd_skip rfl rfl rfl ?_
    refine jd_skip rfl rfl rfl ?_
    refine jd_skip rfl rfl rfl ?_
    refine jd_skip rfl rfl rfl ?_
    refine jd_skip rfl rfl rfl ?_
    refine jd_y rfl (fun w hs => yv_pick_t rfl rfl) rfl rfl ?_
    refine jd_as rfl rfl rfl rfl ?_
    refine jd_as rfl rfl rfl rfl ?_
    refine jd_nils [(4, _), (5, _), (6, _), (7, _), (8, _), (30, _), (31, _)] ⟨rfl, rfl, rfl, rfl, rfl, rfl, rfl, trivial⟩ ?_
    refine jk_bn (jk_sn ?_)
    refine jn_reg 14 ?_
    refine jg_y (fun w hs => yv_add_w rfl rfl) rfl rfl ?_
    refine jg_mv rfl rfl rfl ?_
    refine jg_nils [(4, _), (5, _), (6, _), (7, _), (8, _), (30, _), (31, _)] ⟨rfl, rfl, rfl, rfl, rfl, rfl, rfl, trivial⟩ ?_
    exact jk_use H16 (decide (v21.1.Lo = v5.1.Lo), true, w64 (z13.2.2 + 1)) () [1, 2] ⟨rfl, rfl, rfl, rfl, rfl, rfl, rfl, trivial⟩ rfl rfl rfl
  refine jd_y rfl (fun w hs => yv_fieldAddr rfl) rfl rfl ?_
  refine jd_y rfl (fun w hs => yv_load rfl (ld1B (hs.blk (i := 0) rfl) rfl)) rfl rfl ?_
  refine jd_y rfl (fun w hs => yv_fieldAddr rfl) rfl rfl ?_
  refine jd_y rfl (fun w hs => yv_load rfl (ld1B (hs.blk (i := 2) rfl) rfl)) rfl rfl ?_
  refine jd_y rfl (fun w hs => yv_eql rfl rfl) rfl rfl ?_
  refine jd_y rfl (fun w hs => yv_pick_f rfl rfl) rfl rfl ?_
  refine jd_as rfl rfl rfl rfl ?_
  refine jd_as rfl rfl rfl rfl ?_
  refine jd_nils [(4, _), (5, _), (6, _), (7, _), (8, _), (30, _), (31, _)] ⟨rfl, rfl, rfl, rfl, rfl, rfl, rfl, trivial⟩ ?_
  refine jk_bn (jk_sn ?_)
  refine jn_reg 14 ?_
  refine jg_y (fun w hs => yv_add_w rfl rfl) rfl rfl ?_
  refine jg_mv rfl rfl rfl ?_
  refine jg_nils [(4, _), (5, _), (6, _), (7, _), (8, _), (30, _), (31, _)] ⟨rfl, rfl, rfl, rfl, rfl, rfl, rfl, trivial⟩ ?_
  exact jk_use H16 (decide (v21.1.Lo = v5.1.Lo), decide (v21.1.Hi = v5.1.Hi), w64 (z13.2.2 + 1)) () [1, 2] ⟨rfl, rfl, rfl, rfl, rfl, rfl, rfl, trivial⟩ rfl rfl rfl
theorem gen_Maker_Weather_c {w : World} {a0 : HumpgenMaker} {ha0_fl : Hd} {b0 : Nat} {v : (Weather × Int)} (hm : gen_Maker_Weather a0 = some v) (Hb : Blk w b0 84 [ha0_fl.v, .int .i64 a0.fn]) (Rha0_fl : Sl w ha0_fl encI a0.fl) (Oha0_fl : Offs ha0_fl [b0]) : Calls Try.prog 32 ([.pointer (some ⟨b0, 0, none⟩)] : List Value).toArray w (fun e w' => ∃ g : Unit, e = .returned (.agg #[.int .i64 v.1.Wind.Lo, .int .i64 v.1.Wind.Hi, .int .i64 v.1.Cold.Lo, .int .i64 v.1.Cold.Hi]) ∧ St w w' [.blk b0 84 [ha0_fl.v, .int .i64 v.2]] []) := by
  refine j_enter (vs := [.pointer (some ⟨b0, 0, none⟩)]) (R := fun (v : (Weather × Int)) (e : Ending) (w' : World) => ∃ g : Unit, e = .returned (.agg #[.int .i64 v.1.Wind.Lo, .int .i64 v.1.Wind.Hi, .int .i64 v.1.Cold.Lo, .int .i64 v.1.Cold.Hi]) ∧ St w w' [.blk b0 84 [ha0_fl.v, .int .i64 v.2]] []) Try.func32 rfl Try.ntmps32 rfl rfl (mk_st Hb) hm ?_
  unfold gen_Maker_Weather
  clear hm
  refine jn_seq ?_
  refine jn_reg 0 ?_
  refine jg_alloc (l4 rfl) rfl rfl fun g1 => ?_
  refine jg_nils [(0, _), (2, _)] ⟨rfl, rfl, trivial⟩ ?_
  refine jk_sn ?_
  refine jn_seq ?_
  refine jn_reg 1 ?_
  refine jg_mv rfl rfl rfl ?_
  refine jg_lit (enc := encI) [(-8000), (-1000), 0, 333, 5000] rfl rfl rfl rfl rfl rfl rfl rfl fun hd2 => ?_
  refine jm_c rfl (fun v w hs hm => gen_Maker_Pick_c hm (hs.blkM (i := 0) rfl) (hs.argM Rha0_fl Oha0_fl) Oha0_fl (hs.row 0 rfl) (hs.offML 0 0 rfl rfl)) (fun _ => rfl) rfl rfl fun v3 q4 => ?_
  refine jg_mv rfl rfl rfl ?_
  refine jg_lit (enc := encI) [0, 5, 30] rfl rfl rfl rfl rfl rfl rfl rfl fun hd5 => ?_
  refine jm_c rfl (fun v w hs hm => gen_Maker_Pick_c hm (hs.blkM (i := 0) rfl) (hs.argM Rha0_fl Oha0_fl) Oha0_fl (hs.row 0 rfl) (hs.offML 0 0 rfl rfl)) (fun _ => rfl) rfl rfl fun v6 q7 => ?_
  refine jg_as rfl rfl rfl ?_
  refine jg_as rfl rfl rfl ?_
  refine jg_nils [(0, _), (2, _), (3, _), (4, _)] ⟨rfl, rfl, rfl, rfl, trivial⟩ ?_
  refine jk_sel (is := [2]) (s1 rfl) rfl ?_
  refine jk_sn ?_
  refine jn_seq ?_
  refine jn_reg 2 ?_
  refine jg_mv rfl rfl rfl ?_
  refine jg_mv rfl rfl rfl ?_
  refine jg_mv rfl rfl rfl ?_
  refine jg_lit (enc := encI) [0, 1, 2000] rfl rfl rfl rfl rfl rfl rfl rfl fun hd8 => ?_
  refine jm_c rfl (fun v w hs hm => gen_Maker_Pick_c hm (hs.blkM (i := 0) rfl) (hs.argM Rha0_fl Oha0_fl) Oha0_fl (hs.row 0 rfl) (hs.offML 0 0 rfl rfl)) (fun _ => rfl) rfl rfl fun v9 q10 => ?_
  refine jg_y (fun w hs => yv_add_w rfl rfl) rfl rfl ?_
  refine jg_y (fun w hs => yv_build rfl (o2 rfl)) rfl rfl ?_
  refine jg_mv rfl rfl rfl ?_
  refine jg_mv rfl rfl rfl ?_
  refine jg_mv rfl rfl rfl ?_
  refine jg_lit (enc := encI) [0, 20] rfl rfl rfl rfl rfl rfl rfl rfl fun hd11 => ?_
  refine jm_c rfl (fun v w hs hm => gen_Maker_Pick_c hm (hs.blkM (i := 0) rfl) (hs.argM Rha0_fl Oha0_fl) Oha0_fl (hs.row 0 rfl) (hs.offML 0 0 rfl rfl)) (fun _ => rfl) rfl rfl fun v12 q13 => ?_
  refine jg_y (fun w hs => yv_add_w rfl rfl) rfl rfl ?_
  refine jg_y (fun w hs => yv_build rfl (o2 rfl)) rfl rfl ?_
  refine jg_y (fun w hs => yv_build rfl (o4 rfl)) rfl rfl ?_
  refine jg_store 2 rfl rfl rfl (l4 rfl) rfl rfl rfl rfl (l4 rfl) (r3 rfl) ?_
  refine jg_nils [(2, _)] ⟨rfl, trivial⟩ ?_
  refine jk_sel (is := [2]) (s1 rfl) rfl ?_
  refine jk_sn ?_
  refine jn_ret ?_
  exact jk_ret1 rfl (fun w hs => .cell rfl (ldBB (hs.blkL (i := 0) rfl) rfl)) (fun w hs => ⟨(), rfl, hs.sel (is := []) rfl rfl⟩)
theorem law19_ResistanceWider_c {w : World} {a0 : (List Int)} {ha0 : Hd} {v : Bool} (hm : law19_ResistanceWider a0 = some v) (Rha0 : Sl w ha0 encI a0) : Gives Try.prog 10 [ha0.v] w (.bool v) := by
  refine j_gives (vs := [ha0.v]) (U := fun (v : Bool) => .bool v) Try.func10 rfl Try.ntmps10 rfl rfl hm ?_
  unfold law19_ResistanceWider
  clear hm
  refine jn_seq ?_
  refine jn_reg 0 ?_
  refine jg_as rfl rfl rfl ?_
  refine jg_nils [(0, _)] ⟨rfl, trivial⟩ ?_
  refine jk_sn ?_
  refine jn_seq ?_
  refine jn_reg 1 ?_
  refine jg_mv rfl rfl rfl ?_
  refine jg_c rfl (fun v w hs hm => gen_New_c hm (hs.arg Rha0)) rfl rfl fun v1 q2 => ?_
  refine jg_L (r1 rfl) ?_
  refine jg_as rfl rfl rfl ?_
  refine jg_nils [(3, _)] ⟨rfl, trivial⟩ ?_
  refine jk_sn ?_
  refine jn_seq ?_
  refine jn_reg 2 ?_
  refine jg_mv rfl rfl rfl ?_
  refine jl_c 0 rfl rfl (fun v w hs hm => gen_Maker_Table_c hm (hs.blkL (i := 0) rfl) (hs.arg Rha0) (hs.offAL 0 Rha0 rfl)) (fun _ => rfl) rfl rfl fun v3 q4 => ?_
  refine jg_L (r2 rfl) ?_
  refine jg_mv rfl rfl rfl ?_
  refine jl_c 1 rfl rfl (fun v w hs hm => gen_Maker_Weather_c hm (hs.blkL (i := 1) rfl) (hs.arg Rha0) (hs.offAL 1 Rha0 rfl)) (fun _ => rfl) rfl rfl fun v5 q6 => ?_
  refine jg_L (r2 rfl) ?_
  refine jg_alloc (l4 rfl) rfl rfl fun g7 => ?_
  refine jg_as rfl rfl rfl ?_
  refine jg_store 0 rfl rfl rfl (l4 rfl) rfl rfl rfl rfl (l4 rfl) (r3 rfl) ?_
  refine jg_nils [(3, _), (4, _), (5, _)] ⟨rfl, rfl, rfl, trivial⟩ ?_
  refine jk_sn ?_
  refine jn_seq ?_
  refine jn_reg 3 ?_
  refine jg_mv rfl rfl rfl ?_
  refine jl_c 2 rfl rfl (fun v w hs hm => gen_Maker_From_c hm (hs.blkL (i := 2) rfl) (hs.arg Rha0) (hs.offAL 2 Rha0 rfl)) (fun _ => rfl) rfl rfl fun v8 q9 => ?_
  refine jg_L (r3 rfl) ?_
  refine jg_mv rfl rfl rfl ?_
  refine jl_c 2 rfl rfl (fun v w hs hm => gen_Maker_From_c hm (hs.blkL (i := 2) rfl) (hs.arg Rha0) (hs.offAL 2 Rha0 rfl)) (fun _ => rfl) rfl rfl fun v10 q11 => ?_
  refine jg_L (r3 rfl) ?_
  refine jg_as rfl rfl rfl ?_
  refine jg_as rfl rfl rfl ?_
  refine jg_nils [(3, _), (4, _), (5, _), (6, _), (7, _)] ⟨rfl, rfl, rfl, rfl, rfl, trivial⟩ ?_
  refine jk_sn ?_
  refine jn_seq ?_
  refine jn_reg 4 ?_
  refine jg_mv rfl rfl rfl ?_
  refine jg_mv rfl rfl rfl ?_
  refine jg_mv rfl rfl rfl ?_
  refine jg_y (fun w hs => yv_load rfl (ldBB (hs.blkL (i := 0) rfl) rfl)) rfl rfl ?_
  refine jg_c0 rfl (fun v w hs hm => resistance_Class_c (a3 := v5.1) hm (hs.row 1 rfl)) rfl rfl fun v12 => ?_
  refine jg_mv rfl rfl rfl ?_
  refine jg_y (fun w hs => yv_extract rfl rfl) rfl rfl ?_
  refine jg_y (fun w hs => yv_extract rfl rfl) rfl rfl ?_
  refine jg_alloc (l2 rfl) rfl rfl fun g13 => ?_
  refine jg_store 0 rfl rfl rfl (l2 rfl) rfl rfl rfl rfl (l2 rfl) (r4 rfl) ?_
  refine jg_as rfl rfl rfl ?_
  refine jg_nils [(3, _), (4, _), (5, _), (6, _), (7, _), (8, _), (9, _)] ⟨rfl, rfl, rfl, rfl, rfl, rfl, rfl, trivial⟩ ?_
  refine jk_sn ?_
  refine jn_seq ?_
  refine jn_reg 5 ?_
  refine jg_lit0 (enc := Resistance.enc) rfl rfl fun hd14 => ?_
  refine jg_mv rfl rfl rfl ?_
  refine jg_append 0 rfl rfl rfl (fun w hs => (hs.row 3 rfl)) rfl rfl rfl fun y15 hd16 => ?_
  refine jg_L (r5 rfl) ?_
  refine jg_as rfl rfl rfl ?_
  refine jg_nils [(3, _), (4, _), (5, _), (6, _), (7, _), (8, _), (9, _), (10, _)] ⟨rfl, rfl, rfl, rfl, rfl, rfl, rfl, rfl, trivial⟩ ?_
  refine jk_sn ?_
  refine jn_join (fun (s : (Int × (List Resistance))) (g : Unit) => [(3, .pointer (some ⟨q2, 0, none⟩)), (4, q4.v), (5, .pointer (some ⟨g7, 0, none⟩)), (6, .int .i64 v8.1), (7, .int .i64 v10.1), (8, .pointer (some ⟨g13, 0, none⟩)), (9, .int .i64 v12.2), (10, hd16.v)]) (fun (s : (Int × (List Resistance))) (g : Unit) => []) (fun (s : (Int × (List Resistance))) (g : Unit) => [(Res.blk q2 84 [ha0.v, .int .i64 s.1]), (rowH q4 50 3 Resistance.enc v3.1), (Res.blk g7 62 [.int .i64 v5.1.Wind.Lo, .int .i64 v5.1.Wind.Hi, .int .i64 v5.1.Cold.Lo, .int .i64 v5.1.Cold.Hi]), (Res.blk g13 55 [.int .i64 v12.1.Lo, .int .i64 v12.1.Hi]), (rowH hd16 50 3 Resistance.enc s.2)]) ?_ ?_
  rotate_left
  · intro k19 H20
    refine jn_seq ?_
    refine jn_reg 6 ?_
    refine jg_mv rfl rfl rfl ?_
    refine jg_y (fun w hs => yv_ln rfl (hs.row 0 rfl)) rfl rfl ?_
    refine jg_mv rfl rfl rfl ?_
    refine jg_nils [(3, _), (4, _), (5, _), (6, _), (7, _), (8, _), (9, _), (10, _), (41, _), (42, _)] ⟨rfl, rfl, rfl, rfl, rfl, rfl, rfl, rfl, rfl, rfl, trivial⟩ ?_
    refine jk_sn ?_
    refine jn_block ?_
    refine jn_lp (n := big) (fun (s : (Int × (List Resistance) × Int)) (g : Unit) => [(3, .pointer (some ⟨q2, 0, none⟩)), (4, q4.v), (5, .pointer (some ⟨g7, 0, none⟩)), (6, .int .i64 v8.1), (7, .int .i64 v10.1), (8, .pointer (some ⟨g13, 0, none⟩)), (9, .int .i64 v12.2), (10, hd16.v), (41, .int .i64 (y15.length : Int)), (42, .int .i64 s.2.2)]) (fun (s : (Int × (List Resistance) × Int)) (g : Unit) => []) (fun (s : (Int × (List Resistance) × Int)) (g : Unit) => [(Res.blk q2 84 [ha0.v, .int .i64 s.1]), (rowH q4 50 3 Resistance.enc v3.1), (Res.blk g7 62 [.int .i64 v5.1.Wind.Lo, .int .i64 v5.1.Wind.Hi, .int .i64 v5.1.Cold.Lo, .int .i64 v5.1.Cold.Hi]), (Res.blk g13 55 [.int .i64 v12.1.Lo, .int .i64 v12.1.Hi]), (rowH hd16 50 3 Resistance.enc s.2.1)]) (v10.2, y15, 0) () [4, 3, 2, 1, 0] ⟨rfl, rfl, rfl, rfl, rfl, rfl, rfl, rfl, rfl, rfl, trivial⟩ rfl rfl rfl ?_
    intro z37 q38 n41 k39 H40
    refine jn_seq ?_
    refine jn_reg 7 ?_
    refine jg_y (fun w hs => yv_lss rfl rfl) rfl rfl ?_
    refine jg_nils [(3, _), (4, _), (5, _), (6, _), (7, _), (8, _), (9, _), (10, _), (41, _), (42, _), (43, _)] ⟨rfl, rfl, rfl, rfl, rfl, rfl, rfl, rfl, rfl, rfl, rfl, trivial⟩ ?_
    refine jk_sn ?_
    refine jn_seq ?_
    refine jn_cond rfl ?_ ?_
    rotate_left
    · refine jn_exit ?_
      refine jk_se (jk_le (jk_bh ?_))
      exact jk_use H20 (z37.1, z37.2.1) () [0, 1, 2, 3, 4] ⟨rfl, rfl, rfl, rfl, rfl, rfl, rfl, rfl, trivial⟩ rfl rfl rfl
    refine jn_skip ?_
    refine jk_sn ?_
    refine jn_seq ?_
    refine jn_block ?_
    refine jn_seq ?_
    refine jn_reg 8 ?_
    refine jg_mv rfl rfl rfl ?_
    refine jg_as rfl rfl rfl ?_
    refine jg_nils [(3, _), (4, _), (5, _), (6, _), (7, _), (8, _), (9, _), (10, _), (11, _), (41, _), (42, _)] ⟨rfl, rfl, rfl, rfl, rfl, rfl, rfl, rfl, rfl, rfl, rfl, trivial⟩ ?_
    refine jk_sn ?_
    refine jn_drawA 9 [0, 1, 2, 3, 4, 5, 6, 7, 8, 9, 10, 11, 12, 13, 14, 15, 16, 17, 18, 19, 20, 21, 22, 23, 24, 25, 26] 134217727 287295 17 [0, 0, 0, 0, 0, 0, 48, 64, 128, 0, 512, 1280, 2048, 0, 0, 24576, 32768, 65536, 0, 263168, 655360, 663539, 2760691, 4857843, 16777215, 33554431, 50331647] [0, 0, 0, 0, 0, 0, 48, 112, 240, 0, 512, 2032, 4080, 0, 0, 24576, 57344, 122880, 0, 263680, 1041920, 1048563, 3145715, 7340019, 16777215, 33554431, 67108863] [(0, true), (1, true), (2, true), (3, true), (4, true), (5, true), (9, true), (13, true), (14, true), (18, true)] (np_blk (np_seq (np_rnd (np_blk (np_seq np_rt))))) (by kernel_rfl) (by kernel_rfl) (by kernel_rfl) (by kernel_rfl) (by kernel_rfl) (by kernel_rfl) (by kernel_rfl) (by kernel_rfl) ?_
    refine jt_mv rfl rfl rfl ?_
    refine jt_mv rfl rfl rfl ?_
    refine jt_mv rfl rfl rfl ?_
    refine jt_mv rfl rfl rfl ?_
    refine jt_mv rfl rfl rfl ?_
    refine jt_mv rfl rfl rfl ?_
    refine jt_mv rfl rfl rfl ?_
    refine jt_mv rfl rfl rfl ?_
    refine jt_mv rfl rfl rfl ?_
    refine jt_mv rfl rfl rfl ?_
    refine jd_x ?_
    refine jx_to (L' := [_, _, _, _]) [6, 7, 8, 10, 11, 12, 15, 16, 17, 19, 20, 21, 22] [23, 26] [1, 2, 3, 4] rfl ?_
    refine jx_lin [1, 2, 3, 4] 8101312 517119 11 [0, 0, 0, 0, 0, 0, 48, 112, 240, 0, 512, 2032, 4080, 0, 0, 24576, 57344, 122880, 0, 263680, 1041920, 1048563, 3145715, 7340019, 16777215, 33554431, 67108863] [(6, true), (7, true), (8, true), (15, true), (16, true), (17, true)] rfl (np_blk (np_seq (np_rnd (np_blk (np_seq np_rt))))) (by kernel_rfl) (by kernel_rfl) (by kernel_rfl) (by kernel_rfl) (by kernel_rfl) (by kernel_rfl) (by kernel_rfl) (by kernel_rfl) (by kernel_rfl) ?_
    refine jd_ix fun x162 h163 => ?_
    refine jd_y rfl (fun w hs => yv_ix rfl rfl (hs.row 3 rfl) h163) rfl rfl ?_
    refine jd_y rfl (fun w hs => yv_ef rfl (hs.row 3 rfl) h163.1) rfl rfl ?_
    refine jd_y rfl (fun w hs => yv_e1 rfl (hs.row 3 rfl) h163.1 rfl) rfl rfl ?_
    refine jd_ix fun x342 h343 => ?_
    refine jd_y rfl (fun w hs => yv_ix rfl rfl (hs.row 3 rfl) h343) rfl rfl ?_
    refine jd_y rfl (fun w hs => yv_ef rfl (hs.row 3 rfl) h343.1) rfl rfl ?_
    refine jd_y rfl (fun w hs => yv_e1 rfl (hs.row 3 rfl) h343.1 rfl) rfl rfl ?_
    refine jd_x ?_
    refine jx1 (i := 10) (by kernel_rfl) (by kernel_rfl) rfl ?_
    refine jl_c 0 rfl rfl (fun v w hs hm => gen_Maker_Next_c hm (hs.blkL (i := 0) rfl) (hs.arg Rha0) (hs.offAL 0 Rha0 rfl)) (fun _ => rfl) rfl rfl fun v242 q243 => ?_
    refine jg_L (r5 rfl) ?_
    refine jg_nil ?_
    refine jk_xn [1, 2, 3, 4] rfl ?_
    refine jx_lin [1, 2, 3, 4] 8101312 524287 8 [0, 0, 0, 0, 0, 0, 48, 112, 240, 0, 512, 2032, 4080, 0, 0, 24576, 57344, 122880, 0, 263680, 1041920, 1048563, 3145715, 7340019, 16777215, 33554431, 67108863] [(11, true), (12, true)] rfl (np_blk (np_seq (np_rnd (np_blk (np_seq np_rt))))) (by kernel_rfl) (by kernel_rfl) (by kernel_rfl) (by kernel_rfl) (by kernel_rfl) (by kernel_rfl) (by kernel_rfl) (by kernel_rfl) (by kernel_rfl) ?_
    refine jd_y rfl (fun w hs => yv_sub_w rfl rfl) rfl rfl ?_
    refine jd_y rfl (fun w hs => yv_max rfl rfl) rfl rfl ?_
    refine jd_x ?_
    refine jx1 (i := 19) (by kernel_rfl) (by kernel_rfl) rfl ?_
    refine jl_c 0 rfl rfl (fun v w hs hm => gen_Maker_Next_c hm (hs.blkL (i := 0) rfl) (hs.arg Rha0) (hs.offAL 0 Rha0 rfl)) (fun _ => rfl) rfl rfl fun v422 q423 => ?_
    refine jg_L (r5 rfl) ?_
    refine jg_nil ?_
    refine jk_xn [1, 2, 3, 4] rfl ?_
    refine jx_lin [1, 2, 3, 4] 8101312 7340031 5 [0, 0, 0, 0, 0, 0, 48, 112, 240, 0, 512, 2032, 4080, 0, 0, 24576, 57344, 122880, 0, 263680, 1041920, 1048563, 3145715, 7340019, 16777215, 33554431, 67108863] [(21, true), (22, true)] rfl (np_blk (np_seq (np_rnd (np_blk (np_seq np_rt))))) (by kernel_rfl) (by kernel_rfl) (by kernel_rfl) (by kernel_rfl) (by kernel_rfl) (by kernel_rfl) (by kernel_rfl) (by kernel_rfl) (by kernel_rfl) ?_
    refine jd_ix fun x462 h463 => ?_
    refine jd_y rfl (fun w hs => yv_ix rfl rfl (hs.row 3 rfl) h463) rfl rfl ?_
    refine jd_y rfl (fun w hs => yv_ef rfl (hs.row 3 rfl) h463.1) rfl rfl ?_
    refine jd_x ?_
    refine jx2 (i := 20) (i2 := 23) (by kernel_rfl) (by kernel_rfl) rfl rfl ?_ ?_
    · refine jg_y (fun w hs => yv_add_w rfl rfl) rfl rfl ?_
      refine jg_nil ?_
      refine jk_xn [1, 2, 3, 4] rfl ?_
      refine jx1 (i := 23) (by kernel_rfl) (by kernel_rfl) rfl ?_
      refine jg_storeE 4 (a' := (Resistance.mk x462.Mass (max 0 (w64 (x162.Lo - v242.1))) x462.Hi)) rfl rfl h463.1 rfl (l1 rfl) rfl rfl rfl rfl fun y502 => ?_
      refine jg_L (r5 rfl) ?_
      refine jg_nil ?_
      refine jk_xf (by kernel_rfl) ?_
      refine jx1 (i := 24) (by kernel_rfl) (by kernel_rfl) rfl ?_
      refine jg_ix fun x522 h523 => ?_
      refine jg_y (fun w hs => yv_ix rfl rfl (hs.row 4 rfl) h523) rfl rfl ?_
      refine jg_nil ?_
      refine jk_xf (by kernel_rfl) ?_
      refine jx1 (i := 25) (by kernel_rfl) (by kernel_rfl) rfl ?_
      refine jg_y (fun w hs => yv_ef rfl (hs.row 4 rfl) h523.1) rfl rfl ?_
      refine jg_nil ?_
      refine jk_xf (by kernel_rfl) ?_
      refine jx1 (i := 26) (by kernel_rfl) (by kernel_rfl) rfl ?_
      refine jg_storeE 4 (a' := (Resistance.mk x522.Mass x522.Lo (w64 (x342.Hi + v422.1)))) rfl rfl h523.1 rfl (l1 rfl) rfl rfl rfl rfl fun y562 => ?_
      refine jg_L (r5 rfl) ?_
      refine jg_nil ?_
      refine jk_xf (by kernel_rfl) ?_
      refine jx0 [(3, _), (4, _), (5, _), (6, _), (7, _), (8, _), (9, _), (10, _), (41, _), (42, _)] ⟨rfl, rfl, rfl, rfl, rfl, rfl, rfl, rfl, rfl, rfl, trivial⟩ (by kernel_rfl) (by kernel_rfl) ?_
      refine jk_bn (jk_sn ?_)
      refine jn_reg 10 ?_
      refine jg_y (fun w hs => yv_add_w rfl rfl) rfl rfl ?_
      refine jg_mv rfl rfl rfl ?_
      refine jg_nils [(3, _), (4, _), (5, _), (6, _), (7, _), (8, _), (9, _), (10, _), (41, _), (42, _)] ⟨rfl, rfl, rfl, rfl, rfl, rfl, rfl, rfl, rfl, rfl, trivial⟩ ?_
      exact jk_use H40 (v422.2, y562, w64 (z37.2.2 + 1)) () [0, 1, 2, 3, 4] ⟨rfl, rfl, rfl, rfl, rfl, rfl, rfl, rfl, rfl, rfl, trivial⟩ rfl rfl rfl
    refine jg_storeE 4 (a' := (Resistance.mk x462.Mass (max 0 (w64 (x162.Lo - v242.1))) x462.Hi)) rfl rfl h463.1 rfl (l1 rfl) rfl rfl rfl rfl fun y502 => ?_
    refine jg_L (r5 rfl) ?_
    refine jg_nil ?_
    refine jk_xf (by kernel_rfl) ?_
    refine jx1 (i := 20) (by kernel_rfl) (by kernel_rfl) rfl ?_
    refine jg_y (fun w hs => yv_add_w rfl rfl) rfl rfl ?_
    refine jg_nil ?_
    refine jk_xf (by kernel_rfl) ?_
    refine jx1 (i := 24) (by kernel_rfl) (by kernel_rfl) rfl ?_
    refine jg_ix fun x522 h523 => ?_
    refine jg_y (fun w hs => yv_ix rfl rfl (hs.row 4 rfl) h523) rfl rfl ?_
    refine jg_nil ?_
    refine jk_xf (by kernel_rfl) ?_
    refine jx1 (i := 25) (by kernel_rfl) (by kernel_rfl) rfl ?_
    refine jg_y (fun w hs => yv_ef rfl (hs.row 4 rfl) h523.1) rfl rfl ?_
    refine jg_nil ?_
    refine jk_xf (by kernel_rfl) ?_
    refine jx1 (i := 26) (by kernel_rfl) (by kernel_rfl) rfl ?_
    refine jg_storeE 4 (a' := (Resistance.mk x522.Mass x522.Lo (w64 (x342.Hi + v422.1)))) rfl rfl h523.1 rfl (l1 rfl) rfl rfl rfl rfl fun y562 => ?_
    refine jg_L (r5 rfl) ?_
    refine jg_nil ?_
    refine jk_xf (by kernel_rfl) ?_
    refine jx0 [(3, _), (4, _), (5, _), (6, _), (7, _), (8, _), (9, _), (10, _), (41, _), (42, _)] ⟨rfl, rfl, rfl, rfl, rfl, rfl, rfl, rfl, rfl, rfl, trivial⟩ (by kernel_rfl) (by kernel_rfl) ?_
    refine jk_bn (jk_sn ?_)
    refine jn_reg 10 ?_
    refine jg_y (fun w hs => yv_add_w rfl rfl) rfl rfl ?_
    refine jg_mv rfl rfl rfl ?_
    refine jg_nils [(3, _), (4, _), (5, _), (6, _), (7, _), (8, _), (9, _), (10, _), (41, _), (42, _)] ⟨rfl, rfl, rfl, rfl, rfl, rfl, rfl, rfl, rfl, rfl, trivial⟩ ?_
    exact jk_use H40 (v422.2, y562, w64 (z37.2.2 + 1)) () [0, 1, 2, 3, 4] ⟨rfl, rfl, rfl, rfl, rfl, rfl, rfl, rfl, rfl, rfl, trivial⟩ rfl rfl rfl
  intro z17 q18
  refine jn_seq ?_
  refine jn_reg 11 ?_
  refine jg_y (fun w hs => yv_load rfl (ldBB (hs.blkL (i := 2) rfl) rfl)) rfl rfl ?_
  refine jg_alloc (l4 rfl) rfl rfl fun g21 => ?_
  refine jg_store 0 rfl rfl rfl (l4 rfl) rfl rfl rfl rfl (l4 rfl) (r6 rfl) ?_
  refine jg_nils [(3, _), (4, _), (5, _), (6, _), (7, _), (8, _), (9, _), (10, _), (12, _)] ⟨rfl, rfl, rfl, rfl, rfl, rfl, rfl, rfl, rfl, trivial⟩ ?_
  refine jk_sn ?_
  refine jn_seq ?_
  refine jn_draw (L' := [_, _, _, _, _]) 12 [0, 2, 3, 4, 5] [0, 1, 2, 3, 4, 5, 6, 7] 255 511 [0, 1, 2, 0, 8, 20, 63, 127, 191] [0, 1, 3, 0, 8, 31, 63, 127, 255] [(0, true), (1, true), (2, true), (3, true), (4, false), (5, true), (6, true), (7, true), (8, false)] rfl (np_seq np_rt) (by kernel_rfl) (by kernel_rfl) (by kernel_rfl) (by kernel_rfl) (by kernel_rfl) (by kernel_rfl) (by kernel_rfl) (by kernel_rfl) ?_
  refine jd_y rfl (fun w hs => yv_fieldAddr rfl) rfl rfl ?_
  refine jd_y rfl (fun w hs => yv_fieldAddr rfl) rfl rfl ?_
  refine jd_y rfl (fun w hs => yv_load rfl (ld1B (hs.blk (i := 0) rfl) rfl)) rfl rfl ?_
  refine jd_mv rfl rfl rfl rfl ?_
  refine jd_h rfl ?_
  refine jl_c 1 rfl rfl (fun v w hs hm => gen_Maker_Next_c hm (hs.blkL (i := 1) rfl) (hs.arg Rha0) (hs.offAL 1 Rha0 rfl)) (fun _ => rfl) rfl rfl fun v22 q23 => ?_
  refine jg_L (r6 rfl) ?_
  refine jg_nil ?_
  refine jk_dn [0, 2, 3, 4, 5] rfl ?_
  refine jd_y rfl (fun w hs => yv_sub_w rfl rfl) rfl rfl ?_
  refine jd_y rfl (fun w hs => yv_fieldAddr rfl) rfl rfl ?_
  refine jd_y rfl (fun w hs => yv_fieldAddr rfl) rfl rfl ?_
  refine jd_h rfl ?_
  refine jg_store 0 rfl rfl rfl (l1 rfl) rfl rfl rfl rfl (l4 rfl) (r6 rfl) ?_
  refine jg_nil ?_
  refine jk_df rfl ?_
  refine jf_nils [(3, _), (4, _), (5, _), (6, _), (7, _), (8, _), (9, _), (10, _), (12, _)] ⟨rfl, rfl, rfl, rfl, rfl, rfl, rfl, rfl, rfl, trivial⟩ ?_
  refine jk_sn ?_
  refine jn_seq ?_
  refine jn_draw (L' := [_, _, _, _, _]) 13 [0, 2, 3, 4, 5] [0, 1, 2, 3, 4, 5, 6, 7] 255 511 [0, 1, 2, 0, 8, 20, 63, 127, 191] [0, 1, 3, 0, 8, 31, 63, 127, 255] [(0, true), (1, true), (2, true), (3, true), (4, false), (5, true), (6, true), (7, true), (8, false)] rfl (np_seq np_rt) (by kernel_rfl) (by kernel_rfl) (by kernel_rfl) (by kernel_rfl) (by kernel_rfl) (by kernel_rfl) (by kernel_rfl) (by kernel_rfl) ?_
  refine jd_y rfl (fun w hs => yv_fieldAddr rfl) rfl rfl ?_
  refine jd_y rfl (fun w hs => yv_fieldAddr rfl) rfl rfl ?_
  refine jd_y rfl (fun w hs => yv_load rfl (ld1B (hs.blk (i := 0) rfl) rfl)) rfl rfl ?_
  refine jd_mv rfl rfl rfl rfl ?_
  refine jd_h rfl ?_
  refine jl_c 1 rfl rfl (fun v w hs hm => gen_Maker_Next_c hm (hs.blkL (i := 1) rfl) (hs.arg Rha0) (hs.offAL 1 Rha0 rfl)) (fun _ => rfl) rfl rfl fun v24 q25 => ?_
  refine jg_L (r6 rfl) ?_
  refine jg_nil ?_
  refine jk_dn [0, 2, 3, 4, 5] rfl ?_
  refine jd_y rfl (fun w hs => yv_add_w rfl rfl) rfl rfl ?_
  refine jd_y rfl (fun w hs => yv_fieldAddr rfl) rfl rfl ?_
  refine jd_y rfl (fun w hs => yv_fieldAddr rfl) rfl rfl ?_
  refine jd_h rfl ?_
  refine jg_store 0 rfl rfl rfl (l1 rfl) rfl rfl rfl rfl (l4 rfl) (r6 rfl) ?_
  refine jg_nil ?_
  refine jk_df rfl ?_
  refine jf_nils [(3, _), (4, _), (5, _), (6, _), (7, _), (8, _), (9, _), (10, _), (12, _)] ⟨rfl, rfl, rfl, rfl, rfl, rfl, rfl, rfl, rfl, trivial⟩ ?_
  refine jk_sn ?_
  refine jn_seq ?_
  refine jn_reg 14 ?_
  refine jg_mv rfl rfl rfl ?_
  refine jg_mv rfl rfl rfl ?_
  refine jg_mv rfl rfl rfl ?_
  refine jg_y (fun w hs => yv_load rfl (ldBB (hs.blkL (i := 0) rfl) rfl)) rfl rfl ?_
  refine jg_c0 rfl (fun v w hs hm => resistance_Class_c (a3 := (Weather.mk (Interval.mk (w64 (v5.1.Wind.Lo - v22.1)) v5.1.Wind.Hi) (Interval.mk v5.1.Cold.Lo (w64 (v5.1.Cold.Hi + v24.1))))) hm (hs.row 5 rfl)) rfl rfl fun v26 => ?_
  refine jg_mv rfl rfl rfl ?_
  refine jg_y (fun w hs => yv_extract rfl rfl) rfl rfl ?_
  refine jg_y (fun w hs => yv_extract rfl rfl) rfl rfl ?_
  refine jg_alloc (l2 rfl) rfl rfl fun g27 => ?_
  refine jg_store 0 rfl rfl rfl (l2 rfl) rfl rfl rfl rfl (l2 rfl) (r7 rfl) ?_
  refine jg_as rfl rfl rfl ?_
  refine jg_nils [(3, _), (4, _), (5, _), (6, _), (7, _), (8, _), (9, _), (13, _), (14, _)] ⟨rfl, rfl, rfl, rfl, rfl, rfl, rfl, rfl, rfl, trivial⟩ ?_
  refine jk_sel (is := [0, 2, 3, 4, 5]) (s5 rfl) rfl ?_
  refine jk_sn ?_
  refine jn_seq ?_
  refine jn_draw (L' := [_, _, _, _]) 15 [0, 2, 3, 4] [0, 1, 2, 3, 4, 5, 6, 8, 9, 10, 11, 12, 13, 14, 7, 15, 16, 17] 262143 262143 [0, 0, 2, 4, 0, 16, 32, 73, 0, 0, 512, 1024, 0, 4096, 8192, 18816, 33023, 131071] [0, 0, 2, 6, 0, 16, 48, 127, 0, 0, 512, 1536, 0, 4096, 12288, 32767, 65535, 131071] [(0, true), (1, true), (2, true), (3, true), (4, true), (5, true), (6, true), (8, true), (9, true), (10, true), (11, true), (12, true), (13, true), (14, true), (7, false), (15, false), (16, true), (17, true)] rfl (np_seq np_rt) (by kernel_rfl) (by kernel_rfl) (by kernel_rfl) (by kernel_rfl) (by kernel_rfl) (by kernel_rfl) (by kernel_rfl) (by kernel_rfl) ?_
  refine jd_mv rfl rfl rfl rfl ?_
  refine jd_y rfl (fun w hs => yv_fieldAddr rfl) rfl rfl ?_
  refine jd_y rfl (fun w hs => yv_fieldAddr rfl) rfl rfl ?_
  refine jd_y rfl (fun w hs => yv_load rfl (ld1B (hs.blk (i := 2) rfl) rfl)) rfl rfl ?_
  refine jd_y rfl (fun w hs => yv_fieldAddr rfl) rfl rfl ?_
  refine jd_y rfl (fun w hs => yv_fieldAddr rfl) rfl rfl ?_
  refine jd_y rfl (fun w hs => yv_load rfl (ld1B (hs.blk (i := 2) rfl) rfl)) rfl rfl ?_
  refine jd_mv rfl rfl rfl rfl ?_
  refine jd_y rfl (fun w hs => yv_fieldAddr rfl) rfl rfl ?_
  refine jd_y rfl (fun w hs => yv_fieldAddr rfl) rfl rfl ?_
  refine jd_y rfl (fun w hs => yv_load rfl (ld1B (hs.blk (i := 2) rfl) rfl)) rfl rfl ?_
  refine jd_y rfl (fun w hs => yv_fieldAddr rfl) rfl rfl ?_
  refine jd_y rfl (fun w hs => yv_fieldAddr rfl) rfl rfl ?_
  refine jd_y rfl (fun w hs => yv_load rfl (ld1B (hs.blk (i := 2) rfl) rfl)) rfl rfl ?_
  refine jd_h rfl ?_
  refine jl_c 1 rfl rfl (fun v w hs hm => gen_Maker_From_c hm (hs.blkL (i := 1) rfl) (hs.arg Rha0) (hs.offAL 1 Rha0 rfl)) (fun _ => rfl) rfl rfl fun v28 q29 => ?_
  refine jg_L (r5 rfl) ?_
  refine jg_nil ?_
  refine jk_dn [0, 2, 3, 4] rfl ?_
  refine jd_h rfl ?_
  refine jl_c 1 rfl rfl (fun v w hs hm => gen_Maker_From_c hm (hs.blkL (i := 1) rfl) (hs.arg Rha0) (hs.offAL 1 Rha0 rfl)) (fun _ => rfl) rfl rfl fun v30 q31 => ?_
  refine jg_L (r5 rfl) ?_
  refine jg_nil ?_
  refine jk_dn [0, 2, 3, 4] rfl ?_
  refine jd_as rfl rfl rfl rfl ?_
  refine jd_as rfl rfl rfl rfl ?_
  refine jd_nils [(4, _), (6, _), (7, _), (8, _), (9, _), (13, _), (14, _), (15, _), (16, _)] ⟨rfl, rfl, rfl, rfl, rfl, rfl, rfl, rfl, rfl, trivial⟩ ?_
  refine jk_sel (is := [0, 2, 4]) (s3 rfl) rfl ?_
  refine jk_sn ?_
  refine jn_seq ?_
  refine jn_reg 16 ?_
  refine jg_mv rfl rfl rfl ?_
  refine jg_mv rfl rfl rfl ?_
  refine jg_mv rfl rfl rfl ?_
  refine jg_mv rfl rfl rfl ?_
  refine jg_mv rfl rfl rfl ?_
  refine jg_y (fun w hs => yv_build rfl (o2 rfl)) rfl rfl ?_
  refine jg_mv rfl rfl rfl ?_
  refine jg_mv rfl rfl rfl ?_
  refine jg_y (fun w hs => yv_build rfl (o2 rfl)) rfl rfl ?_
  refine jg_y (fun w hs => yv_build rfl (o4 rfl)) rfl rfl ?_
  refine jg_c0 rfl (fun v w hs hm => resistance_Class_c (a3 := (Weather.mk (Interval.mk v28.1 v28.1) (Interval.mk v30.1 v30.1))) hm (hs.row 1 rfl)) rfl rfl fun v32 => ?_
  refine jg_mv rfl rfl rfl ?_
  refine jg_y (fun w hs => yv_extract rfl rfl) rfl rfl ?_
  refine jg_y (fun w hs => yv_extract rfl rfl) rfl rfl ?_
  refine jg_alloc (l2 rfl) rfl rfl fun g33 => ?_
  refine jg_store 0 rfl rfl rfl (l2 rfl) rfl rfl rfl rfl (l2 rfl) (r4 rfl) ?_
  refine jg_as rfl rfl rfl ?_
  refine jg_nils [(8, _), (9, _), (13, _), (14, _), (17, _), (18, _)] ⟨rfl, rfl, rfl, rfl, rfl, rfl, trivial⟩ ?_
  refine jk_sn ?_
  refine jn_seq ?_
  refine jn_reg 17 ?_
  refine jg_mv rfl rfl rfl ?_
  refine jg_y (fun w hs => yv_eql rfl rfl) rfl rfl ?_
  refine jg_mv rfl rfl rfl ?_
  refine jg_split 128 rfl ?_ ?_
  rotate_left
  · refine jg_skip rfl rfl ?_
    refine jg_skip rfl rfl ?_
    refine jg_y (fun w hs => yv_pick_f rfl rfl) rfl rfl ?_
    refine jg_mv rfl rfl rfl ?_
    refine jg_skip rfl rfl ?_
    refine jg_skip rfl rfl ?_
    refine jg_y (fun w hs => yv_pick_f rfl rfl) rfl rfl ?_
    refine jg_mv rfl rfl rfl ?_
    refine jg_skip rfl rfl ?_
    refine jg_skip rfl rfl ?_
    refine jg_skip rfl rfl ?_
    refine jg_y (fun w hs => yv_pick_f rfl rfl) rfl rfl ?_
    refine jg_mv rfl rfl rfl ?_
    refine jg_skip rfl rfl ?_
    refine jg_skip rfl rfl ?_
    refine jg_skip rfl rfl ?_
    refine jg_y (fun w hs => yv_pick_f rfl rfl) rfl rfl ?_
    refine jg_mv rfl rfl rfl ?_
    refine jg_skip rfl rfl ?_
    refine jg_skip rfl rfl ?_
    refine jg_skip rfl rfl ?_
    refine jg_y (fun w hs => yv_pick_f rfl rfl) rfl rfl ?_
    refine jg_mv rfl rfl rfl ?_
    refine jg_skip rfl rfl ?_
    refine jg_skip rfl rfl ?_
    refine jg_skip rfl rfl ?_
    refine jg_y (fun w hs => yv_pick_f rfl rfl) rfl rfl ?_
    refine jg_mv rfl rfl rfl ?_
    refine jg_skip rfl rfl ?_
    refine jg_y (fun w hs => yv_pick_f rfl rfl) rfl rfl ?_
    refine jg_as rfl rfl rfl ?_
    refine jg_nils [(2, _)] ⟨rfl, trivial⟩ ?_
    refine jk_sel (is := []) (s0 rfl) rfl ?_
    refine jk_sn ?_
    refine jn_ret ?_
    exact jk_ret1 rfl (fun w hs => .tmp rfl) (fun w hs => ⟨rfl, hs.drop⟩)
  refine jg_mv rfl rfl rfl ?_
  refine jg_y (fun w hs => yv_eql rfl rfl) rfl rfl ?_
  refine jg_y (fun w hs => yv_pick_t rfl rfl) rfl rfl ?_
  refine jg_mv rfl rfl rfl ?_
  refine jg_split 132 rfl ?_ ?_
  rotate_left
  · refine jg_skip rfl rfl ?_
    refine jg_skip rfl rfl ?_
    refine jg_y (fun w hs => yv_pick_f rfl rfl) rfl rfl ?_
    refine jg_mv rfl rfl rfl ?_
    refine jg_skip rfl rfl ?_
    refine jg_skip rfl rfl ?_
    refine jg_skip rfl rfl ?_
    refine jg_y (fun w hs => yv_pick_f rfl rfl) rfl rfl ?_
    refine jg_mv rfl rfl rfl ?_
    refine jg_skip rfl rfl ?_
    refine jg_skip rfl rfl ?_
    refine jg_skip rfl rfl ?_
    refine jg_y (fun w hs => yv_pick_f rfl rfl) rfl rfl ?_
    refine jg_mv rfl rfl rfl ?_
    refine jg_skip rfl rfl ?_
    refine jg_skip rfl rfl ?_
    refine jg_skip rfl rfl ?_
    refine jg_y (fun w hs => yv_pick_f rfl rfl) rfl rfl ?_
    refine jg_mv rfl rfl rfl ?_
    refine jg_skip rfl rfl ?_
    refine jg_skip rfl rfl ?_
    refine jg_skip rfl rfl ?_
    refine jg_y (fun w hs => yv_pick_f rfl rfl) rfl rfl ?_
    refine jg_mv rfl rfl rfl ?_
    refine jg_skip rfl rfl ?_
    refine jg_y (fun w hs => yv_pick_f rfl rfl) rfl rfl ?_
    refine jg_as rfl rfl rfl ?_
    refine jg_nils [(2, _)] ⟨rfl, trivial⟩ ?_
    refine jk_sel (is := []) (s0 rfl) rfl ?_
    refine jk_sn ?_
    refine jn_ret ?_
    exact jk_ret1 rfl (fun w hs => .tmp rfl) (fun w hs => ⟨rfl, hs.drop⟩)
  refine jg_mv rfl rfl rfl ?_
  refine jg_y (fun w hs => yv_eql rfl rfl) rfl rfl ?_
  refine jg_y (fun w hs => yv_pick_t rfl rfl) rfl rfl ?_
  refine jg_mv rfl rfl rfl ?_
  refine jg_split 136 rfl ?_ ?_
  rotate_left
  · refine jg_skip rfl rfl ?_
    refine jg_skip rfl rfl ?_
    refine jg_skip rfl rfl ?_
    refine jg_y (fun w hs => yv_pick_f rfl rfl) rfl rfl ?_
    refine jg_mv rfl rfl rfl ?_
    refine jg_skip rfl rfl ?_
    refine jg_skip rfl rfl ?_
    refine jg_skip rfl rfl ?_
    refine jg_y (fun w hs => yv_pick_f rfl rfl) rfl rfl ?_
    refine jg_mv rfl rfl rfl ?_
    refine jg_skip rfl rfl ?_
    refine jg_skip rfl rfl ?_
    refine jg_skip rfl rfl ?_
    refine jg_y (fun w hs => yv_pick_f rfl rfl) rfl rfl ?_
    refine jg_mv rfl rfl rfl ?_
    refine jg_skip rfl rfl ?_
    refine jg_skip rfl rfl ?_
    refine jg_skip rfl rfl ?_
    refine jg_y (fun w hs => yv_pick_f rfl rfl) rfl rfl ?_
    refine jg_mv rfl rfl rfl ?_
    refine jg_skip rfl rfl ?_
    refine jg_y (fun w hs => yv_pick_f rfl rfl) rfl rfl ?_
    refine jg_as rfl rfl rfl ?_
    refine jg_nils [(2, _)] ⟨rfl, trivial⟩ ?_
    refine jk_sel (is := []) (s0 rfl) rfl ?_
    refine jk_sn ?_
    refine jn_ret ?_
    exact jk_ret1 rfl (fun w hs => .tmp rfl) (fun w hs => ⟨rfl, hs.drop⟩)
  refine jg_y (fun w hs => yv_load rfl (ldBB (hs.blkL (i := 3) rfl) rfl)) rfl rfl ?_
  refine jg_y (fun w hs => yv_load rfl (ldBB (hs.blkL (i := 1) rfl) rfl)) rfl rfl ?_
  refine jg_c0 rfl (fun v w hs hm => interval_Within_c (a0 := v12.1) (a1 := v26.1) hm ) rfl rfl fun v34 => ?_
  refine jg_y (fun w hs => yv_pick_t rfl rfl) rfl rfl ?_
  refine jg_mv rfl rfl rfl ?_
  refine jg_split 141 rfl ?_ ?_
  rotate_left
  · refine jg_skip rfl rfl ?_
    refine jg_skip rfl rfl ?_
    refine jg_skip rfl rfl ?_
    refine jg_y (fun w hs => yv_pick_f rfl rfl) rfl rfl ?_
    refine jg_mv rfl rfl rfl ?_
    refine jg_skip rfl rfl ?_
    refine jg_skip rfl rfl ?_
    refine jg_skip rfl rfl ?_
    refine jg_y (fun w hs => yv_pick_f rfl rfl) rfl rfl ?_
    refine jg_mv rfl rfl rfl ?_
    refine jg_skip rfl rfl ?_
    refine jg_skip rfl rfl ?_
    refine jg_skip rfl rfl ?_
    refine jg_y (fun w hs => yv_pick_f rfl rfl) rfl rfl ?_
    refine jg_mv rfl rfl rfl ?_
    refine jg_skip rfl rfl ?_
    refine jg_y (fun w hs => yv_pick_f rfl rfl) rfl rfl ?_
    refine jg_as rfl rfl rfl ?_
    refine jg_nils [(2, _)] ⟨rfl, trivial⟩ ?_
    refine jk_sel (is := []) (s0 rfl) rfl ?_
    refine jk_sn ?_
    refine jn_ret ?_
    exact jk_ret1 rfl (fun w hs => .tmp rfl) (fun w hs => ⟨rfl, hs.drop⟩)
  refine jg_y (fun w hs => yv_load rfl (ldBB (hs.blkL (i := 0) rfl) rfl)) rfl rfl ?_
  refine jg_y (fun w hs => yv_load rfl (ldBB (hs.blkL (i := 3) rfl) rfl)) rfl rfl ?_
  refine jg_c0 rfl (fun v w hs hm => interval_Within_c (a0 := v32.1) (a1 := v12.1) hm ) rfl rfl fun v35 => ?_
  refine jg_y (fun w hs => yv_pick_t rfl rfl) rfl rfl ?_
  refine jg_mv rfl rfl rfl ?_
  refine jg_split 146 rfl ?_ ?_
  rotate_left
  · refine jg_skip rfl rfl ?_
    refine jg_skip rfl rfl ?_
    refine jg_skip rfl rfl ?_
    refine jg_y (fun w hs => yv_pick_f rfl rfl) rfl rfl ?_
    refine jg_mv rfl rfl rfl ?_
    refine jg_skip rfl rfl ?_
    refine jg_skip rfl rfl ?_
    refine jg_skip rfl rfl ?_
    refine jg_y (fun w hs => yv_pick_f rfl rfl) rfl rfl ?_
    refine jg_mv rfl rfl rfl ?_
    refine jg_skip rfl rfl ?_
    refine jg_y (fun w hs => yv_pick_f rfl rfl) rfl rfl ?_
    refine jg_as rfl rfl rfl ?_
    refine jg_nils [(2, _)] ⟨rfl, trivial⟩ ?_
    refine jk_sel (is := []) (s0 rfl) rfl ?_
    refine jk_sn ?_
    refine jn_ret ?_
    exact jk_ret1 rfl (fun w hs => .tmp rfl) (fun w hs => ⟨rfl, hs.drop⟩)
  refine jg_y (fun w hs => yv_fieldAddr rfl) rfl rfl ?_
  refine jg_y (fun w hs => yv_load rfl (ld1B (hs.blkL (i := 3) rfl) rfl)) rfl rfl ?_
  refine jg_y (fun w hs => yv_geq rfl rfl) rfl rfl ?_
  refine jg_y (fun w hs => yv_pick_t rfl rfl) rfl rfl ?_
  refine jg_mv rfl rfl rfl ?_
  refine jg_split 151 rfl ?_ ?_
  rotate_left
  · refine jg_skip rfl rfl ?_
    refine jg_skip rfl rfl ?_
    refine jg_skip rfl rfl ?_
    refine jg_y (fun w hs => yv_pick_f rfl rfl) rfl rfl ?_
    refine jg_mv rfl rfl rfl ?_
    refine jg_skip rfl rfl ?_
    refine jg_y (fun w hs => yv_pick_f rfl rfl) rfl rfl ?_
    refine jg_as rfl rfl rfl ?_
    refine jg_nils [(2, _)] ⟨rfl, trivial⟩ ?_
    refine jk_sel (is := []) (s0 rfl) rfl ?_
    refine jk_sn ?_
    refine jn_ret ?_
    exact jk_ret1 rfl (fun w hs => .tmp rfl) (fun w hs => ⟨rfl, hs.drop⟩)
  refine jg_y (fun w hs => yv_fieldAddr rfl) rfl rfl ?_
  refine jg_y (fun w hs => yv_load rfl (ld1B (hs.blkL (i := 3) rfl) rfl)) rfl rfl ?_
  refine jg_y (fun w hs => yv_leq rfl rfl) rfl rfl ?_
  refine jg_y (fun w hs => yv_pick_t rfl rfl) rfl rfl ?_
  refine jg_mv rfl rfl rfl ?_
  refine jg_split 156 rfl ?_ ?_
  · refine jg_c0 rfl (fun v w hs hm => law19_sane_c hm ) rfl rfl fun v36 => ?_
    refine jg_y (fun w hs => yv_pick_t rfl rfl) rfl rfl ?_
    refine jg_as rfl rfl rfl ?_
    refine jg_nils [(2, _)] ⟨rfl, trivial⟩ ?_
    refine jk_sel (is := []) (s0 rfl) rfl ?_
    refine jk_sn ?_
    refine jn_ret ?_
    exact jk_ret1 rfl (fun w hs => .tmp rfl) (fun w hs => ⟨rfl, hs.drop⟩)
  refine jg_skip rfl rfl ?_
  refine jg_y (fun w hs => yv_pick_f rfl rfl) rfl rfl ?_
  refine jg_as rfl rfl rfl ?_
  refine jg_nils [(2, _)] ⟨rfl, trivial⟩ ?_
  refine jk_sel (is := []) (s0 rfl) rfl ?_
  refine jk_sn ?_
  refine jn_ret ?_
  exact jk_ret1 rfl (fun w hs => .tmp rfl) (fun w hs => ⟨rfl, hs.drop⟩)
theorem gen_Maker_Valid_c {w : World} {a0 : HumpgenMaker} {ha0_fl : Hd} {b0 : Nat} {v : (Interval × Int)} (hm : gen_Maker_Valid a0 = some v) (Hb : Blk w b0 84 [ha0_fl.v, .int .i64 a0.fn]) (Rha0_fl : Sl w ha0_fl encI a0.fl) (Oha0_fl : Offs ha0_fl [b0]) : Calls Try.prog 39 ([.pointer (some ⟨b0, 0, none⟩)] : List Value).toArray w (fun e w' => ∃ g : Unit, e = .returned (.agg #[.int .i64 v.1.Lo, .int .i64 v.1.Hi]) ∧ St w w' [.blk b0 84 [ha0_fl.v, .int .i64 v.2]] []) := by
  refine j_enter (vs := [.pointer (some ⟨b0, 0, none⟩)]) (R := fun (v : (Interval × Int)) (e : Ending) (w' : World) => ∃ g : Unit, e = .returned (.agg #[.int .i64 v.1.Lo, .int .i64 v.1.Hi]) ∧ St w w' [.blk b0 84 [ha0_fl.v, .int .i64 v.2]] []) Try.func39 rfl Try.ntmps39 rfl rfl (mk_st Hb) hm ?_
  unfold gen_Maker_Valid
  clear hm
  refine jn_seq ?_
  refine jn_reg 0 ?_
  refine jg_alloc (l2 rfl) rfl rfl fun g1 => ?_
  refine jg_nils [(0, _), (2, _)] ⟨rfl, rfl, trivial⟩ ?_
  refine jk_sn ?_
  refine jn_seq ?_
  refine jn_reg 1 ?_
  refine jg_mv rfl rfl rfl ?_
  refine jm_c rfl (fun v w hs hm => gen_Maker_From_c hm (hs.blkM (i := 0) rfl) (hs.argM Rha0_fl Oha0_fl) Oha0_fl) (fun _ => rfl) rfl rfl fun v2 q3 => ?_
  refine jg_as rfl rfl rfl ?_
  refine jg_nils [(0, _), (2, _), (3, _)] ⟨rfl, rfl, rfl, trivial⟩ ?_
  refine jk_sn ?_
  refine jn_seq ?_
  refine jn_reg 2 ?_
  refine jg_mv rfl rfl rfl ?_
  refine jg_mv rfl rfl rfl ?_
  refine jg_mv rfl rfl rfl ?_
  refine jm_c rfl (fun v w hs hm => gen_Maker_Next_c hm (hs.blkM (i := 0) rfl) (hs.argM Rha0_fl Oha0_fl) Oha0_fl) (fun _ => rfl) rfl rfl fun v4 q5 => ?_
  refine jg_y (fun w hs => yv_add_w rfl rfl) rfl rfl ?_
  refine jg_y (fun w hs => yv_build rfl (o2 rfl)) rfl rfl ?_
  refine jg_store 0 rfl rfl rfl (l2 rfl) rfl rfl rfl rfl (l2 rfl) (r1 rfl) ?_
  refine jg_nils [(2, _)] ⟨rfl, trivial⟩ ?_
  refine jk_sn ?_
  refine jn_ret ?_
  exact jk_ret1 rfl (fun w hs => .cell rfl (ldBB (hs.blkL (i := 0) rfl) rfl)) (fun w hs => ⟨(), rfl, hs.sel (is := []) rfl rfl⟩)
theorem gen_Maker_Pieces_c {w : World} {a0 : HumpgenMaker} {a1 : Int} {ha0_fl : Hd} {b0 : Nat} {v : ((List Piece) × Int)} (hm : gen_Maker_Pieces a0 a1 = some v) (Hb : Blk w b0 84 [ha0_fl.v, .int .i64 a0.fn]) (Rha0_fl : Sl w ha0_fl encI a0.fl) (Oha0_fl : Offs ha0_fl [b0]) : Calls Try.prog 40 ([.pointer (some ⟨b0, 0, none⟩), .int .i64 a1] : List Value).toArray w (fun e w' => ∃ g : Hd, e = .returned (g.v) ∧ St w w' [.blk b0 84 [ha0_fl.v, .int .i64 v.2]] [(rowH g 77 5 Piece.enc v.1)]) := by
  refine j_enter (vs := [.pointer (some ⟨b0, 0, none⟩), .int .i64 a1]) (R := fun (v : ((List Piece) × Int)) (e : Ending) (w' : World) => ∃ g : Hd, e = .returned (g.v) ∧ St w w' [.blk b0 84 [ha0_fl.v, .int .i64 v.2]] [(rowH g 77 5 Piece.enc v.1)]) Try.func40 rfl Try.ntmps40 rfl rfl (mk_st Hb) hm ?_
  unfold gen_Maker_Pieces
  clear hm
  refine jn_seq ?_
  refine jn_reg 0 ?_
  refine jg_as rfl rfl rfl ?_
  refine jg_nils [(0, _), (1, _)] ⟨rfl, rfl, trivial⟩ ?_
  refine jk_sn ?_
  refine jn_seq ?_
  refine jn_reg 1 ?_
  refine jg_as rfl rfl rfl ?_
  refine jg_nils [(0, _), (1, _), (5, _)] ⟨rfl, rfl, rfl, trivial⟩ ?_
  refine jk_sn ?_
  refine jn_seq ?_
  refine jn_seq ?_
  refine jn_reg 2 ?_
  refine jg_mv rfl rfl rfl ?_
  refine jg_mv rfl rfl rfl ?_
  refine jm_c rfl (fun v w hs hm => gen_Maker_Next_c hm (hs.blkM (i := 0) rfl) (hs.argM Rha0_fl Oha0_fl) Oha0_fl) (fun _ => rfl) rfl rfl fun v1 q2 => ?_
  refine jg_y (fun w hs => yv_add_w rfl rfl) rfl rfl ?_
  refine jg_as rfl rfl rfl ?_
  refine jg_nils [(0, _), (5, _), (6, _)] ⟨rfl, rfl, rfl, trivial⟩ ?_
  refine jk_sn ?_
  refine jn_block ?_
  refine jn_addnil 77 5 Piece.enc ?_
  refine jn_lp (n := big) (fun (s : ((List Piece) × Int × Int)) (g : Hd) => [(0, .pointer (some ⟨b0, 0, none⟩)), (5, g.v), (6, .int .i64 s.2.1)]) (fun (s : ((List Piece) × Int × Int)) (g : Hd) => [(Res.blk b0 84 [ha0_fl.v, .int .i64 s.2.2])]) (fun (s : ((List Piece) × Int × Int)) (g : Hd) => [(rowH g 77 5 Piece.enc s.1)]) (([] : List Piece), w64 (1 + v1.1), v1.2) (Hd.mk none 0 0) [0] ⟨rfl, rfl, rfl, trivial⟩ rfl rfl rfl ?_
  intro z3 q4 n7 k5 H6
  refine jn_seq ?_
  refine jn_seq ?_
  refine jn_reg 3 ?_
  refine jg_mv rfl rfl rfl ?_
  refine jg_y (fun w hs => yv_gtr rfl rfl) rfl rfl ?_
  refine jg_nils [(0, _), (5, _), (6, _), (13, _)] ⟨rfl, rfl, rfl, rfl, trivial⟩ ?_
  refine jk_sn ?_
  refine jn_cond rfl ?_ ?_
  rotate_left
  · refine jn_exit ?_
    refine jk_se (jk_le (jk_bh (jk_sn ?_)))
    refine jn_seq ?_
    refine jn_reg 9 ?_
    refine jg_mv rfl rfl rfl ?_
    refine jg_as rfl rfl rfl ?_
    refine jg_nils [(4, _)] ⟨rfl, trivial⟩ ?_
    refine jk_sn ?_
    refine jn_ret ?_
    exact jk_ret1 rfl (fun w hs => .tmp rfl) (fun w hs => ⟨q4, rfl, hs.sel (is := [0]) rfl rfl⟩)
  refine jn_skip ?_
  refine jk_sn ?_
  refine jn_seq ?_
  refine jn_block ?_
  refine jn_seq ?_
  refine jn_reg 5 ?_
  refine jg_mv rfl rfl rfl ?_
  refine jg_y (fun w hs => yv_ln rfl (hs.row 0 rfl)) rfl rfl ?_
  refine jg_y (fun w hs => yv_add_w rfl rfl) rfl rfl ?_
  refine jg_mv rfl rfl rfl ?_
  refine jg_lit (enc := encI) [1, 1000, 5000, 9000, 30000, 100000] rfl rfl rfl rfl rfl rfl rfl rfl fun hd8 => ?_
  refine jm_c rfl (fun v w hs hm => gen_Maker_Pick_c hm (hs.blkM (i := 0) rfl) (hs.argM Rha0_fl Oha0_fl) Oha0_fl (hs.row 0 rfl) (hs.offML 0 0 rfl rfl)) (fun _ => rfl) rfl rfl fun v9 q10 => ?_
  refine jg_mv rfl rfl rfl ?_
  refine jg_lit (enc := encI) [0, 100, (-150), 400, 1000, 3500, 5000] rfl rfl rfl rfl rfl rfl rfl rfl fun hd11 => ?_
  refine jm_c rfl (fun v w hs hm => gen_Maker_Pick_c hm (hs.blkM (i := 0) rfl) (hs.argM Rha0_fl Oha0_fl) Oha0_fl (hs.row 0 rfl) (hs.offML 0 0 rfl rfl)) (fun _ => rfl) rfl rfl fun v12 q13 => ?_
  refine jg_mv rfl rfl rfl ?_
  refine jg_lit (enc := encI) [0, 0, 20, 150] rfl rfl rfl rfl rfl rfl rfl rfl fun hd14 => ?_
  refine jm_c rfl (fun v w hs hm => gen_Maker_Pick_c hm (hs.blkM (i := 0) rfl) (hs.argM Rha0_fl Oha0_fl) Oha0_fl (hs.row 0 rfl) (hs.offML 0 0 rfl rfl)) (fun _ => rfl) rfl rfl fun v15 q16 => ?_
  refine jg_y (fun w hs => yv_build rfl (o5 rfl)) rfl rfl ?_
  refine jg_alloc (l5 rfl) rfl rfl fun g17 => ?_
  refine jg_store 0 rfl rfl rfl (l5 rfl) rfl rfl rfl rfl (l5 rfl) (r5 rfl) ?_
  refine jg_nils [(0, _), (5, _), (6, _), (7, _)] ⟨rfl, rfl, rfl, rfl, trivial⟩ ?_
  refine jk_sel (is := [0, 4]) (s2 rfl) rfl ?_
  refine jk_sn ?_
  refine jn_seq ?_
  refine jn_seq ?_
  refine jn_reg 6 ?_
  refine jg_mv rfl rfl rfl ?_
  refine jm_c rfl (fun v w hs hm => gen_Maker_Next_c hm (hs.blkM (i := 0) rfl) (hs.argM Rha0_fl Oha0_fl) Oha0_fl) (fun _ => rfl) rfl rfl fun v18 q19 => ?_
  refine jg_y (fun w hs => yv_eql rfl rfl) rfl rfl ?_
  refine jg_nils [(0, _), (5, _), (6, _), (7, _), (31, _)] ⟨rfl, rfl, rfl, rfl, rfl, trivial⟩ ?_
  refine jk_sn ?_
  refine jn_cond rfl ?_ ?_
  rotate_left
  · refine jn_skip ?_
    refine jk_sn ?_
    refine jn_reg 8 ?_
    refine jg_mv rfl rfl rfl ?_
    refine jg_y (fun w hs => yv_load rfl (ldBB (hs.blkL (i := 0) rfl) rfl)) rfl rfl ?_
    refine jg_lit (enc := Piece.enc) [(Piece.mk (w64 ((z3.1.length : Int) + 1)) v9.1 v12.1 v15.1 0)] rfl rfl rfl rfl rfl rfl rfl rfl fun hd26 => ?_
    refine jg_append 2 rfl rfl rfl (fun w hs => (hs.row 0 rfl)) rfl rfl rfl fun y27 hd28 => ?_
    refine jg_L (r3 rfl) ?_
    refine jg_as rfl rfl rfl ?_
    refine jg_nils [(0, _), (5, _), (6, _)] ⟨rfl, rfl, rfl, trivial⟩ ?_
    refine jk_sel (is := [2]) (s1 rfl) rfl ?_
    refine jk_bn (jk_sn ?_)
    refine jn_reg 4 ?_
    refine jg_mv rfl rfl rfl ?_
    refine jg_y (fun w hs => yv_sub_w rfl rfl) rfl rfl ?_
    refine jg_as rfl rfl rfl ?_
    refine jg_nils [(0, _), (5, _), (6, _)] ⟨rfl, rfl, rfl, trivial⟩ ?_
    exact jk_use H6 (y27, w64 (z3.2.1 - 1), v18.2) hd28 [0] ⟨rfl, rfl, rfl, trivial⟩ rfl rfl rfl
  refine jn_reg 7 ?_
  refine jg_mv rfl rfl rfl ?_
  refine jg_lit (enc := encI) [1, 500000, 2000000, 8000000, 30000000] rfl rfl rfl rfl rfl rfl rfl rfl fun hd20 => ?_
  refine jm_c rfl (fun v w hs hm => gen_Maker_Pick_c hm (hs.blkM (i := 0) rfl) (hs.argM Rha0_fl Oha0_fl) Oha0_fl (hs.row 0 rfl) (hs.offML 0 0 rfl rfl)) (fun _ => rfl) rfl rfl fun v21 q22 => ?_
  refine jg_y (fun w hs => yv_fieldAddr rfl) rfl rfl ?_
  refine jg_store 1 rfl rfl rfl (l1 rfl) rfl rfl rfl rfl (l5 rfl) (r3 rfl) ?_
  refine jg_nils [(0, _), (5, _), (6, _), (7, _)] ⟨rfl, rfl, rfl, rfl, trivial⟩ ?_
  refine jk_sn ?_
  refine jn_reg 8 ?_
  refine jg_mv rfl rfl rfl ?_
  refine jg_y (fun w hs => yv_load rfl (ldBB (hs.blkL (i := 1) rfl) rfl)) rfl rfl ?_
  refine jg_lit (enc := Piece.enc) [(Piece.mk (w64 ((z3.1.length : Int) + 1)) v9.1 v12.1 v15.1 v21.1)] rfl rfl rfl rfl rfl rfl rfl rfl fun hd23 => ?_
  refine jg_append 3 rfl rfl rfl (fun w hs => (hs.row 0 rfl)) rfl rfl rfl fun y24 hd25 => ?_
  refine jg_L (r4 rfl) ?_
  refine jg_as rfl rfl rfl ?_
  refine jg_nils [(0, _), (5, _), (6, _)] ⟨rfl, rfl, rfl, trivial⟩ ?_
  refine jk_sel (is := [3]) (s1 rfl) rfl ?_
  refine jk_bn (jk_sn ?_)
  refine jn_reg 4 ?_
  refine jg_mv rfl rfl rfl ?_
  refine jg_y (fun w hs => yv_sub_w rfl rfl) rfl rfl ?_
  refine jg_as rfl rfl rfl ?_
  refine jg_nils [(0, _), (5, _), (6, _)] ⟨rfl, rfl, rfl, trivial⟩ ?_
  exact jk_use H6 (y24, w64 (z3.2.1 - 1), v21.2) hd25 [0] ⟨rfl, rfl, rfl, trivial⟩ rfl rfl rfl
theorem gen_Maker_Interval_c {w : World} {a0 : HumpgenMaker} {ha0_fl : Hd} {b0 : Nat} {v : (Interval × Int)} (hm : gen_Maker_Interval a0 = some v) (Hb : Blk w b0 84 [ha0_fl.v, .int .i64 a0.fn]) (Rha0_fl : Sl w ha0_fl encI a0.fl) (Oha0_fl : Offs ha0_fl [b0]) : Calls Try.prog 41 ([.pointer (some ⟨b0, 0, none⟩)] : List Value).toArray w (fun e w' => ∃ g : Unit, e = .returned (.agg #[.int .i64 v.1.Lo, .int .i64 v.1.Hi]) ∧ St w w' [.blk b0 84 [ha0_fl.v, .int .i64 v.2]] []) := by
  refine j_enter (vs := [.pointer (some ⟨b0, 0, none⟩)]) (R := fun (v : (Interval × Int)) (e : Ending) (w' : World) => ∃ g : Unit, e = .returned (.agg #[.int .i64 v.1.Lo, .int .i64 v.1.Hi]) ∧ St w w' [.blk b0 84 [ha0_fl.v, .int .i64 v.2]] []) Try.func41 rfl Try.ntmps41 rfl rfl (mk_st Hb) hm ?_
  unfold gen_Maker_Interval
  clear hm
  refine jn_seq ?_
  refine jn_reg 0 ?_
  refine jg_alloc (l2 rfl) rfl rfl fun g1 => ?_
  refine jg_nils [(0, _), (2, _)] ⟨rfl, rfl, trivial⟩ ?_
  refine jk_sn ?_
  refine jn_seq ?_
  refine jn_reg 1 ?_
  refine jg_mv rfl rfl rfl ?_
  refine jg_lit (enc := encI) [0, 1, (-1), 2, (-5), 17, (-40), 1000, (-1000000000000), 1000000000000, 999999, (-1000000)] rfl rfl rfl rfl rfl rfl rfl rfl fun hd2 => ?_
  refine jm_c rfl (fun v w hs hm => gen_Maker_Pick_c hm (hs.blkM (i := 0) rfl) (hs.argM Rha0_fl Oha0_fl) Oha0_fl (hs.row 0 rfl) (hs.offML 0 0 rfl rfl)) (fun _ => rfl) rfl rfl fun v3 q4 => ?_
  refine jg_as rfl rfl rfl ?_
  refine jg_nils [(0, _), (2, _), (3, _)] ⟨rfl, rfl, rfl, trivial⟩ ?_
  refine jk_sn ?_
  refine jn_seq ?_
  refine jn_reg 2 ?_
  refine jg_mv rfl rfl rfl ?_
  refine jg_lit (enc := encI) [0, 1, 2, 3, 10, 100, 12345, 1000000000000, 2000000000000] rfl rfl rfl rfl rfl rfl rfl rfl fun hd5 => ?_
  refine jm_c rfl (fun v w hs hm => gen_Maker_Pick_c hm (hs.blkM (i := 0) rfl) (hs.argM Rha0_fl Oha0_fl) Oha0_fl (hs.row 0 rfl) (hs.offML 0 0 rfl rfl)) (fun _ => rfl) rfl rfl fun v6 q7 => ?_
  refine jg_as rfl rfl rfl ?_
  refine jg_nils [(0, _), (2, _), (3, _), (4, _)] ⟨rfl, rfl, rfl, rfl, trivial⟩ ?_
  refine jk_sel (is := [2]) (s1 rfl) rfl ?_
  refine jk_sn ?_
  refine jn_seq ?_
  refine jn_seq ?_
  refine jn_reg 3 ?_
  refine jg_mv rfl rfl rfl ?_
  refine jm_c rfl (fun v w hs hm => gen_Maker_Next_c hm (hs.blkM (i := 0) rfl) (hs.argM Rha0_fl Oha0_fl) Oha0_fl) (fun _ => rfl) rfl rfl fun v8 q9 => ?_
  refine jg_y (fun w hs => yv_eql rfl rfl) rfl rfl ?_
  refine jg_nils [(0, _), (2, _), (3, _), (4, _), (13, _)] ⟨rfl, rfl, rfl, rfl, rfl, trivial⟩ ?_
  refine jk_sn ?_
  refine jn_cond rfl ?_ ?_
  rotate_left
  · refine jn_skip ?_
    refine jk_sn ?_
    refine jn_seq ?_
    refine jn_reg 5 ?_
    refine jg_mv rfl rfl rfl ?_
    refine jg_mv rfl rfl rfl ?_
    refine jg_mv rfl rfl rfl ?_
    refine jg_y (fun w hs => yv_add_w rfl rfl) rfl rfl ?_
    refine jg_y (fun w hs => yv_build rfl (o2 rfl)) rfl rfl ?_
    refine jg_store 0 rfl rfl rfl (l2 rfl) rfl rfl rfl rfl (l2 rfl) (r1 rfl) ?_
    refine jg_nils [(2, _)] ⟨rfl, trivial⟩ ?_
    refine jk_sn ?_
    refine jn_ret ?_
    exact jk_ret1 rfl (fun w hs => .cell rfl (ldBB (hs.blkL (i := 0) rfl) rfl)) (fun w hs => ⟨(), rfl, hs.sel (is := []) rfl rfl⟩)
  refine jn_seq ?_
  refine jn_reg 4 ?_
  refine jg_mv rfl rfl rfl ?_
  refine jg_mv rfl rfl rfl ?_
  refine jg_y (fun w hs => yv_sub_w rfl rfl) rfl rfl ?_
  refine jg_mv rfl rfl rfl ?_
  refine jm_c rfl (fun v w hs hm => gen_Maker_Next_c hm (hs.blkM (i := 0) rfl) (hs.argM Rha0_fl Oha0_fl) Oha0_fl) (fun _ => rfl) rfl rfl fun v10 q11 => ?_
  refine jg_y (fun w hs => yv_sub_w rfl rfl) rfl rfl ?_
  refine jg_y (fun w hs => yv_build rfl (o2 rfl)) rfl rfl ?_
  refine jg_store 0 rfl rfl rfl (l2 rfl) rfl rfl rfl rfl (l2 rfl) (r1 rfl) ?_
  refine jg_nils [(2, _)] ⟨rfl, trivial⟩ ?_
  refine jk_sn ?_
  refine jn_ret ?_
  refine jk_sr ?_
  exact jk_ret1 rfl (fun w hs => .cell rfl (ldBB (hs.blkL (i := 0) rfl) rfl)) (fun w hs => ⟨(), rfl, hs.sel (is := []) rfl rfl⟩)
theorem resistance_Spread_c {w : World} {a0 : Interval} {a1 : (List Piece)} {ha1 : Hd} {v : ((List Interval) × Int)} (hm : resistance_Spread a0 a1 = some v) (Rha1 : Sl w ha1 Piece.enc a1) : Calls Try.prog 42 ([.agg #[.int .i64 a0.Lo, .int .i64 a0.Hi], ha1.v] : List Value).toArray w (fun e w' => ∃ g : Hd, e = .returned (.tuple #[g.v, .int .i64 v.2]) ∧ St w w' [] [(rowH g 55 2 Interval.enc v.1)]) := by
  refine j_enter (vs := [.agg #[.int .i64 a0.Lo, .int .i64 a0.Hi], ha1.v]) (R := fun (v : ((List Interval) × Int)) (e : Ending) (w' : World) => ∃ g : Hd, e = .returned (.tuple #[g.v, .int .i64 v.2]) ∧ St w w' [] [(rowH g 55 2 Interval.enc v.1)]) Try.func42 rfl Try.ntmps42 rfl rfl (St.refl w) hm ?_
  unfold resistance_Spread
  clear hm
  refine jn_seq ?_
  refine jn_reg 0 ?_
  refine jg_box rfl (l2 rfl) rfl rfl fun g1 => ?_
  refine jg_as rfl rfl rfl ?_
  refine jg_as rfl rfl rfl ?_
  refine jg_nils [(1, _), (2, _)] ⟨rfl, rfl, trivial⟩ ?_
  refine jk_sn ?_
  refine jn_seq ?_
  refine jn_seq ?_
  refine jn_reg 1 ?_
  refine jg_y (fun w hs => yv_load rfl (ldBB (hs.blkL (i := 0) rfl) rfl)) rfl rfl ?_
  refine jg_c0 rfl (fun v w hs hm => interval_Valid_c (a0 := a0) hm ) rfl rfl fun v2 => ?_
  refine jg_y (fun w hs => yv_not rfl) rfl rfl ?_
  refine jg_nils [(1, _), (2, _), (11, _)] ⟨rfl, rfl, rfl, trivial⟩ ?_
  refine jk_sn ?_
  refine jn_cond rfl ?_ ?_
  · refine jn_seq ?_
    refine jn_reg 2 ?_
    refine jg_as rfl rfl rfl ?_
    refine jg_as rfl rfl rfl ?_
    refine jg_nils [(4, _), (5, _)] ⟨rfl, rfl, trivial⟩ ?_
    refine jk_sn ?_
    refine jn_ret ?_
    refine jk_sr ?_
    refine jk_addnil 55 2 Interval.enc ?_
    exact jk_ret2 rfl (fun w hs => .tmp rfl) (fun w hs => .tmp rfl) (fun w hs => ⟨(Hd.mk none 0 0), rfl, hs.sel (is := [0]) rfl rfl⟩)
  refine jn_skip ?_
  refine jk_sn ?_
  refine jn_seq ?_
  refine jn_seq ?_
  refine jn_reg 3 ?_
  refine jg_mv rfl rfl rfl ?_
  refine jg_y (fun w hs => yv_ln rfl (hs.arg Rha1)) rfl rfl ?_
  refine jg_y (fun w hs => yv_gtr rfl rfl) rfl rfl ?_
  refine jg_nils [(1, _), (2, _), (14, _)] ⟨rfl, rfl, rfl, trivial⟩ ?_
  refine jk_sn ?_
  refine jn_cond rfl ?_ ?_
  · refine jn_seq ?_
    refine jn_reg 4 ?_
    refine jg_as rfl rfl rfl ?_
    refine jg_as rfl rfl rfl ?_
    refine jg_nils [(4, _), (5, _)] ⟨rfl, rfl, trivial⟩ ?_
    refine jk_sn ?_
    refine jn_ret ?_
    refine jk_sr ?_
    refine jk_addnil 55 2 Interval.enc ?_
    exact jk_ret2 rfl (fun w hs => .tmp rfl) (fun w hs => .tmp rfl) (fun w hs => ⟨(Hd.mk none 0 0), rfl, hs.sel (is := [0]) rfl rfl⟩)
  refine jn_skip ?_
  refine jk_sn ?_
  refine jn_seq ?_
  refine jn_reg 5 ?_
  refine jg_as rfl rfl rfl ?_
  refine jg_nils [(1, _), (2, _), (6, _)] ⟨rfl, rfl, rfl, trivial⟩ ?_
  refine jk_sn ?_
  refine jn_seq ?_
  refine jn_seq ?_
  refine jn_reg 6 ?_
  refine jg_mv rfl rfl rfl ?_
  refine jg_y (fun w hs => yv_ln rfl (hs.arg Rha1)) rfl rfl ?_
  refine jg_mv rfl rfl rfl ?_
  refine jg_nils [(2, _), (6, _), (15, _), (16, _), (17, _)] ⟨rfl, rfl, rfl, rfl, rfl, trivial⟩ ?_
  refine jk_sn ?_
  refine jn_block ?_
  refine jn_addnil 55 2 Interval.enc ?_
  refine jn_lp (n := big) (fun (s : ((List Interval) × Int)) (g : Hd) => [(2, .pointer (some ⟨g1, 0, none⟩)), (6, g.v), (15, ha1.v), (16, .int .i64 (a1.length : Int)), (17, .int .i64 s.2)]) (fun (s : ((List Interval) × Int)) (g : Hd) => []) (fun (s : ((List Interval) × Int)) (g : Hd) => [(Res.blk g1 55 [.int .i64 a0.Lo, .int .i64 a0.Hi]), (rowH g 55 2 Interval.enc s.1)]) (([] : List Interval), 0) (Hd.mk none 0 0) [1, 0] ⟨rfl, rfl, rfl, rfl, rfl, trivial⟩ rfl rfl rfl ?_
  intro z3 q4 n7 k5 H6
  refine jn_seq ?_
  refine jn_reg 7 ?_
  refine jg_y (fun w hs => yv_lss rfl rfl) rfl rfl ?_
  refine jg_nils [(2, _), (6, _), (15, _), (16, _), (17, _), (18, _)] ⟨rfl, rfl, rfl, rfl, rfl, rfl, trivial⟩ ?_
  refine jk_sn ?_
  refine jn_seq ?_
  refine jn_cond rfl ?_ ?_
  rotate_left
  · refine jn_exit ?_
    refine jk_se (jk_le (jk_bh (jk_sn ?_)))
    refine jn_seq ?_
    refine jn_reg 13 ?_
    refine jg_mv rfl rfl rfl ?_
    refine jg_as rfl rfl rfl ?_
    refine jg_as rfl rfl rfl ?_
    refine jg_nils [(4, _), (5, _)] ⟨rfl, rfl, trivial⟩ ?_
    refine jk_sn ?_
    refine jn_ret ?_
    exact jk_ret2 rfl (fun w hs => .tmp rfl) (fun w hs => .tmp rfl) (fun w hs => ⟨q4, rfl, hs.sel (is := [1]) rfl rfl⟩)
  refine jn_skip ?_
  refine jk_sn ?_
  refine jn_seq ?_
  refine jn_block ?_
  refine jn_seq ?_
  refine jn_reg 8 ?_
  refine jg_ix fun x8 h9 => ?_
  refine jg_y (fun w hs => yv_ix rfl rfl (hs.arg Rha1) h9) rfl rfl ?_
  refine jg_y (fun w hs => yv_eS rfl (hs.arg Rha1) h9.1 (l5 rfl) rfl) rfl rfl ?_
  refine jg_alloc (l5 rfl) rfl rfl fun g10 => ?_
  refine jg_store 0 rfl rfl rfl (l5 rfl) rfl rfl rfl rfl (l5 rfl) (r3 rfl) ?_
  refine jg_nils [(2, _), (6, _), (8, _), (15, _), (16, _), (17, _)] ⟨rfl, rfl, rfl, rfl, rfl, rfl, trivial⟩ ?_
  refine jk_sn ?_
  refine jn_seq ?_
  refine jn_seq ?_
  refine jn_reg 9 ?_
  refine jg_y (fun w hs => yv_fieldAddr rfl) rfl rfl ?_
  refine jg_y (fun w hs => yv_load rfl (ld1B (hs.blkL (i := 0) rfl) rfl)) rfl rfl ?_
  refine jg_y (fun w hs => yv_lss rfl rfl) rfl rfl ?_
  refine jg_mv rfl rfl rfl ?_
  refine jg_split 24 rfl ?_ ?_
  · refine jg_skip rfl rfl ?_
    refine jg_skip rfl rfl ?_
    refine jg_skip rfl rfl ?_
    refine jg_y (fun w hs => yv_pick_t rfl rfl) rfl rfl ?_
    refine jg_nils [(2, _), (6, _), (8, _), (15, _), (16, _), (17, _), (28, _)] ⟨rfl, rfl, rfl, rfl, rfl, rfl, rfl, trivial⟩ ?_
    refine jk_sn ?_
    refine jn_ct rfl ?_
    refine jn_seq ?_
    refine jn_reg 10 ?_
    refine jg_as rfl rfl rfl ?_
    refine jg_as rfl rfl rfl ?_
    refine jg_nils [(4, _), (5, _)] ⟨rfl, rfl, trivial⟩ ?_
    refine jk_sel (is := []) (s0 rfl) rfl ?_
    refine jk_sn ?_
    refine jn_ret ?_
    refine jk_sr (jk_br (jk_sr (jk_lr (jk_br (jk_sr ?_)))))
    refine jk_addnil 55 2 Interval.enc ?_
    exact jk_ret2 rfl (fun w hs => .tmp rfl) (fun w hs => .tmp rfl) (fun w hs => ⟨(Hd.mk none 0 0), rfl, hs.sel (is := [0]) rfl rfl⟩)
  refine jg_y (fun w hs => yv_fieldAddr rfl) rfl rfl ?_
  refine jg_y (fun w hs => yv_load rfl (ld1B (hs.blkL (i := 0) rfl) rfl)) rfl rfl ?_
  refine jg_y (fun w hs => yv_gtr rfl rfl) rfl rfl ?_
  refine jg_y (fun w hs => yv_pick_f rfl rfl) rfl rfl ?_
  refine jg_nils [(2, _), (6, _), (8, _), (15, _), (16, _), (17, _), (28, _)] ⟨rfl, rfl, rfl, rfl, rfl, rfl, rfl, trivial⟩ ?_
  refine jk_sn ?_
  refine jn_cond rfl ?_ ?_
  · refine jn_seq ?_
    refine jn_reg 10 ?_
    refine jg_as rfl rfl rfl ?_
    refine jg_as rfl rfl rfl ?_
    refine jg_nils [(4, _), (5, _)] ⟨rfl, rfl, trivial⟩ ?_
    refine jk_sel (is := []) (s0 rfl) rfl ?_
    refine jk_sn ?_
    refine jn_ret ?_
    refine jk_sr (jk_br (jk_sr (jk_lr (jk_br (jk_sr ?_)))))
    refine jk_addnil 55 2 Interval.enc ?_
    exact jk_ret2 rfl (fun w hs => .tmp rfl) (fun w hs => .tmp rfl) (fun w hs => ⟨(Hd.mk none 0 0), rfl, hs.sel (is := [0]) rfl rfl⟩)
  refine jn_skip ?_
  refine jk_sn ?_
  refine jn_reg 11 ?_
  refine jg_mv rfl rfl rfl ?_
  refine jg_y (fun w hs => yv_fieldAddr rfl) rfl rfl ?_
  refine jg_y (fun w hs => yv_load rfl (ld1B (hs.blkL (i := 1) rfl) rfl)) rfl rfl ?_
  refine jg_y (fun w hs => yv_fieldAddr rfl) rfl rfl ?_
  refine jg_y (fun w hs => yv_load rfl (ld1B (hs.blkL (i := 0) rfl) rfl)) rfl rfl ?_
  refine jg_y (fun w hs => yv_add_w rfl rfl) rfl rfl ?_
  refine jg_y (fun w hs => yv_fieldAddr rfl) rfl rfl ?_
  refine jg_y (fun w hs => yv_load rfl (ld1B (hs.blkL (i := 1) rfl) rfl)) rfl rfl ?_
  refine jg_y (fun w hs => yv_fieldAddr rfl) rfl rfl ?_
  refine jg_y (fun w hs => yv_load rfl (ld1B (hs.blkL (i := 0) rfl) rfl)) rfl rfl ?_
  refine jg_y (fun w hs => yv_add_w rfl rfl) rfl rfl ?_
  refine jg_y (fun w hs => yv_build rfl (o2 rfl)) rfl rfl ?_
  refine jg_c0 rfl (fun v w hs hm => resistance_clip_c (a0 := (Interval.mk (w64 (a0.Lo + x8.Curve)) (w64 (a0.Hi + x8.Curve)))) hm ) rfl rfl fun v11 => ?_
  refine jg_lit (enc := Interval.enc) [v11] rfl rfl rfl rfl rfl rfl rfl rfl fun hd12 => ?_
  refine jg_append 3 rfl rfl rfl (fun w hs => (hs.row 0 rfl)) rfl rfl rfl fun y13 hd14 => ?_
  refine jg_L (r4 rfl) ?_
  refine jg_as rfl rfl rfl ?_
  refine jg_nils [(2, _), (6, _), (15, _), (16, _), (17, _)] ⟨rfl, rfl, rfl, rfl, rfl, trivial⟩ ?_
  refine jk_sel (is := [2, 3]) (s2 rfl) rfl ?_
  refine jk_bn (jk_sn ?_)
  refine jn_reg 12 ?_
  refine jg_y (fun w hs => yv_add_w rfl rfl) rfl rfl ?_
  refine jg_mv rfl rfl rfl ?_
  refine jg_nils [(2, _), (6, _), (15, _), (16, _), (17, _)] ⟨rfl, rfl, rfl, rfl, rfl, trivial⟩ ?_
  exact jk_use H6 (y13, w64 (z3.2 + 1)) hd14 [0, 1] ⟨rfl, rfl, rfl, rfl, rfl, trivial⟩ rfl rfl rfl
theorem r01_Valid_c {w : World} {a0 : Interval}  {v : Bool} (hm : r01_Valid a0 = some v) : Gives Try.prog 69 [.agg #[.int .i64 a0.Lo, .int .i64 a0.Hi]] w (.bool v) := by
  refine j_gives (vs := [.agg #[.int .i64 a0.Lo, .int .i64 a0.Hi]]) (U := fun (v : Bool) => .bool v) Try.func69 rfl Try.ntmps69 rfl rfl hm ?_
  unfold r01_Valid
  clear hm
  refine jn_seq ?_
  refine jn_reg 0 ?_
  refine jg_box rfl (l2 rfl) rfl rfl fun g1 => ?_
  refine jg_as rfl rfl rfl ?_
  refine jg_nils [(1, _)] ⟨rfl, trivial⟩ ?_
  refine jk_sn ?_
  refine jn_seq ?_
  refine jn_reg 1 ?_
  refine jg_y (fun w hs => yv_fieldAddr rfl) rfl rfl ?_
  refine jg_y (fun w hs => yv_load rfl (ld1B (hs.blkL (i := 0) rfl) rfl)) rfl rfl ?_
  refine jg_y (fun w hs => yv_fieldAddr rfl) rfl rfl ?_
  refine jg_y (fun w hs => yv_load rfl (ld1B (hs.blkL (i := 0) rfl) rfl)) rfl rfl ?_
  refine jg_y (fun w hs => yv_leq rfl rfl) rfl rfl ?_
  refine jg_mv rfl rfl rfl ?_
  refine jg_split 8 rfl ?_ ?_
  rotate_left
  · refine jg_skip rfl rfl ?_
    refine jg_skip rfl rfl ?_
    refine jg_skip rfl rfl ?_
    refine jg_y (fun w hs => yv_pick_f rfl rfl) rfl rfl ?_
    refine jg_mv rfl rfl rfl ?_
    refine jg_skip rfl rfl ?_
    refine jg_skip rfl rfl ?_
    refine jg_skip rfl rfl ?_
    refine jg_y (fun w hs => yv_pick_f rfl rfl) rfl rfl ?_
    refine jg_as rfl rfl rfl ?_
    refine jg_nils [(2, _)] ⟨rfl, trivial⟩ ?_
    refine jk_sn ?_
    refine jn_ret ?_
    exact jk_ret1 rfl (fun w hs => .tmp rfl) (fun w hs => ⟨rfl, hs.drop⟩)
  refine jg_y (fun w hs => yv_fieldAddr rfl) rfl rfl ?_
  refine jg_y (fun w hs => yv_load rfl (ld1B (hs.blkL (i := 0) rfl) rfl)) rfl rfl ?_
  refine jg_y (fun w hs => yv_geq rfl rfl) rfl rfl ?_
  refine jg_y (fun w hs => yv_pick_t rfl rfl) rfl rfl ?_
  refine jg_mv rfl rfl rfl ?_
  refine jg_split 13 rfl ?_ ?_
  · refine jg_y (fun w hs => yv_fieldAddr rfl) rfl rfl ?_
    refine jg_y (fun w hs => yv_load rfl (ld1B (hs.blkL (i := 0) rfl) rfl)) rfl rfl ?_
    refine jg_y (fun w hs => yv_leq rfl rfl) rfl rfl ?_
    refine jg_y (fun w hs => yv_pick_t rfl rfl) rfl rfl ?_
    refine jg_as rfl rfl rfl ?_
    refine jg_nils [(2, _)] ⟨rfl, trivial⟩ ?_
    refine jk_sn ?_
    refine jn_ret ?_
    exact jk_ret1 rfl (fun w hs => .tmp rfl) (fun w hs => ⟨rfl, hs.drop⟩)
  refine jg_skip rfl rfl ?_
  refine jg_skip rfl rfl ?_
  refine jg_skip rfl rfl ?_
  refine jg_y (fun w hs => yv_pick_f rfl rfl) rfl rfl ?_
  refine jg_as rfl rfl rfl ?_
  refine jg_nils [(2, _)] ⟨rfl, trivial⟩ ?_
  refine jk_sn ?_
  refine jn_ret ?_
  exact jk_ret1 rfl (fun w hs => .tmp rfl) (fun w hs => ⟨rfl, hs.drop⟩)
theorem r19_clip_c {w : World} {a0 : Interval}  {v : Interval} (hm : r19_clip a0 = some v) : Gives Try.prog 70 [.agg #[.int .i64 a0.Lo, .int .i64 a0.Hi]] w (.agg #[.int .i64 v.Lo, .int .i64 v.Hi]) := by
  refine j_gives (vs := [.agg #[.int .i64 a0.Lo, .int .i64 a0.Hi]]) (U := fun (v : Interval) => .agg #[.int .i64 v.Lo, .int .i64 v.Hi]) Try.func70 rfl Try.ntmps70 rfl rfl hm ?_
  unfold r19_clip
  clear hm
  refine jn_seq ?_
  refine jn_reg 0 ?_
  refine jg_box rfl (l2 rfl) rfl rfl fun g1 => ?_
  refine jg_alloc (l2 rfl) rfl rfl fun g2 => ?_
  refine jg_nils [(1, _), (2, _)] ⟨rfl, rfl, trivial⟩ ?_
  refine jk_sn ?_
  refine jn_seq ?_
  refine jn_reg 1 ?_
  refine jg_y (fun w hs => yv_fieldAddr rfl) rfl rfl ?_
  refine jg_y (fun w hs => yv_load rfl (ld1B (hs.blkL (i := 1) rfl) rfl)) rfl rfl ?_
  refine jg_y (fun w hs => yv_min rfl rfl) rfl rfl ?_
  refine jg_y (fun w hs => yv_max rfl rfl) rfl rfl ?_
  refine jg_y (fun w hs => yv_fieldAddr rfl) rfl rfl ?_
  refine jg_y (fun w hs => yv_load rfl (ld1B (hs.blkL (i := 1) rfl) rfl)) rfl rfl ?_
  refine jg_y (fun w hs => yv_min rfl rfl) rfl rfl ?_
  refine jg_y (fun w hs => yv_max rfl rfl) rfl rfl ?_
  refine jg_y (fun w hs => yv_build rfl (o2 rfl)) rfl rfl ?_
  refine jg_store 0 rfl rfl rfl (l2 rfl) rfl rfl rfl rfl (l2 rfl) (r2 rfl) ?_
  refine jg_nils [(2, _)] ⟨rfl, trivial⟩ ?_
  refine jk_sn ?_
  refine jn_ret ?_
  exact jk_ret1 rfl (fun w hs => .cell rfl (ldBB (hs.blkL (i := 0) rfl) rfl)) (fun w hs => ⟨rfl, hs.drop⟩)
theorem r19_Spread_c {w : World} {a0 : Interval} {a1 : (List Piece)} {ha1 : Hd} {v : ((List Interval) × Int)} (hm : r19_Spread a0 a1 = some v) (Rha1 : Sl w ha1 Piece.enc a1) : Calls Try.prog 43 ([.agg #[.int .i64 a0.Lo, .int .i64 a0.Hi], ha1.v] : List Value).toArray w (fun e w' => ∃ g : Hd, e = .returned (.tuple #[g.v, .int .i64 v.2]) ∧ St w w' [] [(rowH g 55 2 Interval.enc v.1)]) := by
  refine j_enter (vs := [.agg #[.int .i64 a0.Lo, .int .i64 a0.Hi], ha1.v]) (R := fun (v : ((List Interval) × Int)) (e : Ending) (w' : World) => ∃ g : Hd, e = .returned (.tuple #[g.v, .int .i64 v.2]) ∧ St w w' [] [(rowH g 55 2 Interval.enc v.1)]) Try.func43 rfl Try.ntmps43 rfl rfl (St.refl w) hm ?_
  unfold r19_Spread
  clear hm
  refine jn_seq ?_
  refine jn_reg 0 ?_
  refine jg_box rfl (l2 rfl) rfl rfl fun g1 => ?_
  refine jg_as rfl rfl rfl ?_
  refine jg_as rfl rfl rfl ?_
  refine jg_nils [(1, _), (2, _)] ⟨rfl, rfl, trivial⟩ ?_
  refine jk_sn ?_
  refine jn_seq ?_
  refine jn_seq ?_
  refine jn_reg 1 ?_
  refine jg_y (fun w hs => yv_load rfl (ldBB (hs.blkL (i := 0) rfl) rfl)) rfl rfl ?_
  refine jg_c0 rfl (fun v w hs hm => r01_Valid_c (a0 := a0) hm ) rfl rfl fun v2 => ?_
  refine jg_y (fun w hs => yv_not rfl) rfl rfl ?_
  refine jg_nils [(1, _), (2, _), (11, _)] ⟨rfl, rfl, rfl, trivial⟩ ?_
  refine jk_sn ?_
  refine jn_cond rfl ?_ ?_
  · refine jn_seq ?_
    refine jn_reg 2 ?_
    refine jg_as rfl rfl rfl ?_
    refine jg_as rfl rfl rfl ?_
    refine jg_nils [(4, _), (5, _)] ⟨rfl, rfl, trivial⟩ ?_
    refine jk_sn ?_
    refine jn_ret ?_
    refine jk_sr ?_
    refine jk_addnil 55 2 Interval.enc ?_
    exact jk_ret2 rfl (fun w hs => .tmp rfl) (fun w hs => .tmp rfl) (fun w hs => ⟨(Hd.mk none 0 0), rfl, hs.sel (is := [0]) rfl rfl⟩)
  refine jn_skip ?_
  refine jk_sn ?_
  refine jn_seq ?_
  refine jn_seq ?_
  refine jn_reg 3 ?_
  refine jg_mv rfl rfl rfl ?_
  refine jg_y (fun w hs => yv_ln rfl (hs.arg Rha1)) rfl rfl ?_
  refine jg_y (fun w hs => yv_gtr rfl rfl) rfl rfl ?_
  refine jg_nils [(1, _), (2, _), (14, _)] ⟨rfl, rfl, rfl, trivial⟩ ?_
  refine jk_sn ?_
  refine jn_cond rfl ?_ ?_
  · refine jn_seq ?_
    refine jn_reg 4 ?_
    refine jg_as rfl rfl rfl ?_
    refine jg_as rfl rfl rfl ?_
    refine jg_nils [(4, _), (5, _)] ⟨rfl, rfl, trivial⟩ ?_
    refine jk_sn ?_
    refine jn_ret ?_
    refine jk_sr ?_
    refine jk_addnil 55 2 Interval.enc ?_
    exact jk_ret2 rfl (fun w hs => .tmp rfl) (fun w hs => .tmp rfl) (fun w hs => ⟨(Hd.mk none 0 0), rfl, hs.sel (is := [0]) rfl rfl⟩)
  refine jn_skip ?_
  refine jk_sn ?_
  refine jn_seq ?_
  refine jn_reg 5 ?_
  refine jg_as rfl rfl rfl ?_
  refine jg_nils [(1, _), (2, _), (6, _)] ⟨rfl, rfl, rfl, trivial⟩ ?_
  refine jk_sn ?_
  refine jn_seq ?_
  refine jn_seq ?_
  refine jn_reg 6 ?_
  refine jg_as rfl rfl rfl ?_
  refine jg_nils [(1, _), (2, _), (6, _), (7, _)] ⟨rfl, rfl, rfl, rfl, trivial⟩ ?_
  refine jk_sn ?_
  refine jn_block ?_
  refine jn_addnil 55 2 Interval.enc ?_
  refine jn_lp (n := big) (fun (s : ((List Interval) × Int)) (g : Hd) => [(1, ha1.v), (2, .pointer (some ⟨g1, 0, none⟩)), (6, g.v), (7, .int .i64 s.2)]) (fun (s : ((List Interval) × Int)) (g : Hd) => []) (fun (s : ((List Interval) × Int)) (g : Hd) => [(Res.blk g1 55 [.int .i64 a0.Lo, .int .i64 a0.Hi]), (rowH g 55 2 Interval.enc s.1)]) (([] : List Interval), 0) (Hd.mk none 0 0) [1, 0] ⟨rfl, rfl, rfl, rfl, trivial⟩ rfl rfl rfl ?_
  intro z3 q4 n7 k5 H6
  refine jn_seq ?_
  refine jn_seq ?_
  refine jn_reg 7 ?_
  refine jg_mv rfl rfl rfl ?_
  refine jg_mv rfl rfl rfl ?_
  refine jg_y (fun w hs => yv_ln rfl (hs.arg Rha1)) rfl rfl ?_
  refine jg_y (fun w hs => yv_lss rfl rfl) rfl rfl ?_
  refine jg_nils [(1, _), (2, _), (6, _), (7, _), (18, _)] ⟨rfl, rfl, rfl, rfl, rfl, trivial⟩ ?_
  refine jk_sn ?_
  refine jn_cond rfl ?_ ?_
  rotate_left
  · refine jn_exit ?_
    refine jk_se (jk_le (jk_bh (jk_sn ?_)))
    refine jn_seq ?_
    refine jn_reg 13 ?_
    refine jg_mv rfl rfl rfl ?_
    refine jg_as rfl rfl rfl ?_
    refine jg_as rfl rfl rfl ?_
    refine jg_nils [(4, _), (5, _)] ⟨rfl, rfl, trivial⟩ ?_
    refine jk_sn ?_
    refine jn_ret ?_
    exact jk_ret2 rfl (fun w hs => .tmp rfl) (fun w hs => .tmp rfl) (fun w hs => ⟨q4, rfl, hs.sel (is := [1]) rfl rfl⟩)
  refine jn_skip ?_
  refine jk_sn ?_
  refine jn_seq ?_
  refine jn_block ?_
  refine jn_seq ?_
  refine jn_reg 9 ?_
  refine jg_mv rfl rfl rfl ?_
  refine jg_mv rfl rfl rfl ?_
  refine jg_ix fun x8 h9 => ?_
  refine jg_y (fun w hs => yv_ix rfl rfl (hs.arg Rha1) h9) rfl rfl ?_
  refine jg_y (fun w hs => yv_ef rfl (hs.arg Rha1) h9.1) rfl rfl ?_
  refine jg_y (fun w hs => yv_e1 rfl (hs.arg Rha1) h9.1 rfl) rfl rfl ?_
  refine jg_as rfl rfl rfl ?_
  refine jg_nils [(1, _), (2, _), (6, _), (7, _), (8, _)] ⟨rfl, rfl, rfl, rfl, rfl, trivial⟩ ?_
  refine jk_sn ?_
  refine jn_seq ?_
  refine jn_seq ?_
  refine jn_reg 10 ?_
  refine jg_mv rfl rfl rfl ?_
  refine jg_y (fun w hs => yv_lss rfl rfl) rfl rfl ?_
  refine jg_mv rfl rfl rfl ?_
  refine jg_split 28 rfl ?_ ?_
  · refine jg_skip rfl rfl ?_
    refine jg_skip rfl rfl ?_
    refine jg_y (fun w hs => yv_pick_t rfl rfl) rfl rfl ?_
    refine jg_nils [(1, _), (2, _), (6, _), (7, _), (8, _), (31, _)] ⟨rfl, rfl, rfl, rfl, rfl, rfl, trivial⟩ ?_
    refine jk_sn ?_
    refine jn_ct rfl ?_
    refine jn_seq ?_
    refine jn_reg 11 ?_
    refine jg_as rfl rfl rfl ?_
    refine jg_as rfl rfl rfl ?_
    refine jg_nils [(4, _), (5, _)] ⟨rfl, rfl, trivial⟩ ?_
    refine jk_sel (is := []) (s0 rfl) rfl ?_
    refine jk_sn ?_
    refine jn_ret ?_
    refine jk_sr (jk_br (jk_sr (jk_lr (jk_br (jk_sr ?_)))))
    refine jk_addnil 55 2 Interval.enc ?_
    exact jk_ret2 rfl (fun w hs => .tmp rfl) (fun w hs => .tmp rfl) (fun w hs => ⟨(Hd.mk none 0 0), rfl, hs.sel (is := [0]) rfl rfl⟩)
  refine jg_mv rfl rfl rfl ?_
  refine jg_y (fun w hs => yv_gtr rfl rfl) rfl rfl ?_
  refine jg_y (fun w hs => yv_pick_f rfl rfl) rfl rfl ?_
  refine jg_nils [(1, _), (2, _), (6, _), (7, _), (8, _), (31, _)] ⟨rfl, rfl, rfl, rfl, rfl, rfl, trivial⟩ ?_
  refine jk_sn ?_
  refine jn_cond rfl ?_ ?_
  · refine jn_seq ?_
    refine jn_reg 11 ?_
    refine jg_as rfl rfl rfl ?_
    refine jg_as rfl rfl rfl ?_
    refine jg_nils [(4, _), (5, _)] ⟨rfl, rfl, trivial⟩ ?_
    refine jk_sel (is := []) (s0 rfl) rfl ?_
    refine jk_sn ?_
    refine jn_ret ?_
    refine jk_sr (jk_br (jk_sr (jk_lr (jk_br (jk_sr ?_)))))
    refine jk_addnil 55 2 Interval.enc ?_
    exact jk_ret2 rfl (fun w hs => .tmp rfl) (fun w hs => .tmp rfl) (fun w hs => ⟨(Hd.mk none 0 0), rfl, hs.sel (is := [0]) rfl rfl⟩)
  refine jn_skip ?_
  refine jk_sn ?_
  refine jn_reg 12 ?_
  refine jg_mv rfl rfl rfl ?_
  refine jg_y (fun w hs => yv_fieldAddr rfl) rfl rfl ?_
  refine jg_y (fun w hs => yv_load rfl (ld1B (hs.blkL (i := 0) rfl) rfl)) rfl rfl ?_
  refine jg_mv rfl rfl rfl ?_
  refine jg_y (fun w hs => yv_add_w rfl rfl) rfl rfl ?_
  refine jg_y (fun w hs => yv_fieldAddr rfl) rfl rfl ?_
  refine jg_y (fun w hs => yv_load rfl (ld1B (hs.blkL (i := 0) rfl) rfl)) rfl rfl ?_
  refine jg_mv rfl rfl rfl ?_
  refine jg_y (fun w hs => yv_add_w rfl rfl) rfl rfl ?_
  refine jg_y (fun w hs => yv_build rfl (o2 rfl)) rfl rfl ?_
  refine jg_c0 rfl (fun v w hs hm => r19_clip_c (a0 := (Interval.mk (w64 (a0.Lo + x8.Curve)) (w64 (a0.Hi + x8.Curve)))) hm ) rfl rfl fun v10 => ?_
  refine jg_lit (enc := Interval.enc) [v10] rfl rfl rfl rfl rfl rfl rfl rfl fun hd11 => ?_
  refine jg_append 2 rfl rfl rfl (fun w hs => (hs.row 0 rfl)) rfl rfl rfl fun y12 hd13 => ?_
  refine jg_L (r3 rfl) ?_
  refine jg_as rfl rfl rfl ?_
  refine jg_nils [(1, _), (2, _), (6, _), (7, _)] ⟨rfl, rfl, rfl, rfl, trivial⟩ ?_
  refine jk_bn (jk_sn ?_)
  refine jn_reg 8 ?_
  refine jg_mv rfl rfl rfl ?_
  refine jg_y (fun w hs => yv_add_w rfl rfl) rfl rfl ?_
  refine jg_as rfl rfl rfl ?_
  refine jg_nils [(1, _), (2, _), (6, _), (7, _)] ⟨rfl, rfl, rfl, rfl, trivial⟩ ?_
  exact jk_use H6 (y12, w64 (z3.2 + 1)) hd13 [1, 2] ⟨rfl, rfl, rfl, rfl, trivial⟩ rfl rfl rfl
theorem r01_Down_c {w : World} {a0 : Int} {a1 : Int}  {v : Int} (hm : r01_Down a0 a1 = some v) : Gives Try.prog 71 [.int .i64 a0, .int .i64 a1] w (.int .i64 v) := by
  refine j_gives (vs := [.int .i64 a0, .int .i64 a1]) (U := fun (v : Int) => .int .i64 v) Try.func71 rfl Try.ntmps71 rfl rfl hm ?_
  unfold r01_Down
  clear hm
  refine jn_seq ?_
  refine jn_reg 0 ?_
  refine jg_as rfl rfl rfl ?_
  refine jg_nils [(0, _), (1, _)] ⟨rfl, rfl, trivial⟩ ?_
  refine jk_sn ?_
  refine jn_seq ?_
  refine jn_draw (L' := []) 1 [] [0, 1, 2, 3, 4, 5, 6, 7] 255 255 [0, 0, 3, 0, 0, 24, 7, 127] [0, 0, 3, 0, 0, 24, 7, 127] [(0, true), (1, true), (2, true), (3, true), (4, true), (5, true), (6, true), (7, true)] rfl (np_seq np_rt) (by kernel_rfl) (by kernel_rfl) (by kernel_rfl) (by kernel_rfl) (by kernel_rfl) (by kernel_rfl) (by kernel_rfl) (by kernel_rfl) ?_
  refine jd_mv rfl rfl rfl rfl ?_
  refine jd_mv rfl rfl rfl rfl ?_
  refine jd_ck fun h1 => ?_
  refine jd_y rfl (fun w hs => yv_tdiv_w rfl rfl (of_decide_eq_true h1)) rfl rfl ?_
  refine jd_mv rfl rfl rfl rfl ?_
  refine jd_mv rfl rfl rfl rfl ?_
  refine jd_ck fun h2 => ?_
  refine jd_y rfl (fun w hs => yv_tmod rfl rfl (of_decide_eq_true h2)) rfl rfl ?_
  refine jd_as rfl rfl rfl rfl ?_
  refine jd_as rfl rfl rfl rfl ?_
  refine jd_nils [(1, _), (5, _), (6, _)] ⟨rfl, rfl, rfl, trivial⟩ ?_
  refine jk_sn ?_
  refine jn_seq ?_
  refine jn_seq ?_
  refine jn_reg 2 ?_
  refine jg_mv rfl rfl rfl ?_
  refine jg_y (fun w hs => yv_neq rfl rfl) rfl rfl ?_
  refine jg_mv rfl rfl rfl ?_
  refine jg_split 15 rfl ?_ ?_
  rotate_left
  · refine jg_skip rfl rfl ?_
    refine jg_skip rfl rfl ?_
    refine jg_skip rfl rfl ?_
    refine jg_skip rfl rfl ?_
    refine jg_skip rfl rfl ?_
    refine jg_y (fun w hs => yv_pick_f rfl rfl) rfl rfl ?_
    refine jg_nils [(5, _), (21, _)] ⟨rfl, rfl, trivial⟩ ?_
    refine jk_sn ?_
    refine jn_cf rfl ?_
    refine jn_skip ?_
    refine jk_sn ?_
    refine jn_seq ?_
    refine jn_reg 4 ?_
    refine jg_mv rfl rfl rfl ?_
    refine jg_as rfl rfl rfl ?_
    refine jg_nils [(4, _)] ⟨rfl, trivial⟩ ?_
    refine jk_sn ?_
    refine jn_ret ?_
    exact jk_ret1 rfl (fun w hs => .tmp rfl) (fun w hs => ⟨rfl, hs.drop⟩)
  refine jg_mv rfl rfl rfl ?_
  refine jg_y (fun w hs => yv_lss rfl rfl) rfl rfl ?_
  refine jg_mv rfl rfl rfl ?_
  refine jg_y (fun w hs => yv_lss rfl rfl) rfl rfl ?_
  refine jg_y (fun w hs => yv_neqb Try.underlying4 rfl rfl) rfl rfl ?_
  refine jg_y (fun w hs => yv_pick_t rfl rfl) rfl rfl ?_
  refine jg_nils [(5, _), (21, _)] ⟨rfl, rfl, trivial⟩ ?_
  refine jk_sn ?_
  refine jn_cond rfl ?_ ?_
  rotate_left
  · refine jn_skip ?_
    refine jk_sn ?_
    refine jn_seq ?_
    refine jn_reg 4 ?_
    refine jg_mv rfl rfl rfl ?_
    refine jg_as rfl rfl rfl ?_
    refine jg_nils [(4, _)] ⟨rfl, trivial⟩ ?_
    refine jk_sn ?_
    refine jn_ret ?_
    exact jk_ret1 rfl (fun w hs => .tmp rfl) (fun w hs => ⟨rfl, hs.drop⟩)
  refine jn_reg 3 ?_
  refine jg_mv rfl rfl rfl ?_
  refine jg_yl (fun w hs => yv_sub_w rfl rfl) rfl rfl fun x3 => ?_
  refine jg_as rfl rfl rfl ?_
  refine jg_nils [(5, _)] ⟨rfl, trivial⟩ ?_
  refine jk_sn ?_
  refine jn_seq ?_
  refine jn_reg 4 ?_
  refine jg_mv rfl rfl rfl ?_
  refine jg_as rfl rfl rfl ?_
  refine jg_nils [(4, _)] ⟨rfl, trivial⟩ ?_
  refine jk_sn ?_
  refine jn_ret ?_
  exact jk_ret1 rfl (fun w hs => .tmp rfl) (fun w hs => ⟨rfl, hs.drop⟩)
theorem r01_Up_c {w : World} {a0 : Int} {a1 : Int}  {v : Int} (hm : r01_Up a0 a1 = some v) : Gives Try.prog 72 [.int .i64 a0, .int .i64 a1] w (.int .i64 v) := by
  refine j_gives (vs := [.int .i64 a0, .int .i64 a1]) (U := fun (v : Int) => .int .i64 v) Try.func72 rfl Try.ntmps72 rfl rfl hm ?_
  unfold r01_Up
  clear hm
  refine jn_seq ?_
  refine jn_reg 0 ?_
  refine jg_as rfl rfl rfl ?_
  refine jg_nils [(0, _), (1, _)] ⟨rfl, rfl, trivial⟩ ?_
  refine jk_sn ?_
  refine jn_seq ?_
  refine jn_draw (L' := []) 1 [] [0, 1, 2, 3, 4, 5, 6, 7] 255 255 [0, 0, 3, 0, 0, 24, 7, 127] [0, 0, 3, 0, 0, 24, 7, 127] [(0, true), (1, true), (2, true), (3, true), (4, true), (5, true), (6, true), (7, true)] rfl (np_seq np_rt) (by kernel_rfl) (by kernel_rfl) (by kernel_rfl) (by kernel_rfl) (by kernel_rfl) (by kernel_rfl) (by kernel_rfl) (by kernel_rfl) ?_
  refine jd_mv rfl rfl rfl rfl ?_
  refine jd_mv rfl rfl rfl rfl ?_
  refine jd_ck fun h1 => ?_
  refine jd_y rfl (fun w hs => yv_tdiv_w rfl rfl (of_decide_eq_true h1)) rfl rfl ?_
  refine jd_mv rfl rfl rfl rfl ?_
  refine jd_mv rfl rfl rfl rfl ?_
  refine jd_ck fun h2 => ?_
  refine jd_y rfl (fun w hs => yv_tmod rfl rfl (of_decide_eq_true h2)) rfl rfl ?_
  refine jd_as rfl rfl rfl rfl ?_
  refine jd_as rfl rfl rfl rfl ?_
  refine jd_nils [(1, _), (5, _), (6, _)] ⟨rfl, rfl, rfl, trivial⟩ ?_
  refine jk_sn ?_
  refine jn_seq ?_
  refine jn_seq ?_
  refine jn_reg 2 ?_
  refine jg_mv rfl rfl rfl ?_
  refine jg_y (fun w hs => yv_neq rfl rfl) rfl rfl ?_
  refine jg_mv rfl rfl rfl ?_
  refine jg_split 15 rfl ?_ ?_
  rotate_left
  · refine jg_skip rfl rfl ?_
    refine jg_skip rfl rfl ?_
    refine jg_skip rfl rfl ?_
    refine jg_skip rfl rfl ?_
    refine jg_skip rfl rfl ?_
    refine jg_y (fun w hs => yv_pick_f rfl rfl) rfl rfl ?_
    refine jg_nils [(5, _), (21, _)] ⟨rfl, rfl, trivial⟩ ?_
    refine jk_sn ?_
    refine jn_cf rfl ?_
    refine jn_skip ?_
    refine jk_sn ?_
    refine jn_seq ?_
    refine jn_reg 4 ?_
    refine jg_mv rfl rfl rfl ?_
    refine jg_as rfl rfl rfl ?_
    refine jg_nils [(4, _)] ⟨rfl, trivial⟩ ?_
    refine jk_sn ?_
    refine jn_ret ?_
    exact jk_ret1 rfl (fun w hs => .tmp rfl) (fun w hs => ⟨rfl, hs.drop⟩)
  refine jg_mv rfl rfl rfl ?_
  refine jg_y (fun w hs => yv_lss rfl rfl) rfl rfl ?_
  refine jg_mv rfl rfl rfl ?_
  refine jg_y (fun w hs => yv_lss rfl rfl) rfl rfl ?_
  refine jg_y (fun w hs => yv_eqlb Try.underlying4 rfl rfl) rfl rfl ?_
  refine jg_y (fun w hs => yv_pick_t rfl rfl) rfl rfl ?_
  refine jg_nils [(5, _), (21, _)] ⟨rfl, rfl, trivial⟩ ?_
  refine jk_sn ?_
  refine jn_cond rfl ?_ ?_
  rotate_left
  · refine jn_skip ?_
    refine jk_sn ?_
    refine jn_seq ?_
    refine jn_reg 4 ?_
    refine jg_mv rfl rfl rfl ?_
    refine jg_as rfl rfl rfl ?_
    refine jg_nils [(4, _)] ⟨rfl, trivial⟩ ?_
    refine jk_sn ?_
    refine jn_ret ?_
    exact jk_ret1 rfl (fun w hs => .tmp rfl) (fun w hs => ⟨rfl, hs.drop⟩)
  refine jn_reg 3 ?_
  refine jg_mv rfl rfl rfl ?_
  refine jg_yl (fun w hs => yv_add_w rfl rfl) rfl rfl fun x3 => ?_
  refine jg_as rfl rfl rfl ?_
  refine jg_nils [(5, _)] ⟨rfl, trivial⟩ ?_
  refine jk_sn ?_
  refine jn_seq ?_
  refine jn_reg 4 ?_
  refine jg_mv rfl rfl rfl ?_
  refine jg_as rfl rfl rfl ?_
  refine jg_nils [(4, _)] ⟨rfl, trivial⟩ ?_
  refine jk_sn ?_
  refine jn_ret ?_
  exact jk_ret1 rfl (fun w hs => .tmp rfl) (fun w hs => ⟨rfl, hs.drop⟩)
theorem r19_Measured_c {w : World} {a0 : (List Sample)} {ha0 : Hd} {v : (Interval × Int)} (hm : r19_Measured a0 = some v) (Rha0 : Sl w ha0 Sample.enc a0) : Gives Try.prog 44 [ha0.v] w (.tuple #[.agg #[.int .i64 v.1.Lo, .int .i64 v.1.Hi], .int .i64 v.2]) := by
  refine j_gives (vs := [ha0.v]) (U := fun (v : (Interval × Int)) => .tuple #[.agg #[.int .i64 v.1.Lo, .int .i64 v.1.Hi], .int .i64 v.2]) Try.func44 rfl Try.ntmps44 rfl rfl hm ?_
  unfold r19_Measured
  clear hm
  refine jn_seq ?_
  refine jn_reg 0 ?_
  refine jg_alloc (l2 rfl) rfl rfl fun g1 => ?_
  refine jg_as rfl rfl rfl ?_
  refine jg_nils [(0, _), (2, _)] ⟨rfl, rfl, trivial⟩ ?_
  refine jk_sn ?_
  refine jn_seq ?_
  refine jn_seq ?_
  refine jn_reg 1 ?_
  refine jg_mv rfl rfl rfl ?_
  refine jg_y (fun w hs => yv_ln rfl (hs.arg Rha0)) rfl rfl ?_
  refine jg_y (fun w hs => yv_gtr rfl rfl) rfl rfl ?_
  refine jg_nils [(0, _), (2, _), (11, _)] ⟨rfl, rfl, rfl, trivial⟩ ?_
  refine jk_sn ?_
  refine jn_cond rfl ?_ ?_
  · refine jn_seq ?_
    refine jn_reg 2 ?_
    refine jg_y (fun w hs => yv_build rfl (o2 rfl)) rfl rfl ?_
    refine jg_store 0 rfl rfl rfl (l2 rfl) rfl rfl rfl rfl (l2 rfl) (r1 rfl) ?_
    refine jg_as rfl rfl rfl ?_
    refine jg_nils [(2, _), (3, _)] ⟨rfl, rfl, trivial⟩ ?_
    refine jk_sn ?_
    refine jn_ret ?_
    refine jk_sr ?_
    exact jk_ret2 rfl (fun w hs => .cell rfl (ldBB (hs.blkL (i := 0) rfl) rfl)) (fun w hs => .tmp rfl) (fun w hs => ⟨rfl, hs.drop⟩)
  refine jn_skip ?_
  refine jk_sn ?_
  refine jn_seq ?_
  refine jn_seq ?_
  refine jn_reg 3 ?_
  refine jg_mv rfl rfl rfl ?_
  refine jg_y (fun w hs => yv_ln rfl (hs.arg Rha0)) rfl rfl ?_
  refine jg_y (fun w hs => yv_eql rfl rfl) rfl rfl ?_
  refine jg_nils [(0, _), (2, _), (15, _)] ⟨rfl, rfl, rfl, trivial⟩ ?_
  refine jk_sn ?_
  refine jn_cond rfl ?_ ?_
  · refine jn_seq ?_
    refine jn_reg 4 ?_
    refine jg_y (fun w hs => yv_build rfl (o2 rfl)) rfl rfl ?_
    refine jg_store 0 rfl rfl rfl (l2 rfl) rfl rfl rfl rfl (l2 rfl) (r1 rfl) ?_
    refine jg_as rfl rfl rfl ?_
    refine jg_nils [(2, _), (3, _)] ⟨rfl, rfl, trivial⟩ ?_
    refine jk_sn ?_
    refine jn_ret ?_
    refine jk_sr ?_
    exact jk_ret2 rfl (fun w hs => .cell rfl (ldBB (hs.blkL (i := 0) rfl) rfl)) (fun w hs => .tmp rfl) (fun w hs => ⟨rfl, hs.drop⟩)
  refine jn_skip ?_
  refine jk_sn ?_
  refine jn_seq ?_
  refine jn_reg 5 ?_
  refine jg_y (fun w hs => yv_build rfl (o2 rfl)) rfl rfl ?_
  refine jg_alloc (l2 rfl) rfl rfl fun g2 => ?_
  refine jg_store 0 rfl rfl rfl (l2 rfl) rfl rfl rfl rfl (l2 rfl) (r2 rfl) ?_
  refine jg_nils [(0, _), (2, _), (4, _)] ⟨rfl, rfl, rfl, trivial⟩ ?_
  refine jk_sn ?_
  refine jn_seq ?_
  refine jn_seq ?_
  refine jn_reg 6 ?_
  refine jg_as rfl rfl rfl ?_
  refine jg_nils [(0, _), (2, _), (4, _), (5, _)] ⟨rfl, rfl, rfl, rfl, trivial⟩ ?_
  refine jk_sn ?_
  refine jn_block ?_
  refine jn_lp (n := big) (fun (s : (Int × Int × Int)) (g : Unit) => [(0, ha0.v), (2, .pointer (some ⟨g1, 0, none⟩)), (4, .pointer (some ⟨g2, 0, none⟩)), (5, .int .i64 s.2.2)]) (fun (s : (Int × Int × Int)) (g : Unit) => []) (fun (s : (Int × Int × Int)) (g : Unit) => [(Res.blk g1 55 [.int .i64 0, .int .i64 0]), (Res.blk g2 55 [.int .i64 s.1, .int .i64 s.2.1])]) (1000000000000, (-1000000000000), 0) () [1, 0] ⟨rfl, rfl, rfl, rfl, trivial⟩ rfl rfl rfl ?_
  intro z3 q4 n7 k5 H6
  refine jn_seq ?_
  refine jn_seq ?_
  refine jn_reg 7 ?_
  refine jg_mv rfl rfl rfl ?_
  refine jg_mv rfl rfl rfl ?_
  refine jg_y (fun w hs => yv_ln rfl (hs.arg Rha0)) rfl rfl ?_
  refine jg_y (fun w hs => yv_lss rfl rfl) rfl rfl ?_
  refine jg_nils [(0, _), (2, _), (4, _), (5, _), (21, _)] ⟨rfl, rfl, rfl, rfl, rfl, trivial⟩ ?_
  refine jk_sn ?_
  refine jn_cond rfl ?_ ?_
  rotate_left
  · refine jn_exit ?_
    refine jk_se (jk_le (jk_bh (jk_sn ?_)))
    refine jn_seq ?_
    refine jn_reg 15 ?_
    refine jg_y (fun w hs => yv_load rfl (ldBB (hs.blkL (i := 1) rfl) rfl)) rfl rfl ?_
    refine jg_store 0 rfl rfl rfl (l2 rfl) rfl rfl rfl rfl (l2 rfl) (r2 rfl) ?_
    refine jg_as rfl rfl rfl ?_
    refine jg_nils [(2, _), (3, _)] ⟨rfl, rfl, trivial⟩ ?_
    refine jk_sn ?_
    refine jn_ret ?_
    exact jk_ret2 rfl (fun w hs => .cell rfl (ldBB (hs.blkL (i := 0) rfl) rfl)) (fun w hs => .tmp rfl) (fun w hs => ⟨rfl, hs.drop⟩)
  refine jn_skip ?_
  refine jk_sn ?_
  refine jn_seq ?_
  refine jn_block ?_
  refine jn_seq ?_
  refine jn_reg 9 ?_
  refine jg_mv rfl rfl rfl ?_
  refine jg_mv rfl rfl rfl ?_
  refine jg_ix fun x8 h9 => ?_
  refine jg_y (fun w hs => yv_ix rfl rfl (hs.arg Rha0) h9) rfl rfl ?_
  refine jg_y (fun w hs => yv_eS rfl (hs.arg Rha0) h9.1 (l4 rfl) rfl) rfl rfl ?_
  refine jg_alloc (l4 rfl) rfl rfl fun g10 => ?_
  refine jg_store 0 rfl rfl rfl (l4 rfl) rfl rfl rfl rfl (l4 rfl) (r3 rfl) ?_
  refine jg_nils [(0, _), (2, _), (4, _), (5, _), (6, _)] ⟨rfl, rfl, rfl, rfl, rfl, trivial⟩ ?_
  refine jk_sn ?_
  refine jn_seq ?_
  refine jn_seq ?_
  refine jn_reg 10 ?_
  refine jg_y (fun w hs => yv_fieldAddr rfl) rfl rfl ?_
  refine jg_y (fun w hs => yv_load rfl (ld1B (hs.blkL (i := 0) rfl) rfl)) rfl rfl ?_
  refine jg_y (fun w hs => yv_lss rfl rfl) rfl rfl ?_
  refine jg_mv rfl rfl rfl ?_
  refine jg_split 31 rfl ?_ ?_
  · refine jg_skip rfl rfl ?_
    refine jg_skip rfl rfl ?_
    refine jg_skip rfl rfl ?_
    refine jg_y (fun w hs => yv_pick_t rfl rfl) rfl rfl ?_
    refine jg_mv rfl rfl rfl ?_
    refine jg_skip rfl rfl ?_
    refine jg_skip rfl rfl ?_
    refine jg_skip rfl rfl ?_
    refine jg_y (fun w hs => yv_pick_t rfl rfl) rfl rfl ?_
    refine jg_mv rfl rfl rfl ?_
    refine jg_skip rfl rfl ?_
    refine jg_skip rfl rfl ?_
    refine jg_skip rfl rfl ?_
    refine jg_y (fun w hs => yv_pick_t rfl rfl) rfl rfl ?_
    refine jg_mv rfl rfl rfl ?_
    refine jg_skip rfl rfl ?_
    refine jg_skip rfl rfl ?_
    refine jg_skip rfl rfl ?_
    refine jg_y (fun w hs => yv_pick_t rfl rfl) rfl rfl ?_
    refine jg_mv rfl rfl rfl ?_
    refine jg_skip rfl rfl ?_
    refine jg_skip rfl rfl ?_
    refine jg_skip rfl rfl ?_
    refine jg_y (fun w hs => yv_pick_t rfl rfl) rfl rfl ?_
    refine jg_mv rfl rfl rfl ?_
    refine jg_skip rfl rfl ?_
    refine jg_skip rfl rfl ?_
    refine jg_skip rfl rfl ?_
    refine jg_y (fun w hs => yv_pick_t rfl rfl) rfl rfl ?_
    refine jg_mv rfl rfl rfl ?_
    refine jg_skip rfl rfl ?_
    refine jg_skip rfl rfl ?_
    refine jg_skip rfl rfl ?_
    refine jg_y (fun w hs => yv_pick_t rfl rfl) rfl rfl ?_
    refine jg_nils [(0, _), (2, _), (4, _), (5, _), (6, _), (65, _)] ⟨rfl, rfl, rfl, rfl, rfl, rfl, trivial⟩ ?_
    refine jk_sn ?_
    refine jn_ct rfl ?_
    refine jn_seq ?_
    refine jn_reg 11 ?_
    refine jg_y (fun w hs => yv_build rfl (o2 rfl)) rfl rfl ?_
    refine jg_store 1 rfl rfl rfl (l2 rfl) rfl rfl rfl rfl (l2 rfl) (r3 rfl) ?_
    refine jg_as rfl rfl rfl ?_
    refine jg_nils [(2, _), (3, _)] ⟨rfl, rfl, trivial⟩ ?_
    refine jk_sel (is := [1]) (s1 rfl) rfl ?_
    refine jk_sn ?_
    refine jn_ret ?_
    refine jk_sr (jk_br (jk_sr (jk_lr (jk_br (jk_sr ?_)))))
    exact jk_ret2 rfl (fun w hs => .cell rfl (ldBB (hs.blkL (i := 0) rfl) rfl)) (fun w hs => .tmp rfl) (fun w hs => ⟨rfl, hs.drop⟩)
  refine jg_y (fun w hs => yv_fieldAddr rfl) rfl rfl ?_
  refine jg_y (fun w hs => yv_load rfl (ld1B (hs.blkL (i := 0) rfl) rfl)) rfl rfl ?_
  refine jg_y (fun w hs => yv_gtr rfl rfl) rfl rfl ?_
  refine jg_y (fun w hs => yv_pick_f rfl rfl) rfl rfl ?_
  refine jg_mv rfl rfl rfl ?_
  refine jg_split 36 rfl ?_ ?_
  · refine jg_skip rfl rfl ?_
    refine jg_skip rfl rfl ?_
    refine jg_skip rfl rfl ?_
    refine jg_y (fun w hs => yv_pick_t rfl rfl) rfl rfl ?_
    refine jg_mv rfl rfl rfl ?_
    refine jg_skip rfl rfl ?_
    refine jg_skip rfl rfl ?_
    refine jg_skip rfl rfl ?_
    refine jg_y (fun w hs => yv_pick_t rfl rfl) rfl rfl ?_
    refine jg_mv rfl rfl rfl ?_
    refine jg_skip rfl rfl ?_
    refine jg_skip rfl rfl ?_
    refine jg_skip rfl rfl ?_
    refine jg_y (fun w hs => yv_pick_t rfl rfl) rfl rfl ?_
    refine jg_mv rfl rfl rfl ?_
    refine jg_skip rfl rfl ?_
    refine jg_skip rfl rfl ?_
    refine jg_skip rfl rfl ?_
    refine jg_y (fun w hs => yv_pick_t rfl rfl) rfl rfl ?_
    refine jg_mv rfl rfl rfl ?_
    refine jg_skip rfl rfl ?_
    refine jg_skip rfl rfl ?_
    refine jg_skip rfl rfl ?_
    refine jg_y (fun w hs => yv_pick_t rfl rfl) rfl rfl ?_
    refine jg_mv rfl rfl rfl ?_
    refine jg_skip rfl rfl ?_
    refine jg_skip rfl rfl ?_
    refine jg_skip rfl rfl ?_
    refine jg_y (fun w hs => yv_pick_t rfl rfl) rfl rfl ?_
    refine jg_nils [(0, _), (2, _), (4, _), (5, _), (6, _), (65, _)] ⟨rfl, rfl, rfl, rfl, rfl, rfl, trivial⟩ ?_
    refine jk_sn ?_
    refine jn_ct rfl ?_
    refine jn_seq ?_
    refine jn_reg 11 ?_
    refine jg_y (fun w hs => yv_build rfl (o2 rfl)) rfl rfl ?_
    refine jg_store 1 rfl rfl rfl (l2 rfl) rfl rfl rfl rfl (l2 rfl) (r3 rfl) ?_
    refine jg_as rfl rfl rfl ?_
    refine jg_nils [(2, _), (3, _)] ⟨rfl, rfl, trivial⟩ ?_
    refine jk_sel (is := [1]) (s1 rfl) rfl ?_
    refine jk_sn ?_
    refine jn_ret ?_
    refine jk_sr (jk_br (jk_sr (jk_lr (jk_br (jk_sr ?_)))))
    exact jk_ret2 rfl (fun w hs => .cell rfl (ldBB (hs.blkL (i := 0) rfl) rfl)) (fun w hs => .tmp rfl) (fun w hs => ⟨rfl, hs.drop⟩)
  refine jg_y (fun w hs => yv_fieldAddr rfl) rfl rfl ?_
  refine jg_y (fun w hs => yv_load rfl (ld1B (hs.blkL (i := 0) rfl) rfl)) rfl rfl ?_
  refine jg_y (fun w hs => yv_lss rfl rfl) rfl rfl ?_
  refine jg_y (fun w hs => yv_pick_f rfl rfl) rfl rfl ?_
  refine jg_mv rfl rfl rfl ?_
  refine jg_split 41 rfl ?_ ?_
  · refine jg_skip rfl rfl ?_
    refine jg_skip rfl rfl ?_
    refine jg_skip rfl rfl ?_
    refine jg_y (fun w hs => yv_pick_t rfl rfl) rfl rfl ?_
    refine jg_mv rfl rfl rfl ?_
    refine jg_skip rfl rfl ?_
    refine jg_skip rfl rfl ?_
    refine jg_skip rfl rfl ?_
    refine jg_y (fun w hs => yv_pick_t rfl rfl) rfl rfl ?_
    refine jg_mv rfl rfl rfl ?_
    refine jg_skip rfl rfl ?_
    refine jg_skip rfl rfl ?_
    refine jg_skip rfl rfl ?_
    refine jg_y (fun w hs => yv_pick_t rfl rfl) rfl rfl ?_
    refine jg_mv rfl rfl rfl ?_
    refine jg_skip rfl rfl ?_
    refine jg_skip rfl rfl ?_
    refine jg_skip rfl rfl ?_
    refine jg_y (fun w hs => yv_pick_t rfl rfl) rfl rfl ?_
    refine jg_mv rfl rfl rfl ?_
    refine jg_skip rfl rfl ?_
    refine jg_skip rfl rfl ?_
    refine jg_skip rfl rfl ?_
    refine jg_y (fun w hs => yv_pick_t rfl rfl) rfl rfl ?_
    refine jg_nils [(0, _), (2, _), (4, _), (5, _), (6, _), (65, _)] ⟨rfl, rfl, rfl, rfl, rfl, rfl, trivial⟩ ?_
    refine jk_sn ?_
    refine jn_ct rfl ?_
    refine jn_seq ?_
    refine jn_reg 11 ?_
    refine jg_y (fun w hs => yv_build rfl (o2 rfl)) rfl rfl ?_
    refine jg_store 1 rfl rfl rfl (l2 rfl) rfl rfl rfl rfl (l2 rfl) (r3 rfl) ?_
    refine jg_as rfl rfl rfl ?_
    refine jg_nils [(2, _), (3, _)] ⟨rfl, rfl, trivial⟩ ?_
    refine jk_sel (is := [1]) (s1 rfl) rfl ?_
    refine jk_sn ?_
    refine jn_ret ?_
    refine jk_sr (jk_br (jk_sr (jk_lr (jk_br (jk_sr ?_)))))
    exact jk_ret2 rfl (fun w hs => .cell rfl (ldBB (hs.blkL (i := 0) rfl) rfl)) (fun w hs => .tmp rfl) (fun w hs => ⟨rfl, hs.drop⟩)
  refine jg_y (fun w hs => yv_fieldAddr rfl) rfl rfl ?_
  refine jg_y (fun w hs => yv_load rfl (ld1B (hs.blkL (i := 0) rfl) rfl)) rfl rfl ?_
  refine jg_y (fun w hs => yv_gtr rfl rfl) rfl rfl ?_
  refine jg_y (fun w hs => yv_pick_f rfl rfl) rfl rfl ?_
  refine jg_mv rfl rfl rfl ?_
  refine jg_split 46 rfl ?_ ?_
  · refine jg_skip rfl rfl ?_
    refine jg_skip rfl rfl ?_
    refine jg_skip rfl rfl ?_
    refine jg_y (fun w hs => yv_pick_t rfl rfl) rfl rfl ?_
    refine jg_mv rfl rfl rfl ?_
    refine jg_skip rfl rfl ?_
    refine jg_skip rfl rfl ?_
    refine jg_skip rfl rfl ?_
    refine jg_y (fun w hs => yv_pick_t rfl rfl) rfl rfl ?_
    refine jg_mv rfl rfl rfl ?_
    refine jg_skip rfl rfl ?_
    refine jg_skip rfl rfl ?_
    refine jg_skip rfl rfl ?_
    refine jg_y (fun w hs => yv_pick_t rfl rfl) rfl rfl ?_
    refine jg_mv rfl rfl rfl ?_
    refine jg_skip rfl rfl ?_
    refine jg_skip rfl rfl ?_
    refine jg_skip rfl rfl ?_
    refine jg_y (fun w hs => yv_pick_t rfl rfl) rfl rfl ?_
    refine jg_nils [(0, _), (2, _), (4, _), (5, _), (6, _), (65, _)] ⟨rfl, rfl, rfl, rfl, rfl, rfl, trivial⟩ ?_
    refine jk_sn ?_
    refine jn_ct rfl ?_
    refine jn_seq ?_
    refine jn_reg 11 ?_
    refine jg_y (fun w hs => yv_build rfl (o2 rfl)) rfl rfl ?_
    refine jg_store 1 rfl rfl rfl (l2 rfl) rfl rfl rfl rfl (l2 rfl) (r3 rfl) ?_
    refine jg_as rfl rfl rfl ?_
    refine jg_nils [(2, _), (3, _)] ⟨rfl, rfl, trivial⟩ ?_
    refine jk_sel (is := [1]) (s1 rfl) rfl ?_
    refine jk_sn ?_
    refine jn_ret ?_
    refine jk_sr (jk_br (jk_sr (jk_lr (jk_br (jk_sr ?_)))))
    exact jk_ret2 rfl (fun w hs => .cell rfl (ldBB (hs.blkL (i := 0) rfl) rfl)) (fun w hs => .tmp rfl) (fun w hs => ⟨rfl, hs.drop⟩)
  refine jg_y (fun w hs => yv_fieldAddr rfl) rfl rfl ?_
  refine jg_y (fun w hs => yv_load rfl (ld1B (hs.blkL (i := 0) rfl) rfl)) rfl rfl ?_
  refine jg_y (fun w hs => yv_lss rfl rfl) rfl rfl ?_
  refine jg_y (fun w hs => yv_pick_f rfl rfl) rfl rfl ?_
  refine jg_mv rfl rfl rfl ?_
  refine jg_split 51 rfl ?_ ?_
  · refine jg_skip rfl rfl ?_
    refine jg_skip rfl rfl ?_
    refine jg_skip rfl rfl ?_
    refine jg_y (fun w hs => yv_pick_t rfl rfl) rfl rfl ?_
    refine jg_mv rfl rfl rfl ?_
    refine jg_skip rfl rfl ?_
    refine jg_skip rfl rfl ?_
    refine jg_skip rfl rfl ?_
    refine jg_y (fun w hs => yv_pick_t rfl rfl) rfl rfl ?_
    refine jg_mv rfl rfl rfl ?_
    refine jg_skip rfl rfl ?_
    refine jg_skip rfl rfl ?_
    refine jg_skip rfl rfl ?_
    refine jg_y (fun w hs => yv_pick_t rfl rfl) rfl rfl ?_
    refine jg_nils [(0, _), (2, _), (4, _), (5, _), (6, _), (65, _)] ⟨rfl, rfl, rfl, rfl, rfl, rfl, trivial⟩ ?_
    refine jk_sn ?_
    refine jn_ct rfl ?_
    refine jn_seq ?_
    refine jn_reg 11 ?_
    refine jg_y (fun w hs => yv_build rfl (o2 rfl)) rfl rfl ?_
    refine jg_store 1 rfl rfl rfl (l2 rfl) rfl rfl rfl rfl (l2 rfl) (r3 rfl) ?_
    refine jg_as rfl rfl rfl ?_
    refine jg_nils [(2, _), (3, _)] ⟨rfl, rfl, trivial⟩ ?_
    refine jk_sel (is := [1]) (s1 rfl) rfl ?_
    refine jk_sn ?_
    refine jn_ret ?_
    refine jk_sr (jk_br (jk_sr (jk_lr (jk_br (jk_sr ?_)))))
    exact jk_ret2 rfl (fun w hs => .cell rfl (ldBB (hs.blkL (i := 0) rfl) rfl)) (fun w hs => .tmp rfl) (fun w hs => ⟨rfl, hs.drop⟩)
  refine jg_y (fun w hs => yv_fieldAddr rfl) rfl rfl ?_
  refine jg_y (fun w hs => yv_load rfl (ld1B (hs.blkL (i := 0) rfl) rfl)) rfl rfl ?_
  refine jg_y (fun w hs => yv_gtr rfl rfl) rfl rfl ?_
  refine jg_y (fun w hs => yv_pick_f rfl rfl) rfl rfl ?_
  refine jg_mv rfl rfl rfl ?_
  refine jg_split 56 rfl ?_ ?_
  · refine jg_skip rfl rfl ?_
    refine jg_skip rfl rfl ?_
    refine jg_skip rfl rfl ?_
    refine jg_y (fun w hs => yv_pick_t rfl rfl) rfl rfl ?_
    refine jg_mv rfl rfl rfl ?_
    refine jg_skip rfl rfl ?_
    refine jg_skip rfl rfl ?_
    refine jg_skip rfl rfl ?_
    refine jg_y (fun w hs => yv_pick_t rfl rfl) rfl rfl ?_
    refine jg_nils [(0, _), (2, _), (4, _), (5, _), (6, _), (65, _)] ⟨rfl, rfl, rfl, rfl, rfl, rfl, trivial⟩ ?_
    refine jk_sn ?_
    refine jn_ct rfl ?_
    refine jn_seq ?_
    refine jn_reg 11 ?_
    refine jg_y (fun w hs => yv_build rfl (o2 rfl)) rfl rfl ?_
    refine jg_store 1 rfl rfl rfl (l2 rfl) rfl rfl rfl rfl (l2 rfl) (r3 rfl) ?_
    refine jg_as rfl rfl rfl ?_
    refine jg_nils [(2, _), (3, _)] ⟨rfl, rfl, trivial⟩ ?_
    refine jk_sel (is := [1]) (s1 rfl) rfl ?_
    refine jk_sn ?_
    refine jn_ret ?_
    refine jk_sr (jk_br (jk_sr (jk_lr (jk_br (jk_sr ?_)))))
    exact jk_ret2 rfl (fun w hs => .cell rfl (ldBB (hs.blkL (i := 0) rfl) rfl)) (fun w hs => .tmp rfl) (fun w hs => ⟨rfl, hs.drop⟩)
  refine jg_y (fun w hs => yv_fieldAddr rfl) rfl rfl ?_
  refine jg_y (fun w hs => yv_load rfl (ld1B (hs.blkL (i := 0) rfl) rfl)) rfl rfl ?_
  refine jg_y (fun w hs => yv_lss rfl rfl) rfl rfl ?_
  refine jg_y (fun w hs => yv_pick_f rfl rfl) rfl rfl ?_
  refine jg_mv rfl rfl rfl ?_
  refine jg_split 61 rfl ?_ ?_
  · refine jg_skip rfl rfl ?_
    refine jg_skip rfl rfl ?_
    refine jg_skip rfl rfl ?_
    refine jg_y (fun w hs => yv_pick_t rfl rfl) rfl rfl ?_
    refine jg_nils [(0, _), (2, _), (4, _), (5, _), (6, _), (65, _)] ⟨rfl, rfl, rfl, rfl, rfl, rfl, trivial⟩ ?_
    refine jk_sn ?_
    refine jn_ct rfl ?_
    refine jn_seq ?_
    refine jn_reg 11 ?_
    refine jg_y (fun w hs => yv_build rfl (o2 rfl)) rfl rfl ?_
    refine jg_store 1 rfl rfl rfl (l2 rfl) rfl rfl rfl rfl (l2 rfl) (r3 rfl) ?_
    refine jg_as rfl rfl rfl ?_
    refine jg_nils [(2, _), (3, _)] ⟨rfl, rfl, trivial⟩ ?_
    refine jk_sel (is := [1]) (s1 rfl) rfl ?_
    refine jk_sn ?_
    refine jn_ret ?_
    refine jk_sr (jk_br (jk_sr (jk_lr (jk_br (jk_sr ?_)))))
    exact jk_ret2 rfl (fun w hs => .cell rfl (ldBB (hs.blkL (i := 0) rfl) rfl)) (fun w hs => .tmp rfl) (fun w hs => ⟨rfl, hs.drop⟩)
  refine jg_y (fun w hs => yv_fieldAddr rfl) rfl rfl ?_
  refine jg_y (fun w hs => yv_load rfl (ld1B (hs.blkL (i := 0) rfl) rfl)) rfl rfl ?_
  refine jg_y (fun w hs => yv_gtr rfl rfl) rfl rfl ?_
  refine jg_y (fun w hs => yv_pick_f rfl rfl) rfl rfl ?_
  refine jg_nils [(0, _), (2, _), (4, _), (5, _), (6, _), (65, _)] ⟨rfl, rfl, rfl, rfl, rfl, rfl, trivial⟩ ?_
  refine jk_sn ?_
  refine jn_cond rfl ?_ ?_
  · refine jn_seq ?_
    refine jn_reg 11 ?_
    refine jg_y (fun w hs => yv_build rfl (o2 rfl)) rfl rfl ?_
    refine jg_store 1 rfl rfl rfl (l2 rfl) rfl rfl rfl rfl (l2 rfl) (r3 rfl) ?_
    refine jg_as rfl rfl rfl ?_
    refine jg_nils [(2, _), (3, _)] ⟨rfl, rfl, trivial⟩ ?_
    refine jk_sel (is := [1]) (s1 rfl) rfl ?_
    refine jk_sn ?_
    refine jn_ret ?_
    refine jk_sr (jk_br (jk_sr (jk_lr (jk_br (jk_sr ?_)))))
    exact jk_ret2 rfl (fun w hs => .cell rfl (ldBB (hs.blkL (i := 0) rfl) rfl)) (fun w hs => .tmp rfl) (fun w hs => ⟨rfl, hs.drop⟩)
  refine jn_skip ?_
  refine jk_sn ?_
  refine jn_seq ?_
  refine jn_draw (L' := [_, _, _]) 12 [0, 1, 2] [0, 1, 2, 3, 4, 5, 6, 7, 8, 9, 10, 11, 12, 13, 14, 15, 16] 131071 131071 [0, 1, 0, 4, 10, 0, 32, 0, 128, 320, 528, 1024, 0, 4096, 8192, 4095, 65535] [0, 1, 0, 4, 15, 0, 32, 0, 128, 480, 1023, 2047, 0, 4096, 12288, 4095, 65535] [(0, true), (1, true), (2, true), (3, true), (4, true), (5, true), (6, true), (7, true), (8, true), (9, true), (10, true), (11, true), (12, true), (13, true), (14, true), (15, true), (16, true)] rfl (np_seq (np_blk (np_seq (np_rnd (np_blk (np_seq np_rt)))))) (by kernel_rfl) (by kernel_rfl) (by kernel_rfl) (by kernel_rfl) (by kernel_rfl) (by kernel_rfl) (by kernel_rfl) (by kernel_rfl) ?_
  refine jd_y rfl (fun w hs => yv_fieldAddr rfl) rfl rfl ?_
  refine jd_y rfl (fun w hs => yv_load rfl (ld1B (hs.blk (i := 0) rfl) rfl)) rfl rfl ?_
  refine jd_y rfl (fun w hs => yv_fieldAddr rfl) rfl rfl ?_
  refine jd_y rfl (fun w hs => yv_load rfl (ld1B (hs.blk (i := 0) rfl) rfl)) rfl rfl ?_
  refine jd_y rfl (fun w hs => yv_mul_w rfl rfl) rfl rfl ?_
  refine jd_y rfl (fun w hs => yv_fieldAddr rfl) rfl rfl ?_
  refine jd_y rfl (fun w hs => yv_load rfl (ld1B (hs.blk (i := 0) rfl) rfl)) rfl rfl ?_
  refine jd_y rfl (fun w hs => yv_fieldAddr rfl) rfl rfl ?_
  refine jd_y rfl (fun w hs => yv_load rfl (ld1B (hs.blk (i := 0) rfl) rfl)) rfl rfl ?_
  refine jd_y rfl (fun w hs => yv_mul_w rfl rfl) rfl rfl ?_
  refine jd_yl rfl (fun w hs => yv_sub_w rfl rfl) rfl rfl fun x11 => ?_
  refine jd_y rfl (fun w hs => yv_mul_w rfl rfl) rfl rfl ?_
  refine jd_y rfl (fun w hs => yv_fieldAddr rfl) rfl rfl ?_
  refine jd_y rfl (fun w hs => yv_load rfl (ld1B (hs.blk (i := 0) rfl) rfl)) rfl rfl ?_
  refine jd_y rfl (fun w hs => yv_mul_w rfl rfl) rfl rfl ?_
  refine jd_as rfl rfl rfl rfl ?_
  refine jd_as rfl rfl rfl rfl ?_
  refine jd_nils [(0, _), (2, _), (4, _), (5, _), (6, _), (7, _), (8, _)] ⟨rfl, rfl, rfl, rfl, rfl, rfl, rfl, trivial⟩ ?_
  refine jk_sn ?_
  refine jn_seq ?_
  refine jn_draw (L' := [_, _, _]) 13 [0, 1, 2] [0, 1, 2, 3, 4, 5, 6, 7, 8, 9] 1023 2047 [0, 1, 0, 4, 0, 0, 48, 72, 130, 511, 1023] [0, 1, 0, 4, 0, 0, 48, 124, 255, 511, 1023] [(0, true), (1, true), (2, true), (3, true), (4, true), (5, true), (6, true), (7, true), (8, true), (9, true), (10, false)] rfl (np_seq (np_blk (np_seq (np_rnd (np_blk (np_seq np_rt)))))) (by kernel_rfl) (by kernel_rfl) (by kernel_rfl) (by kernel_rfl) (by kernel_rfl) (by kernel_rfl) (by kernel_rfl) (by kernel_rfl) ?_
  refine jd_y rfl (fun w hs => yv_fieldAddr rfl) rfl rfl ?_
  refine jd_y rfl (fun w hs => yv_load rfl (ld1B (hs.blk (i := 2) rfl) rfl)) rfl rfl ?_
  refine jd_y rfl (fun w hs => yv_fieldAddr rfl) rfl rfl ?_
  refine jd_y rfl (fun w hs => yv_load rfl (ld1B (hs.blk (i := 0) rfl) rfl)) rfl rfl ?_
  refine jd_mv rfl rfl rfl rfl ?_
  refine jd_mv rfl rfl rfl rfl ?_
  refine jd_c0 rfl rfl (fun v w hs hm => r01_Down_c hm ) rfl rfl fun v12 => ?_
  refine jd_y rfl (fun w hs => yv_add_w rfl rfl) rfl rfl ?_
  refine jd_yl rfl (fun w hs => yv_min rfl rfl) rfl rfl fun x13 => ?_
  refine jd_y rfl (fun w hs => yv_fieldAddr rfl) rfl rfl ?_
  refine jd_h rfl ?_
  refine jg_store 2 rfl rfl rfl (l1 rfl) rfl rfl rfl rfl (l2 rfl) (r3 rfl) ?_
  refine jg_nil ?_
  refine jk_df rfl ?_
  refine jf_nils [(0, _), (2, _), (4, _), (5, _), (6, _), (7, _), (8, _)] ⟨rfl, rfl, rfl, rfl, rfl, rfl, rfl, trivial⟩ ?_
  refine jk_sn ?_
  refine jn_draw (L' := [_, _, _]) 14 [0, 1, 2] [0, 1, 2, 3, 4, 5, 6, 7, 8, 9] 1023 2047 [0, 1, 0, 4, 0, 0, 48, 72, 130, 511, 1023] [0, 1, 0, 4, 0, 0, 48, 124, 255, 511, 1023] [(0, true), (1, true), (2, true), (3, true), (4, true), (5, true), (6, true), (7, true), (8, true), (9, true), (10, false)] rfl (np_blk (np_seq (np_rnd (np_blk (np_seq np_rt))))) (by kernel_rfl) (by kernel_rfl) (by kernel_rfl) (by kernel_rfl) (by kernel_rfl) (by kernel_rfl) (by kernel_rfl) (by kernel_rfl) ?_
  refine jd_y rfl (fun w hs => yv_fieldAddr rfl) rfl rfl ?_
  refine jd_y rfl (fun w hs => yv_load rfl (ld1B (hs.blk (i := 2) rfl) rfl)) rfl rfl ?_
  refine jd_y rfl (fun w hs => yv_fieldAddr rfl) rfl rfl ?_
  refine jd_y rfl (fun w hs => yv_load rfl (ld1B (hs.blk (i := 0) rfl) rfl)) rfl rfl ?_
  refine jd_mv rfl rfl rfl rfl ?_
  refine jd_mv rfl rfl rfl rfl ?_
  refine jd_c0 rfl rfl (fun v w hs hm => r01_Up_c hm ) rfl rfl fun v14 => ?_
  refine jd_y rfl (fun w hs => yv_add_w rfl rfl) rfl rfl ?_
  refine jd_yl rfl (fun w hs => yv_max rfl rfl) rfl rfl fun x15 => ?_
  refine jd_y rfl (fun w hs => yv_fieldAddr rfl) rfl rfl ?_
  refine jd_h rfl ?_
  refine jg_store 2 rfl rfl rfl (l1 rfl) rfl rfl rfl rfl (l2 rfl) (r3 rfl) ?_
  refine jg_nil ?_
  refine jk_df rfl ?_
  refine jf_nils [(0, _), (2, _), (4, _), (5, _)] ⟨rfl, rfl, rfl, rfl, trivial⟩ ?_
  refine jk_bn (jk_sn ?_)
  refine jn_reg 8 ?_
  refine jg_mv rfl rfl rfl ?_
  refine jg_y (fun w hs => yv_add_w rfl rfl) rfl rfl ?_
  refine jg_as rfl rfl rfl ?_
  refine jg_nils [(0, _), (2, _), (4, _), (5, _)] ⟨rfl, rfl, rfl, rfl, trivial⟩ ?_
  exact jk_use H6 (x13, x15, w64 (z3.2.2 + 1)) () [1, 2] ⟨rfl, rfl, rfl, rfl, trivial⟩ rfl rfl rfl
theorem gen_Intervals_c {w : World} {a0 : (List Interval)} {a1 : (List Interval)} {ha0 : Hd} {ha1 : Hd} {v : Bool} (hm : gen_Intervals a0 a1 = some v) (Rha0 : Sl w ha0 Interval.enc a0) (Rha1 : Sl w ha1 Interval.enc a1) : Gives Try.prog 45 [ha0.v, ha1.v] w (.bool v) := by
  refine j_gives (vs := [ha0.v, ha1.v]) (U := fun (v : Bool) => .bool v) Try.func45 rfl Try.ntmps45 rfl rfl hm ?_
  unfold gen_Intervals
  clear hm
  refine jn_seq ?_
  refine jn_reg 0 ?_
  refine jg_as rfl rfl rfl ?_
  refine jg_nils [(0, _), (1, _)] ⟨rfl, rfl, trivial⟩ ?_
  refine jk_sn ?_
  refine jn_seq ?_
  refine jn_seq ?_
  refine jn_reg 1 ?_
  refine jg_mv rfl rfl rfl ?_
  refine jg_y (fun w hs => yv_ln rfl (hs.arg Rha0)) rfl rfl ?_
  refine jg_mv rfl rfl rfl ?_
  refine jg_y (fun w hs => yv_ln rfl (hs.arg Rha1)) rfl rfl ?_
  refine jg_y (fun w hs => yv_neq rfl rfl) rfl rfl ?_
  refine jg_nils [(0, _), (1, _), (10, _)] ⟨rfl, rfl, rfl, trivial⟩ ?_
  refine jk_sn ?_
  refine jn_cond rfl ?_ ?_
  · refine jn_seq ?_
    refine jn_reg 2 ?_
    refine jg_as rfl rfl rfl ?_
    refine jg_nils [(4, _)] ⟨rfl, trivial⟩ ?_
    refine jk_sn ?_
    refine jn_ret ?_
    refine jk_sr ?_
    exact jk_ret1 rfl (fun w hs => .tmp rfl) (fun w hs => ⟨rfl, hs.drop⟩)
  refine jn_skip ?_
  refine jk_sn ?_
  refine jn_seq ?_
  refine jn_seq ?_
  refine jn_reg 3 ?_
  refine jg_as rfl rfl rfl ?_
  refine jg_nils [(0, _), (1, _), (5, _)] ⟨rfl, rfl, rfl, trivial⟩ ?_
  refine jk_sn ?_
  refine jn_block ?_
  refine jn_lp (n := big) (fun (s : Int) (g : Unit) => [(0, ha0.v), (1, ha1.v), (5, .int .i64 s)]) (fun (s : Int) (g : Unit) => []) (fun (s : Int) (g : Unit) => []) 0 () [] ⟨rfl, rfl, rfl, trivial⟩ rfl rfl rfl ?_
  intro z1 q2 n5 k3 H4
  refine jn_seq ?_
  refine jn_seq ?_
  refine jn_reg 4 ?_
  refine jg_mv rfl rfl rfl ?_
  refine jg_mv rfl rfl rfl ?_
  refine jg_y (fun w hs => yv_ln rfl (hs.arg Rha0)) rfl rfl ?_
  refine jg_y (fun w hs => yv_lss rfl rfl) rfl rfl ?_
  refine jg_nils [(0, _), (1, _), (5, _), (14, _)] ⟨rfl, rfl, rfl, rfl, trivial⟩ ?_
  refine jk_sn ?_
  refine jn_cond rfl ?_ ?_
  rotate_left
  · refine jn_exit ?_
    refine jk_se (jk_le (jk_bh (jk_sn ?_)))
    refine jn_seq ?_
    refine jn_reg 8 ?_
    refine jg_as rfl rfl rfl ?_
    refine jg_nils [(4, _)] ⟨rfl, trivial⟩ ?_
    refine jk_sn ?_
    refine jn_ret ?_
    exact jk_ret1 rfl (fun w hs => .tmp rfl) (fun w hs => ⟨rfl, hs.drop⟩)
  refine jn_skip ?_
  refine jk_sn ?_
  refine jn_seq ?_
  refine jn_block ?_
  refine jn_seq ?_
  refine jn_draw (L' := []) 6 [] [0, 1, 2, 3, 4, 5, 6, 7, 8] 511 511 [0, 0, 3, 4, 0, 0, 48, 64, 136] [0, 0, 3, 7, 0, 0, 48, 112, 255] [(0, true), (1, true), (2, true), (3, true), (4, true), (5, true), (6, true), (7, true), (8, true)] rfl (np_seq (np_blk (np_seq (np_rnd (np_blk (np_seq np_rt)))))) (by kernel_rfl) (by kernel_rfl) (by kernel_rfl) (by kernel_rfl) (by kernel_rfl) (by kernel_rfl) (by kernel_rfl) (by kernel_rfl) ?_
  refine jd_mv rfl rfl rfl rfl ?_
  refine jd_mv rfl rfl rfl rfl ?_
  refine jd_ix fun x6 h7 => ?_
  refine jd_y rfl (fun w hs => yv_ix rfl rfl (hs.arg Rha0) h7) rfl rfl ?_
  refine jd_y rfl (fun w hs => yv_eS rfl (hs.arg Rha0) h7.1 (l2 rfl) rfl) rfl rfl ?_
  refine jd_mv rfl rfl rfl rfl ?_
  refine jd_mv rfl rfl rfl rfl ?_
  refine jd_ix fun x8 h9 => ?_
  refine jd_y rfl (fun w hs => yv_ix rfl rfl (hs.arg Rha1) h9) rfl rfl ?_
  refine jd_y rfl (fun w hs => yv_eS rfl (hs.arg Rha1) h9.1 (l2 rfl) rfl) rfl rfl ?_
  refine jd_y rfl (fun w hs => yne55 rfl rfl) rfl rfl ?_
  refine jd_nils [(0, _), (1, _), (5, _), (25, _)] ⟨rfl, rfl, rfl, rfl, trivial⟩ ?_
  refine jk_sn ?_
  refine jn_cond rfl ?_ ?_
  · refine jn_seq ?_
    refine jn_reg 7 ?_
    refine jg_as rfl rfl rfl ?_
    refine jg_nils [(4, _)] ⟨rfl, trivial⟩ ?_
    refine jk_sn ?_
    refine jn_ret ?_
    refine jk_br (jk_sr (jk_lr (jk_br (jk_sr ?_))))
    exact jk_ret1 rfl (fun w hs => .tmp rfl) (fun w hs => ⟨rfl, hs.drop⟩)
  refine jn_skip ?_
  refine jk_bn (jk_sn ?_)
  refine jn_reg 5 ?_
  refine jg_mv rfl rfl rfl ?_
  refine jg_y (fun w hs => yv_add_w rfl rfl) rfl rfl ?_
  refine jg_as rfl rfl rfl ?_
  refine jg_nils [(0, _), (1, _), (5, _)] ⟨rfl, rfl, rfl, trivial⟩ ?_
  exact jk_use H4 (w64 (z1 + 1)) () [] ⟨rfl, rfl, rfl, trivial⟩ rfl rfl rfl
end Go.Proofs.Ytncgacgkeonfnaa
