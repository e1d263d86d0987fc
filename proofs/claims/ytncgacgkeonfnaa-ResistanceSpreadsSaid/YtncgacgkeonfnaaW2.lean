/-
  The functions give what their models give. Printed by a program.
-/
import Derived.Test.YtncgacgkeonfnaaFacts
import Derived.Test.YtncgacgkeonfnaaMod
import Derived.Test.YtncgacgkeonfnaaW0
import Derived.Test.YtncgacgkeonfnaaW1
namespace Go.Proofs.Ytncgacgkeonfnaa
open Go.Hy
set_option linter.unusedVariables false
set_option linter.unusedSimpArgs false
set_option maxHeartbeats 2000000
set_option maxRecDepth 100000
theorem law19_ResistanceSpreads_c {w : World} {a0 : (List Int)} {a1 : Interval} {a2 : (List Piece)} {a3 : (List Sample)} {ha0 : Hd} {ha2 : Hd} {ha3 : Hd} {v : Bool} (hm : law19_ResistanceSpreads a0 a1 a2 a3 = some v) (Rha0 : Sl w ha0 encI a0) (Rha2 : Sl w ha2 Piece.enc a2) (Rha3 : Sl w ha3 Sample.enc a3) : Gives Try.prog 13 [ha0.v, .agg #[.int .i64 a1.Lo, .int .i64 a1.Hi], ha2.v, ha3.v] w (.bool v) := by
  refine j_gives (vs := [ha0.v, .agg #[.int .i64 a1.Lo, .int .i64 a1.Hi], ha2.v, ha3.v]) (U := fun (v : Bool) => .bool v) Try.func13 rfl Try.ntmps13 rfl rfl hm ?_
  unfold law19_ResistanceSpreads
  clear hm
  refine jn_seq ?_
  refine jn_reg 0 ?_
  refine jg_box rfl (l2 rfl) rfl rfl fun g1 => ?_
  refine jg_as rfl rfl rfl ?_
  refine jg_nils [(0, _), (2, _), (3, _), (5, _)] ⟨rfl, rfl, rfl, rfl, trivial⟩ ?_
  refine jk_sn ?_
  refine jn_seq ?_
  refine jn_reg 1 ?_
  refine jg_mv rfl rfl rfl ?_
  refine jg_c rfl (fun v w hs hm => gen_New_c hm (hs.arg Rha0)) rfl rfl fun v2 q3 => ?_
  refine jg_L (r2 rfl) ?_
  refine jg_as rfl rfl rfl ?_
  refine jg_nils [(2, _), (3, _), (5, _), (9, _)] ⟨rfl, rfl, rfl, rfl, trivial⟩ ?_
  refine jk_sn ?_
  refine jn_seq ?_
  refine jn_seq ?_
  refine jn_reg 2 ?_
  refine jg_as rfl rfl rfl ?_
  refine jg_nils [(2, _), (3, _), (5, _), (9, _), (10, _)] ⟨rfl, rfl, rfl, rfl, rfl, trivial⟩ ?_
  refine jk_sn ?_
  refine jn_block ?_
  refine jn_lp (n := big) (fun (s : (Int × Int)) (g : Unit) => [(2, ha2.v), (3, ha3.v), (5, .pointer (some ⟨g1, 0, none⟩)), (9, .pointer (some ⟨q3, 0, none⟩)), (10, .int .i64 s.2)]) (fun (s : (Int × Int)) (g : Unit) => []) (fun (s : (Int × Int)) (g : Unit) => [(Res.blk g1 55 [.int .i64 a1.Lo, .int .i64 a1.Hi]), (Res.blk q3 84 [ha0.v, .int .i64 s.1])]) (v2.fn, 0) () [1, 0] ⟨rfl, rfl, rfl, rfl, rfl, trivial⟩ rfl rfl rfl ?_
  intro z4 q5 n8 k6 H7
  refine jn_seq ?_
  refine jn_seq ?_
  refine jn_reg 3 ?_
  refine jg_mv rfl rfl rfl ?_
  refine jg_y (fun w hs => yv_lss rfl rfl) rfl rfl ?_
  refine jg_nils [(2, _), (3, _), (5, _), (9, _), (10, _), (25, _)] ⟨rfl, rfl, rfl, rfl, rfl, rfl, trivial⟩ ?_
  refine jk_sn ?_
  refine jn_cond rfl ?_ ?_
  rotate_left
  · refine jn_exit ?_
    refine jk_se (jk_le (jk_bh (jk_sn ?_)))
    refine jn_seq ?_
    refine jn_reg 19 ?_
    refine jg_c0 rfl (fun v w hs hm => law19_sane_c hm ) rfl rfl fun v60 => ?_
    refine jg_as rfl rfl rfl ?_
    refine jg_nils [(8, _)] ⟨rfl, trivial⟩ ?_
    refine jk_sel (is := []) (s0 rfl) rfl ?_
    refine jk_sn ?_
    refine jn_ret ?_
    exact jk_ret1 rfl (fun w hs => .tmp rfl) (fun w hs => ⟨rfl, hs.drop⟩)
  refine jn_skip ?_
  refine jk_sn ?_
  refine jn_seq ?_
  refine jn_block ?_
  refine jn_seq ?_
  refine jn_reg 5 ?_
  refine jg_mv rfl rfl rfl ?_
  refine jl_c 1 rfl rfl (fun v w hs hm => gen_Maker_Valid_c hm (hs.blkL (i := 1) rfl) (hs.arg Rha0) (hs.offAL 1 Rha0 rfl)) (fun _ => rfl) rfl rfl fun v9 q10 => ?_
  refine jg_L (r2 rfl) ?_
  refine jg_mv rfl rfl rfl ?_
  refine jl_c 1 rfl rfl (fun v w hs hm => gen_Maker_Pieces_c hm (hs.blkL (i := 1) rfl) (hs.arg Rha0) (hs.offAL 1 Rha0 rfl)) (fun _ => rfl) rfl rfl fun v11 q12 => ?_
  refine jg_L (r3 rfl) ?_
  refine jg_mv rfl rfl rfl ?_
  refine jl_c 2 rfl rfl (fun v w hs hm => law19_samples_c hm (hs.blkL (i := 2) rfl) (hs.arg Rha0) (hs.offAL 2 Rha0 rfl)) (fun _ => rfl) rfl rfl fun v13 q14 => ?_
  refine jg_L (r4 rfl) ?_
  refine jg_alloc (l2 rfl) rfl rfl fun g15 => ?_
  refine jg_store 0 rfl rfl rfl (l2 rfl) rfl rfl rfl rfl (l2 rfl) (r5 rfl) ?_
  refine jg_as rfl rfl rfl ?_
  refine jg_as rfl rfl rfl ?_
  refine jg_nils [(2, _), (3, _), (5, _), (9, _), (10, _), (11, _), (12, _), (13, _)] ⟨rfl, rfl, rfl, rfl, rfl, rfl, rfl, rfl, trivial⟩ ?_
  refine jk_sn ?_
  refine jn_join (fun (s : (Int × Int × Int × (List Piece) × (List Sample))) (g : Unit) => [(2, ha2.v), (3, ha3.v), (5, .pointer (some ⟨g1, 0, none⟩)), (9, .pointer (some ⟨q3, 0, none⟩)), (10, .int .i64 z4.2), (11, .pointer (some ⟨g15, 0, none⟩)), (12, q12.v), (13, q14.v)]) (fun (s : (Int × Int × Int × (List Piece) × (List Sample))) (g : Unit) => []) (fun (s : (Int × Int × Int × (List Piece) × (List Sample))) (g : Unit) => [(Res.blk g1 55 [.int .i64 a1.Lo, .int .i64 a1.Hi]), (Res.blk q3 84 [ha0.v, .int .i64 s.1]), (Res.blk g15 55 [.int .i64 s.2.1, .int .i64 s.2.2.1]), (rowH q12 77 5 Piece.enc s.2.2.2.1), (rowH q14 53 4 Sample.enc s.2.2.2.2)]) ?_ ?_
  rotate_left
  · intro k18 H19
    refine jn_seq ?_
    refine jn_reg 6 ?_
    refine jg_mv rfl rfl rfl ?_
    refine jg_y (fun w hs => yv_eql rfl rfl) rfl rfl ?_
    refine jg_nils [(2, _), (3, _), (5, _), (9, _), (10, _), (11, _), (12, _), (13, _), (35, _)] ⟨rfl, rfl, rfl, rfl, rfl, rfl, rfl, rfl, rfl, trivial⟩ ?_
    refine jk_sn ?_
    refine jn_cond rfl ?_ ?_
    rotate_left
    · refine jn_skip ?_
      exact jk_use H19 (v13.2, v9.1.Lo, v9.1.Hi, v11.1, v13.1) () [3, 4, 0, 2, 1] ⟨rfl, rfl, rfl, rfl, rfl, rfl, rfl, rfl, trivial⟩ rfl rfl rfl
    refine jn_seq ?_
    refine jn_reg 7 ?_
    refine jg_mv rfl rfl rfl ?_
    refine jl_c 4 rfl rfl (fun v w hs hm => gen_Maker_Interval_c hm (hs.blkL (i := 4) rfl) (hs.arg Rha0) (hs.offAL 4 Rha0 rfl)) (fun _ => rfl) rfl rfl fun v42 q43 => ?_
    refine jg_L (r5 rfl) ?_
    refine jg_store 0 rfl rfl rfl (l2 rfl) rfl rfl rfl rfl (l2 rfl) (r5 rfl) ?_
    refine jg_nils [(2, _), (3, _), (5, _), (9, _), (10, _), (11, _), (12, _), (13, _)] ⟨rfl, rfl, rfl, rfl, rfl, rfl, rfl, rfl, trivial⟩ ?_
    refine jk_sn ?_
    refine jn_seq ?_
    refine jn_reg 8 ?_
    refine jg_mv rfl rfl rfl ?_
    refine jg_mv rfl rfl rfl ?_
    refine jg_mv rfl rfl rfl ?_
    refine jg_y (fun w hs => yv_ln rfl (hs.row 2 rfl)) rfl rfl ?_
    refine jl_c 4 rfl rfl (fun v w hs hm => gen_Maker_Next_c hm (hs.blkL (i := 4) rfl) (hs.arg Rha0) (hs.offAL 4 Rha0 rfl)) (fun _ => rfl) rfl rfl fun v44 q45 => ?_
    refine jg_L (r5 rfl) ?_
    refine jg_mv rfl rfl rfl ?_
    refine jg_lit (enc := encI) [(-1), 5000, 5001] rfl rfl rfl rfl rfl rfl rfl rfl fun hd46 => ?_
    refine jl_c 5 rfl rfl (fun v w hs hm => gen_Maker_Pick_c hm (hs.blkL (i := 5) rfl) (hs.arg Rha0) (hs.offAL 5 Rha0 rfl) (hs.row 0 rfl) (hs.offLL 0 5 rfl rfl)) (fun _ => rfl) rfl rfl fun v47 q48 => ?_
    refine jg_L (r6 rfl) ?_
    refine jg_ix fun x49 h50 => ?_
    refine jg_y (fun w hs => yv_ix rfl rfl (hs.row 3 rfl) h50) rfl rfl ?_
    refine jg_y (fun w hs => yv_ef rfl (hs.row 3 rfl) h50.1) rfl rfl ?_
    refine jg_storeE 3 (a' := (Piece.mk x49.Element x49.Length x49.Grade v47.1 x49.Power)) rfl rfl h50.1 rfl (l1 rfl) rfl rfl rfl rfl fun y51 => ?_
    refine jg_L (r6 rfl) ?_
    refine jg_nils [(2, _), (3, _), (5, _), (9, _), (10, _), (11, _), (12, _), (13, _)] ⟨rfl, rfl, rfl, rfl, rfl, rfl, rfl, rfl, trivial⟩ ?_
    refine jk_sn ?_
    refine jn_seq ?_
    refine jn_reg 9 ?_
    refine jg_mv rfl rfl rfl ?_
    refine jg_y (fun w hs => yv_ln rfl (hs.row 2 rfl)) rfl rfl ?_
    refine jg_y (fun w hs => yv_gtr rfl rfl) rfl rfl ?_
    refine jg_nils [(2, _), (3, _), (5, _), (9, _), (10, _), (11, _), (12, _), (13, _), (50, _)] ⟨rfl, rfl, rfl, rfl, rfl, rfl, rfl, rfl, rfl, trivial⟩ ?_
    refine jk_sn ?_
    refine jn_cond rfl ?_ ?_
    rotate_left
    · refine jn_skip ?_
      exact jk_use H19 (v47.2, v42.1.Lo, v42.1.Hi, y51, v13.1) () [4, 5, 1, 3, 2] ⟨rfl, rfl, rfl, rfl, rfl, rfl, rfl, rfl, trivial⟩ rfl rfl rfl
    refine jn_reg 10 ?_
    refine jg_mv rfl rfl rfl ?_
    refine jg_mv rfl rfl rfl ?_
    refine jg_mv rfl rfl rfl ?_
    refine jg_y (fun w hs => yv_ln rfl (hs.row 2 rfl)) rfl rfl ?_
    refine jl_c 5 rfl rfl (fun v w hs hm => gen_Maker_Next_c hm (hs.blkL (i := 5) rfl) (hs.arg Rha0) (hs.offAL 5 Rha0 rfl)) (fun _ => rfl) rfl rfl fun v52 q53 => ?_
    refine jg_L (r6 rfl) ?_
    refine jg_mv rfl rfl rfl ?_
    refine jg_lit (enc := encI) [0, 1000000, 1000001] rfl rfl rfl rfl rfl rfl rfl rfl fun hd54 => ?_
    refine jl_c 6 rfl rfl (fun v w hs hm => gen_Maker_Pick_c hm (hs.blkL (i := 6) rfl) (hs.arg Rha0) (hs.offAL 6 Rha0 rfl) (hs.row 0 rfl) (hs.offLL 0 6 rfl rfl)) (fun _ => rfl) rfl rfl fun v55 q56 => ?_
    refine jg_L (r7 rfl) ?_
    refine jg_ix fun x57 h58 => ?_
    refine jg_y (fun w hs => yv_ix rfl rfl (hs.row 3 rfl) h58) rfl rfl ?_
    refine jg_y (fun w hs => yv_ef rfl (hs.row 3 rfl) h58.1) rfl rfl ?_
    refine jg_storeE 3 (a' := (Sample.mk v55.1 x57.Grade x57.Before x57.Behind)) rfl rfl h58.1 rfl (l1 rfl) rfl rfl rfl rfl fun y59 => ?_
    refine jg_L (r7 rfl) ?_
    refine jg_nils [(2, _), (3, _), (5, _), (9, _), (10, _), (11, _), (12, _), (13, _)] ⟨rfl, rfl, rfl, rfl, rfl, rfl, rfl, rfl, trivial⟩ ?_
    refine jk_sel (is := [2, 3, 4, 5, 6]) (s5 rfl) rfl ?_
    exact jk_use H19 (v55.2, v42.1.Lo, v42.1.Hi, y51, y59) () [3, 4, 0, 2, 1] ⟨rfl, rfl, rfl, rfl, rfl, rfl, rfl, rfl, trivial⟩ rfl rfl rfl
  intro z16 q17
  refine jn_seq ?_
  refine jn_join (fun (s : Bool) (g : Unit) => [(2, ha2.v), (3, ha3.v), (5, .pointer (some ⟨g1, 0, none⟩)), (9, .pointer (some ⟨q3, 0, none⟩)), (10, .int .i64 z4.2), (11, .pointer (some ⟨g15, 0, none⟩)), (12, q12.v), (13, q14.v), (72, .bool s)]) (fun (s : Bool) (g : Unit) => []) (fun (s : Bool) (g : Unit) => [(Res.blk g1 55 [.int .i64 a1.Lo, .int .i64 a1.Hi]), (Res.blk q3 84 [ha0.v, .int .i64 z16.1]), (Res.blk g15 55 [.int .i64 z16.2.1, .int .i64 z16.2.2.1]), (rowH q12 77 5 Piece.enc z16.2.2.2.1), (rowH q14 53 4 Sample.enc z16.2.2.2.2)]) ?_ ?_
  rotate_left
  · intro k22 H23
    refine jn_reg 11 ?_
    refine jg_mv rfl rfl rfl ?_
    refine jg_y (fun w hs => yv_eql rfl rfl) rfl rfl ?_
    refine jg_mv rfl rfl rfl ?_
    refine jg_split 63 rfl ?_ ?_
    rotate_left
    · refine jg_skip rfl rfl ?_
      refine jg_skip rfl rfl ?_
      refine jg_skip rfl rfl ?_
      refine jg_y (fun w hs => yv_pick_f rfl rfl) rfl rfl ?_
      refine jg_mv rfl rfl rfl ?_
      refine jg_skip rfl rfl ?_
      refine jg_skip rfl rfl ?_
      refine jg_skip rfl rfl ?_
      refine jg_y (fun w hs => yv_pick_f rfl rfl) rfl rfl ?_
      refine jg_nils [(2, _), (3, _), (5, _), (9, _), (10, _), (11, _), (12, _), (13, _), (72, _)] ⟨rfl, rfl, rfl, rfl, rfl, rfl, rfl, rfl, rfl, trivial⟩ ?_
      exact jk_use H23 false () [0, 1, 2, 3, 4] ⟨rfl, rfl, rfl, rfl, rfl, rfl, rfl, rfl, rfl, trivial⟩ rfl rfl rfl
    refine jg_mv rfl rfl rfl ?_
    refine jg_y (fun w hs => yv_ln rfl (hs.arg Rha2)) rfl rfl ?_
    refine jg_y (fun w hs => yv_leq rfl rfl) rfl rfl ?_
    refine jg_y (fun w hs => yv_pick_t rfl rfl) rfl rfl ?_
    refine jg_mv rfl rfl rfl ?_
    refine jg_split 68 rfl ?_ ?_
    · refine jg_mv rfl rfl rfl ?_
      refine jg_y (fun w hs => yv_ln rfl (hs.arg Rha3)) rfl rfl ?_
      refine jg_y (fun w hs => yv_leq rfl rfl) rfl rfl ?_
      refine jg_y (fun w hs => yv_pick_t rfl rfl) rfl rfl ?_
      refine jg_nils [(2, _), (3, _), (5, _), (9, _), (10, _), (11, _), (12, _), (13, _), (72, _)] ⟨rfl, rfl, rfl, rfl, rfl, rfl, rfl, rfl, rfl, trivial⟩ ?_
      exact jk_use H23 (decide ((a3.length : Int) ≤ 40)) () [0, 1, 2, 3, 4] ⟨rfl, rfl, rfl, rfl, rfl, rfl, rfl, rfl, rfl, trivial⟩ rfl rfl rfl
    refine jg_skip rfl rfl ?_
    refine jg_skip rfl rfl ?_
    refine jg_skip rfl rfl ?_
    refine jg_y (fun w hs => yv_pick_f rfl rfl) rfl rfl ?_
    refine jg_nils [(2, _), (3, _), (5, _), (9, _), (10, _), (11, _), (12, _), (13, _), (72, _)] ⟨rfl, rfl, rfl, rfl, rfl, rfl, rfl, rfl, rfl, trivial⟩ ?_
    exact jk_use H23 false () [0, 1, 2, 3, 4] ⟨rfl, rfl, rfl, rfl, rfl, rfl, rfl, rfl, rfl, trivial⟩ rfl rfl rfl
  intro z20 q21
  refine jn_cond rfl ?_ ?_
  rotate_left
  · refine jn_skip ?_
    refine jk_sn ?_
    refine jn_seq ?_
    refine jn_reg 13 ?_
    refine jg_y (fun w hs => yv_load rfl (ldBB (hs.blkL (i := 2) rfl) rfl)) rfl rfl ?_
    refine jg_mv rfl rfl rfl ?_
    refine jg_c rfl (fun v w hs hm => resistance_Spread_c (a0 := (Interval.mk z16.2.1 z16.2.2.1)) hm (hs.row 3 rfl)) rfl rfl fun v33 q34 => ?_
    refine jg_L (r6 rfl) ?_
    refine jg_mv rfl rfl rfl ?_
    refine jg_y (fun w hs => yv_extract rfl rfl) rfl rfl ?_
    refine jg_y (fun w hs => yv_extract rfl rfl) rfl rfl ?_
    refine jg_as rfl rfl rfl ?_
    refine jg_as rfl rfl rfl ?_
    refine jg_nils [(2, _), (3, _), (5, _), (9, _), (10, _), (11, _), (12, _), (13, _), (14, _), (15, _)] ⟨rfl, rfl, rfl, rfl, rfl, rfl, rfl, rfl, rfl, rfl, trivial⟩ ?_
    refine jk_sn ?_
    refine jn_seq ?_
    refine jn_reg 14 ?_
    refine jg_y (fun w hs => yv_load rfl (ldBB (hs.blkL (i := 3) rfl) rfl)) rfl rfl ?_
    refine jg_mv rfl rfl rfl ?_
    refine jg_c rfl (fun v w hs hm => r19_Spread_c (a0 := (Interval.mk z16.2.1 z16.2.2.1)) hm (hs.row 4 rfl)) rfl rfl fun v35 q36 => ?_
    refine jg_L (r7 rfl) ?_
    refine jg_mv rfl rfl rfl ?_
    refine jg_y (fun w hs => yv_extract rfl rfl) rfl rfl ?_
    refine jg_y (fun w hs => yv_extract rfl rfl) rfl rfl ?_
    refine jg_as rfl rfl rfl ?_
    refine jg_as rfl rfl rfl ?_
    refine jg_nils [(2, _), (3, _), (5, _), (9, _), (10, _), (13, _), (14, _), (15, _), (16, _), (17, _)] ⟨rfl, rfl, rfl, rfl, rfl, rfl, rfl, rfl, rfl, rfl, trivial⟩ ?_
    refine jk_sel (is := [0, 1, 2, 3, 6]) (s5 rfl) rfl ?_
    refine jk_sn ?_
    refine jn_seq ?_
    refine jn_reg 15 ?_
    refine jg_mv rfl rfl rfl ?_
    refine jg_c0 rfl (fun v w hs hm => resistance_Measured_c hm (hs.row 4 rfl)) rfl rfl fun v37 => ?_
    refine jg_mv rfl rfl rfl ?_
    refine jg_y (fun w hs => yv_extract rfl rfl) rfl rfl ?_
    refine jg_y (fun w hs => yv_extract rfl rfl) rfl rfl ?_
    refine jg_alloc (l2 rfl) rfl rfl fun g38 => ?_
    refine jg_store 0 rfl rfl rfl (l2 rfl) rfl rfl rfl rfl (l2 rfl) (r6 rfl) ?_
    refine jg_as rfl rfl rfl ?_
    refine jg_nils [(2, _), (3, _), (5, _), (9, _), (10, _), (13, _), (14, _), (15, _), (16, _), (17, _), (18, _), (19, _)] ⟨rfl, rfl, rfl, rfl, rfl, rfl, rfl, rfl, rfl, rfl, rfl, rfl, trivial⟩ ?_
    refine jk_sn ?_
    refine jn_seq ?_
    refine jn_reg 16 ?_
    refine jg_mv rfl rfl rfl ?_
    refine jg_c0 rfl (fun v w hs hm => r19_Measured_c hm (hs.row 5 rfl)) rfl rfl fun v39 => ?_
    refine jg_mv rfl rfl rfl ?_
    refine jg_y (fun w hs => yv_extract rfl rfl) rfl rfl ?_
    refine jg_y (fun w hs => yv_extract rfl rfl) rfl rfl ?_
    refine jg_alloc (l2 rfl) rfl rfl fun g40 => ?_
    refine jg_store 0 rfl rfl rfl (l2 rfl) rfl rfl rfl rfl (l2 rfl) (r7 rfl) ?_
    refine jg_as rfl rfl rfl ?_
    refine jg_nils [(2, _), (3, _), (5, _), (9, _), (10, _), (14, _), (15, _), (16, _), (17, _), (18, _), (19, _), (20, _), (21, _)] ⟨rfl, rfl, rfl, rfl, rfl, rfl, rfl, rfl, rfl, rfl, rfl, rfl, rfl, trivial⟩ ?_
    refine jk_sn ?_
    refine jn_seq ?_
    refine jn_reg 17 ?_
    refine jg_mv rfl rfl rfl ?_
    refine jg_mv rfl rfl rfl ?_
    refine jg_c0 rfl (fun v w hs hm => gen_Intervals_c hm (hs.row 3 rfl) (hs.row 2 rfl)) rfl rfl fun v41 => ?_
    refine jg_y (fun w hs => yv_not rfl) rfl rfl ?_
    refine jg_mv rfl rfl rfl ?_
    refine jg_split 102 rfl ?_ ?_
    · refine jg_skip rfl rfl ?_
      refine jg_skip rfl rfl ?_
      refine jg_skip rfl rfl ?_
      refine jg_y (fun w hs => yv_pick_t rfl rfl) rfl rfl ?_
      refine jg_mv rfl rfl rfl ?_
      refine jg_skip rfl rfl ?_
      refine jg_skip rfl rfl ?_
      refine jg_skip rfl rfl ?_
      refine jg_y (fun w hs => yv_pick_t rfl rfl) rfl rfl ?_
      refine jg_mv rfl rfl rfl ?_
      refine jg_skip rfl rfl ?_
      refine jg_skip rfl rfl ?_
      refine jg_skip rfl rfl ?_
      refine jg_y (fun w hs => yv_pick_t rfl rfl) rfl rfl ?_
      refine jg_nils [(2, _), (3, _), (5, _), (9, _), (10, _), (116, _)] ⟨rfl, rfl, rfl, rfl, rfl, rfl, trivial⟩ ?_
      refine jk_sel (is := [4, 5]) (s2 rfl) rfl ?_
      refine jk_sn ?_
      refine jn_ct rfl ?_
      refine jn_seq ?_
      refine jn_reg 18 ?_
      refine jg_as rfl rfl rfl ?_
      refine jg_nils [(8, _)] ⟨rfl, trivial⟩ ?_
      refine jk_sel (is := []) (s0 rfl) rfl ?_
      refine jk_sn ?_
      refine jn_ret ?_
      refine jk_br (jk_sr (jk_lr (jk_br (jk_sr ?_))))
      exact jk_ret1 rfl (fun w hs => .tmp rfl) (fun w hs => ⟨rfl, hs.drop⟩)
    refine jg_mv rfl rfl rfl ?_
    refine jg_mv rfl rfl rfl ?_
    refine jg_y (fun w hs => yv_neq rfl rfl) rfl rfl ?_
    refine jg_y (fun w hs => yv_pick_f rfl rfl) rfl rfl ?_
    refine jg_mv rfl rfl rfl ?_
    refine jg_split 107 rfl ?_ ?_
    · refine jg_skip rfl rfl ?_
      refine jg_skip rfl rfl ?_
      refine jg_skip rfl rfl ?_
      refine jg_y (fun w hs => yv_pick_t rfl rfl) rfl rfl ?_
      refine jg_mv rfl rfl rfl ?_
      refine jg_skip rfl rfl ?_
      refine jg_skip rfl rfl ?_
      refine jg_skip rfl rfl ?_
      refine jg_y (fun w hs => yv_pick_t rfl rfl) rfl rfl ?_
      refine jg_nils [(2, _), (3, _), (5, _), (9, _), (10, _), (116, _)] ⟨rfl, rfl, rfl, rfl, rfl, rfl, trivial⟩ ?_
      refine jk_sel (is := [4, 5]) (s2 rfl) rfl ?_
      refine jk_sn ?_
      refine jn_ct rfl ?_
      refine jn_seq ?_
      refine jn_reg 18 ?_
      refine jg_as rfl rfl rfl ?_
      refine jg_nils [(8, _)] ⟨rfl, trivial⟩ ?_
      refine jk_sel (is := []) (s0 rfl) rfl ?_
      refine jk_sn ?_
      refine jn_ret ?_
      refine jk_br (jk_sr (jk_lr (jk_br (jk_sr ?_))))
      exact jk_ret1 rfl (fun w hs => .tmp rfl) (fun w hs => ⟨rfl, hs.drop⟩)
    refine jg_y (fun w hs => yv_load rfl (ldBB (hs.blkL (i := 1) rfl) rfl)) rfl rfl ?_
    refine jg_y (fun w hs => yv_load rfl (ldBB (hs.blkL (i := 0) rfl) rfl)) rfl rfl ?_
    refine jg_y (fun w hs => yne55 rfl rfl) rfl rfl ?_
    refine jg_y (fun w hs => yv_pick_f rfl rfl) rfl rfl ?_
    refine jg_mv rfl rfl rfl ?_
    refine jg_split 112 rfl ?_ ?_
    · refine jg_skip rfl rfl ?_
      refine jg_skip rfl rfl ?_
      refine jg_skip rfl rfl ?_
      refine jg_y (fun w hs => yv_pick_t rfl rfl) rfl rfl ?_
      refine jg_nils [(2, _), (3, _), (5, _), (9, _), (10, _), (116, _)] ⟨rfl, rfl, rfl, rfl, rfl, rfl, trivial⟩ ?_
      refine jk_sel (is := [4, 5]) (s2 rfl) rfl ?_
      refine jk_sn ?_
      refine jn_ct rfl ?_
      refine jn_seq ?_
      refine jn_reg 18 ?_
      refine jg_as rfl rfl rfl ?_
      refine jg_nils [(8, _)] ⟨rfl, trivial⟩ ?_
      refine jk_sel (is := []) (s0 rfl) rfl ?_
      refine jk_sn ?_
      refine jn_ret ?_
      refine jk_br (jk_sr (jk_lr (jk_br (jk_sr ?_))))
      exact jk_ret1 rfl (fun w hs => .tmp rfl) (fun w hs => ⟨rfl, hs.drop⟩)
    refine jg_mv rfl rfl rfl ?_
    refine jg_mv rfl rfl rfl ?_
    refine jg_y (fun w hs => yv_neq rfl rfl) rfl rfl ?_
    refine jg_y (fun w hs => yv_pick_f rfl rfl) rfl rfl ?_
    refine jg_nils [(2, _), (3, _), (5, _), (9, _), (10, _), (116, _)] ⟨rfl, rfl, rfl, rfl, rfl, rfl, trivial⟩ ?_
    refine jk_sel (is := [4, 5]) (s2 rfl) rfl ?_
    refine jk_sn ?_
    refine jn_cond rfl ?_ ?_
    rotate_left
    · refine jn_skip ?_
      refine jk_bn (jk_sn ?_)
      refine jn_reg 4 ?_
      refine jg_mv rfl rfl rfl ?_
      refine jg_y (fun w hs => yv_add_w rfl rfl) rfl rfl ?_
      refine jg_as rfl rfl rfl ?_
      refine jg_nils [(2, _), (3, _), (5, _), (9, _), (10, _)] ⟨rfl, rfl, rfl, rfl, rfl, trivial⟩ ?_
      exact jk_use H7 (z16.1, w64 (z4.2 + 1)) () [0, 1] ⟨rfl, rfl, rfl, rfl, rfl, trivial⟩ rfl rfl rfl
    refine jn_seq ?_
    refine jn_reg 18 ?_
    refine jg_as rfl rfl rfl ?_
    refine jg_nils [(8, _)] ⟨rfl, trivial⟩ ?_
    refine jk_sel (is := []) (s0 rfl) rfl ?_
    refine jk_sn ?_
    refine jn_ret ?_
    refine jk_br (jk_sr (jk_lr (jk_br (jk_sr ?_))))
    exact jk_ret1 rfl (fun w hs => .tmp rfl) (fun w hs => ⟨rfl, hs.drop⟩)
  refine jn_reg 12 ?_
  refine jg_y (fun w hs => yv_load rfl (ldBB (hs.blkL (i := 0) rfl) rfl)) rfl rfl ?_
  refine jg_mv rfl rfl rfl ?_
  refine jg_mv rfl rfl rfl ?_
  refine jg_store 2 rfl rfl rfl (l2 rfl) rfl rfl rfl rfl (l2 rfl) (r5 rfl) ?_
  refine jg_as rfl rfl rfl ?_
  refine jg_as rfl rfl rfl ?_
  refine jg_nils [(2, _), (3, _), (5, _), (9, _), (10, _), (11, _), (12, _), (13, _)] ⟨rfl, rfl, rfl, rfl, rfl, rfl, rfl, rfl, trivial⟩ ?_
  refine jk_sel (is := [0, 1, 2]) (s3 rfl) rfl ?_
  refine jk_sn ?_
  refine jn_seq ?_
  refine jn_reg 13 ?_
  refine jg_y (fun w hs => yv_load rfl (ldBB (hs.blkL (i := 2) rfl) rfl)) rfl rfl ?_
  refine jg_mv rfl rfl rfl ?_
  refine jg_c rfl (fun v w hs hm => resistance_Spread_c (a0 := a1) hm (hs.arg Rha2)) rfl rfl fun v24 q25 => ?_
  refine jg_L (r4 rfl) ?_
  refine jg_mv rfl rfl rfl ?_
  refine jg_y (fun w hs => yv_extract rfl rfl) rfl rfl ?_
  refine jg_y (fun w hs => yv_extract rfl rfl) rfl rfl ?_
  refine jg_as rfl rfl rfl ?_
  refine jg_as rfl rfl rfl ?_
  refine jg_nils [(2, _), (3, _), (5, _), (9, _), (10, _), (11, _), (12, _), (13, _), (14, _), (15, _)] ⟨rfl, rfl, rfl, rfl, rfl, rfl, rfl, rfl, rfl, rfl, trivial⟩ ?_
  refine jk_sn ?_
  refine jn_seq ?_
  refine jn_reg 14 ?_
  refine jg_y (fun w hs => yv_load rfl (ldBB (hs.blkL (i := 3) rfl) rfl)) rfl rfl ?_
  refine jg_mv rfl rfl rfl ?_
  refine jg_c rfl (fun v w hs hm => r19_Spread_c (a0 := a1) hm (hs.arg Rha2)) rfl rfl fun v26 q27 => ?_
  refine jg_L (r5 rfl) ?_
  refine jg_mv rfl rfl rfl ?_
  refine jg_y (fun w hs => yv_extract rfl rfl) rfl rfl ?_
  refine jg_y (fun w hs => yv_extract rfl rfl) rfl rfl ?_
  refine jg_as rfl rfl rfl ?_
  refine jg_as rfl rfl rfl ?_
  refine jg_nils [(2, _), (3, _), (5, _), (9, _), (10, _), (13, _), (14, _), (15, _), (16, _), (17, _)] ⟨rfl, rfl, rfl, rfl, rfl, rfl, rfl, rfl, rfl, rfl, trivial⟩ ?_
  refine jk_sn ?_
  refine jn_seq ?_
  refine jn_reg 15 ?_
  refine jg_mv rfl rfl rfl ?_
  refine jg_c0 rfl (fun v w hs hm => resistance_Measured_c hm (hs.arg Rha3)) rfl rfl fun v28 => ?_
  refine jg_mv rfl rfl rfl ?_
  refine jg_y (fun w hs => yv_extract rfl rfl) rfl rfl ?_
  refine jg_y (fun w hs => yv_extract rfl rfl) rfl rfl ?_
  refine jg_alloc (l2 rfl) rfl rfl fun g29 => ?_
  refine jg_store 0 rfl rfl rfl (l2 rfl) rfl rfl rfl rfl (l2 rfl) (r6 rfl) ?_
  refine jg_as rfl rfl rfl ?_
  refine jg_nils [(2, _), (3, _), (5, _), (9, _), (10, _), (13, _), (14, _), (15, _), (16, _), (17, _), (18, _), (19, _)] ⟨rfl, rfl, rfl, rfl, rfl, rfl, rfl, rfl, rfl, rfl, rfl, rfl, trivial⟩ ?_
  refine jk_sn ?_
  refine jn_seq ?_
  refine jn_reg 16 ?_
  refine jg_mv rfl rfl rfl ?_
  refine jg_c0 rfl (fun v w hs hm => r19_Measured_c hm (hs.arg Rha3)) rfl rfl fun v30 => ?_
  refine jg_mv rfl rfl rfl ?_
  refine jg_y (fun w hs => yv_extract rfl rfl) rfl rfl ?_
  refine jg_y (fun w hs => yv_extract rfl rfl) rfl rfl ?_
  refine jg_alloc (l2 rfl) rfl rfl fun g31 => ?_
  refine jg_store 0 rfl rfl rfl (l2 rfl) rfl rfl rfl rfl (l2 rfl) (r7 rfl) ?_
  refine jg_as rfl rfl rfl ?_
  refine jg_nils [(2, _), (3, _), (5, _), (9, _), (10, _), (14, _), (15, _), (16, _), (17, _), (18, _), (19, _), (20, _), (21, _)] ⟨rfl, rfl, rfl, rfl, rfl, rfl, rfl, rfl, rfl, rfl, rfl, rfl, rfl, trivial⟩ ?_
  refine jk_sn ?_
  refine jn_seq ?_
  refine jn_reg 17 ?_
  refine jg_mv rfl rfl rfl ?_
  refine jg_mv rfl rfl rfl ?_
  refine jg_c0 rfl (fun v w hs hm => gen_Intervals_c hm (hs.row 3 rfl) (hs.row 2 rfl)) rfl rfl fun v32 => ?_
  refine jg_y (fun w hs => yv_not rfl) rfl rfl ?_
  refine jg_mv rfl rfl rfl ?_
  refine jg_split 102 rfl ?_ ?_
  · refine jg_skip rfl rfl ?_
    refine jg_skip rfl rfl ?_
    refine jg_skip rfl rfl ?_
    refine jg_y (fun w hs => yv_pick_t rfl rfl) rfl rfl ?_
    refine jg_mv rfl rfl rfl ?_
    refine jg_skip rfl rfl ?_
    refine jg_skip rfl rfl ?_
    refine jg_skip rfl rfl ?_
    refine jg_y (fun w hs => yv_pick_t rfl rfl) rfl rfl ?_
    refine jg_mv rfl rfl rfl ?_
    refine jg_skip rfl rfl ?_
    refine jg_skip rfl rfl ?_
    refine jg_skip rfl rfl ?_
    refine jg_y (fun w hs => yv_pick_t rfl rfl) rfl rfl ?_
    refine jg_nils [(2, _), (3, _), (5, _), (9, _), (10, _), (116, _)] ⟨rfl, rfl, rfl, rfl, rfl, rfl, trivial⟩ ?_
    refine jk_sel (is := [4, 5]) (s2 rfl) rfl ?_
    refine jk_sn ?_
    refine jn_ct rfl ?_
    refine jn_seq ?_
    refine jn_reg 18 ?_
    refine jg_as rfl rfl rfl ?_
    refine jg_nils [(8, _)] ⟨rfl, trivial⟩ ?_
    refine jk_sel (is := []) (s0 rfl) rfl ?_
    refine jk_sn ?_
    refine jn_ret ?_
    refine jk_br (jk_sr (jk_lr (jk_br (jk_sr ?_))))
    exact jk_ret1 rfl (fun w hs => .tmp rfl) (fun w hs => ⟨rfl, hs.drop⟩)
  refine jg_mv rfl rfl rfl ?_
  refine jg_mv rfl rfl rfl ?_
  refine jg_y (fun w hs => yv_neq rfl rfl) rfl rfl ?_
  refine jg_y (fun w hs => yv_pick_f rfl rfl) rfl rfl ?_
  refine jg_mv rfl rfl rfl ?_
  refine jg_split 107 rfl ?_ ?_
  · refine jg_skip rfl rfl ?_
    refine jg_skip rfl rfl ?_
    refine jg_skip rfl rfl ?_
    refine jg_y (fun w hs => yv_pick_t rfl rfl) rfl rfl ?_
    refine jg_mv rfl rfl rfl ?_
    refine jg_skip rfl rfl ?_
    refine jg_skip rfl rfl ?_
    refine jg_skip rfl rfl ?_
    refine jg_y (fun w hs => yv_pick_t rfl rfl) rfl rfl ?_
    refine jg_nils [(2, _), (3, _), (5, _), (9, _), (10, _), (116, _)] ⟨rfl, rfl, rfl, rfl, rfl, rfl, trivial⟩ ?_
    refine jk_sel (is := [4, 5]) (s2 rfl) rfl ?_
    refine jk_sn ?_
    refine jn_ct rfl ?_
    refine jn_seq ?_
    refine jn_reg 18 ?_
    refine jg_as rfl rfl rfl ?_
    refine jg_nils [(8, _)] ⟨rfl, trivial⟩ ?_
    refine jk_sel (is := []) (s0 rfl) rfl ?_
    refine jk_sn ?_
    refine jn_ret ?_
    refine jk_br (jk_sr (jk_lr (jk_br (jk_sr ?_))))
    exact jk_ret1 rfl (fun w hs => .tmp rfl) (fun w hs => ⟨rfl, hs.drop⟩)
  refine jg_y (fun w hs => yv_load rfl (ldBB (hs.blkL (i := 1) rfl) rfl)) rfl rfl ?_
  refine jg_y (fun w hs => yv_load rfl (ldBB (hs.blkL (i := 0) rfl) rfl)) rfl rfl ?_
  refine jg_y (fun w hs => yne55 rfl rfl) rfl rfl ?_
  refine jg_y (fun w hs => yv_pick_f rfl rfl) rfl rfl ?_
  refine jg_mv rfl rfl rfl ?_
  refine jg_split 112 rfl ?_ ?_
  · refine jg_skip rfl rfl ?_
    refine jg_skip rfl rfl ?_
    refine jg_skip rfl rfl ?_
    refine jg_y (fun w hs => yv_pick_t rfl rfl) rfl rfl ?_
    refine jg_nils [(2, _), (3, _), (5, _), (9, _), (10, _), (116, _)] ⟨rfl, rfl, rfl, rfl, rfl, rfl, trivial⟩ ?_
    refine jk_sel (is := [4, 5]) (s2 rfl) rfl ?_
    refine jk_sn ?_
    refine jn_ct rfl ?_
    refine jn_seq ?_
    refine jn_reg 18 ?_
    refine jg_as rfl rfl rfl ?_
    refine jg_nils [(8, _)] ⟨rfl, trivial⟩ ?_
    refine jk_sel (is := []) (s0 rfl) rfl ?_
    refine jk_sn ?_
    refine jn_ret ?_
    refine jk_br (jk_sr (jk_lr (jk_br (jk_sr ?_))))
    exact jk_ret1 rfl (fun w hs => .tmp rfl) (fun w hs => ⟨rfl, hs.drop⟩)
  refine jg_mv rfl rfl rfl ?_
  refine jg_mv rfl rfl rfl ?_
  refine jg_y (fun w hs => yv_neq rfl rfl) rfl rfl ?_
  refine jg_y (fun w hs => yv_pick_f rfl rfl) rfl rfl ?_
  refine jg_nils [(2, _), (3, _), (5, _), (9, _), (10, _), (116, _)] ⟨rfl, rfl, rfl, rfl, rfl, rfl, trivial⟩ ?_
  refine jk_sel (is := [4, 5]) (s2 rfl) rfl ?_
  refine jk_sn ?_
  refine jn_cond rfl ?_ ?_
  rotate_left
  · refine jn_skip ?_
    refine jk_bn (jk_sn ?_)
    refine jn_reg 4 ?_
    refine jg_mv rfl rfl rfl ?_
    refine jg_y (fun w hs => yv_add_w rfl rfl) rfl rfl ?_
    refine jg_as rfl rfl rfl ?_
    refine jg_nils [(2, _), (3, _), (5, _), (9, _), (10, _)] ⟨rfl, rfl, rfl, rfl, rfl, trivial⟩ ?_
    exact jk_use H7 (z16.1, w64 (z4.2 + 1)) () [0, 1] ⟨rfl, rfl, rfl, rfl, rfl, trivial⟩ rfl rfl rfl
  refine jn_seq ?_
  refine jn_reg 18 ?_
  refine jg_as rfl rfl rfl ?_
  refine jg_nils [(8, _)] ⟨rfl, trivial⟩ ?_
  refine jk_sel (is := []) (s0 rfl) rfl ?_
  refine jk_sn ?_
  refine jn_ret ?_
  refine jk_br (jk_sr (jk_lr (jk_br (jk_sr ?_))))
  exact jk_ret1 rfl (fun w hs => .tmp rfl) (fun w hs => ⟨rfl, hs.drop⟩)
theorem r19_Valid_c {w : World} {a0 : (List Resistance)} {ha0 : Hd} {v : Int} (hm : r19_Valid a0 = some v) (Rha0 : Sl w ha0 Resistance.enc a0) : Gives Try.prog 64 [ha0.v] w (.int .i64 v) := by
  refine j_gives (vs := [ha0.v]) (U := fun (v : Int) => .int .i64 v) Try.func64 rfl Try.ntmps64 rfl rfl hm ?_
  unfold r19_Valid
  clear hm
  refine jn_seq ?_
  refine jn_reg 0 ?_
  refine jg_as rfl rfl rfl ?_
  refine jg_nils [(0, _)] ⟨rfl, trivial⟩ ?_
  refine jk_sn ?_
  refine jn_seq ?_
  refine jn_seq ?_
  refine jn_reg 1 ?_
  refine jg_mv rfl rfl rfl ?_
  refine jg_y (fun w hs => yv_ln rfl (hs.arg Rha0)) rfl rfl ?_
  refine jg_y (fun w hs => yv_lss rfl rfl) rfl rfl ?_
  refine jg_mv rfl rfl rfl ?_
  refine jg_split 8 rfl ?_ ?_
  · refine jg_skip rfl rfl ?_
    refine jg_skip rfl rfl ?_
    refine jg_skip rfl rfl ?_
    refine jg_y (fun w hs => yv_pick_t rfl rfl) rfl rfl ?_
    refine jg_nils [(0, _), (12, _)] ⟨rfl, rfl, trivial⟩ ?_
    refine jk_sn ?_
    refine jn_ct rfl ?_
    refine jn_seq ?_
    refine jn_reg 2 ?_
    refine jg_as rfl rfl rfl ?_
    refine jg_nils [(2, _)] ⟨rfl, trivial⟩ ?_
    refine jk_sn ?_
    refine jn_ret ?_
    refine jk_sr ?_
    exact jk_ret1 rfl (fun w hs => .tmp rfl) (fun w hs => ⟨rfl, hs.drop⟩)
  refine jg_mv rfl rfl rfl ?_
  refine jg_y (fun w hs => yv_ln rfl (hs.arg Rha0)) rfl rfl ?_
  refine jg_y (fun w hs => yv_gtr rfl rfl) rfl rfl ?_
  refine jg_y (fun w hs => yv_pick_f rfl rfl) rfl rfl ?_
  refine jg_nils [(0, _), (12, _)] ⟨rfl, rfl, trivial⟩ ?_
  refine jk_sn ?_
  refine jn_cond rfl ?_ ?_
  · refine jn_seq ?_
    refine jn_reg 2 ?_
    refine jg_as rfl rfl rfl ?_
    refine jg_nils [(2, _)] ⟨rfl, trivial⟩ ?_
    refine jk_sn ?_
    refine jn_ret ?_
    refine jk_sr ?_
    exact jk_ret1 rfl (fun w hs => .tmp rfl) (fun w hs => ⟨rfl, hs.drop⟩)
  refine jn_skip ?_
  refine jk_sn ?_
  refine jn_seq ?_
  refine jn_seq ?_
  refine jn_reg 3 ?_
  refine jg_as rfl rfl rfl ?_
  refine jg_nils [(0, _), (3, _)] ⟨rfl, rfl, trivial⟩ ?_
  refine jk_sn ?_
  refine jn_block ?_
  refine jn_lp (n := big) (fun (s : Int) (g : Unit) => [(0, ha0.v), (3, .int .i64 s)]) (fun (s : Int) (g : Unit) => []) (fun (s : Int) (g : Unit) => []) 0 () [] ⟨rfl, rfl, trivial⟩ rfl rfl rfl ?_
  intro z1 q2 n5 k3 H4
  refine jn_seq ?_
  refine jn_seq ?_
  refine jn_reg 4 ?_
  refine jg_mv rfl rfl rfl ?_
  refine jg_mv rfl rfl rfl ?_
  refine jg_y (fun w hs => yv_ln rfl (hs.arg Rha0)) rfl rfl ?_
  refine jg_y (fun w hs => yv_lss rfl rfl) rfl rfl ?_
  refine jg_nils [(0, _), (3, _), (16, _)] ⟨rfl, rfl, rfl, trivial⟩ ?_
  refine jk_sn ?_
  refine jn_cond rfl ?_ ?_
  rotate_left
  · refine jn_exit ?_
    refine jk_se (jk_le (jk_bh (jk_sn ?_)))
    refine jn_seq ?_
    refine jn_reg 9 ?_
    refine jg_as rfl rfl rfl ?_
    refine jg_nils [(2, _)] ⟨rfl, trivial⟩ ?_
    refine jk_sn ?_
    refine jn_ret ?_
    exact jk_ret1 rfl (fun w hs => .tmp rfl) (fun w hs => ⟨rfl, hs.drop⟩)
  refine jn_skip ?_
  refine jk_sn ?_
  refine jn_seq ?_
  refine jn_block ?_
  refine jn_seq ?_
  refine jn_reg 6 ?_
  refine jg_mv rfl rfl rfl ?_
  refine jg_mv rfl rfl rfl ?_
  refine jg_ix fun x6 h7 => ?_
  refine jg_y (fun w hs => yv_ix rfl rfl (hs.arg Rha0) h7) rfl rfl ?_
  refine jg_y (fun w hs => yv_eS rfl (hs.arg Rha0) h7.1 (l3 rfl) rfl) rfl rfl ?_
  refine jg_alloc (l3 rfl) rfl rfl fun g8 => ?_
  refine jg_store 0 rfl rfl rfl (l3 rfl) rfl rfl rfl rfl (l3 rfl) (r1 rfl) ?_
  refine jg_nils [(0, _), (3, _), (4, _)] ⟨rfl, rfl, rfl, trivial⟩ ?_
  refine jk_sn ?_
  refine jn_seq ?_
  refine jn_draw (L' := [_]) 7 [0] [0, 1, 2, 3, 4, 5, 6, 7, 8, 9, 10, 11, 12, 13, 14, 15, 16, 17, 18, 19, 20, 21, 22, 23, 24, 25, 26, 27, 28, 29, 30, 31, 32, 33, 34, 35, 36, 37, 38, 39] 1099511627775 1099511627775 [0, 1, 2, 4, 8, 24, 40, 72, 136, 256, 768, 1280, 2048, 6144, 2048, 2048, 34816, 83968, 133120, 264192, 534528, 1050880, 2097408, 4196352, 8388608, 25165824, 41943040, 75497472, 142606336, 268435456, 805306368, 268435456, 2415919104, 5637144576, 8858370048, 17448304640, 34359738368, 103079215104, 171798691840, 309237645312] [0, 1, 3, 7, 15, 31, 63, 127, 255, 511, 1023, 2047, 4095, 8191, 4095, 4095, 36863, 118783, 249855, 511999, 1048575, 2097151, 4194303, 8388607, 16777215, 33554431, 67108863, 134217727, 268435455, 536870911, 1073741823, 536870911, 2684354559, 8589934591, 17179869183, 34359738367, 68719476735, 137438953471, 274877906943, 549755813887] [(0, true), (1, true), (2, true), (3, true), (4, true), (5, true), (6, true), (7, true), (8, true), (9, true), (10, true), (11, true), (12, true), (13, true), (14, true), (15, true), (16, true), (17, true), (18, true), (19, true), (20, true), (21, true), (22, true), (23, true), (24, true), (25, true), (26, true), (27, true), (28, true), (29, true), (30, true), (31, true), (32, true), (33, true), (34, true), (35, true), (36, true), (37, true), (38, true), (39, true)] rfl (np_seq (np_blk (np_seq (np_rnd (np_blk (np_seq np_rt)))))) (by kernel_rfl) (by kernel_rfl) (by kernel_rfl) (by kernel_rfl) (by kernel_rfl) (by kernel_rfl) (by kernel_rfl) (by kernel_rfl) ?_
  refine jd_y rfl (fun w hs => yv_fieldAddr rfl) rfl rfl ?_
  refine jd_y rfl (fun w hs => yv_load rfl (ld1B (hs.blk (i := 0) rfl) rfl)) rfl rfl ?_
  refine jd_y rfl (fun w hs => yv_lss rfl rfl) rfl rfl ?_
  refine jd_mv rfl rfl rfl rfl ?_
  refine jd_split 26 rfl ?_ ?_
  · refine jd_skip rfl rfl rfl ?_
    refine jd_skip rfl rfl rfl ?_
    refine jd_skip rfl rfl rfl ?_
    refine jd_y rfl (fun w hs => yv_pick_t rfl rfl) rfl rfl ?_
    refine jd_mv rfl rfl rfl rfl ?_
    refine jd_skip rfl rfl rfl ?_
    refine jd_skip rfl rfl rfl ?_
    refine jd_skip rfl rfl rfl ?_
    refine jd_skip rfl rfl rfl ?_
    refine jd_skip rfl rfl rfl ?_
    refine jd_skip rfl rfl rfl ?_
    refine jd_skip rfl rfl rfl ?_
    refine jd_skip rfl rfl rfl ?_
    refine jd_skip rfl rfl rfl ?_
    refine jd_skip rfl rfl rfl ?_
    refine jd_skip rfl rfl rfl ?_
    refine jd_skip rfl rfl rfl ?_
    refine jd_skip rfl rfl rfl ?_
    refine jd_y rfl (fun w hs => yv_pick_t rfl rfl) rfl rfl ?_
    refine jd_mv rfl rfl rfl rfl ?_
    refine jd_skip rfl rfl rfl ?_
    refine jd_skip rfl rfl rfl ?_
    refine jd_skip rfl rfl rfl ?_
    refine jd_y rfl (fun w hs => yv_pick_t rfl rfl) rfl rfl ?_
    refine jd_mv rfl rfl rfl rfl ?_
    refine jd_skip rfl rfl rfl ?_
    refine jd_skip rfl rfl rfl ?_
    refine jd_skip rfl rfl rfl ?_
    refine jd_skip rfl rfl rfl ?_
    refine jd_skip rfl rfl rfl ?_
    refine jd_y rfl (fun w hs => yv_pick_t rfl rfl) rfl rfl ?_
    refine jd_mv rfl rfl rfl rfl ?_
    refine jd_skip rfl rfl rfl ?_
    refine jd_skip rfl rfl rfl ?_
    refine jd_skip rfl rfl rfl ?_
    refine jd_y rfl (fun w hs => yv_pick_t rfl rfl) rfl rfl ?_
    refine jd_nils [(0, _), (3, _), (62, _)] ⟨rfl, rfl, rfl, trivial⟩ ?_
    refine jk_sn ?_
    refine jn_ct rfl ?_
    refine jn_seq ?_
    refine jn_reg 8 ?_
    refine jg_as rfl rfl rfl ?_
    refine jg_nils [(2, _)] ⟨rfl, trivial⟩ ?_
    refine jk_sn ?_
    refine jn_ret ?_
    refine jk_br (jk_sr (jk_lr (jk_br (jk_sr ?_))))
    exact jk_ret1 rfl (fun w hs => .tmp rfl) (fun w hs => ⟨rfl, hs.drop⟩)
  refine jd_y rfl (fun w hs => yv_fieldAddr rfl) rfl rfl ?_
  refine jd_y rfl (fun w hs => yv_load rfl (ld1B (hs.blk (i := 0) rfl) rfl)) rfl rfl ?_
  refine jd_y rfl (fun w hs => yv_gtr rfl rfl) rfl rfl ?_
  refine jd_y rfl (fun w hs => yv_pick_f rfl rfl) rfl rfl ?_
  refine jd_mv rfl rfl rfl rfl ?_
  refine jd_split 31 rfl ?_ ?_
  · refine jd_skip rfl rfl rfl ?_
    refine jd_skip rfl rfl rfl ?_
    refine jd_skip rfl rfl rfl ?_
    refine jd_skip rfl rfl rfl ?_
    refine jd_skip rfl rfl rfl ?_
    refine jd_skip rfl rfl rfl ?_
    refine jd_skip rfl rfl rfl ?_
    refine jd_skip rfl rfl rfl ?_
    refine jd_skip rfl rfl rfl ?_
    refine jd_skip rfl rfl rfl ?_
    refine jd_skip rfl rfl rfl ?_
    refine jd_skip rfl rfl rfl ?_
    refine jd_skip rfl rfl rfl ?_
    refine jd_y rfl (fun w hs => yv_pick_t rfl rfl) rfl rfl ?_
    refine jd_mv rfl rfl rfl rfl ?_
    refine jd_skip rfl rfl rfl ?_
    refine jd_skip rfl rfl rfl ?_
    refine jd_skip rfl rfl rfl ?_
    refine jd_y rfl (fun w hs => yv_pick_t rfl rfl) rfl rfl ?_
    refine jd_mv rfl rfl rfl rfl ?_
    refine jd_skip rfl rfl rfl ?_
    refine jd_skip rfl rfl rfl ?_
    refine jd_skip rfl rfl rfl ?_
    refine jd_skip rfl rfl rfl ?_
    refine jd_skip rfl rfl rfl ?_
    refine jd_y rfl (fun w hs => yv_pick_t rfl rfl) rfl rfl ?_
    refine jd_mv rfl rfl rfl rfl ?_
    refine jd_skip rfl rfl rfl ?_
    refine jd_skip rfl rfl rfl ?_
    refine jd_skip rfl rfl rfl ?_
    refine jd_y rfl (fun w hs => yv_pick_t rfl rfl) rfl rfl ?_
    refine jd_nils [(0, _), (3, _), (62, _)] ⟨rfl, rfl, rfl, trivial⟩ ?_
    refine jk_sn ?_
    refine jn_ct rfl ?_
    refine jn_seq ?_
    refine jn_reg 8 ?_
    refine jg_as rfl rfl rfl ?_
    refine jg_nils [(2, _)] ⟨rfl, trivial⟩ ?_
    refine jk_sn ?_
    refine jn_ret ?_
    refine jk_br (jk_sr (jk_lr (jk_br (jk_sr ?_))))
    exact jk_ret1 rfl (fun w hs => .tmp rfl) (fun w hs => ⟨rfl, hs.drop⟩)
  refine jd_mv rfl rfl rfl rfl ?_
  refine jd_y rfl (fun w hs => yv_gtr rfl rfl) rfl rfl ?_
  refine jd_mv rfl rfl rfl rfl ?_
  refine jd_split 34 rfl ?_ ?_
  rotate_left
  · refine jd_skip rfl rfl rfl ?_
    refine jd_skip rfl rfl rfl ?_
    refine jd_skip rfl rfl rfl ?_
    refine jd_skip rfl rfl rfl ?_
    refine jd_skip rfl rfl rfl ?_
    refine jd_skip rfl rfl rfl ?_
    refine jd_skip rfl rfl rfl ?_
    refine jd_skip rfl rfl rfl ?_
    refine jd_skip rfl rfl rfl ?_
    refine jd_y rfl (fun w hs => yv_pick_f rfl rfl) rfl rfl ?_
    refine jd_y rfl (fun w hs => yv_pick_f rfl rfl) rfl rfl ?_
    refine jd_mv rfl rfl rfl rfl ?_
    refine jd_y rfl (fun w hs => yv_fieldAddr rfl) rfl rfl ?_
    refine jd_y rfl (fun w hs => yv_load rfl (ld1B (hs.blk (i := 0) rfl) rfl)) rfl rfl ?_
    refine jd_y rfl (fun w hs => yv_lss rfl rfl) rfl rfl ?_
    refine jd_y rfl (fun w hs => yv_pick_f rfl rfl) rfl rfl ?_
    refine jd_mv rfl rfl rfl rfl ?_
    refine jd_split 51 rfl ?_ ?_
    · refine jd_skip rfl rfl rfl ?_
      refine jd_skip rfl rfl rfl ?_
      refine jd_skip rfl rfl rfl ?_
      refine jd_skip rfl rfl rfl ?_
      refine jd_skip rfl rfl rfl ?_
      refine jd_y rfl (fun w hs => yv_pick_t rfl rfl) rfl rfl ?_
      refine jd_mv rfl rfl rfl rfl ?_
      refine jd_skip rfl rfl rfl ?_
      refine jd_skip rfl rfl rfl ?_
      refine jd_skip rfl rfl rfl ?_
      refine jd_y rfl (fun w hs => yv_pick_t rfl rfl) rfl rfl ?_
      refine jd_nils [(0, _), (3, _), (62, _)] ⟨rfl, rfl, rfl, trivial⟩ ?_
      refine jk_sn ?_
      refine jn_ct rfl ?_
      refine jn_seq ?_
      refine jn_reg 8 ?_
      refine jg_as rfl rfl rfl ?_
      refine jg_nils [(2, _)] ⟨rfl, trivial⟩ ?_
      refine jk_sn ?_
      refine jn_ret ?_
      refine jk_br (jk_sr (jk_lr (jk_br (jk_sr ?_))))
      exact jk_ret1 rfl (fun w hs => .tmp rfl) (fun w hs => ⟨rfl, hs.drop⟩)
    refine jd_y rfl (fun w hs => yv_fieldAddr rfl) rfl rfl ?_
    refine jd_y rfl (fun w hs => yv_load rfl (ld1B (hs.blk (i := 0) rfl) rfl)) rfl rfl ?_
    refine jd_y rfl (fun w hs => yv_fieldAddr rfl) rfl rfl ?_
    refine jd_y rfl (fun w hs => yv_load rfl (ld1B (hs.blk (i := 0) rfl) rfl)) rfl rfl ?_
    refine jd_y rfl (fun w hs => yv_gtr rfl rfl) rfl rfl ?_
    refine jd_y rfl (fun w hs => yv_pick_f rfl rfl) rfl rfl ?_
    refine jd_mv rfl rfl rfl rfl ?_
    refine jd_split 58 rfl ?_ ?_
    · refine jd_skip rfl rfl rfl ?_
      refine jd_skip rfl rfl rfl ?_
      refine jd_skip rfl rfl rfl ?_
      refine jd_y rfl (fun w hs => yv_pick_t rfl rfl) rfl rfl ?_
      refine jd_nils [(0, _), (3, _), (62, _)] ⟨rfl, rfl, rfl, trivial⟩ ?_
      refine jk_sn ?_
      refine jn_ct rfl ?_
      refine jn_seq ?_
      refine jn_reg 8 ?_
      refine jg_as rfl rfl rfl ?_
      refine jg_nils [(2, _)] ⟨rfl, trivial⟩ ?_
      refine jk_sn ?_
      refine jn_ret ?_
      refine jk_br (jk_sr (jk_lr (jk_br (jk_sr ?_))))
      exact jk_ret1 rfl (fun w hs => .tmp rfl) (fun w hs => ⟨rfl, hs.drop⟩)
    refine jd_y rfl (fun w hs => yv_fieldAddr rfl) rfl rfl ?_
    refine jd_y rfl (fun w hs => yv_load rfl (ld1B (hs.blk (i := 0) rfl) rfl)) rfl rfl ?_
    refine jd_y rfl (fun w hs => yv_gtr rfl rfl) rfl rfl ?_
    refine jd_y rfl (fun w hs => yv_pick_f rfl rfl) rfl rfl ?_
    refine jd_nils [(0, _), (3, _), (62, _)] ⟨rfl, rfl, rfl, trivial⟩ ?_
    refine jk_sn ?_
    refine jn_cond rfl ?_ ?_
    · refine jn_seq ?_
      refine jn_reg 8 ?_
      refine jg_as rfl rfl rfl ?_
      refine jg_nils [(2, _)] ⟨rfl, trivial⟩ ?_
      refine jk_sn ?_
      refine jn_ret ?_
      refine jk_br (jk_sr (jk_lr (jk_br (jk_sr ?_))))
      exact jk_ret1 rfl (fun w hs => .tmp rfl) (fun w hs => ⟨rfl, hs.drop⟩)
    refine jn_skip ?_
    refine jk_bn (jk_sn ?_)
    refine jn_reg 5 ?_
    refine jg_mv rfl rfl rfl ?_
    refine jg_y (fun w hs => yv_add_w rfl rfl) rfl rfl ?_
    refine jg_as rfl rfl rfl ?_
    refine jg_nils [(0, _), (3, _)] ⟨rfl, rfl, trivial⟩ ?_
    exact jk_use H4 (w64 (z1 + 1)) () [] ⟨rfl, rfl, trivial⟩ rfl rfl rfl
  refine jd_y rfl (fun w hs => yv_fieldAddr rfl) rfl rfl ?_
  refine jd_y rfl (fun w hs => yv_load rfl (ld1B (hs.blk (i := 0) rfl) rfl)) rfl rfl ?_
  refine jd_mv rfl rfl rfl rfl ?_
  refine jd_mv rfl rfl rfl rfl ?_
  refine jd_y rfl (fun w hs => yv_sub_w rfl rfl) rfl rfl ?_
  refine jd_ix fun x9 h10 => ?_
  refine jd_y rfl (fun w hs => yv_ix rfl rfl (hs.arg Rha0) h10) rfl rfl ?_
  refine jd_y rfl (fun w hs => yv_ef rfl (hs.arg Rha0) h10.1) rfl rfl ?_
  refine jd_y rfl (fun w hs => yv_e1 rfl (hs.arg Rha0) h10.1 rfl) rfl rfl ?_
  refine jd_y rfl (fun w hs => yv_leq rfl rfl) rfl rfl ?_
  refine jd_y rfl (fun w hs => yv_pick_t rfl rfl) rfl rfl ?_
  refine jd_y rfl (fun w hs => yv_pick_f rfl rfl) rfl rfl ?_
  refine jd_mv rfl rfl rfl rfl ?_
  refine jd_split 46 rfl ?_ ?_
  · refine jd_skip rfl rfl rfl ?_
    refine jd_skip rfl rfl rfl ?_
    refine jd_skip rfl rfl rfl ?_
    refine jd_y rfl (fun w hs => yv_pick_t rfl rfl) rfl rfl ?_
    refine jd_mv rfl rfl rfl rfl ?_
    refine jd_skip rfl rfl rfl ?_
    refine jd_skip rfl rfl rfl ?_
    refine jd_skip rfl rfl rfl ?_
    refine jd_skip rfl rfl rfl ?_
    refine jd_skip rfl rfl rfl ?_
    refine jd_y rfl (fun w hs => yv_pick_t rfl rfl) rfl rfl ?_
    refine jd_mv rfl rfl rfl rfl ?_
    refine jd_skip rfl rfl rfl ?_
    refine jd_skip rfl rfl rfl ?_
    refine jd_skip rfl rfl rfl ?_
    refine jd_y rfl (fun w hs => yv_pick_t rfl rfl) rfl rfl ?_
    refine jd_nils [(0, _), (3, _), (62, _)] ⟨rfl, rfl, rfl, trivial⟩ ?_
    refine jk_sn ?_
    refine jn_ct rfl ?_
    refine jn_seq ?_
    refine jn_reg 8 ?_
    refine jg_as rfl rfl rfl ?_
    refine jg_nils [(2, _)] ⟨rfl, trivial⟩ ?_
    refine jk_sn ?_
    refine jn_ret ?_
    refine jk_br (jk_sr (jk_lr (jk_br (jk_sr ?_))))
    exact jk_ret1 rfl (fun w hs => .tmp rfl) (fun w hs => ⟨rfl, hs.drop⟩)
  refine jd_y rfl (fun w hs => yv_fieldAddr rfl) rfl rfl ?_
  refine jd_y rfl (fun w hs => yv_load rfl (ld1B (hs.blk (i := 0) rfl) rfl)) rfl rfl ?_
  refine jd_y rfl (fun w hs => yv_lss rfl rfl) rfl rfl ?_
  refine jd_y rfl (fun w hs => yv_pick_f rfl rfl) rfl rfl ?_
  refine jd_mv rfl rfl rfl rfl ?_
  refine jd_split 51 rfl ?_ ?_
  · refine jd_skip rfl rfl rfl ?_
    refine jd_skip rfl rfl rfl ?_
    refine jd_skip rfl rfl rfl ?_
    refine jd_skip rfl rfl rfl ?_
    refine jd_skip rfl rfl rfl ?_
    refine jd_y rfl (fun w hs => yv_pick_t rfl rfl) rfl rfl ?_
    refine jd_mv rfl rfl rfl rfl ?_
    refine jd_skip rfl rfl rfl ?_
    refine jd_skip rfl rfl rfl ?_
    refine jd_skip rfl rfl rfl ?_
    refine jd_y rfl (fun w hs => yv_pick_t rfl rfl) rfl rfl ?_
    refine jd_nils [(0, _), (3, _), (62, _)] ⟨rfl, rfl, rfl, trivial⟩ ?_
    refine jk_sn ?_
    refine jn_ct rfl ?_
    refine jn_seq ?_
    refine jn_reg 8 ?_
    refine jg_as rfl rfl rfl ?_
    refine jg_nils [(2, _)] ⟨rfl, trivial⟩ ?_
    refine jk_sn ?_
    refine jn_ret ?_
    refine jk_br (jk_sr (jk_lr (jk_br (jk_sr ?_))))
    exact jk_ret1 rfl (fun w hs => .tmp rfl) (fun w hs => ⟨rfl, hs.drop⟩)
  refine jd_y rfl (fun w hs => yv_fieldAddr rfl) rfl rfl ?_
  refine jd_y rfl (fun w hs => yv_load rfl (ld1B (hs.blk (i := 0) rfl) rfl)) rfl rfl ?_
  refine jd_y rfl (fun w hs => yv_fieldAddr rfl) rfl rfl ?_
  refine jd_y rfl (fun w hs => yv_load rfl (ld1B (hs.blk (i := 0) rfl) rfl)) rfl rfl ?_
  refine jd_y rfl (fun w hs => yv_gtr rfl rfl) rfl rfl ?_
  refine jd_y rfl (fun w hs => yv_pick_f rfl rfl) rfl rfl ?_
  refine jd_mv rfl rfl rfl rfl ?_
  refine jd_split 58 rfl ?_ ?_
  · refine jd_skip rfl rfl rfl ?_
    refine jd_skip rfl rfl rfl ?_
    refine jd_skip rfl rfl rfl ?_
    refine jd_y rfl (fun w hs => yv_pick_t rfl rfl) rfl rfl ?_
    refine jd_nils [(0, _), (3, _), (62, _)] ⟨rfl, rfl, rfl, trivial⟩ ?_
    refine jk_sn ?_
    refine jn_ct rfl ?_
    refine jn_seq ?_
    refine jn_reg 8 ?_
    refine jg_as rfl rfl rfl ?_
    refine jg_nils [(2, _)] ⟨rfl, trivial⟩ ?_
    refine jk_sn ?_
    refine jn_ret ?_
    refine jk_br (jk_sr (jk_lr (jk_br (jk_sr ?_))))
    exact jk_ret1 rfl (fun w hs => .tmp rfl) (fun w hs => ⟨rfl, hs.drop⟩)
  refine jd_y rfl (fun w hs => yv_fieldAddr rfl) rfl rfl ?_
  refine jd_y rfl (fun w hs => yv_load rfl (ld1B (hs.blk (i := 0) rfl) rfl)) rfl rfl ?_
  refine jd_y rfl (fun w hs => yv_gtr rfl rfl) rfl rfl ?_
  refine jd_y rfl (fun w hs => yv_pick_f rfl rfl) rfl rfl ?_
  refine jd_nils [(0, _), (3, _), (62, _)] ⟨rfl, rfl, rfl, trivial⟩ ?_
  refine jk_sn ?_
  refine jn_cond rfl ?_ ?_
  · refine jn_seq ?_
    refine jn_reg 8 ?_
    refine jg_as rfl rfl rfl ?_
    refine jg_nils [(2, _)] ⟨rfl, trivial⟩ ?_
    refine jk_sn ?_
    refine jn_ret ?_
    refine jk_br (jk_sr (jk_lr (jk_br (jk_sr ?_))))
    exact jk_ret1 rfl (fun w hs => .tmp rfl) (fun w hs => ⟨rfl, hs.drop⟩)
  refine jn_skip ?_
  refine jk_bn (jk_sn ?_)
  refine jn_reg 5 ?_
  refine jg_mv rfl rfl rfl ?_
  refine jg_y (fun w hs => yv_add_w rfl rfl) rfl rfl ?_
  refine jg_as rfl rfl rfl ?_
  refine jg_nils [(0, _), (3, _)] ⟨rfl, rfl, trivial⟩ ?_
  exact jk_use H4 (w64 (z1 + 1)) () [] ⟨rfl, rfl, trivial⟩ rfl rfl rfl
theorem r19_Rolling_c {w : World} {a0 : (List Resistance)} {a1 : Int} {a2 : Int} {ha0 : Hd} {v : (Interval × Int)} (hm : r19_Rolling a0 a1 a2 = some v) (Rha0 : Sl w ha0 Resistance.enc a0) : Gives Try.prog 62 [ha0.v, .int .i64 a1, .int .i64 a2] w (.tuple #[.agg #[.int .i64 v.1.Lo, .int .i64 v.1.Hi], .int .i64 v.2]) := by
  refine j_gives (vs := [ha0.v, .int .i64 a1, .int .i64 a2]) (U := fun (v : (Interval × Int)) => .tuple #[.agg #[.int .i64 v.1.Lo, .int .i64 v.1.Hi], .int .i64 v.2]) Try.func62 rfl Try.ntmps62 rfl rfl hm ?_
  unfold r19_Rolling
  clear hm
  refine jn_seq ?_
  refine jn_reg 0 ?_
  refine jg_alloc (l2 rfl) rfl rfl fun g1 => ?_
  refine jg_as rfl rfl rfl ?_
  refine jg_nils [(0, _), (1, _), (2, _), (6, _)] ⟨rfl, rfl, rfl, rfl, trivial⟩ ?_
  refine jk_sn ?_
  refine jn_seq ?_
  refine jn_seq ?_
  refine jn_reg 1 ?_
  refine jg_mv rfl rfl rfl ?_
  refine jg_c0 rfl (fun v w hs hm => r19_Valid_c hm (hs.arg Rha0)) rfl rfl fun v2 => ?_
  refine jg_as rfl rfl rfl ?_
  refine jg_nils [(0, _), (1, _), (2, _), (6, _), (8, _)] ⟨rfl, rfl, rfl, rfl, rfl, trivial⟩ ?_
  refine jk_sn ?_
  refine jn_seq ?_
  refine jn_reg 2 ?_
  refine jg_mv rfl rfl rfl ?_
  refine jg_y (fun w hs => yv_neq rfl rfl) rfl rfl ?_
  refine jg_nils [(0, _), (1, _), (2, _), (6, _), (8, _), (18, _)] ⟨rfl, rfl, rfl, rfl, rfl, rfl, trivial⟩ ?_
  refine jk_sn ?_
  refine jn_cond rfl ?_ ?_
  · refine jn_seq ?_
    refine jn_reg 3 ?_
    refine jg_y (fun w hs => yv_build rfl (o2 rfl)) rfl rfl ?_
    refine jg_mv rfl rfl rfl ?_
    refine jg_store 0 rfl rfl rfl (l2 rfl) rfl rfl rfl rfl (l2 rfl) (r1 rfl) ?_
    refine jg_as rfl rfl rfl ?_
    refine jg_nils [(6, _), (7, _)] ⟨rfl, rfl, trivial⟩ ?_
    refine jk_sn ?_
    refine jn_ret ?_
    refine jk_sr ?_
    exact jk_ret2 rfl (fun w hs => .cell rfl (ldBB (hs.blkL (i := 0) rfl) rfl)) (fun w hs => .tmp rfl) (fun w hs => ⟨rfl, hs.drop⟩)
  refine jn_skip ?_
  refine jk_sn ?_
  refine jn_seq ?_
  refine jn_seq ?_
  refine jn_reg 4 ?_
  refine jg_mv rfl rfl rfl ?_
  refine jg_y (fun w hs => yv_lss rfl rfl) rfl rfl ?_
  refine jg_mv rfl rfl rfl ?_
  refine jg_split 23 rfl ?_ ?_
  · refine jg_skip rfl rfl ?_
    refine jg_skip rfl rfl ?_
    refine jg_y (fun w hs => yv_pick_t rfl rfl) rfl rfl ?_
    refine jg_mv rfl rfl rfl ?_
    refine jg_skip rfl rfl ?_
    refine jg_skip rfl rfl ?_
    refine jg_y (fun w hs => yv_pick_t rfl rfl) rfl rfl ?_
    refine jg_mv rfl rfl rfl ?_
    refine jg_skip rfl rfl ?_
    refine jg_skip rfl rfl ?_
    refine jg_y (fun w hs => yv_pick_t rfl rfl) rfl rfl ?_
    refine jg_nils [(0, _), (1, _), (2, _), (6, _), (34, _)] ⟨rfl, rfl, rfl, rfl, rfl, trivial⟩ ?_
    refine jk_sn ?_
    refine jn_ct rfl ?_
    refine jn_seq ?_
    refine jn_reg 5 ?_
    refine jg_y (fun w hs => yv_build rfl (o2 rfl)) rfl rfl ?_
    refine jg_store 0 rfl rfl rfl (l2 rfl) rfl rfl rfl rfl (l2 rfl) (r1 rfl) ?_
    refine jg_as rfl rfl rfl ?_
    refine jg_nils [(6, _), (7, _)] ⟨rfl, rfl, trivial⟩ ?_
    refine jk_sn ?_
    refine jn_ret ?_
    refine jk_sr ?_
    exact jk_ret2 rfl (fun w hs => .cell rfl (ldBB (hs.blkL (i := 0) rfl) rfl)) (fun w hs => .tmp rfl) (fun w hs => ⟨rfl, hs.drop⟩)
  refine jg_mv rfl rfl rfl ?_
  refine jg_y (fun w hs => yv_gtr rfl rfl) rfl rfl ?_
  refine jg_y (fun w hs => yv_pick_f rfl rfl) rfl rfl ?_
  refine jg_mv rfl rfl rfl ?_
  refine jg_split 27 rfl ?_ ?_
  · refine jg_skip rfl rfl ?_
    refine jg_skip rfl rfl ?_
    refine jg_y (fun w hs => yv_pick_t rfl rfl) rfl rfl ?_
    refine jg_mv rfl rfl rfl ?_
    refine jg_skip rfl rfl ?_
    refine jg_skip rfl rfl ?_
    refine jg_y (fun w hs => yv_pick_t rfl rfl) rfl rfl ?_
    refine jg_nils [(0, _), (1, _), (2, _), (6, _), (34, _)] ⟨rfl, rfl, rfl, rfl, rfl, trivial⟩ ?_
    refine jk_sn ?_
    refine jn_ct rfl ?_
    refine jn_seq ?_
    refine jn_reg 5 ?_
    refine jg_y (fun w hs => yv_build rfl (o2 rfl)) rfl rfl ?_
    refine jg_store 0 rfl rfl rfl (l2 rfl) rfl rfl rfl rfl (l2 rfl) (r1 rfl) ?_
    refine jg_as rfl rfl rfl ?_
    refine jg_nils [(6, _), (7, _)] ⟨rfl, rfl, trivial⟩ ?_
    refine jk_sn ?_
    refine jn_ret ?_
    refine jk_sr ?_
    exact jk_ret2 rfl (fun w hs => .cell rfl (ldBB (hs.blkL (i := 0) rfl) rfl)) (fun w hs => .tmp rfl) (fun w hs => ⟨rfl, hs.drop⟩)
  refine jg_mv rfl rfl rfl ?_
  refine jg_y (fun w hs => yv_lss rfl rfl) rfl rfl ?_
  refine jg_y (fun w hs => yv_pick_f rfl rfl) rfl rfl ?_
  refine jg_mv rfl rfl rfl ?_
  refine jg_split 31 rfl ?_ ?_
  · refine jg_skip rfl rfl ?_
    refine jg_skip rfl rfl ?_
    refine jg_y (fun w hs => yv_pick_t rfl rfl) rfl rfl ?_
    refine jg_nils [(0, _), (1, _), (2, _), (6, _), (34, _)] ⟨rfl, rfl, rfl, rfl, rfl, trivial⟩ ?_
    refine jk_sn ?_
    refine jn_ct rfl ?_
    refine jn_seq ?_
    refine jn_reg 5 ?_
    refine jg_y (fun w hs => yv_build rfl (o2 rfl)) rfl rfl ?_
    refine jg_store 0 rfl rfl rfl (l2 rfl) rfl rfl rfl rfl (l2 rfl) (r1 rfl) ?_
    refine jg_as rfl rfl rfl ?_
    refine jg_nils [(6, _), (7, _)] ⟨rfl, rfl, trivial⟩ ?_
    refine jk_sn ?_
    refine jn_ret ?_
    refine jk_sr ?_
    exact jk_ret2 rfl (fun w hs => .cell rfl (ldBB (hs.blkL (i := 0) rfl) rfl)) (fun w hs => .tmp rfl) (fun w hs => ⟨rfl, hs.drop⟩)
  refine jg_mv rfl rfl rfl ?_
  refine jg_y (fun w hs => yv_gtr rfl rfl) rfl rfl ?_
  refine jg_y (fun w hs => yv_pick_f rfl rfl) rfl rfl ?_
  refine jg_nils [(0, _), (1, _), (2, _), (6, _), (34, _)] ⟨rfl, rfl, rfl, rfl, rfl, trivial⟩ ?_
  refine jk_sn ?_
  refine jn_cond rfl ?_ ?_
  · refine jn_seq ?_
    refine jn_reg 5 ?_
    refine jg_y (fun w hs => yv_build rfl (o2 rfl)) rfl rfl ?_
    refine jg_store 0 rfl rfl rfl (l2 rfl) rfl rfl rfl rfl (l2 rfl) (r1 rfl) ?_
    refine jg_as rfl rfl rfl ?_
    refine jg_nils [(6, _), (7, _)] ⟨rfl, rfl, trivial⟩ ?_
    refine jk_sn ?_
    refine jn_ret ?_
    refine jk_sr ?_
    exact jk_ret2 rfl (fun w hs => .cell rfl (ldBB (hs.blkL (i := 0) rfl) rfl)) (fun w hs => .tmp rfl) (fun w hs => ⟨rfl, hs.drop⟩)
  refine jn_skip ?_
  refine jk_sn ?_
  refine jn_seq ?_
  refine jn_reg 6 ?_
  refine jg_mv rfl rfl rfl ?_
  refine jg_mv rfl rfl rfl ?_
  refine jg_ck fun h3 => ?_
  refine jg_y (fun w hs => yv_tdiv_w rfl rfl (of_decide_eq_true h3)) rfl rfl ?_
  refine jg_as rfl rfl rfl ?_
  refine jg_nils [(0, _), (6, _), (9, _)] ⟨rfl, rfl, rfl, trivial⟩ ?_
  refine jk_sn ?_
  refine jn_seq ?_
  refine jn_reg 7 ?_
  refine jg_as rfl rfl rfl ?_
  refine jg_nils [(0, _), (6, _), (9, _), (10, _)] ⟨rfl, rfl, rfl, rfl, trivial⟩ ?_
  refine jk_sn ?_
  refine jn_join (fun (s : Int) (g : Unit) => [(0, ha0.v), (6, .pointer (some ⟨g1, 0, none⟩)), (9, .int .i64 (w64 (Int.tdiv a1 a2))), (10, .int .i64 s)]) (fun (s : Int) (g : Unit) => []) (fun (s : Int) (g : Unit) => [(Res.blk g1 55 [.int .i64 0, .int .i64 0])]) ?_ ?_
  rotate_left
  · intro k6 H7
    refine jn_block ?_
    refine jn_lp (n := big) (fun (s : Int) (g : Unit) => [(0, ha0.v), (6, .pointer (some ⟨g1, 0, none⟩)), (9, .int .i64 (w64 (Int.tdiv a1 a2))), (10, .int .i64 s)]) (fun (s : Int) (g : Unit) => []) (fun (s : Int) (g : Unit) => [(Res.blk g1 55 [.int .i64 0, .int .i64 0])]) 0 () [0] ⟨rfl, rfl, rfl, rfl, trivial⟩ rfl rfl rfl ?_
    intro z285 q286 n289 k287 H288
    refine jn_seq ?_
    refine jn_seq ?_
    refine jn_reg 8 ?_
    refine jg_mv rfl rfl rfl ?_
    refine jg_mv rfl rfl rfl ?_
    refine jg_y (fun w hs => yv_ln rfl (hs.arg Rha0)) rfl rfl ?_
    refine jg_y (fun w hs => yv_lss rfl rfl) rfl rfl ?_
    refine jg_mv rfl rfl rfl ?_
    refine jg_split 43 rfl ?_ ?_
    rotate_left
    · refine jg_skip rfl rfl ?_
      refine jg_skip rfl rfl ?_
      refine jg_skip rfl rfl ?_
      refine jg_skip rfl rfl ?_
      refine jg_skip rfl rfl ?_
      refine jg_skip rfl rfl ?_
      refine jg_skip rfl rfl ?_
      refine jg_y (fun w hs => yv_pick_f rfl rfl) rfl rfl ?_
      refine jg_nils [(0, _), (6, _), (9, _), (10, _), (51, _)] ⟨rfl, rfl, rfl, rfl, rfl, trivial⟩ ?_
      refine jk_sn ?_
      refine jn_cf rfl ?_
      refine jn_exit ?_
      refine jk_se (jk_le (jk_bh ?_))
      exact jk_use H7 z285 () [0] ⟨rfl, rfl, rfl, rfl, trivial⟩ rfl rfl rfl
    refine jg_mv rfl rfl rfl ?_
    refine jg_mv rfl rfl rfl ?_
    refine jg_ix fun x290 h291 => ?_
    refine jg_y (fun w hs => yv_ix rfl rfl (hs.arg Rha0) h291) rfl rfl ?_
    refine jg_y (fun w hs => yv_ef rfl (hs.arg Rha0) h291.1) rfl rfl ?_
    refine jg_y (fun w hs => yv_e1 rfl (hs.arg Rha0) h291.1 rfl) rfl rfl ?_
    refine jg_mv rfl rfl rfl ?_
    refine jg_y (fun w hs => yv_leq rfl rfl) rfl rfl ?_
    refine jg_y (fun w hs => yv_pick_t rfl rfl) rfl rfl ?_
    refine jg_nils [(0, _), (6, _), (9, _), (10, _), (51, _)] ⟨rfl, rfl, rfl, rfl, rfl, trivial⟩ ?_
    refine jk_sn ?_
    refine jn_cond rfl ?_ ?_
    rotate_left
    · refine jn_exit ?_
      refine jk_se (jk_le (jk_bh ?_))
      exact jk_use H7 z285 () [0] ⟨rfl, rfl, rfl, rfl, trivial⟩ rfl rfl rfl
    refine jn_skip ?_
    refine jk_sn ?_
    refine jn_block ?_
    refine jn_reg 9 ?_
    refine jg_mv rfl rfl rfl ?_
    refine jg_y (fun w hs => yv_add_w rfl rfl) rfl rfl ?_
    refine jg_as rfl rfl rfl ?_
    refine jg_nils [(0, _), (6, _), (9, _), (10, _)] ⟨rfl, rfl, rfl, rfl, trivial⟩ ?_
    refine jk_bn ?_
    exact jk_use H288 (w64 (z285 + 1)) () [0] ⟨rfl, rfl, rfl, rfl, trivial⟩ rfl rfl rfl
  intro z4 q5
  refine jn_seq ?_
  refine jn_seq ?_
  refine jn_reg 10 ?_
  refine jg_mv rfl rfl rfl ?_
  refine jg_nils [(0, _), (6, _), (9, _), (10, _), (54, _)] ⟨rfl, rfl, rfl, rfl, rfl, trivial⟩ ?_
  refine jk_sn ?_
  refine jn_block ?_
  refine jn_seq ?_
  refine jn_reg 11 ?_
  refine jg_y (fun w hs => yv_eql rfl rfl) rfl rfl ?_
  refine jg_as rfl rfl rfl ?_
  refine jg_nils [(0, _), (6, _), (9, _), (10, _), (54, _), (55, _)] ⟨rfl, rfl, rfl, rfl, rfl, rfl, trivial⟩ ?_
  refine jk_sn ?_
  refine jn_cond rfl ?_ ?_
  · refine jn_seq ?_
    refine jn_draw (L' := [_]) 12 [0] [0, 1, 2, 3, 4, 5, 6, 7, 8] 511 2047 [0, 1, 2, 4, 0, 16, 32, 64, 136, 511, 1023] [0, 1, 3, 7, 0, 16, 48, 112, 255, 511, 1023] [(0, true), (1, true), (2, true), (3, true), (4, true), (5, true), (6, true), (7, true), (8, true), (9, false), (10, false)] rfl (np_seq (np_blk (np_seq np_rt))) (by kernel_rfl) (by kernel_rfl) (by kernel_rfl) (by kernel_rfl) (by kernel_rfl) (by kernel_rfl) (by kernel_rfl) (by kernel_rfl) ?_
    refine jd_mv rfl rfl rfl rfl ?_
    refine jd_ix fun x8 h9 => ?_
    refine jd_y rfl (fun w hs => yv_ix rfl rfl (hs.arg Rha0) h9) rfl rfl ?_
    refine jd_y rfl (fun w hs => yv_ef rfl (hs.arg Rha0) h9.1) rfl rfl ?_
    refine jd_y rfl (fun w hs => yv_e1 rfl (hs.arg Rha0) h9.1 rfl) rfl rfl ?_
    refine jd_mv rfl rfl rfl rfl ?_
    refine jd_ix fun x10 h11 => ?_
    refine jd_y rfl (fun w hs => yv_ix rfl rfl (hs.arg Rha0) h11) rfl rfl ?_
    refine jd_y rfl (fun w hs => yv_ef rfl (hs.arg Rha0) h11.1) rfl rfl ?_
    refine jd_y rfl (fun w hs => yv_e1 rfl (hs.arg Rha0) h11.1 rfl) rfl rfl ?_
    refine jd_y rfl (fun w hs => yv_build rfl (o2 rfl)) rfl rfl ?_
    refine jd_h rfl ?_
    refine jg_store 0 rfl rfl rfl (l2 rfl) rfl rfl rfl rfl (l2 rfl) (r1 rfl) ?_
    refine jg_nil ?_
    refine jk_df rfl ?_
    refine jf_h rfl ?_
    refine jg_as rfl rfl rfl ?_
    refine jg_nil ?_
    refine jk_df rfl ?_
    refine jf_nils [(6, _), (7, _)] ⟨rfl, rfl, trivial⟩ ?_
    refine jk_sn ?_
    refine jn_ret ?_
    refine jk_br (jk_sr ?_)
    exact jk_ret2 rfl (fun w hs => .cell rfl (ldBB (hs.blkL (i := 0) rfl) rfl)) (fun w hs => .tmp rfl) (fun w hs => ⟨rfl, hs.drop⟩)
  refine jn_seq ?_
  refine jn_reg 13 ?_
  refine jg_mv rfl rfl rfl ?_
  refine jg_y (fun w hs => yv_ln rfl (hs.arg Rha0)) rfl rfl ?_
  refine jg_y (fun w hs => yv_eql rfl rfl) rfl rfl ?_
  refine jg_as rfl rfl rfl ?_
  refine jg_nils [(0, _), (6, _), (9, _), (10, _), (66, _)] ⟨rfl, rfl, rfl, rfl, rfl, trivial⟩ ?_
  refine jk_sn ?_
  refine jn_cond rfl ?_ ?_
  · refine jn_seq ?_
    refine jn_draw (L' := [_]) 14 [0] [0, 1, 2, 3, 4, 5, 6, 7, 8, 9, 10, 11, 12] 8191 32767 [0, 0, 2, 5, 8, 16, 0, 0, 128, 320, 512, 1024, 2080, 8191, 16383] [0, 0, 2, 7, 15, 31, 0, 0, 128, 448, 960, 1984, 4095, 8191, 16383] [(0, true), (1, true), (2, true), (3, true), (4, true), (5, true), (6, true), (7, true), (8, true), (9, true), (10, true), (11, true), (12, true), (13, false), (14, false)] rfl (np_seq (np_blk (np_seq np_rt))) (by kernel_rfl) (by kernel_rfl) (by kernel_rfl) (by kernel_rfl) (by kernel_rfl) (by kernel_rfl) (by kernel_rfl) (by kernel_rfl) ?_
    refine jd_mv rfl rfl rfl rfl ?_
    refine jd_mv rfl rfl rfl rfl ?_
    refine jd_y rfl (fun w hs => yv_sub_w rfl rfl) rfl rfl ?_
    refine jd_ix fun x12 h13 => ?_
    refine jd_y rfl (fun w hs => yv_ix rfl rfl (hs.arg Rha0) h13) rfl rfl ?_
    refine jd_y rfl (fun w hs => yv_ef rfl (hs.arg Rha0) h13.1) rfl rfl ?_
    refine jd_y rfl (fun w hs => yv_e1 rfl (hs.arg Rha0) h13.1 rfl) rfl rfl ?_
    refine jd_mv rfl rfl rfl rfl ?_
    refine jd_mv rfl rfl rfl rfl ?_
    refine jd_y rfl (fun w hs => yv_sub_w rfl rfl) rfl rfl ?_
    refine jd_ix fun x14 h15 => ?_
    refine jd_y rfl (fun w hs => yv_ix rfl rfl (hs.arg Rha0) h15) rfl rfl ?_
    refine jd_y rfl (fun w hs => yv_ef rfl (hs.arg Rha0) h15.1) rfl rfl ?_
    refine jd_y rfl (fun w hs => yv_e1 rfl (hs.arg Rha0) h15.1 rfl) rfl rfl ?_
    refine jd_y rfl (fun w hs => yv_build rfl (o2 rfl)) rfl rfl ?_
    refine jd_h rfl ?_
    refine jg_store 0 rfl rfl rfl (l2 rfl) rfl rfl rfl rfl (l2 rfl) (r1 rfl) ?_
    refine jg_nil ?_
    refine jk_df rfl ?_
    refine jf_h rfl ?_
    refine jg_as rfl rfl rfl ?_
    refine jg_nil ?_
    refine jk_df rfl ?_
    refine jf_nils [(6, _), (7, _)] ⟨rfl, rfl, trivial⟩ ?_
    refine jk_sn ?_
    refine jn_ret ?_
    refine jk_br (jk_sr ?_)
    exact jk_ret2 rfl (fun w hs => .cell rfl (ldBB (hs.blkL (i := 0) rfl) rfl)) (fun w hs => .tmp rfl) (fun w hs => ⟨rfl, hs.drop⟩)
  refine jn_skip ?_
  refine jk_bn (jk_sn ?_)
  refine jn_join (fun (s : (Int × Int × Int × Int × Int × Int)) (g : (Nat × Nat)) => [(6, .pointer (some ⟨g1, 0, none⟩)), (9, .int .i64 (w64 (Int.tdiv a1 a2))), (11, .pointer (some ⟨g.1, 0, none⟩)), (12, .pointer (some ⟨g.2, 0, none⟩))]) (fun (s : (Int × Int × Int × Int × Int × Int)) (g : (Nat × Nat)) => []) (fun (s : (Int × Int × Int × Int × Int × Int)) (g : (Nat × Nat)) => [(Res.blk g1 55 [.int .i64 0, .int .i64 0]), (Res.blk g.1 50 [.int .i64 s.1, .int .i64 s.2.1, .int .i64 s.2.2.1]), (Res.blk g.2 50 [.int .i64 s.2.2.2.1, .int .i64 s.2.2.2.2.1, .int .i64 s.2.2.2.2.2])]) ?_ ?_
  · intro z16 q17
    refine jn_seq ?_
    refine jn_draw (L' := [_, _, _]) 16 [0, 1, 2] [0, 1, 2, 3, 4, 5, 6, 7, 8, 9, 10] 2047 2047 [0, 0, 2, 5, 0, 16, 0, 64, 160, 15, 1023] [0, 0, 2, 7, 0, 16, 0, 64, 240, 15, 1023] [(0, true), (1, true), (2, true), (3, true), (4, true), (5, true), (6, true), (7, true), (8, true), (9, true), (10, true)] rfl (np_seq np_rt) (by kernel_rfl) (by kernel_rfl) (by kernel_rfl) (by kernel_rfl) (by kernel_rfl) (by kernel_rfl) (by kernel_rfl) (by kernel_rfl) ?_
    refine jd_mv rfl rfl rfl rfl ?_
    refine jd_y rfl (fun w hs => yv_fieldAddr rfl) rfl rfl ?_
    refine jd_y rfl (fun w hs => yv_load rfl (ld1B (hs.blk (i := 1) rfl) rfl)) rfl rfl ?_
    refine jd_yl rfl (fun w hs => yv_sub_w rfl rfl) rfl rfl fun x20 => ?_
    refine jd_y rfl (fun w hs => yv_fieldAddr rfl) rfl rfl ?_
    refine jd_y rfl (fun w hs => yv_load rfl (ld1B (hs.blk (i := 2) rfl) rfl)) rfl rfl ?_
    refine jd_y rfl (fun w hs => yv_fieldAddr rfl) rfl rfl ?_
    refine jd_y rfl (fun w hs => yv_load rfl (ld1B (hs.blk (i := 1) rfl) rfl)) rfl rfl ?_
    refine jd_y rfl (fun w hs => yv_sub_w rfl rfl) rfl rfl ?_
    refine jd_as rfl rfl rfl rfl ?_
    refine jd_as rfl rfl rfl rfl ?_
    refine jd_nils [(6, _), (11, _), (12, _), (13, _), (14, _)] ⟨rfl, rfl, rfl, rfl, rfl, trivial⟩ ?_
    refine jk_sn ?_
    refine jn_seq ?_
    refine jn_draw (L' := [_, _, _]) 17 [0, 1, 2] [0, 1, 2, 3, 4, 5, 6, 7, 8, 9, 10, 11, 12, 13, 14, 15, 16, 17, 18, 19, 20, 21, 22, 23, 24] 33554431 134217727 [0, 1, 0, 4, 0, 16, 40, 0, 192, 0, 768, 1026, 0, 4096, 0, 16384, 0, 65536, 163840, 0, 786432, 0, 3146752, 4202496, 8390656, 33554431, 67108863] [0, 1, 0, 4, 0, 16, 60, 0, 252, 0, 1020, 2047, 0, 4096, 0, 16384, 0, 65536, 245760, 0, 1032192, 0, 4179964, 8386556, 16777215, 33554431, 67108863] [(0, true), (1, true), (2, true), (3, true), (4, true), (5, true), (6, true), (7, true), (8, true), (9, true), (10, true), (11, true), (12, true), (13, true), (14, true), (15, true), (16, true), (17, true), (18, true), (19, true), (20, true), (21, true), (22, true), (23, true), (24, true), (25, false), (26, false)] rfl (np_seq np_rt) (by kernel_rfl) (by kernel_rfl) (by kernel_rfl) (by kernel_rfl) (by kernel_rfl) (by kernel_rfl) (by kernel_rfl) (by kernel_rfl) ?_
    refine jd_y rfl (fun w hs => yv_fieldAddr rfl) rfl rfl ?_
    refine jd_y rfl (fun w hs => yv_load rfl (ld1B (hs.blk (i := 1) rfl) rfl)) rfl rfl ?_
    refine jd_y rfl (fun w hs => yv_fieldAddr rfl) rfl rfl ?_
    refine jd_y rfl (fun w hs => yv_load rfl (ld1B (hs.blk (i := 2) rfl) rfl)) rfl rfl ?_
    refine jd_y rfl (fun w hs => yv_fieldAddr rfl) rfl rfl ?_
    refine jd_y rfl (fun w hs => yv_load rfl (ld1B (hs.blk (i := 1) rfl) rfl)) rfl rfl ?_
    refine jd_y rfl (fun w hs => yv_sub_w rfl rfl) rfl rfl ?_
    refine jd_mv rfl rfl rfl rfl ?_
    refine jd_yl rfl (fun w hs => yv_mul_w rfl rfl) rfl rfl fun x21 => ?_
    refine jd_mv rfl rfl rfl rfl ?_
    refine jd_c0 rfl rfl (fun v w hs hm => r01_Down_c hm ) rfl rfl fun v22 => ?_
    refine jd_y rfl (fun w hs => yv_add_w rfl rfl) rfl rfl ?_
    refine jd_y rfl (fun w hs => yv_fieldAddr rfl) rfl rfl ?_
    refine jd_y rfl (fun w hs => yv_load rfl (ld1B (hs.blk (i := 1) rfl) rfl)) rfl rfl ?_
    refine jd_y rfl (fun w hs => yv_fieldAddr rfl) rfl rfl ?_
    refine jd_y rfl (fun w hs => yv_load rfl (ld1B (hs.blk (i := 2) rfl) rfl)) rfl rfl ?_
    refine jd_y rfl (fun w hs => yv_fieldAddr rfl) rfl rfl ?_
    refine jd_y rfl (fun w hs => yv_load rfl (ld1B (hs.blk (i := 1) rfl) rfl)) rfl rfl ?_
    refine jd_yl rfl (fun w hs => yv_sub_w rfl rfl) rfl rfl fun x23 => ?_
    refine jd_mv rfl rfl rfl rfl ?_
    refine jd_y rfl (fun w hs => yv_mul_w rfl rfl) rfl rfl ?_
    refine jd_mv rfl rfl rfl rfl ?_
    refine jd_c0 rfl rfl (fun v w hs hm => r01_Up_c hm ) rfl rfl fun v24 => ?_
    refine jd_y rfl (fun w hs => yv_add_w rfl rfl) rfl rfl ?_
    refine jd_y rfl (fun w hs => yv_build rfl (o2 rfl)) rfl rfl ?_
    refine jd_h rfl ?_
    refine jg_store 0 rfl rfl rfl (l2 rfl) rfl rfl rfl rfl (l2 rfl) (r3 rfl) ?_
    refine jg_nil ?_
    refine jk_df rfl ?_
    refine jf_h rfl ?_
    refine jg_as rfl rfl rfl ?_
    refine jg_nil ?_
    refine jk_df rfl ?_
    refine jf_nils [(6, _), (7, _)] ⟨rfl, rfl, trivial⟩ ?_
    refine jk_sel (is := [0]) (s1 rfl) rfl ?_
    refine jk_sn ?_
    refine jn_ret ?_
    exact jk_ret2 rfl (fun w hs => .cell rfl (ldBB (hs.blkL (i := 0) rfl) rfl)) (fun w hs => .tmp rfl) (fun w hs => ⟨rfl, hs.drop⟩)
  intro k18 H19
  refine jn_drawA 15 [0, 1, 2, 3, 4, 5, 6, 7, 8, 9, 10, 11, 12] 8191 99 9 [0, 0, 2, 5, 8, 0, 0, 96, 128, 0, 0, 1567, 4095] [0, 0, 2, 7, 15, 0, 0, 96, 224, 0, 0, 1567, 4095] [(0, true), (1, true), (5, true), (6, true)] (np_seq np_rt) (by kernel_rfl) (by kernel_rfl) (by kernel_rfl) (by kernel_rfl) (by kernel_rfl) (by kernel_rfl) (by kernel_rfl) (by kernel_rfl) ?_
  refine jt_mv rfl rfl rfl ?_
  refine jt_mv rfl rfl rfl ?_
  refine jt_mv rfl rfl rfl ?_
  refine jt_mv rfl rfl rfl ?_
  refine jd_x ?_
  refine jx_to (L' := [_]) [2, 3, 4, 7, 8, 9, 10] [11, 12] [0] rfl ?_
  refine jx_lin [0] 1948 127 6 [0, 0, 2, 7, 15, 0, 0, 96, 224, 0, 0, 1567, 4095] [(2, true), (3, true), (4, true)] rfl (np_seq np_rt) (by kernel_rfl) (by kernel_rfl) (by kernel_rfl) (by kernel_rfl) (by kernel_rfl) (by kernel_rfl) (by kernel_rfl) (by kernel_rfl) (by kernel_rfl) ?_
  refine jd_y rfl (fun w hs => yv_sub_w rfl rfl) rfl rfl ?_
  refine jd_ix fun x85 h86 => ?_
  refine jd_y rfl (fun w hs => yv_ix rfl rfl (hs.arg Rha0) h86) rfl rfl ?_
  refine jd_y rfl (fun w hs => yv_eS rfl (hs.arg Rha0) h86.1 (l3 rfl) rfl) rfl rfl ?_
  refine jd_x ?_
  refine jx3 (i := 7) (i2 := 9) (i3 := 10) (by kernel_rfl) (by kernel_rfl) rfl rfl rfl ?_ ?_ ?_
  · refine jg_ix fun x165 h166 => ?_
    refine jg_y (fun w hs => yv_ix rfl rfl (hs.arg Rha0) h166) rfl rfl ?_
    refine jg_nil ?_
    refine jk_xn [0] rfl ?_
    refine jx3 (i := 8) (i2 := 9) (i3 := 10) (by kernel_rfl) (by kernel_rfl) rfl rfl rfl ?_ ?_ ?_
    · refine jg_y (fun w hs => yv_eS rfl (hs.arg Rha0) h166.1 (l3 rfl) rfl) rfl rfl ?_
      refine jg_nil ?_
      refine jk_xn [0] rfl ?_
      refine jx2 (i := 9) (i2 := 10) (by kernel_rfl) (by kernel_rfl) rfl rfl ?_ ?_
      · refine jg_alloc (l3 rfl) rfl rfl fun g205 => ?_
        refine jg_nil ?_
        refine jk_xn [1] rfl ?_
        refine jx1 (i := 10) (by kernel_rfl) (by kernel_rfl) rfl ?_
        refine jg_alloc (l3 rfl) rfl rfl fun g225 => ?_
        refine jg_nil ?_
        refine jk_xn [2] rfl ?_
        refine jx1 (i := 11) (by kernel_rfl) (by kernel_rfl) rfl ?_
        refine jg_store 1 rfl rfl rfl (l3 rfl) rfl rfl rfl rfl (l3 rfl) (r3 rfl) ?_
        refine jg_nil ?_
        refine jk_xf (by kernel_rfl) ?_
        refine jx1 (i := 12) (by kernel_rfl) (by kernel_rfl) rfl ?_
        refine jg_store 0 rfl rfl rfl (l3 rfl) rfl rfl rfl rfl (l3 rfl) (r3 rfl) ?_
        refine jg_nil ?_
        refine jk_xf (by kernel_rfl) ?_
        refine jx0 [(6, _), (9, _), (11, _), (12, _)] ⟨rfl, rfl, rfl, rfl, trivial⟩ (by kernel_rfl) (by kernel_rfl) ?_
        exact jk_use H19 (x85.Mass, x85.Lo, x85.Hi, x165.Mass, x165.Lo, x165.Hi) (g205, g225) [2, 1, 0] ⟨rfl, rfl, rfl, rfl, trivial⟩ rfl rfl rfl
      refine jg_alloc (l3 rfl) rfl rfl fun g225 => ?_
      refine jg_nil ?_
      refine jk_xn [1] rfl ?_
      refine jx1 (i := 9) (by kernel_rfl) (by kernel_rfl) rfl ?_
      refine jg_alloc (l3 rfl) rfl rfl fun g205 => ?_
      refine jg_nil ?_
      refine jk_xn [2] rfl ?_
      refine jx1 (i := 11) (by kernel_rfl) (by kernel_rfl) rfl ?_
      refine jg_store 0 rfl rfl rfl (l3 rfl) rfl rfl rfl rfl (l3 rfl) (r3 rfl) ?_
      refine jg_nil ?_
      refine jk_xf (by kernel_rfl) ?_
      refine jx1 (i := 12) (by kernel_rfl) (by kernel_rfl) rfl ?_
      refine jg_store 1 rfl rfl rfl (l3 rfl) rfl rfl rfl rfl (l3 rfl) (r3 rfl) ?_
      refine jg_nil ?_
      refine jk_xf (by kernel_rfl) ?_
      refine jx0 [(6, _), (9, _), (11, _), (12, _)] ⟨rfl, rfl, rfl, rfl, trivial⟩ (by kernel_rfl) (by kernel_rfl) ?_
      exact jk_use H19 (x85.Mass, x85.Lo, x85.Hi, x165.Mass, x165.Lo, x165.Hi) (g205, g225) [2, 0, 1] ⟨rfl, rfl, rfl, rfl, trivial⟩ rfl rfl rfl
    · refine jg_alloc (l3 rfl) rfl rfl fun g205 => ?_
      refine jg_nil ?_
      refine jk_xn [1] rfl ?_
      refine jx2 (i := 8) (i2 := 10) (by kernel_rfl) (by kernel_rfl) rfl rfl ?_ ?_
      · refine jg_y (fun w hs => yv_eS rfl (hs.arg Rha0) h166.1 (l3 rfl) rfl) rfl rfl ?_
        refine jg_nil ?_
        refine jk_xn [1] rfl ?_
        refine jx1 (i := 10) (by kernel_rfl) (by kernel_rfl) rfl ?_
        refine jg_alloc (l3 rfl) rfl rfl fun g225 => ?_
        refine jg_nil ?_
        refine jk_xn [2] rfl ?_
        refine jx1 (i := 11) (by kernel_rfl) (by kernel_rfl) rfl ?_
        refine jg_store 1 rfl rfl rfl (l3 rfl) rfl rfl rfl rfl (l3 rfl) (r3 rfl) ?_
        refine jg_nil ?_
        refine jk_xf (by kernel_rfl) ?_
        refine jx1 (i := 12) (by kernel_rfl) (by kernel_rfl) rfl ?_
        refine jg_store 0 rfl rfl rfl (l3 rfl) rfl rfl rfl rfl (l3 rfl) (r3 rfl) ?_
        refine jg_nil ?_
        refine jk_xf (by kernel_rfl) ?_
        refine jx0 [(6, _), (9, _), (11, _), (12, _)] ⟨rfl, rfl, rfl, rfl, trivial⟩ (by kernel_rfl) (by kernel_rfl) ?_
        exact jk_use H19 (x85.Mass, x85.Lo, x85.Hi, x165.Mass, x165.Lo, x165.Hi) (g205, g225) [2, 1, 0] ⟨rfl, rfl, rfl, rfl, trivial⟩ rfl rfl rfl
      refine jg_alloc (l3 rfl) rfl rfl fun g225 => ?_
      refine jg_nil ?_
      refine jk_xn [2] rfl ?_
      refine jx2 (i := 8) (i2 := 11) (by kernel_rfl) (by kernel_rfl) rfl rfl ?_ ?_
      · refine jg_y (fun w hs => yv_eS rfl (hs.arg Rha0) h166.1 (l3 rfl) rfl) rfl rfl ?_
        refine jg_nil ?_
        refine jk_xn [2] rfl ?_
        refine jx1 (i := 11) (by kernel_rfl) (by kernel_rfl) rfl ?_
        refine jg_store 1 rfl rfl rfl (l3 rfl) rfl rfl rfl rfl (l3 rfl) (r3 rfl) ?_
        refine jg_nil ?_
        refine jk_xf (by kernel_rfl) ?_
        refine jx1 (i := 12) (by kernel_rfl) (by kernel_rfl) rfl ?_
        refine jg_store 0 rfl rfl rfl (l3 rfl) rfl rfl rfl rfl (l3 rfl) (r3 rfl) ?_
        refine jg_nil ?_
        refine jk_xf (by kernel_rfl) ?_
        refine jx0 [(6, _), (9, _), (11, _), (12, _)] ⟨rfl, rfl, rfl, rfl, trivial⟩ (by kernel_rfl) (by kernel_rfl) ?_
        exact jk_use H19 (x85.Mass, x85.Lo, x85.Hi, x165.Mass, x165.Lo, x165.Hi) (g205, g225) [2, 1, 0] ⟨rfl, rfl, rfl, rfl, trivial⟩ rfl rfl rfl
      refine jg_store 1 rfl rfl rfl (l3 rfl) rfl rfl rfl rfl (l3 rfl) (r3 rfl) ?_
      refine jg_nil ?_
      refine jk_xf (by kernel_rfl) ?_
      refine jx1 (i := 8) (by kernel_rfl) (by kernel_rfl) rfl ?_
      refine jg_y (fun w hs => yv_eS rfl (hs.arg Rha0) h166.1 (l3 rfl) rfl) rfl rfl ?_
      refine jg_nil ?_
      refine jk_xf (by kernel_rfl) ?_
      refine jx1 (i := 12) (by kernel_rfl) (by kernel_rfl) rfl ?_
      refine jg_store 0 rfl rfl rfl (l3 rfl) rfl rfl rfl rfl (l3 rfl) (r3 rfl) ?_
      refine jg_nil ?_
      refine jk_xf (by kernel_rfl) ?_
      refine jx0 [(6, _), (9, _), (11, _), (12, _)] ⟨rfl, rfl, rfl, rfl, trivial⟩ (by kernel_rfl) (by kernel_rfl) ?_
      exact jk_use H19 (x85.Mass, x85.Lo, x85.Hi, x165.Mass, x165.Lo, x165.Hi) (g205, g225) [2, 1, 0] ⟨rfl, rfl, rfl, rfl, trivial⟩ rfl rfl rfl
    refine jg_alloc (l3 rfl) rfl rfl fun g225 => ?_
    refine jg_nil ?_
    refine jk_xn [1] rfl ?_
    refine jx2 (i := 8) (i2 := 9) (by kernel_rfl) (by kernel_rfl) rfl rfl ?_ ?_
    · refine jg_y (fun w hs => yv_eS rfl (hs.arg Rha0) h166.1 (l3 rfl) rfl) rfl rfl ?_
      refine jg_nil ?_
      refine jk_xn [1] rfl ?_
      refine jx1 (i := 9) (by kernel_rfl) (by kernel_rfl) rfl ?_
      refine jg_alloc (l3 rfl) rfl rfl fun g205 => ?_
      refine jg_nil ?_
      refine jk_xn [2] rfl ?_
      refine jx1 (i := 11) (by kernel_rfl) (by kernel_rfl) rfl ?_
      refine jg_store 0 rfl rfl rfl (l3 rfl) rfl rfl rfl rfl (l3 rfl) (r3 rfl) ?_
      refine jg_nil ?_
      refine jk_xf (by kernel_rfl) ?_
      refine jx1 (i := 12) (by kernel_rfl) (by kernel_rfl) rfl ?_
      refine jg_store 1 rfl rfl rfl (l3 rfl) rfl rfl rfl rfl (l3 rfl) (r3 rfl) ?_
      refine jg_nil ?_
      refine jk_xf (by kernel_rfl) ?_
      refine jx0 [(6, _), (9, _), (11, _), (12, _)] ⟨rfl, rfl, rfl, rfl, trivial⟩ (by kernel_rfl) (by kernel_rfl) ?_
      exact jk_use H19 (x85.Mass, x85.Lo, x85.Hi, x165.Mass, x165.Lo, x165.Hi) (g205, g225) [2, 0, 1] ⟨rfl, rfl, rfl, rfl, trivial⟩ rfl rfl rfl
    refine jg_alloc (l3 rfl) rfl rfl fun g205 => ?_
    refine jg_nil ?_
    refine jk_xn [2] rfl ?_
    refine jx2 (i := 8) (i2 := 11) (by kernel_rfl) (by kernel_rfl) rfl rfl ?_ ?_
    · refine jg_y (fun w hs => yv_eS rfl (hs.arg Rha0) h166.1 (l3 rfl) rfl) rfl rfl ?_
      refine jg_nil ?_
      refine jk_xn [2] rfl ?_
      refine jx1 (i := 11) (by kernel_rfl) (by kernel_rfl) rfl ?_
      refine jg_store 0 rfl rfl rfl (l3 rfl) rfl rfl rfl rfl (l3 rfl) (r3 rfl) ?_
      refine jg_nil ?_
      refine jk_xf (by kernel_rfl) ?_
      refine jx1 (i := 12) (by kernel_rfl) (by kernel_rfl) rfl ?_
      refine jg_store 1 rfl rfl rfl (l3 rfl) rfl rfl rfl rfl (l3 rfl) (r3 rfl) ?_
      refine jg_nil ?_
      refine jk_xf (by kernel_rfl) ?_
      refine jx0 [(6, _), (9, _), (11, _), (12, _)] ⟨rfl, rfl, rfl, rfl, trivial⟩ (by kernel_rfl) (by kernel_rfl) ?_
      exact jk_use H19 (x85.Mass, x85.Lo, x85.Hi, x165.Mass, x165.Lo, x165.Hi) (g205, g225) [2, 0, 1] ⟨rfl, rfl, rfl, rfl, trivial⟩ rfl rfl rfl
    refine jg_store 0 rfl rfl rfl (l3 rfl) rfl rfl rfl rfl (l3 rfl) (r3 rfl) ?_
    refine jg_nil ?_
    refine jk_xf (by kernel_rfl) ?_
    refine jx1 (i := 8) (by kernel_rfl) (by kernel_rfl) rfl ?_
    refine jg_y (fun w hs => yv_eS rfl (hs.arg Rha0) h166.1 (l3 rfl) rfl) rfl rfl ?_
    refine jg_nil ?_
    refine jk_xf (by kernel_rfl) ?_
    refine jx1 (i := 12) (by kernel_rfl) (by kernel_rfl) rfl ?_
    refine jg_store 1 rfl rfl rfl (l3 rfl) rfl rfl rfl rfl (l3 rfl) (r3 rfl) ?_
    refine jg_nil ?_
    refine jk_xf (by kernel_rfl) ?_
    refine jx0 [(6, _), (9, _), (11, _), (12, _)] ⟨rfl, rfl, rfl, rfl, trivial⟩ (by kernel_rfl) (by kernel_rfl) ?_
    exact jk_use H19 (x85.Mass, x85.Lo, x85.Hi, x165.Mass, x165.Lo, x165.Hi) (g205, g225) [2, 0, 1] ⟨rfl, rfl, rfl, rfl, trivial⟩ rfl rfl rfl
  · refine jg_alloc (l3 rfl) rfl rfl fun g205 => ?_
    refine jg_nil ?_
    refine jk_xn [1] rfl ?_
    refine jx2 (i := 7) (i2 := 10) (by kernel_rfl) (by kernel_rfl) rfl rfl ?_ ?_
    · refine jg_ix fun x165 h166 => ?_
      refine jg_y (fun w hs => yv_ix rfl rfl (hs.arg Rha0) h166) rfl rfl ?_
      refine jg_nil ?_
      refine jk_xn [1] rfl ?_
      refine jx2 (i := 8) (i2 := 10) (by kernel_rfl) (by kernel_rfl) rfl rfl ?_ ?_
      · refine jg_y (fun w hs => yv_eS rfl (hs.arg Rha0) h166.1 (l3 rfl) rfl) rfl rfl ?_
        refine jg_nil ?_
        refine jk_xn [1] rfl ?_
        refine jx1 (i := 10) (by kernel_rfl) (by kernel_rfl) rfl ?_
        refine jg_alloc (l3 rfl) rfl rfl fun g225 => ?_
        refine jg_nil ?_
        refine jk_xn [2] rfl ?_
        refine jx1 (i := 11) (by kernel_rfl) (by kernel_rfl) rfl ?_
        refine jg_store 1 rfl rfl rfl (l3 rfl) rfl rfl rfl rfl (l3 rfl) (r3 rfl) ?_
        refine jg_nil ?_
        refine jk_xf (by kernel_rfl) ?_
        refine jx1 (i := 12) (by kernel_rfl) (by kernel_rfl) rfl ?_
        refine jg_store 0 rfl rfl rfl (l3 rfl) rfl rfl rfl rfl (l3 rfl) (r3 rfl) ?_
        refine jg_nil ?_
        refine jk_xf (by kernel_rfl) ?_
        refine jx0 [(6, _), (9, _), (11, _), (12, _)] ⟨rfl, rfl, rfl, rfl, trivial⟩ (by kernel_rfl) (by kernel_rfl) ?_
        exact jk_use H19 (x85.Mass, x85.Lo, x85.Hi, x165.Mass, x165.Lo, x165.Hi) (g205, g225) [2, 1, 0] ⟨rfl, rfl, rfl, rfl, trivial⟩ rfl rfl rfl
      refine jg_alloc (l3 rfl) rfl rfl fun g225 => ?_
      refine jg_nil ?_
      refine jk_xn [2] rfl ?_
      refine jx2 (i := 8) (i2 := 11) (by kernel_rfl) (by kernel_rfl) rfl rfl ?_ ?_
      · refine jg_y (fun w hs => yv_eS rfl (hs.arg Rha0) h166.1 (l3 rfl) rfl) rfl rfl ?_
        refine jg_nil ?_
        refine jk_xn [2] rfl ?_
        refine jx1 (i := 11) (by kernel_rfl) (by kernel_rfl) rfl ?_
        refine jg_store 1 rfl rfl rfl (l3 rfl) rfl rfl rfl rfl (l3 rfl) (r3 rfl) ?_
        refine jg_nil ?_
        refine jk_xf (by kernel_rfl) ?_
        refine jx1 (i := 12) (by kernel_rfl) (by kernel_rfl) rfl ?_
        refine jg_store 0 rfl rfl rfl (l3 rfl) rfl rfl rfl rfl (l3 rfl) (r3 rfl) ?_
        refine jg_nil ?_
        refine jk_xf (by kernel_rfl) ?_
        refine jx0 [(6, _), (9, _), (11, _), (12, _)] ⟨rfl, rfl, rfl, rfl, trivial⟩ (by kernel_rfl) (by kernel_rfl) ?_
        exact jk_use H19 (x85.Mass, x85.Lo, x85.Hi, x165.Mass, x165.Lo, x165.Hi) (g205, g225) [2, 1, 0] ⟨rfl, rfl, rfl, rfl, trivial⟩ rfl rfl rfl
      refine jg_store 1 rfl rfl rfl (l3 rfl) rfl rfl rfl rfl (l3 rfl) (r3 rfl) ?_
      refine jg_nil ?_
      refine jk_xf (by kernel_rfl) ?_
      refine jx1 (i := 8) (by kernel_rfl) (by kernel_rfl) rfl ?_
      refine jg_y (fun w hs => yv_eS rfl (hs.arg Rha0) h166.1 (l3 rfl) rfl) rfl rfl ?_
      refine jg_nil ?_
      refine jk_xf (by kernel_rfl) ?_
      refine jx1 (i := 12) (by kernel_rfl) (by kernel_rfl) rfl ?_
      refine jg_store 0 rfl rfl rfl (l3 rfl) rfl rfl rfl rfl (l3 rfl) (r3 rfl) ?_
      refine jg_nil ?_
      refine jk_xf (by kernel_rfl) ?_
      refine jx0 [(6, _), (9, _), (11, _), (12, _)] ⟨rfl, rfl, rfl, rfl, trivial⟩ (by kernel_rfl) (by kernel_rfl) ?_
      exact jk_use H19 (x85.Mass, x85.Lo, x85.Hi, x165.Mass, x165.Lo, x165.Hi) (g205, g225) [2, 1, 0] ⟨rfl, rfl, rfl, rfl, trivial⟩ rfl rfl rfl
    refine jg_alloc (l3 rfl) rfl rfl fun g225 => ?_
    refine jg_nil ?_
    refine jk_xn [2] rfl ?_
    refine jx2 (i := 7) (i2 := 11) (by kernel_rfl) (by kernel_rfl) rfl rfl ?_ ?_
    · refine jg_ix fun x165 h166 => ?_
      refine jg_y (fun w hs => yv_ix rfl rfl (hs.arg Rha0) h166) rfl rfl ?_
      refine jg_nil ?_
      refine jk_xn [2] rfl ?_
      refine jx2 (i := 8) (i2 := 11) (by kernel_rfl) (by kernel_rfl) rfl rfl ?_ ?_
      · refine jg_y (fun w hs => yv_eS rfl (hs.arg Rha0) h166.1 (l3 rfl) rfl) rfl rfl ?_
        refine jg_nil ?_
        refine jk_xn [2] rfl ?_
        refine jx1 (i := 11) (by kernel_rfl) (by kernel_rfl) rfl ?_
        refine jg_store 1 rfl rfl rfl (l3 rfl) rfl rfl rfl rfl (l3 rfl) (r3 rfl) ?_
        refine jg_nil ?_
        refine jk_xf (by kernel_rfl) ?_
        refine jx1 (i := 12) (by kernel_rfl) (by kernel_rfl) rfl ?_
        refine jg_store 0 rfl rfl rfl (l3 rfl) rfl rfl rfl rfl (l3 rfl) (r3 rfl) ?_
        refine jg_nil ?_
        refine jk_xf (by kernel_rfl) ?_
        refine jx0 [(6, _), (9, _), (11, _), (12, _)] ⟨rfl, rfl, rfl, rfl, trivial⟩ (by kernel_rfl) (by kernel_rfl) ?_
        exact jk_use H19 (x85.Mass, x85.Lo, x85.Hi, x165.Mass, x165.Lo, x165.Hi) (g205, g225) [2, 1, 0] ⟨rfl, rfl, rfl, rfl, trivial⟩ rfl rfl rfl
      refine jg_store 1 rfl rfl rfl (l3 rfl) rfl rfl rfl rfl (l3 rfl) (r3 rfl) ?_
      refine jg_nil ?_
      refine jk_xf (by kernel_rfl) ?_
      refine jx1 (i := 8) (by kernel_rfl) (by kernel_rfl) rfl ?_
      refine jg_y (fun w hs => yv_eS rfl (hs.arg Rha0) h166.1 (l3 rfl) rfl) rfl rfl ?_
      refine jg_nil ?_
      refine jk_xf (by kernel_rfl) ?_
      refine jx1 (i := 12) (by kernel_rfl) (by kernel_rfl) rfl ?_
      refine jg_store 0 rfl rfl rfl (l3 rfl) rfl rfl rfl rfl (l3 rfl) (r3 rfl) ?_
      refine jg_nil ?_
      refine jk_xf (by kernel_rfl) ?_
      refine jx0 [(6, _), (9, _), (11, _), (12, _)] ⟨rfl, rfl, rfl, rfl, trivial⟩ (by kernel_rfl) (by kernel_rfl) ?_
      exact jk_use H19 (x85.Mass, x85.Lo, x85.Hi, x165.Mass, x165.Lo, x165.Hi) (g205, g225) [2, 1, 0] ⟨rfl, rfl, rfl, rfl, trivial⟩ rfl rfl rfl
    refine jg_store 1 rfl rfl rfl (l3 rfl) rfl rfl rfl rfl (l3 rfl) (r3 rfl) ?_
    refine jg_nil ?_
    refine jk_xf (by kernel_rfl) ?_
    refine jx1 (i := 7) (by kernel_rfl) (by kernel_rfl) rfl ?_
    refine jg_ix fun x165 h166 => ?_
    refine jg_y (fun w hs => yv_ix rfl rfl (hs.arg Rha0) h166) rfl rfl ?_
    refine jg_nil ?_
    refine jk_xf (by kernel_rfl) ?_
    refine jx1 (i := 8) (by kernel_rfl) (by kernel_rfl) rfl ?_
    refine jg_y (fun w hs => yv_eS rfl (hs.arg Rha0) h166.1 (l3 rfl) rfl) rfl rfl ?_
    refine jg_nil ?_
    refine jk_xf (by kernel_rfl) ?_
    refine jx1 (i := 12) (by kernel_rfl) (by kernel_rfl) rfl ?_
    refine jg_store 0 rfl rfl rfl (l3 rfl) rfl rfl rfl rfl (l3 rfl) (r3 rfl) ?_
    refine jg_nil ?_
    refine jk_xf (by kernel_rfl) ?_
    refine jx0 [(6, _), (9, _), (11, _), (12, _)] ⟨rfl, rfl, rfl, rfl, trivial⟩ (by kernel_rfl) (by kernel_rfl) ?_
    exact jk_use H19 (x85.Mass, x85.Lo, x85.Hi, x165.Mass, x165.Lo, x165.Hi) (g205, g225) [2, 1, 0] ⟨rfl, rfl, rfl, rfl, trivial⟩ rfl rfl rfl
  refine jg_alloc (l3 rfl) rfl rfl fun g225 => ?_
  refine jg_nil ?_
  refine jk_xn [1] rfl ?_
  refine jx2 (i := 7) (i2 := 9) (by kernel_rfl) (by kernel_rfl) rfl rfl ?_ ?_
  · refine jg_ix fun x165 h166 => ?_
    refine jg_y (fun w hs => yv_ix rfl rfl (hs.arg Rha0) h166) rfl rfl ?_
    refine jg_nil ?_
    refine jk_xn [1] rfl ?_
    refine jx2 (i := 8) (i2 := 9) (by kernel_rfl) (by kernel_rfl) rfl rfl ?_ ?_
    · refine jg_y (fun w hs => yv_eS rfl (hs.arg Rha0) h166.1 (l3 rfl) rfl) rfl rfl ?_
      refine jg_nil ?_
      refine jk_xn [1] rfl ?_
      refine jx1 (i := 9) (by kernel_rfl) (by kernel_rfl) rfl ?_
      refine jg_alloc (l3 rfl) rfl rfl fun g205 => ?_
      refine jg_nil ?_
      refine jk_xn [2] rfl ?_
      refine jx1 (i := 11) (by kernel_rfl) (by kernel_rfl) rfl ?_
      refine jg_store 0 rfl rfl rfl (l3 rfl) rfl rfl rfl rfl (l3 rfl) (r3 rfl) ?_
      refine jg_nil ?_
      refine jk_xf (by kernel_rfl) ?_
      refine jx1 (i := 12) (by kernel_rfl) (by kernel_rfl) rfl ?_
      refine jg_store 1 rfl rfl rfl (l3 rfl) rfl rfl rfl rfl (l3 rfl) (r3 rfl) ?_
      refine jg_nil ?_
      refine jk_xf (by kernel_rfl) ?_
      refine jx0 [(6, _), (9, _), (11, _), (12, _)] ⟨rfl, rfl, rfl, rfl, trivial⟩ (by kernel_rfl) (by kernel_rfl) ?_
      exact jk_use H19 (x85.Mass, x85.Lo, x85.Hi, x165.Mass, x165.Lo, x165.Hi) (g205, g225) [2, 0, 1] ⟨rfl, rfl, rfl, rfl, trivial⟩ rfl rfl rfl
    refine jg_alloc (l3 rfl) rfl rfl fun g205 => ?_
    refine jg_nil ?_
    refine jk_xn [2] rfl ?_
    refine jx2 (i := 8) (i2 := 11) (by kernel_rfl) (by kernel_rfl) rfl rfl ?_ ?_
    · refine jg_y (fun w hs => yv_eS rfl (hs.arg Rha0) h166.1 (l3 rfl) rfl) rfl rfl ?_
      refine jg_nil ?_
      refine jk_xn [2] rfl ?_
      refine jx1 (i := 11) (by kernel_rfl) (by kernel_rfl) rfl ?_
      refine jg_store 0 rfl rfl rfl (l3 rfl) rfl rfl rfl rfl (l3 rfl) (r3 rfl) ?_
      refine jg_nil ?_
      refine jk_xf (by kernel_rfl) ?_
      refine jx1 (i := 12) (by kernel_rfl) (by kernel_rfl) rfl ?_
      refine jg_store 1 rfl rfl rfl (l3 rfl) rfl rfl rfl rfl (l3 rfl) (r3 rfl) ?_
      refine jg_nil ?_
      refine jk_xf (by kernel_rfl) ?_
      refine jx0 [(6, _), (9, _), (11, _), (12, _)] ⟨rfl, rfl, rfl, rfl, trivial⟩ (by kernel_rfl) (by kernel_rfl) ?_
      exact jk_use H19 (x85.Mass, x85.Lo, x85.Hi, x165.Mass, x165.Lo, x165.Hi) (g205, g225) [2, 0, 1] ⟨rfl, rfl, rfl, rfl, trivial⟩ rfl rfl rfl
    refine jg_store 0 rfl rfl rfl (l3 rfl) rfl rfl rfl rfl (l3 rfl) (r3 rfl) ?_
    refine jg_nil ?_
    refine jk_xf (by kernel_rfl) ?_
    refine jx1 (i := 8) (by kernel_rfl) (by kernel_rfl) rfl ?_
    refine jg_y (fun w hs => yv_eS rfl (hs.arg Rha0) h166.1 (l3 rfl) rfl) rfl rfl ?_
    refine jg_nil ?_
    refine jk_xf (by kernel_rfl) ?_
    refine jx1 (i := 12) (by kernel_rfl) (by kernel_rfl) rfl ?_
    refine jg_store 1 rfl rfl rfl (l3 rfl) rfl rfl rfl rfl (l3 rfl) (r3 rfl) ?_
    refine jg_nil ?_
    refine jk_xf (by kernel_rfl) ?_
    refine jx0 [(6, _), (9, _), (11, _), (12, _)] ⟨rfl, rfl, rfl, rfl, trivial⟩ (by kernel_rfl) (by kernel_rfl) ?_
    exact jk_use H19 (x85.Mass, x85.Lo, x85.Hi, x165.Mass, x165.Lo, x165.Hi) (g205, g225) [2, 0, 1] ⟨rfl, rfl, rfl, rfl, trivial⟩ rfl rfl rfl
  refine jg_alloc (l3 rfl) rfl rfl fun g205 => ?_
  refine jg_nil ?_
  refine jk_xn [2] rfl ?_
  refine jx2 (i := 7) (i2 := 11) (by kernel_rfl) (by kernel_rfl) rfl rfl ?_ ?_
  · refine jg_ix fun x165 h166 => ?_
    refine jg_y (fun w hs => yv_ix rfl rfl (hs.arg Rha0) h166) rfl rfl ?_
    refine jg_nil ?_
    refine jk_xn [2] rfl ?_
    refine jx2 (i := 8) (i2 := 11) (by kernel_rfl) (by kernel_rfl) rfl rfl ?_ ?_
    · refine jg_y (fun w hs => yv_eS rfl (hs.arg Rha0) h166.1 (l3 rfl) rfl) rfl rfl ?_
      refine jg_nil ?_
      refine jk_xn [2] rfl ?_
      refine jx1 (i := 11) (by kernel_rfl) (by kernel_rfl) rfl ?_
      refine jg_store 0 rfl rfl rfl (l3 rfl) rfl rfl rfl rfl (l3 rfl) (r3 rfl) ?_
      refine jg_nil ?_
      refine jk_xf (by kernel_rfl) ?_
      refine jx1 (i := 12) (by kernel_rfl) (by kernel_rfl) rfl ?_
      refine jg_store 1 rfl rfl rfl (l3 rfl) rfl rfl rfl rfl (l3 rfl) (r3 rfl) ?_
      refine jg_nil ?_
      refine jk_xf (by kernel_rfl) ?_
      refine jx0 [(6, _), (9, _), (11, _), (12, _)] ⟨rfl, rfl, rfl, rfl, trivial⟩ (by kernel_rfl) (by kernel_rfl) ?_
      exact jk_use H19 (x85.Mass, x85.Lo, x85.Hi, x165.Mass, x165.Lo, x165.Hi) (g205, g225) [2, 0, 1] ⟨rfl, rfl, rfl, rfl, trivial⟩ rfl rfl rfl
    refine jg_store 0 rfl rfl rfl (l3 rfl) rfl rfl rfl rfl (l3 rfl) (r3 rfl) ?_
    refine jg_nil ?_
    refine jk_xf (by kernel_rfl) ?_
    refine jx1 (i := 8) (by kernel_rfl) (by kernel_rfl) rfl ?_
    refine jg_y (fun w hs => yv_eS rfl (hs.arg Rha0) h166.1 (l3 rfl) rfl) rfl rfl ?_
    refine jg_nil ?_
    refine jk_xf (by kernel_rfl) ?_
    refine jx1 (i := 12) (by kernel_rfl) (by kernel_rfl) rfl ?_
    refine jg_store 1 rfl rfl rfl (l3 rfl) rfl rfl rfl rfl (l3 rfl) (r3 rfl) ?_
    refine jg_nil ?_
    refine jk_xf (by kernel_rfl) ?_
    refine jx0 [(6, _), (9, _), (11, _), (12, _)] ⟨rfl, rfl, rfl, rfl, trivial⟩ (by kernel_rfl) (by kernel_rfl) ?_
    exact jk_use H19 (x85.Mass, x85.Lo, x85.Hi, x165.Mass, x165.Lo, x165.Hi) (g205, g225) [2, 0, 1] ⟨rfl, rfl, rfl, rfl, trivial⟩ rfl rfl rfl
  refine jg_store 0 rfl rfl rfl (l3 rfl) rfl rfl rfl rfl (l3 rfl) (r3 rfl) ?_
  refine jg_nil ?_
  refine jk_xf (by kernel_rfl) ?_
  refine jx1 (i := 7) (by kernel_rfl) (by kernel_rfl) rfl ?_
  refine jg_ix fun x165 h166 => ?_
  refine jg_y (fun w hs => yv_ix rfl rfl (hs.arg Rha0) h166) rfl rfl ?_
  refine jg_nil ?_
  refine jk_xf (by kernel_rfl) ?_
  refine jx1 (i := 8) (by kernel_rfl) (by kernel_rfl) rfl ?_
  refine jg_y (fun w hs => yv_eS rfl (hs.arg Rha0) h166.1 (l3 rfl) rfl) rfl rfl ?_
  refine jg_nil ?_
  refine jk_xf (by kernel_rfl) ?_
  refine jx1 (i := 12) (by kernel_rfl) (by kernel_rfl) rfl ?_
  refine jg_store 1 rfl rfl rfl (l3 rfl) rfl rfl rfl rfl (l3 rfl) (r3 rfl) ?_
  refine jg_nil ?_
  refine jk_xf (by kernel_rfl) ?_
  refine jx0 [(6, _), (9, _), (11, _), (12, _)] ⟨rfl, rfl, rfl, rfl, trivial⟩ (by kernel_rfl) (by kernel_rfl) ?_
  exact jk_use H19 (x85.Mass, x85.Lo, x85.Hi, x165.Mass, x165.Lo, x165.Hi) (g205, g225) [2, 0, 1] ⟨rfl, rfl, rfl, rfl, trivial⟩ rfl rfl rfl
theorem r01_checked_c {w : World} {a0 : Int} {a1 : Int}  {v : (Interval × Int)} (hm : r01_checked a0 a1 = some v) : Gives Try.prog 83 [.int .i64 a0, .int .i64 a1] w (.tuple #[.agg #[.int .i64 v.1.Lo, .int .i64 v.1.Hi], .int .i64 v.2]) := by
  refine j_gives (vs := [.int .i64 a0, .int .i64 a1]) (U := fun (v : (Interval × Int)) => .tuple #[.agg #[.int .i64 v.1.Lo, .int .i64 v.1.Hi], .int .i64 v.2]) Try.func83 rfl Try.ntmps83 rfl rfl hm ?_
  unfold r01_checked
  clear hm
  refine jn_seq ?_
  refine jn_reg 0 ?_
  refine jg_alloc (l2 rfl) rfl rfl fun g1 => ?_
  refine jg_as rfl rfl rfl ?_
  refine jg_nils [(0, _), (1, _), (4, _)] ⟨rfl, rfl, rfl, trivial⟩ ?_
  refine jk_sn ?_
  refine jn_seq ?_
  refine jn_seq ?_
  refine jn_reg 1 ?_
  refine jg_mv rfl rfl rfl ?_
  refine jg_y (fun w hs => yv_lss rfl rfl) rfl rfl ?_
  refine jg_mv rfl rfl rfl ?_
  refine jg_split 8 rfl ?_ ?_
  · refine jg_skip rfl rfl ?_
    refine jg_skip rfl rfl ?_
    refine jg_y (fun w hs => yv_pick_t rfl rfl) rfl rfl ?_
    refine jg_nils [(0, _), (1, _), (4, _), (11, _)] ⟨rfl, rfl, rfl, rfl, trivial⟩ ?_
    refine jk_sn ?_
    refine jn_ct rfl ?_
    refine jn_seq ?_
    refine jn_reg 2 ?_
    refine jg_y (fun w hs => yv_build rfl (o2 rfl)) rfl rfl ?_
    refine jg_store 0 rfl rfl rfl (l2 rfl) rfl rfl rfl rfl (l2 rfl) (r1 rfl) ?_
    refine jg_as rfl rfl rfl ?_
    refine jg_nils [(4, _), (5, _)] ⟨rfl, rfl, trivial⟩ ?_
    refine jk_sn ?_
    refine jn_ret ?_
    refine jk_sr ?_
    exact jk_ret2 rfl (fun w hs => .cell rfl (ldBB (hs.blkL (i := 0) rfl) rfl)) (fun w hs => .tmp rfl) (fun w hs => ⟨rfl, hs.drop⟩)
  refine jg_mv rfl rfl rfl ?_
  refine jg_y (fun w hs => yv_gtr rfl rfl) rfl rfl ?_
  refine jg_y (fun w hs => yv_pick_f rfl rfl) rfl rfl ?_
  refine jg_nils [(0, _), (1, _), (4, _), (11, _)] ⟨rfl, rfl, rfl, rfl, trivial⟩ ?_
  refine jk_sn ?_
  refine jn_cond rfl ?_ ?_
  · refine jn_seq ?_
    refine jn_reg 2 ?_
    refine jg_y (fun w hs => yv_build rfl (o2 rfl)) rfl rfl ?_
    refine jg_store 0 rfl rfl rfl (l2 rfl) rfl rfl rfl rfl (l2 rfl) (r1 rfl) ?_
    refine jg_as rfl rfl rfl ?_
    refine jg_nils [(4, _), (5, _)] ⟨rfl, rfl, trivial⟩ ?_
    refine jk_sn ?_
    refine jn_ret ?_
    refine jk_sr ?_
    exact jk_ret2 rfl (fun w hs => .cell rfl (ldBB (hs.blkL (i := 0) rfl) rfl)) (fun w hs => .tmp rfl) (fun w hs => ⟨rfl, hs.drop⟩)
  refine jn_skip ?_
  refine jk_sn ?_
  refine jn_seq ?_
  refine jn_reg 3 ?_
  refine jg_mv rfl rfl rfl ?_
  refine jg_mv rfl rfl rfl ?_
  refine jg_y (fun w hs => yv_build rfl (o2 rfl)) rfl rfl ?_
  refine jg_store 0 rfl rfl rfl (l2 rfl) rfl rfl rfl rfl (l2 rfl) (r1 rfl) ?_
  refine jg_as rfl rfl rfl ?_
  refine jg_nils [(4, _), (5, _)] ⟨rfl, rfl, trivial⟩ ?_
  refine jk_sn ?_
  refine jn_ret ?_
  exact jk_ret2 rfl (fun w hs => .cell rfl (ldBB (hs.blkL (i := 0) rfl) rfl)) (fun w hs => .tmp rfl) (fun w hs => ⟨rfl, hs.drop⟩)
theorem r01_Scale_c {w : World} {a0 : Interval} {a1 : Int} {a2 : Int}  {v : (Interval × Int)} (hm : r01_Scale a0 a1 a2 = some v) : Gives Try.prog 76 [.agg #[.int .i64 a0.Lo, .int .i64 a0.Hi], .int .i64 a1, .int .i64 a2] w (.tuple #[.agg #[.int .i64 v.1.Lo, .int .i64 v.1.Hi], .int .i64 v.2]) := by
  refine j_gives (vs := [.agg #[.int .i64 a0.Lo, .int .i64 a0.Hi], .int .i64 a1, .int .i64 a2]) (U := fun (v : (Interval × Int)) => .tuple #[.agg #[.int .i64 v.1.Lo, .int .i64 v.1.Hi], .int .i64 v.2]) Try.func76 rfl Try.ntmps76 rfl rfl hm ?_
  unfold r01_Scale
  clear hm
  refine jn_seq ?_
  refine jn_reg 0 ?_
  refine jg_box rfl (l2 rfl) rfl rfl fun g1 => ?_
  refine jg_alloc (l2 rfl) rfl rfl fun g2 => ?_
  refine jg_as rfl rfl rfl ?_
  refine jg_nils [(1, _), (2, _), (3, _), (6, _)] ⟨rfl, rfl, rfl, rfl, trivial⟩ ?_
  refine jk_sn ?_
  refine jn_seq ?_
  refine jn_block ?_
  refine jn_seq ?_
  refine jn_reg 1 ?_
  refine jg_y (fun w hs => yv_load rfl (ldBB (hs.blkL (i := 1) rfl) rfl)) rfl rfl ?_
  refine jg_c0 rfl (fun v w hs hm => r01_Valid_c (a0 := a0) hm ) rfl rfl fun v3 => ?_
  refine jg_y (fun w hs => yv_not rfl) rfl rfl ?_
  refine jg_as rfl rfl rfl ?_
  refine jg_nils [(1, _), (2, _), (3, _), (6, _), (10, _)] ⟨rfl, rfl, rfl, rfl, rfl, trivial⟩ ?_
  refine jk_sn ?_
  refine jn_cond rfl ?_ ?_
  · refine jn_seq ?_
    refine jn_reg 2 ?_
    refine jg_y (fun w hs => yv_build rfl (o2 rfl)) rfl rfl ?_
    refine jg_store 0 rfl rfl rfl (l2 rfl) rfl rfl rfl rfl (l2 rfl) (r2 rfl) ?_
    refine jg_as rfl rfl rfl ?_
    refine jg_nils [(6, _), (7, _)] ⟨rfl, rfl, trivial⟩ ?_
    refine jk_sn ?_
    refine jn_ret ?_
    refine jk_br (jk_sr ?_)
    exact jk_ret2 rfl (fun w hs => .cell rfl (ldBB (hs.blkL (i := 0) rfl) rfl)) (fun w hs => .tmp rfl) (fun w hs => ⟨rfl, hs.drop⟩)
  refine jn_join (fun (s : Bool) (g : Unit) => [(1, .int .i64 a1), (2, .int .i64 a2), (3, .pointer (some ⟨g1, 0, none⟩)), (6, .pointer (some ⟨g2, 0, none⟩)), (15, .bool s)]) (fun (s : Bool) (g : Unit) => []) (fun (s : Bool) (g : Unit) => [(Res.blk g1 55 [.int .i64 a0.Lo, .int .i64 a0.Hi]), (Res.blk g2 55 [.int .i64 0, .int .i64 0])]) ?_ ?_
  rotate_left
  · intro k6 H7
    refine jn_reg 3 ?_
    refine jg_mv rfl rfl rfl ?_
    refine jg_y (fun w hs => yv_lss rfl rfl) rfl rfl ?_
    refine jg_mv rfl rfl rfl ?_
    refine jg_split 18 rfl ?_ ?_
    · refine jg_skip rfl rfl ?_
      refine jg_skip rfl rfl ?_
      refine jg_y (fun w hs => yv_pick_t rfl rfl) rfl rfl ?_
      refine jg_mv rfl rfl rfl ?_
      refine jg_skip rfl rfl ?_
      refine jg_skip rfl rfl ?_
      refine jg_y (fun w hs => yv_pick_t rfl rfl) rfl rfl ?_
      refine jg_mv rfl rfl rfl ?_
      refine jg_skip rfl rfl ?_
      refine jg_skip rfl rfl ?_
      refine jg_y (fun w hs => yv_pick_t rfl rfl) rfl rfl ?_
      refine jg_as rfl rfl rfl ?_
      refine jg_nils [(1, _), (2, _), (3, _), (6, _), (15, _)] ⟨rfl, rfl, rfl, rfl, rfl, trivial⟩ ?_
      exact jk_use H7 true () [1, 0] ⟨rfl, rfl, rfl, rfl, rfl, trivial⟩ rfl rfl rfl
    refine jg_mv rfl rfl rfl ?_
    refine jg_y (fun w hs => yv_gtr rfl rfl) rfl rfl ?_
    refine jg_y (fun w hs => yv_pick_f rfl rfl) rfl rfl ?_
    refine jg_mv rfl rfl rfl ?_
    refine jg_split 22 rfl ?_ ?_
    · refine jg_skip rfl rfl ?_
      refine jg_skip rfl rfl ?_
      refine jg_y (fun w hs => yv_pick_t rfl rfl) rfl rfl ?_
      refine jg_mv rfl rfl rfl ?_
      refine jg_skip rfl rfl ?_
      refine jg_skip rfl rfl ?_
      refine jg_y (fun w hs => yv_pick_t rfl rfl) rfl rfl ?_
      refine jg_as rfl rfl rfl ?_
      refine jg_nils [(1, _), (2, _), (3, _), (6, _), (15, _)] ⟨rfl, rfl, rfl, rfl, rfl, trivial⟩ ?_
      exact jk_use H7 true () [1, 0] ⟨rfl, rfl, rfl, rfl, rfl, trivial⟩ rfl rfl rfl
    refine jg_mv rfl rfl rfl ?_
    refine jg_y (fun w hs => yv_lss rfl rfl) rfl rfl ?_
    refine jg_y (fun w hs => yv_pick_f rfl rfl) rfl rfl ?_
    refine jg_mv rfl rfl rfl ?_
    refine jg_split 26 rfl ?_ ?_
    · refine jg_skip rfl rfl ?_
      refine jg_skip rfl rfl ?_
      refine jg_y (fun w hs => yv_pick_t rfl rfl) rfl rfl ?_
      refine jg_as rfl rfl rfl ?_
      refine jg_nils [(1, _), (2, _), (3, _), (6, _), (15, _)] ⟨rfl, rfl, rfl, rfl, rfl, trivial⟩ ?_
      exact jk_use H7 true () [1, 0] ⟨rfl, rfl, rfl, rfl, rfl, trivial⟩ rfl rfl rfl
    refine jg_mv rfl rfl rfl ?_
    refine jg_y (fun w hs => yv_gtr rfl rfl) rfl rfl ?_
    refine jg_y (fun w hs => yv_pick_f rfl rfl) rfl rfl ?_
    refine jg_as rfl rfl rfl ?_
    refine jg_nils [(1, _), (2, _), (3, _), (6, _), (15, _)] ⟨rfl, rfl, rfl, rfl, rfl, trivial⟩ ?_
    exact jk_use H7 (decide (1000000 < a2)) () [1, 0] ⟨rfl, rfl, rfl, rfl, rfl, trivial⟩ rfl rfl rfl
  intro z4 q5
  refine jn_cond rfl ?_ ?_
  · refine jn_seq ?_
    refine jn_reg 4 ?_
    refine jg_y (fun w hs => yv_build rfl (o2 rfl)) rfl rfl ?_
    refine jg_store 1 rfl rfl rfl (l2 rfl) rfl rfl rfl rfl (l2 rfl) (r2 rfl) ?_
    refine jg_as rfl rfl rfl ?_
    refine jg_nils [(6, _), (7, _)] ⟨rfl, rfl, trivial⟩ ?_
    refine jk_sn ?_
    refine jn_ret ?_
    refine jk_br (jk_sr ?_)
    exact jk_ret2 rfl (fun w hs => .cell rfl (ldBB (hs.blkL (i := 1) rfl) rfl)) (fun w hs => .tmp rfl) (fun w hs => ⟨rfl, hs.drop⟩)
  refine jn_seq ?_
  refine jn_reg 5 ?_
  refine jg_mv rfl rfl rfl ?_
  refine jg_y (fun w hs => yv_eql rfl rfl) rfl rfl ?_
  refine jg_as rfl rfl rfl ?_
  refine jg_nils [(1, _), (2, _), (3, _), (6, _), (31, _)] ⟨rfl, rfl, rfl, rfl, rfl, trivial⟩ ?_
  refine jk_sn ?_
  refine jn_cond rfl ?_ ?_
  · refine jn_seq ?_
    refine jn_reg 6 ?_
    refine jg_y (fun w hs => yv_build rfl (o2 rfl)) rfl rfl ?_
    refine jg_store 1 rfl rfl rfl (l2 rfl) rfl rfl rfl rfl (l2 rfl) (r2 rfl) ?_
    refine jg_as rfl rfl rfl ?_
    refine jg_nils [(6, _), (7, _)] ⟨rfl, rfl, trivial⟩ ?_
    refine jk_sn ?_
    refine jn_ret ?_
    refine jk_br (jk_sr ?_)
    exact jk_ret2 rfl (fun w hs => .cell rfl (ldBB (hs.blkL (i := 1) rfl) rfl)) (fun w hs => .tmp rfl) (fun w hs => ⟨rfl, hs.drop⟩)
  refine jn_skip ?_
  refine jk_bn (jk_sn ?_)
  refine jn_seq ?_
  refine jn_draw (L' := [_, _]) 7 [0, 1] [0, 1, 2, 3, 4, 5, 6, 7, 8, 9] 1023 1023 [0, 1, 0, 6, 0, 16, 0, 96, 15, 511] [0, 1, 0, 7, 0, 16, 0, 112, 15, 511] [(0, true), (1, true), (2, true), (3, true), (4, true), (5, true), (6, true), (7, true), (8, true), (9, true)] rfl (np_seq np_rt) (by kernel_rfl) (by kernel_rfl) (by kernel_rfl) (by kernel_rfl) (by kernel_rfl) (by kernel_rfl) (by kernel_rfl) (by kernel_rfl) ?_
  refine jd_y rfl (fun w hs => yv_fieldAddr rfl) rfl rfl ?_
  refine jd_y rfl (fun w hs => yv_load rfl (ld1B (hs.blk (i := 0) rfl) rfl)) rfl rfl ?_
  refine jd_mv rfl rfl rfl rfl ?_
  refine jd_y rfl (fun w hs => yv_mul_w rfl rfl) rfl rfl ?_
  refine jd_y rfl (fun w hs => yv_fieldAddr rfl) rfl rfl ?_
  refine jd_y rfl (fun w hs => yv_load rfl (ld1B (hs.blk (i := 0) rfl) rfl)) rfl rfl ?_
  refine jd_mv rfl rfl rfl rfl ?_
  refine jd_y rfl (fun w hs => yv_mul_w rfl rfl) rfl rfl ?_
  refine jd_as rfl rfl rfl rfl ?_
  refine jd_as rfl rfl rfl rfl ?_
  refine jd_nils [(2, _), (6, _), (8, _), (9, _)] ⟨rfl, rfl, rfl, rfl, trivial⟩ ?_
  refine jk_sn ?_
  refine jn_seq ?_
  refine jn_reg 8 ?_
  refine jg_mv rfl rfl rfl ?_
  refine jg_mv rfl rfl rfl ?_
  refine jg_c0 rfl (fun v w hs hm => r01_Down_c hm ) rfl rfl fun v8 => ?_
  refine jg_mv rfl rfl rfl ?_
  refine jg_mv rfl rfl rfl ?_
  refine jg_c0 rfl (fun v w hs hm => r01_Down_c hm ) rfl rfl fun v9 => ?_
  refine jg_y (fun w hs => yv_min rfl rfl) rfl rfl ?_
  refine jg_mv rfl rfl rfl ?_
  refine jg_mv rfl rfl rfl ?_
  refine jg_c0 rfl (fun v w hs hm => r01_Up_c hm ) rfl rfl fun v10 => ?_
  refine jg_mv rfl rfl rfl ?_
  refine jg_mv rfl rfl rfl ?_
  refine jg_c0 rfl (fun v w hs hm => r01_Up_c hm ) rfl rfl fun v11 => ?_
  refine jg_y (fun w hs => yv_max rfl rfl) rfl rfl ?_
  refine jg_c0 rfl (fun v w hs hm => r01_checked_c hm ) rfl rfl fun v12 => ?_
  refine jg_y (fun w hs => yv_extract rfl rfl) rfl rfl ?_
  refine jg_y (fun w hs => yv_extract rfl rfl) rfl rfl ?_
  refine jg_store 1 rfl rfl rfl (l2 rfl) rfl rfl rfl rfl (l2 rfl) (r2 rfl) ?_
  refine jg_as rfl rfl rfl ?_
  refine jg_nils [(6, _), (7, _)] ⟨rfl, rfl, trivial⟩ ?_
  refine jk_sn ?_
  refine jn_ret ?_
  exact jk_ret2 rfl (fun w hs => .cell rfl (ldBB (hs.blkL (i := 1) rfl) rfl)) (fun w hs => .tmp rfl) (fun w hs => ⟨rfl, hs.drop⟩)
theorem r19_Class_c {w : World} {a0 : (List Resistance)} {a1 : Int} {a2 : Int} {a3 : Weather} {ha0 : Hd} {v : (Interval × Int)} (hm : r19_Class a0 a1 a2 a3 = some v) (Rha0 : Sl w ha0 Resistance.enc a0) : Gives Try.prog 63 [ha0.v, .int .i64 a1, .int .i64 a2, .agg #[.int .i64 a3.Wind.Lo, .int .i64 a3.Wind.Hi, .int .i64 a3.Cold.Lo, .int .i64 a3.Cold.Hi]] w (.tuple #[.agg #[.int .i64 v.1.Lo, .int .i64 v.1.Hi], .int .i64 v.2]) := by
  refine j_gives (vs := [ha0.v, .int .i64 a1, .int .i64 a2, .agg #[.int .i64 a3.Wind.Lo, .int .i64 a3.Wind.Hi, .int .i64 a3.Cold.Lo, .int .i64 a3.Cold.Hi]]) (U := fun (v : (Interval × Int)) => .tuple #[.agg #[.int .i64 v.1.Lo, .int .i64 v.1.Hi], .int .i64 v.2]) Try.func63 rfl Try.ntmps63 rfl rfl hm ?_
  unfold r19_Class
  clear hm
  refine jn_seq ?_
  refine jn_reg 0 ?_
  refine jg_box rfl (l4 rfl) rfl rfl fun g1 => ?_
  refine jg_alloc (l2 rfl) rfl rfl fun g2 => ?_
  refine jg_as rfl rfl rfl ?_
  refine jg_nils [(0, _), (1, _), (2, _), (7, _), (8, _)] ⟨rfl, rfl, rfl, rfl, rfl, trivial⟩ ?_
  refine jk_sn ?_
  refine jn_seq ?_
  refine jn_reg 1 ?_
  refine jg_mv rfl rfl rfl ?_
  refine jg_mv rfl rfl rfl ?_
  refine jg_mv rfl rfl rfl ?_
  refine jg_c0 rfl (fun v w hs hm => r19_Rolling_c hm (hs.arg Rha0)) rfl rfl fun v3 => ?_
  refine jg_mv rfl rfl rfl ?_
  refine jg_y (fun w hs => yv_extract rfl rfl) rfl rfl ?_
  refine jg_y (fun w hs => yv_extract rfl rfl) rfl rfl ?_
  refine jg_alloc (l2 rfl) rfl rfl fun g4 => ?_
  refine jg_store 0 rfl rfl rfl (l2 rfl) rfl rfl rfl rfl (l2 rfl) (r3 rfl) ?_
  refine jg_as rfl rfl rfl ?_
  refine jg_nils [(7, _), (8, _), (10, _), (11, _)] ⟨rfl, rfl, rfl, rfl, trivial⟩ ?_
  refine jk_sn ?_
  refine jn_seq ?_
  refine jn_seq ?_
  refine jn_reg 2 ?_
  refine jg_mv rfl rfl rfl ?_
  refine jg_y (fun w hs => yv_neq rfl rfl) rfl rfl ?_
  refine jg_nils [(7, _), (8, _), (10, _), (11, _), (22, _)] ⟨rfl, rfl, rfl, rfl, rfl, trivial⟩ ?_
  refine jk_sn ?_
  refine jn_cond rfl ?_ ?_
  · refine jn_seq ?_
    refine jn_reg 3 ?_
    refine jg_y (fun w hs => yv_build rfl (o2 rfl)) rfl rfl ?_
    refine jg_mv rfl rfl rfl ?_
    refine jg_store 1 rfl rfl rfl (l2 rfl) rfl rfl rfl rfl (l2 rfl) (r3 rfl) ?_
    refine jg_as rfl rfl rfl ?_
    refine jg_nils [(8, _), (9, _)] ⟨rfl, rfl, trivial⟩ ?_
    refine jk_sel (is := [1]) (s1 rfl) rfl ?_
    refine jk_sn ?_
    refine jn_ret ?_
    refine jk_sr ?_
    exact jk_ret2 rfl (fun w hs => .cell rfl (ldBB (hs.blkL (i := 0) rfl) rfl)) (fun w hs => .tmp rfl) (fun w hs => ⟨rfl, hs.drop⟩)
  refine jn_skip ?_
  refine jk_sn ?_
  refine jn_seq ?_
  refine jn_seq ?_
  refine jn_reg 4 ?_
  refine jg_y (fun w hs => yv_fieldAddr rfl) rfl rfl ?_
  refine jg_y (fun w hs => yv_load rfl (ldPB (hs.blkL (i := 2) rfl) (l2 rfl) rfl)) rfl rfl ?_
  refine jg_c0 rfl (fun v w hs hm => r01_Valid_c (a0 := a3.Wind) hm ) rfl rfl fun v5 => ?_
  refine jg_y (fun w hs => yv_not rfl) rfl rfl ?_
  refine jg_mv rfl rfl rfl ?_
  refine jg_split 29 rfl ?_ ?_
  · refine jg_skip rfl rfl ?_
    refine jg_skip rfl rfl ?_
    refine jg_skip rfl rfl ?_
    refine jg_skip rfl rfl ?_
    refine jg_y (fun w hs => yv_pick_t rfl rfl) rfl rfl ?_
    refine jg_mv rfl rfl rfl ?_
    refine jg_skip rfl rfl ?_
    refine jg_skip rfl rfl ?_
    refine jg_skip rfl rfl ?_
    refine jg_skip rfl rfl ?_
    refine jg_y (fun w hs => yv_pick_t rfl rfl) rfl rfl ?_
    refine jg_mv rfl rfl rfl ?_
    refine jg_skip rfl rfl ?_
    refine jg_skip rfl rfl ?_
    refine jg_skip rfl rfl ?_
    refine jg_skip rfl rfl ?_
    refine jg_y (fun w hs => yv_pick_t rfl rfl) rfl rfl ?_
    refine jg_mv rfl rfl rfl ?_
    refine jg_skip rfl rfl ?_
    refine jg_skip rfl rfl ?_
    refine jg_skip rfl rfl ?_
    refine jg_skip rfl rfl ?_
    refine jg_y (fun w hs => yv_pick_t rfl rfl) rfl rfl ?_
    refine jg_mv rfl rfl rfl ?_
    refine jg_skip rfl rfl ?_
    refine jg_skip rfl rfl ?_
    refine jg_skip rfl rfl ?_
    refine jg_skip rfl rfl ?_
    refine jg_y (fun w hs => yv_pick_t rfl rfl) rfl rfl ?_
    refine jg_nils [(7, _), (8, _), (10, _), (58, _)] ⟨rfl, rfl, rfl, rfl, trivial⟩ ?_
    refine jk_sn ?_
    refine jn_ct rfl ?_
    refine jn_seq ?_
    refine jn_reg 5 ?_
    refine jg_y (fun w hs => yv_build rfl (o2 rfl)) rfl rfl ?_
    refine jg_store 1 rfl rfl rfl (l2 rfl) rfl rfl rfl rfl (l2 rfl) (r3 rfl) ?_
    refine jg_as rfl rfl rfl ?_
    refine jg_nils [(8, _), (9, _)] ⟨rfl, rfl, trivial⟩ ?_
    refine jk_sel (is := [1]) (s1 rfl) rfl ?_
    refine jk_sn ?_
    refine jn_ret ?_
    refine jk_sr ?_
    exact jk_ret2 rfl (fun w hs => .cell rfl (ldBB (hs.blkL (i := 0) rfl) rfl)) (fun w hs => .tmp rfl) (fun w hs => ⟨rfl, hs.drop⟩)
  refine jg_y (fun w hs => yv_fieldAddr rfl) rfl rfl ?_
  refine jg_y (fun w hs => yv_load rfl (ldPB (hs.blkL (i := 2) rfl) (l2 rfl) rfl)) rfl rfl ?_
  refine jg_c0 rfl (fun v w hs hm => r01_Valid_c (a0 := a3.Cold) hm ) rfl rfl fun v6 => ?_
  refine jg_y (fun w hs => yv_not rfl) rfl rfl ?_
  refine jg_y (fun w hs => yv_pick_f rfl rfl) rfl rfl ?_
  refine jg_mv rfl rfl rfl ?_
  refine jg_split 35 rfl ?_ ?_
  · refine jg_skip rfl rfl ?_
    refine jg_skip rfl rfl ?_
    refine jg_skip rfl rfl ?_
    refine jg_skip rfl rfl ?_
    refine jg_y (fun w hs => yv_pick_t rfl rfl) rfl rfl ?_
    refine jg_mv rfl rfl rfl ?_
    refine jg_skip rfl rfl ?_
    refine jg_skip rfl rfl ?_
    refine jg_skip rfl rfl ?_
    refine jg_skip rfl rfl ?_
    refine jg_y (fun w hs => yv_pick_t rfl rfl) rfl rfl ?_
    refine jg_mv rfl rfl rfl ?_
    refine jg_skip rfl rfl ?_
    refine jg_skip rfl rfl ?_
    refine jg_skip rfl rfl ?_
    refine jg_skip rfl rfl ?_
    refine jg_y (fun w hs => yv_pick_t rfl rfl) rfl rfl ?_
    refine jg_mv rfl rfl rfl ?_
    refine jg_skip rfl rfl ?_
    refine jg_skip rfl rfl ?_
    refine jg_skip rfl rfl ?_
    refine jg_skip rfl rfl ?_
    refine jg_y (fun w hs => yv_pick_t rfl rfl) rfl rfl ?_
    refine jg_nils [(7, _), (8, _), (10, _), (58, _)] ⟨rfl, rfl, rfl, rfl, trivial⟩ ?_
    refine jk_sn ?_
    refine jn_ct rfl ?_
    refine jn_seq ?_
    refine jn_reg 5 ?_
    refine jg_y (fun w hs => yv_build rfl (o2 rfl)) rfl rfl ?_
    refine jg_store 1 rfl rfl rfl (l2 rfl) rfl rfl rfl rfl (l2 rfl) (r3 rfl) ?_
    refine jg_as rfl rfl rfl ?_
    refine jg_nils [(8, _), (9, _)] ⟨rfl, rfl, trivial⟩ ?_
    refine jk_sel (is := [1]) (s1 rfl) rfl ?_
    refine jk_sn ?_
    refine jn_ret ?_
    refine jk_sr ?_
    exact jk_ret2 rfl (fun w hs => .cell rfl (ldBB (hs.blkL (i := 0) rfl) rfl)) (fun w hs => .tmp rfl) (fun w hs => ⟨rfl, hs.drop⟩)
  refine jg_y (fun w hs => yv_fieldAddr rfl) rfl rfl ?_
  refine jg_y (fun w hs => yv_fieldAddr rfl) rfl rfl ?_
  refine jg_y (fun w hs => yv_load rfl (ld1B (hs.blkL (i := 2) rfl) rfl)) rfl rfl ?_
  refine jg_y (fun w hs => yv_lss rfl rfl) rfl rfl ?_
  refine jg_y (fun w hs => yv_pick_f rfl rfl) rfl rfl ?_
  refine jg_mv rfl rfl rfl ?_
  refine jg_split 41 rfl ?_ ?_
  · refine jg_skip rfl rfl ?_
    refine jg_skip rfl rfl ?_
    refine jg_skip rfl rfl ?_
    refine jg_skip rfl rfl ?_
    refine jg_y (fun w hs => yv_pick_t rfl rfl) rfl rfl ?_
    refine jg_mv rfl rfl rfl ?_
    refine jg_skip rfl rfl ?_
    refine jg_skip rfl rfl ?_
    refine jg_skip rfl rfl ?_
    refine jg_skip rfl rfl ?_
    refine jg_y (fun w hs => yv_pick_t rfl rfl) rfl rfl ?_
    refine jg_mv rfl rfl rfl ?_
    refine jg_skip rfl rfl ?_
    refine jg_skip rfl rfl ?_
    refine jg_skip rfl rfl ?_
    refine jg_skip rfl rfl ?_
    refine jg_y (fun w hs => yv_pick_t rfl rfl) rfl rfl ?_
    refine jg_nils [(7, _), (8, _), (10, _), (58, _)] ⟨rfl, rfl, rfl, rfl, trivial⟩ ?_
    refine jk_sn ?_
    refine jn_ct rfl ?_
    refine jn_seq ?_
    refine jn_reg 5 ?_
    refine jg_y (fun w hs => yv_build rfl (o2 rfl)) rfl rfl ?_
    refine jg_store 1 rfl rfl rfl (l2 rfl) rfl rfl rfl rfl (l2 rfl) (r3 rfl) ?_
    refine jg_as rfl rfl rfl ?_
    refine jg_nils [(8, _), (9, _)] ⟨rfl, rfl, trivial⟩ ?_
    refine jk_sel (is := [1]) (s1 rfl) rfl ?_
    refine jk_sn ?_
    refine jn_ret ?_
    refine jk_sr ?_
    exact jk_ret2 rfl (fun w hs => .cell rfl (ldBB (hs.blkL (i := 0) rfl) rfl)) (fun w hs => .tmp rfl) (fun w hs => ⟨rfl, hs.drop⟩)
  refine jg_y (fun w hs => yv_fieldAddr rfl) rfl rfl ?_
  refine jg_y (fun w hs => yv_fieldAddr rfl) rfl rfl ?_
  refine jg_y (fun w hs => yv_load rfl (ld1B (hs.blkL (i := 2) rfl) rfl)) rfl rfl ?_
  refine jg_y (fun w hs => yv_gtr rfl rfl) rfl rfl ?_
  refine jg_y (fun w hs => yv_pick_f rfl rfl) rfl rfl ?_
  refine jg_mv rfl rfl rfl ?_
  refine jg_split 47 rfl ?_ ?_
  · refine jg_skip rfl rfl ?_
    refine jg_skip rfl rfl ?_
    refine jg_skip rfl rfl ?_
    refine jg_skip rfl rfl ?_
    refine jg_y (fun w hs => yv_pick_t rfl rfl) rfl rfl ?_
    refine jg_mv rfl rfl rfl ?_
    refine jg_skip rfl rfl ?_
    refine jg_skip rfl rfl ?_
    refine jg_skip rfl rfl ?_
    refine jg_skip rfl rfl ?_
    refine jg_y (fun w hs => yv_pick_t rfl rfl) rfl rfl ?_
    refine jg_nils [(7, _), (8, _), (10, _), (58, _)] ⟨rfl, rfl, rfl, rfl, trivial⟩ ?_
    refine jk_sn ?_
    refine jn_ct rfl ?_
    refine jn_seq ?_
    refine jn_reg 5 ?_
    refine jg_y (fun w hs => yv_build rfl (o2 rfl)) rfl rfl ?_
    refine jg_store 1 rfl rfl rfl (l2 rfl) rfl rfl rfl rfl (l2 rfl) (r3 rfl) ?_
    refine jg_as rfl rfl rfl ?_
    refine jg_nils [(8, _), (9, _)] ⟨rfl, rfl, trivial⟩ ?_
    refine jk_sel (is := [1]) (s1 rfl) rfl ?_
    refine jk_sn ?_
    refine jn_ret ?_
    refine jk_sr ?_
    exact jk_ret2 rfl (fun w hs => .cell rfl (ldBB (hs.blkL (i := 0) rfl) rfl)) (fun w hs => .tmp rfl) (fun w hs => ⟨rfl, hs.drop⟩)
  refine jg_y (fun w hs => yv_fieldAddr rfl) rfl rfl ?_
  refine jg_y (fun w hs => yv_fieldAddr rfl) rfl rfl ?_
  refine jg_y (fun w hs => yv_load rfl (ld1B (hs.blkL (i := 2) rfl) rfl)) rfl rfl ?_
  refine jg_y (fun w hs => yv_lss rfl rfl) rfl rfl ?_
  refine jg_y (fun w hs => yv_pick_f rfl rfl) rfl rfl ?_
  refine jg_mv rfl rfl rfl ?_
  refine jg_split 53 rfl ?_ ?_
  · refine jg_skip rfl rfl ?_
    refine jg_skip rfl rfl ?_
    refine jg_skip rfl rfl ?_
    refine jg_skip rfl rfl ?_
    refine jg_y (fun w hs => yv_pick_t rfl rfl) rfl rfl ?_
    refine jg_nils [(7, _), (8, _), (10, _), (58, _)] ⟨rfl, rfl, rfl, rfl, trivial⟩ ?_
    refine jk_sn ?_
    refine jn_ct rfl ?_
    refine jn_seq ?_
    refine jn_reg 5 ?_
    refine jg_y (fun w hs => yv_build rfl (o2 rfl)) rfl rfl ?_
    refine jg_store 1 rfl rfl rfl (l2 rfl) rfl rfl rfl rfl (l2 rfl) (r3 rfl) ?_
    refine jg_as rfl rfl rfl ?_
    refine jg_nils [(8, _), (9, _)] ⟨rfl, rfl, trivial⟩ ?_
    refine jk_sel (is := [1]) (s1 rfl) rfl ?_
    refine jk_sn ?_
    refine jn_ret ?_
    refine jk_sr ?_
    exact jk_ret2 rfl (fun w hs => .cell rfl (ldBB (hs.blkL (i := 0) rfl) rfl)) (fun w hs => .tmp rfl) (fun w hs => ⟨rfl, hs.drop⟩)
  refine jg_y (fun w hs => yv_fieldAddr rfl) rfl rfl ?_
  refine jg_y (fun w hs => yv_fieldAddr rfl) rfl rfl ?_
  refine jg_y (fun w hs => yv_load rfl (ld1B (hs.blkL (i := 2) rfl) rfl)) rfl rfl ?_
  refine jg_y (fun w hs => yv_gtr rfl rfl) rfl rfl ?_
  refine jg_y (fun w hs => yv_pick_f rfl rfl) rfl rfl ?_
  refine jg_nils [(7, _), (8, _), (10, _), (58, _)] ⟨rfl, rfl, rfl, rfl, trivial⟩ ?_
  refine jk_sn ?_
  refine jn_cond rfl ?_ ?_
  · refine jn_seq ?_
    refine jn_reg 5 ?_
    refine jg_y (fun w hs => yv_build rfl (o2 rfl)) rfl rfl ?_
    refine jg_store 1 rfl rfl rfl (l2 rfl) rfl rfl rfl rfl (l2 rfl) (r3 rfl) ?_
    refine jg_as rfl rfl rfl ?_
    refine jg_nils [(8, _), (9, _)] ⟨rfl, rfl, trivial⟩ ?_
    refine jk_sel (is := [1]) (s1 rfl) rfl ?_
    refine jk_sn ?_
    refine jn_ret ?_
    refine jk_sr ?_
    exact jk_ret2 rfl (fun w hs => .cell rfl (ldBB (hs.blkL (i := 0) rfl) rfl)) (fun w hs => .tmp rfl) (fun w hs => ⟨rfl, hs.drop⟩)
  refine jn_skip ?_
  refine jk_sn ?_
  refine jn_seq ?_
  refine jn_reg 6 ?_
  refine jg_y (fun w hs => yv_fieldAddr rfl) rfl rfl ?_
  refine jg_y (fun w hs => yv_load rfl (ldPB (hs.blkL (i := 2) rfl) (l2 rfl) rfl)) rfl rfl ?_
  refine jg_c0 rfl (fun v w hs hm => r01_Scale_c (a0 := a3.Wind) hm ) rfl rfl fun v7 => ?_
  refine jg_mv rfl rfl rfl ?_
  refine jg_y (fun w hs => yv_extract rfl rfl) rfl rfl ?_
  refine jg_y (fun w hs => yv_extract rfl rfl) rfl rfl ?_
  refine jg_alloc (l2 rfl) rfl rfl fun g8 => ?_
  refine jg_store 0 rfl rfl rfl (l2 rfl) rfl rfl rfl rfl (l2 rfl) (r4 rfl) ?_
  refine jg_as rfl rfl rfl ?_
  refine jg_nils [(7, _), (8, _), (10, _), (12, _)] ⟨rfl, rfl, rfl, rfl, trivial⟩ ?_
  refine jk_sn ?_
  refine jn_seq ?_
  refine jn_reg 7 ?_
  refine jg_y (fun w hs => yv_fieldAddr rfl) rfl rfl ?_
  refine jg_y (fun w hs => yv_load rfl (ld1B (hs.blkL (i := 1) rfl) rfl)) rfl rfl ?_
  refine jg_y (fun w hs => yv_fieldAddr rfl) rfl rfl ?_
  refine jg_y (fun w hs => yv_load rfl (ld1B (hs.blkL (i := 0) rfl) rfl)) rfl rfl ?_
  refine jg_y (fun w hs => yv_add_w rfl rfl) rfl rfl ?_
  refine jg_y (fun w hs => yv_fieldAddr rfl) rfl rfl ?_
  refine jg_y (fun w hs => yv_fieldAddr rfl) rfl rfl ?_
  refine jg_y (fun w hs => yv_load rfl (ld1B (hs.blkL (i := 3) rfl) rfl)) rfl rfl ?_
  refine jg_yl (fun w hs => yv_add_w rfl rfl) rfl rfl fun x9 => ?_
  refine jg_y (fun w hs => yv_fieldAddr rfl) rfl rfl ?_
  refine jg_y (fun w hs => yv_load rfl (ld1B (hs.blkL (i := 1) rfl) rfl)) rfl rfl ?_
  refine jg_y (fun w hs => yv_fieldAddr rfl) rfl rfl ?_
  refine jg_y (fun w hs => yv_load rfl (ld1B (hs.blkL (i := 0) rfl) rfl)) rfl rfl ?_
  refine jg_y (fun w hs => yv_add_w rfl rfl) rfl rfl ?_
  refine jg_y (fun w hs => yv_fieldAddr rfl) rfl rfl ?_
  refine jg_y (fun w hs => yv_fieldAddr rfl) rfl rfl ?_
  refine jg_y (fun w hs => yv_load rfl (ld1B (hs.blkL (i := 3) rfl) rfl)) rfl rfl ?_
  refine jg_yl (fun w hs => yv_add_w rfl rfl) rfl rfl fun x10 => ?_
  refine jg_y (fun w hs => yv_build rfl (o2 rfl)) rfl rfl ?_
  refine jg_c0 rfl (fun v w hs hm => r19_clip_c (a0 := (Interval.mk x9 x10)) hm ) rfl rfl fun v11 => ?_
  refine jg_store 2 rfl rfl rfl (l2 rfl) rfl rfl rfl rfl (l2 rfl) (r4 rfl) ?_
  refine jg_as rfl rfl rfl ?_
  refine jg_nils [(8, _), (9, _)] ⟨rfl, rfl, trivial⟩ ?_
  refine jk_sel (is := [2]) (s1 rfl) rfl ?_
  refine jk_sn ?_
  refine jn_ret ?_
  exact jk_ret2 rfl (fun w hs => .cell rfl (ldBB (hs.blkL (i := 0) rfl) rfl)) (fun w hs => .tmp rfl) (fun w hs => ⟨rfl, hs.drop⟩)
theorem law19_exact_c {w : World} {a0 : (List Resistance)} {a1 : Int} {a2 : Int} {a3 : Weather} {ha0 : Hd} {v : Bool} (hm : law19_exact a0 a1 a2 a3 = some v) (Rha0 : Sl w ha0 Resistance.enc a0) : Gives Try.prog 34 [ha0.v, .int .i64 a1, .int .i64 a2, .agg #[.int .i64 a3.Wind.Lo, .int .i64 a3.Wind.Hi, .int .i64 a3.Cold.Lo, .int .i64 a3.Cold.Hi]] w (.bool v) := by
  refine j_gives (vs := [ha0.v, .int .i64 a1, .int .i64 a2, .agg #[.int .i64 a3.Wind.Lo, .int .i64 a3.Wind.Hi, .int .i64 a3.Cold.Lo, .int .i64 a3.Cold.Hi]]) (U := fun (v : Bool) => .bool v) Try.func34 rfl Try.ntmps34 rfl rfl hm ?_
  unfold law19_exact
  clear hm
  refine jn_seq ?_
  refine jn_reg 0 ?_
  refine jg_box rfl (l4 rfl) rfl rfl fun g1 => ?_
  refine jg_as rfl rfl rfl ?_
  refine jg_nils [(0, _), (1, _), (2, _), (7, _)] ⟨rfl, rfl, rfl, rfl, trivial⟩ ?_
  refine jk_sn ?_
  refine jn_seq ?_
  refine jn_reg 1 ?_
  refine jg_mv rfl rfl rfl ?_
  refine jg_mv rfl rfl rfl ?_
  refine jg_mv rfl rfl rfl ?_
  refine jg_c0 rfl (fun v w hs hm => resistance_Rolling_c hm (hs.arg Rha0)) rfl rfl fun v2 => ?_
  refine jg_mv rfl rfl rfl ?_
  refine jg_y (fun w hs => yv_extract rfl rfl) rfl rfl ?_
  refine jg_y (fun w hs => yv_extract rfl rfl) rfl rfl ?_
  refine jg_alloc (l2 rfl) rfl rfl fun g3 => ?_
  refine jg_store 0 rfl rfl rfl (l2 rfl) rfl rfl rfl rfl (l2 rfl) (r2 rfl) ?_
  refine jg_as rfl rfl rfl ?_
  refine jg_nils [(0, _), (1, _), (2, _), (7, _), (9, _), (10, _)] ⟨rfl, rfl, rfl, rfl, rfl, rfl, trivial⟩ ?_
  refine jk_sn ?_
  refine jn_seq ?_
  refine jn_reg 2 ?_
  refine jg_mv rfl rfl rfl ?_
  refine jg_mv rfl rfl rfl ?_
  refine jg_mv rfl rfl rfl ?_
  refine jg_c0 rfl (fun v w hs hm => r19_Rolling_c hm (hs.arg Rha0)) rfl rfl fun v4 => ?_
  refine jg_mv rfl rfl rfl ?_
  refine jg_y (fun w hs => yv_extract rfl rfl) rfl rfl ?_
  refine jg_y (fun w hs => yv_extract rfl rfl) rfl rfl ?_
  refine jg_alloc (l2 rfl) rfl rfl fun g5 => ?_
  refine jg_store 0 rfl rfl rfl (l2 rfl) rfl rfl rfl rfl (l2 rfl) (r3 rfl) ?_
  refine jg_as rfl rfl rfl ?_
  refine jg_nils [(0, _), (1, _), (2, _), (7, _), (9, _), (10, _), (11, _), (12, _)] ⟨rfl, rfl, rfl, rfl, rfl, rfl, rfl, rfl, trivial⟩ ?_
  refine jk_sn ?_
  refine jn_seq ?_
  refine jn_reg 3 ?_
  refine jg_mv rfl rfl rfl ?_
  refine jg_mv rfl rfl rfl ?_
  refine jg_mv rfl rfl rfl ?_
  refine jg_y (fun w hs => yv_load rfl (ldBB (hs.blkL (i := 2) rfl) rfl)) rfl rfl ?_
  refine jg_c0 rfl (fun v w hs hm => resistance_Class_c (a3 := a3) hm (hs.arg Rha0)) rfl rfl fun v6 => ?_
  refine jg_mv rfl rfl rfl ?_
  refine jg_y (fun w hs => yv_extract rfl rfl) rfl rfl ?_
  refine jg_y (fun w hs => yv_extract rfl rfl) rfl rfl ?_
  refine jg_alloc (l2 rfl) rfl rfl fun g7 => ?_
  refine jg_store 0 rfl rfl rfl (l2 rfl) rfl rfl rfl rfl (l2 rfl) (r4 rfl) ?_
  refine jg_as rfl rfl rfl ?_
  refine jg_nils [(0, _), (1, _), (2, _), (7, _), (9, _), (10, _), (11, _), (12, _), (13, _), (14, _)] ⟨rfl, rfl, rfl, rfl, rfl, rfl, rfl, rfl, rfl, rfl, trivial⟩ ?_
  refine jk_sn ?_
  refine jn_seq ?_
  refine jn_reg 4 ?_
  refine jg_mv rfl rfl rfl ?_
  refine jg_mv rfl rfl rfl ?_
  refine jg_mv rfl rfl rfl ?_
  refine jg_y (fun w hs => yv_load rfl (ldBB (hs.blkL (i := 3) rfl) rfl)) rfl rfl ?_
  refine jg_c0 rfl (fun v w hs hm => r19_Class_c (a3 := a3) hm (hs.arg Rha0)) rfl rfl fun v8 => ?_
  refine jg_mv rfl rfl rfl ?_
  refine jg_y (fun w hs => yv_extract rfl rfl) rfl rfl ?_
  refine jg_y (fun w hs => yv_extract rfl rfl) rfl rfl ?_
  refine jg_alloc (l2 rfl) rfl rfl fun g9 => ?_
  refine jg_store 0 rfl rfl rfl (l2 rfl) rfl rfl rfl rfl (l2 rfl) (r5 rfl) ?_
  refine jg_as rfl rfl rfl ?_
  refine jg_nils [(0, _), (9, _), (10, _), (11, _), (12, _), (13, _), (14, _), (15, _), (16, _)] ⟨rfl, rfl, rfl, rfl, rfl, rfl, rfl, rfl, rfl, trivial⟩ ?_
  refine jk_sn ?_
  refine jn_seq ?_
  refine jn_reg 5 ?_
  refine jg_mv rfl rfl rfl ?_
  refine jg_c0 rfl (fun v w hs hm => resistance_Valid_c hm (hs.arg Rha0)) rfl rfl fun v10 => ?_
  refine jg_mv rfl rfl rfl ?_
  refine jg_c0 rfl (fun v w hs hm => r19_Valid_c hm (hs.arg Rha0)) rfl rfl fun v11 => ?_
  refine jg_y (fun w hs => yv_eql rfl rfl) rfl rfl ?_
  refine jg_mv rfl rfl rfl ?_
  refine jg_split 52 rfl ?_ ?_
  rotate_left
  · refine jg_skip rfl rfl ?_
    refine jg_skip rfl rfl ?_
    refine jg_skip rfl rfl ?_
    refine jg_y (fun w hs => yv_pick_f rfl rfl) rfl rfl ?_
    refine jg_mv rfl rfl rfl ?_
    refine jg_skip rfl rfl ?_
    refine jg_skip rfl rfl ?_
    refine jg_skip rfl rfl ?_
    refine jg_y (fun w hs => yv_pick_f rfl rfl) rfl rfl ?_
    refine jg_mv rfl rfl rfl ?_
    refine jg_skip rfl rfl ?_
    refine jg_skip rfl rfl ?_
    refine jg_skip rfl rfl ?_
    refine jg_y (fun w hs => yv_pick_f rfl rfl) rfl rfl ?_
    refine jg_mv rfl rfl rfl ?_
    refine jg_skip rfl rfl ?_
    refine jg_skip rfl rfl ?_
    refine jg_skip rfl rfl ?_
    refine jg_y (fun w hs => yv_pick_f rfl rfl) rfl rfl ?_
    refine jg_as rfl rfl rfl ?_
    refine jg_nils [(8, _)] ⟨rfl, trivial⟩ ?_
    refine jk_sel (is := []) (s0 rfl) rfl ?_
    refine jk_sn ?_
    refine jn_ret ?_
    exact jk_ret1 rfl (fun w hs => .tmp rfl) (fun w hs => ⟨rfl, hs.drop⟩)
  refine jg_y (fun w hs => yv_load rfl (ldBB (hs.blkL (i := 3) rfl) rfl)) rfl rfl ?_
  refine jg_y (fun w hs => yv_load rfl (ldBB (hs.blkL (i := 2) rfl) rfl)) rfl rfl ?_
  refine jg_y (fun w hs => yeq55 rfl rfl) rfl rfl ?_
  refine jg_y (fun w hs => yv_pick_t rfl rfl) rfl rfl ?_
  refine jg_mv rfl rfl rfl ?_
  refine jg_split 57 rfl ?_ ?_
  rotate_left
  · refine jg_skip rfl rfl ?_
    refine jg_skip rfl rfl ?_
    refine jg_skip rfl rfl ?_
    refine jg_y (fun w hs => yv_pick_f rfl rfl) rfl rfl ?_
    refine jg_mv rfl rfl rfl ?_
    refine jg_skip rfl rfl ?_
    refine jg_skip rfl rfl ?_
    refine jg_skip rfl rfl ?_
    refine jg_y (fun w hs => yv_pick_f rfl rfl) rfl rfl ?_
    refine jg_mv rfl rfl rfl ?_
    refine jg_skip rfl rfl ?_
    refine jg_skip rfl rfl ?_
    refine jg_skip rfl rfl ?_
    refine jg_y (fun w hs => yv_pick_f rfl rfl) rfl rfl ?_
    refine jg_as rfl rfl rfl ?_
    refine jg_nils [(8, _)] ⟨rfl, trivial⟩ ?_
    refine jk_sel (is := []) (s0 rfl) rfl ?_
    refine jk_sn ?_
    refine jn_ret ?_
    exact jk_ret1 rfl (fun w hs => .tmp rfl) (fun w hs => ⟨rfl, hs.drop⟩)
  refine jg_mv rfl rfl rfl ?_
  refine jg_mv rfl rfl rfl ?_
  refine jg_y (fun w hs => yv_eql rfl rfl) rfl rfl ?_
  refine jg_y (fun w hs => yv_pick_t rfl rfl) rfl rfl ?_
  refine jg_mv rfl rfl rfl ?_
  refine jg_split 62 rfl ?_ ?_
  rotate_left
  · refine jg_skip rfl rfl ?_
    refine jg_skip rfl rfl ?_
    refine jg_skip rfl rfl ?_
    refine jg_y (fun w hs => yv_pick_f rfl rfl) rfl rfl ?_
    refine jg_mv rfl rfl rfl ?_
    refine jg_skip rfl rfl ?_
    refine jg_skip rfl rfl ?_
    refine jg_skip rfl rfl ?_
    refine jg_y (fun w hs => yv_pick_f rfl rfl) rfl rfl ?_
    refine jg_as rfl rfl rfl ?_
    refine jg_nils [(8, _)] ⟨rfl, trivial⟩ ?_
    refine jk_sel (is := []) (s0 rfl) rfl ?_
    refine jk_sn ?_
    refine jn_ret ?_
    exact jk_ret1 rfl (fun w hs => .tmp rfl) (fun w hs => ⟨rfl, hs.drop⟩)
  refine jg_y (fun w hs => yv_load rfl (ldBB (hs.blkL (i := 1) rfl) rfl)) rfl rfl ?_
  refine jg_y (fun w hs => yv_load rfl (ldBB (hs.blkL (i := 0) rfl) rfl)) rfl rfl ?_
  refine jg_y (fun w hs => yeq55 rfl rfl) rfl rfl ?_
  refine jg_y (fun w hs => yv_pick_t rfl rfl) rfl rfl ?_
  refine jg_mv rfl rfl rfl ?_
  refine jg_split 67 rfl ?_ ?_
  · refine jg_mv rfl rfl rfl ?_
    refine jg_mv rfl rfl rfl ?_
    refine jg_y (fun w hs => yv_eql rfl rfl) rfl rfl ?_
    refine jg_y (fun w hs => yv_pick_t rfl rfl) rfl rfl ?_
    refine jg_as rfl rfl rfl ?_
    refine jg_nils [(8, _)] ⟨rfl, trivial⟩ ?_
    refine jk_sel (is := []) (s0 rfl) rfl ?_
    refine jk_sn ?_
    refine jn_ret ?_
    exact jk_ret1 rfl (fun w hs => .tmp rfl) (fun w hs => ⟨rfl, hs.drop⟩)
  refine jg_skip rfl rfl ?_
  refine jg_skip rfl rfl ?_
  refine jg_skip rfl rfl ?_
  refine jg_y (fun w hs => yv_pick_f rfl rfl) rfl rfl ?_
  refine jg_as rfl rfl rfl ?_
  refine jg_nils [(8, _)] ⟨rfl, trivial⟩ ?_
  refine jk_sel (is := []) (s0 rfl) rfl ?_
  refine jk_sn ?_
  refine jn_ret ?_
  exact jk_ret1 rfl (fun w hs => .tmp rfl) (fun w hs => ⟨rfl, hs.drop⟩)
end Go.Proofs.Ytncgacgkeonfnaa
