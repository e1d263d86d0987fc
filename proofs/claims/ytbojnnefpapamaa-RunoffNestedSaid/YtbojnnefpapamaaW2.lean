/-
  The functions give what their models give. Printed by a program.
-/
import Derived.Test.YtbojnnefpapamaaFacts
import Derived.Test.YtbojnnefpapamaaMod
import Derived.Test.YtbojnnefpapamaaW0
import Derived.Test.YtbojnnefpapamaaW1
namespace Go.Proofs.Ytbojnnefpapamaa
open Go.Hy
set_option linter.unusedVariables false
set_option linter.unusedSimpArgs false
set_option maxHeartbeats 2000000
set_option maxRecDepth 100000
theorem law20_RunoffSlower_c {w : World} {a0 : (List Int)} {ha0 : Hd} {v : Bool} (hm : law20_RunoffSlower a0 = some v) (Rha0 : Sl w ha0 encI a0) : Gives Try.prog 7 [ha0.v] w (.bool v) := by
  refine j_gives (vs := [ha0.v]) (U := fun (v : Bool) => .bool v) Try.func7 rfl Try.ntmps7 rfl rfl hm ?_
  unfold law20_RunoffSlower
  clear hm
  refine jn_seq ?_
  refine jn_reg 0 ?_
  refine jg_as rfl rfl rfl ?_
  refine jg_nils [(0, _)] ⟨rfl, trivial⟩ ?_
  refine jk_sn ?_
  refine jn_seq ?_
  refine jn_reg 1 ?_
  refine jg_mv rfl rfl rfl ?_
  refine jg_c rfl (fun v w hs hm => gen_New_c hm (hs.arg Rha0)) rfl rfl fun v1 q2 => ?_
  refine jg_L (r1 rfl) ?_
  refine jg_as rfl rfl rfl ?_
  refine jg_nils [(3, _)] ⟨rfl, trivial⟩ ?_
  refine jk_sn ?_
  refine jn_seq ?_
  refine jn_reg 2 ?_
  refine jg_mv rfl rfl rfl ?_
  refine jl_c 0 rfl rfl (fun v w hs hm => gen_Maker_Pieces_c hm (hs.blkL (i := 0) rfl) (hs.arg Rha0) (hs.offAL 0 Rha0 rfl)) (fun _ => rfl) rfl rfl fun v3 q4 => ?_
  refine jg_L (r2 rfl) ?_
  refine jg_as rfl rfl rfl ?_
  refine jg_nils [(3, _), (4, _)] ⟨rfl, rfl, trivial⟩ ?_
  refine jk_sn ?_
  refine jn_seq ?_
  refine jn_reg 3 ?_
  refine jg_mv rfl rfl rfl ?_
  refine jg_mv rfl rfl rfl ?_
  refine jg_mv rfl rfl rfl ?_
  refine jl_c 1 rfl rfl (fun v w hs hm => gen_Maker_Motion_c hm (hs.blkL (i := 1) rfl) (hs.arg Rha0) (hs.offAL 1 Rha0 rfl) (hs.row 0 rfl) (hs.offLL 0 1 rfl rfl)) (fun _ => rfl) rfl rfl fun v5 q6 => ?_
  refine jg_L (r4 rfl) ?_
  refine jl_c 3 rfl rfl (fun v w hs hm => gen_Maker_Run_c (a1 := v5.1) hm (hs.blkL (i := 3) rfl) (hs.arg Rha0) (hs.offAL 3 Rha0 rfl) (hs.row 0 rfl) (hs.offLL 0 3 rfl rfl) (hs.row 1 rfl) (hs.offLL 1 3 rfl rfl)) (fun _ => rfl) rfl rfl fun v7 q8 => ?_
  refine jg_L (r6 rfl) ?_
  refine jg_alloc (l3 rfl) rfl rfl fun g9 => ?_
  refine jg_store 0 rfl rfl rfl (l3 rfl) rfl rfl rfl rfl (l3 rfl) (r7 rfl) ?_
  refine jg_nils [(3, _), (4, _), (5, _)] ⟨rfl, rfl, rfl, trivial⟩ ?_
  refine jk_sel (is := [0, 1, 2, 5, 6]) (s5 rfl) rfl ?_
  refine jk_sn ?_
  refine jn_seq ?_
  refine jn_reg 4 ?_
  refine jg_y (fun w hs => yv_load rfl (ldBB (hs.blkL (i := 0) rfl) rfl)) rfl rfl ?_
  refine jg_alloc (l3 rfl) rfl rfl fun g10 => ?_
  refine jg_store 0 rfl rfl rfl (l3 rfl) rfl rfl rfl rfl (l3 rfl) (r6 rfl) ?_
  refine jg_nils [(3, _), (4, _), (5, _), (6, _)] ⟨rfl, rfl, rfl, rfl, trivial⟩ ?_
  refine jk_sn ?_
  refine jn_seq ?_
  refine jn_reg 5 ?_
  refine jg_lit0 (enc := encI) rfl rfl fun hd11 => ?_
  refine jg_y (fun w hs => yv_fieldAddr rfl) rfl rfl ?_
  refine jg_y (fun w hs => yv_load rfl (ld1B (hs.blkL (i := 2) rfl) rfl)) rfl rfl ?_
  refine jg_append 0 rfl rfl rfl (fun w hs => (hs.row 3 rfl)) rfl rfl rfl fun y12 hd13 => ?_
  refine jg_L (r7 rfl) ?_
  refine jg_y (fun w hs => yv_fieldAddr rfl) rfl rfl ?_
  refine jg_store 1 rfl rfl rfl (l1 rfl) rfl rfl rfl rfl (l3 rfl) (r7 rfl) ?_
  refine jg_nils [(3, _), (4, _), (5, _), (6, _)] ⟨rfl, rfl, rfl, rfl, trivial⟩ ?_
  refine jk_sn ?_
  refine jn_join (fun (s : (Int × (List Int))) (g : Unit) => [(3, .pointer (some ⟨q2, 0, none⟩)), (4, q4.v), (5, .pointer (some ⟨g9, 0, none⟩)), (6, .pointer (some ⟨g10, 0, none⟩))]) (fun (s : (Int × (List Int))) (g : Unit) => []) (fun (s : (Int × (List Int))) (g : Unit) => [(Res.blk q2 82 [ha0.v, .int .i64 s.1]), (rowH q4 32 5 Piece.enc v3.1), (Res.blk g9 30 [.int .i64 v7.1.Speed, q8.1.v, q8.2.v]), (rowH q8.1 3 1 encI v7.1.Resist), (rowH q8.2 3 1 encI v7.1.Targets), (Res.blk g10 30 [.int .i64 v7.1.Speed, hd13.v, q8.2.v]), (rowH hd13 3 1 encI s.2)]) ?_ ?_
  rotate_left
  · intro k16 H17
    refine jn_seq ?_
    refine jn_reg 6 ?_
    refine jg_y (fun w hs => yv_fieldAddr rfl) rfl rfl ?_
    refine jg_y (fun w hs => yv_load rfl (ld1B (hs.blkL (i := 1) rfl) rfl)) rfl rfl ?_
    refine jg_y (fun w hs => yv_ln rfl (hs.row 0 rfl)) rfl rfl ?_
    refine jg_mv rfl rfl rfl ?_
    refine jg_nils [(3, _), (4, _), (5, _), (6, _), (32, _), (33, _)] ⟨rfl, rfl, rfl, rfl, rfl, rfl, trivial⟩ ?_
    refine jk_sn ?_
    refine jn_block ?_
    refine jn_lp (n := big) (fun (s : (Int × (List Int) × Int)) (g : Unit) => [(3, .pointer (some ⟨q2, 0, none⟩)), (4, q4.v), (5, .pointer (some ⟨g9, 0, none⟩)), (6, .pointer (some ⟨g10, 0, none⟩)), (32, .int .i64 (y12.length : Int)), (33, .int .i64 s.2.2)]) (fun (s : (Int × (List Int) × Int)) (g : Unit) => []) (fun (s : (Int × (List Int) × Int)) (g : Unit) => [(Res.blk q2 82 [ha0.v, .int .i64 s.1]), (rowH q4 32 5 Piece.enc v3.1), (Res.blk g9 30 [.int .i64 v7.1.Speed, q8.1.v, q8.2.v]), (rowH q8.1 3 1 encI v7.1.Resist), (rowH q8.2 3 1 encI v7.1.Targets), (Res.blk g10 30 [.int .i64 v7.1.Speed, hd13.v, q8.2.v]), (rowH hd13 3 1 encI s.2.1)]) (v7.2, y12, 0) () [6, 5, 2, 3, 4, 1, 0] ⟨rfl, rfl, rfl, rfl, rfl, rfl, trivial⟩ rfl rfl rfl ?_
    intro z40 q41 n44 k42 H43
    refine jn_seq ?_
    refine jn_reg 7 ?_
    refine jg_y (fun w hs => yv_lss rfl rfl) rfl rfl ?_
    refine jg_nils [(3, _), (4, _), (5, _), (6, _), (32, _), (33, _), (34, _)] ⟨rfl, rfl, rfl, rfl, rfl, rfl, rfl, trivial⟩ ?_
    refine jk_sn ?_
    refine jn_seq ?_
    refine jn_cond rfl ?_ ?_
    rotate_left
    · refine jn_exit ?_
      refine jk_se (jk_le (jk_bh ?_))
      exact jk_use H17 (z40.1, z40.2.1) () [0, 1, 2, 3, 4, 5, 6] ⟨rfl, rfl, rfl, rfl, trivial⟩ rfl rfl rfl
    refine jn_skip ?_
    refine jk_sn ?_
    refine jn_seq ?_
    refine jn_block ?_
    refine jn_seq ?_
    refine jn_reg 8 ?_
    refine jg_mv rfl rfl rfl ?_
    refine jg_as rfl rfl rfl ?_
    refine jg_nils [(3, _), (4, _), (5, _), (6, _), (7, _), (32, _), (33, _)] ⟨rfl, rfl, rfl, rfl, rfl, rfl, rfl, trivial⟩ ?_
    refine jk_sn ?_
    refine jn_draw (L' := [_, _, _, _, _, _]) 9 [1, 2, 3, 4, 5, 6] [0, 1, 2, 3, 4, 5, 6, 7, 8, 9] 1023 2047 [0, 1, 0, 6, 8, 0, 0, 96, 144, 511, 1023] [0, 1, 0, 7, 15, 0, 0, 96, 255, 511, 1023] [(0, true), (1, true), (2, true), (3, true), (4, true), (5, true), (6, false), (7, false), (8, true), (9, true), (10, false)] rfl (np_blk (np_seq (np_rnd (np_blk (np_seq np_rt))))) (by kernel_rfl) (by kernel_rfl) (by kernel_rfl) (by kernel_rfl) (by kernel_rfl) (by kernel_rfl) (by kernel_rfl) (by kernel_rfl) ?_
    refine jd_y rfl (fun w hs => yv_fieldAddr rfl) rfl rfl ?_
    refine jd_y rfl (fun w hs => yv_load rfl (ld1B (hs.blk (i := 4) rfl) rfl)) rfl rfl ?_
    refine jd_mv rfl rfl rfl rfl ?_
    refine jd_ix fun x45 h46 => ?_
    refine jd_y rfl (fun w hs => yv_ix rfl rfl (hs.row 5 rfl) h46) rfl rfl ?_
    refine jd_y rfl (fun w hs => yv_e1 rfl (hs.row 5 rfl) h46.1 rfl) rfl rfl ?_
    refine jd_mv rfl rfl rfl rfl ?_
    refine jd_h rfl ?_
    refine jg_lit (enc := encI) [0, 0, 1, 20] rfl rfl rfl rfl rfl rfl rfl rfl fun hd47 => ?_
    refine jg_nil ?_
    refine jk_dn [2, 3, 4, 5, 6, 7] rfl ?_
    refine jd_h rfl ?_
    refine jl_c 1 rfl rfl (fun v w hs hm => gen_Maker_Pick_c hm (hs.blkL (i := 1) rfl) (hs.arg Rha0) (hs.offAL 1 Rha0 rfl) (hs.row 0 rfl) (hs.offLL 0 1 rfl rfl)) (fun _ => rfl) rfl rfl fun v48 q49 => ?_
    refine jg_L (r8 rfl) ?_
    refine jg_nil ?_
    refine jk_dn [2, 3, 4, 5, 6, 7] rfl ?_
    refine jd_y rfl (fun w hs => yv_add_w rfl rfl) rfl rfl ?_
    refine jd_ix fun x50 h51 => ?_
    refine jd_y rfl (fun w hs => yv_ix rfl rfl (hs.row 5 rfl) h51) rfl rfl ?_
    refine jd_h rfl ?_
    refine jg_storeE 7 (a' := w64 (x45 + v48.1)) rfl rfl h51.1 rfl (l1 rfl) rfl rfl rfl rfl fun y52 => ?_
    refine jg_L (r8 rfl) ?_
    refine jg_nil ?_
    refine jk_df rfl ?_
    refine jf_nils [(3, _), (4, _), (5, _), (6, _), (32, _), (33, _)] ⟨rfl, rfl, rfl, rfl, rfl, rfl, trivial⟩ ?_
    refine jk_bn (jk_sn ?_)
    refine jn_reg 10 ?_
    refine jg_y (fun w hs => yv_add_w rfl rfl) rfl rfl ?_
    refine jg_mv rfl rfl rfl ?_
    refine jg_nils [(3, _), (4, _), (5, _), (6, _), (32, _), (33, _)] ⟨rfl, rfl, rfl, rfl, rfl, rfl, trivial⟩ ?_
    exact jk_use H43 (v48.2, y52, w64 (z40.2.2 + 1)) () [1, 2, 3, 4, 5, 6, 7] ⟨rfl, rfl, rfl, rfl, rfl, rfl, trivial⟩ rfl rfl rfl
  intro z14 q15
  refine jn_seq ?_
  refine jn_draw (L' := [_, _, _, _, _, _]) 11 [1, 2, 3, 4, 5, 6] [0, 1, 2, 3, 4, 5, 6, 7] 255 511 [0, 1, 0, 0, 12, 18, 32, 127, 255] [0, 1, 0, 0, 12, 31, 63, 127, 255] [(0, true), (1, true), (2, true), (3, false), (4, false), (5, true), (6, true), (7, true), (8, false)] rfl (np_seq np_rt) (by kernel_rfl) (by kernel_rfl) (by kernel_rfl) (by kernel_rfl) (by kernel_rfl) (by kernel_rfl) (by kernel_rfl) (by kernel_rfl) ?_
  refine jd_y rfl (fun w hs => yv_fieldAddr rfl) rfl rfl ?_
  refine jd_y rfl (fun w hs => yv_load rfl (ld1B (hs.blk (i := 1) rfl) rfl)) rfl rfl ?_
  refine jd_mv rfl rfl rfl rfl ?_
  refine jd_h rfl ?_
  refine jg_lit (enc := encI) [0, 0, 50] rfl rfl rfl rfl rfl rfl rfl rfl fun hd18 => ?_
  refine jg_nil ?_
  refine jk_dn [2, 3, 4, 5, 6, 7] rfl ?_
  refine jd_h rfl ?_
  refine jl_c 1 rfl rfl (fun v w hs hm => gen_Maker_Pick_c hm (hs.blkL (i := 1) rfl) (hs.arg Rha0) (hs.offAL 1 Rha0 rfl) (hs.row 0 rfl) (hs.offLL 0 1 rfl rfl)) (fun _ => rfl) rfl rfl fun v19 q20 => ?_
  refine jg_L (r8 rfl) ?_
  refine jg_nil ?_
  refine jk_dn [2, 3, 4, 5, 6, 7] rfl ?_
  refine jd_y rfl (fun w hs => yv_sub_w rfl rfl) rfl rfl ?_
  refine jd_yl rfl (fun w hs => yv_max rfl rfl) rfl rfl fun x21 => ?_
  refine jd_y rfl (fun w hs => yv_fieldAddr rfl) rfl rfl ?_
  refine jd_h rfl ?_
  refine jg_store 6 rfl rfl rfl (l1 rfl) rfl rfl rfl rfl (l3 rfl) (r8 rfl) ?_
  refine jg_nil ?_
  refine jk_df rfl ?_
  refine jf_nils [(4, _), (5, _), (6, _)] ⟨rfl, rfl, rfl, trivial⟩ ?_
  refine jk_sel (is := [2, 3, 4, 5, 6, 7]) (s6 rfl) rfl ?_
  refine jk_sn ?_
  refine jn_seq ?_
  refine jn_reg 12 ?_
  refine jg_mv rfl rfl rfl ?_
  refine jg_y (fun w hs => yv_load rfl (ldBB (hs.blkL (i := 1) rfl) rfl)) rfl rfl ?_
  refine jg_c rfl (fun v w hs hm => runoff_Point_c (a1 := v7.1) hm (hs.row 0 rfl) (hs.row 2 rfl) (hs.row 3 rfl)) rfl rfl fun v22 q23 => ?_
  refine jg_L (r7 rfl) ?_
  refine jg_mv rfl rfl rfl ?_
  refine jg_y (fun w hs => yv_extract rfl rfl) rfl rfl ?_
  refine jg_y (fun w hs => yv_extract rfl rfl) rfl rfl ?_
  refine jg_y (fun w hs => yv_extract rfl rfl) rfl rfl ?_
  refine jg_as rfl rfl rfl ?_
  refine jg_as rfl rfl rfl ?_
  refine jg_as rfl rfl rfl ?_
  refine jg_nils [(4, _), (6, _), (8, _), (10, _)] ⟨rfl, rfl, rfl, rfl, trivial⟩ ?_
  refine jk_sel (is := [0, 1, 4, 5, 6]) (s5 rfl) rfl ?_
  refine jk_sn ?_
  refine jn_seq ?_
  refine jn_reg 13 ?_
  refine jg_mv rfl rfl rfl ?_
  refine jg_y (fun w hs => yv_load rfl (ldBB (hs.blkL (i := 3) rfl) rfl)) rfl rfl ?_
  refine jg_c rfl (fun v w hs hm => runoff_Point_c (a1 := (Run.mk x21 z14.2 v7.1.Targets)) hm (hs.row 1 rfl) (hs.row 4 rfl) (hs.row 2 rfl)) rfl rfl fun v24 q25 => ?_
  refine jg_L (r6 rfl) ?_
  refine jg_mv rfl rfl rfl ?_
  refine jg_y (fun w hs => yv_extract rfl rfl) rfl rfl ?_
  refine jg_y (fun w hs => yv_extract rfl rfl) rfl rfl ?_
  refine jg_y (fun w hs => yv_extract rfl rfl) rfl rfl ?_
  refine jg_as rfl rfl rfl ?_
  refine jg_as rfl rfl rfl ?_
  refine jg_as rfl rfl rfl ?_
  refine jg_nils [(8, _), (10, _), (11, _), (13, _)] ⟨rfl, rfl, rfl, rfl, trivial⟩ ?_
  refine jk_sel (is := [0, 1]) (s2 rfl) rfl ?_
  refine jk_sn ?_
  refine jn_seq ?_
  refine jn_seq ?_
  refine jn_reg 14 ?_
  refine jg_mv rfl rfl rfl ?_
  refine jg_y (fun w hs => yv_neq rfl rfl) rfl rfl ?_
  refine jg_mv rfl rfl rfl ?_
  refine jg_split 71 rfl ?_ ?_
  · refine jg_skip rfl rfl ?_
    refine jg_skip rfl rfl ?_
    refine jg_y (fun w hs => yv_pick_t rfl rfl) rfl rfl ?_
    refine jg_mv rfl rfl rfl ?_
    refine jg_skip rfl rfl ?_
    refine jg_skip rfl rfl ?_
    refine jg_skip rfl rfl ?_
    refine jg_skip rfl rfl ?_
    refine jg_skip rfl rfl ?_
    refine jg_y (fun w hs => yv_pick_t rfl rfl) rfl rfl ?_
    refine jg_nils [(8, _), (11, _), (81, _)] ⟨rfl, rfl, rfl, trivial⟩ ?_
    refine jk_sn ?_
    refine jn_ct rfl ?_
    refine jn_seq ?_
    refine jn_reg 15 ?_
    refine jg_as rfl rfl rfl ?_
    refine jg_nils [(2, _)] ⟨rfl, trivial⟩ ?_
    refine jk_sel (is := []) (s0 rfl) rfl ?_
    refine jk_sn ?_
    refine jn_ret ?_
    refine jk_sr ?_
    exact jk_ret1 rfl (fun w hs => .tmp rfl) (fun w hs => ⟨rfl, hs.drop⟩)
  refine jg_mv rfl rfl rfl ?_
  refine jg_y (fun w hs => yv_neq rfl rfl) rfl rfl ?_
  refine jg_y (fun w hs => yv_pick_f rfl rfl) rfl rfl ?_
  refine jg_mv rfl rfl rfl ?_
  refine jg_split 75 rfl ?_ ?_
  · refine jg_skip rfl rfl ?_
    refine jg_skip rfl rfl ?_
    refine jg_skip rfl rfl ?_
    refine jg_skip rfl rfl ?_
    refine jg_skip rfl rfl ?_
    refine jg_y (fun w hs => yv_pick_t rfl rfl) rfl rfl ?_
    refine jg_nils [(8, _), (11, _), (81, _)] ⟨rfl, rfl, rfl, trivial⟩ ?_
    refine jk_sn ?_
    refine jn_ct rfl ?_
    refine jn_seq ?_
    refine jn_reg 15 ?_
    refine jg_as rfl rfl rfl ?_
    refine jg_nils [(2, _)] ⟨rfl, trivial⟩ ?_
    refine jk_sel (is := []) (s0 rfl) rfl ?_
    refine jk_sn ?_
    refine jn_ret ?_
    refine jk_sr ?_
    exact jk_ret1 rfl (fun w hs => .tmp rfl) (fun w hs => ⟨rfl, hs.drop⟩)
  refine jg_mv rfl rfl rfl ?_
  refine jg_y (fun w hs => yv_ln rfl (hs.row 0 rfl)) rfl rfl ?_
  refine jg_mv rfl rfl rfl ?_
  refine jg_y (fun w hs => yv_ln rfl (hs.row 1 rfl)) rfl rfl ?_
  refine jg_y (fun w hs => yv_gtr rfl rfl) rfl rfl ?_
  refine jg_y (fun w hs => yv_pick_f rfl rfl) rfl rfl ?_
  refine jg_nils [(8, _), (11, _), (81, _)] ⟨rfl, rfl, rfl, trivial⟩ ?_
  refine jk_sn ?_
  refine jn_cond rfl ?_ ?_
  · refine jn_seq ?_
    refine jn_reg 15 ?_
    refine jg_as rfl rfl rfl ?_
    refine jg_nils [(2, _)] ⟨rfl, trivial⟩ ?_
    refine jk_sel (is := []) (s0 rfl) rfl ?_
    refine jk_sn ?_
    refine jn_ret ?_
    refine jk_sr ?_
    exact jk_ret1 rfl (fun w hs => .tmp rfl) (fun w hs => ⟨rfl, hs.drop⟩)
  refine jn_skip ?_
  refine jk_sn ?_
  refine jn_seq ?_
  refine jn_seq ?_
  refine jn_reg 16 ?_
  refine jg_mv rfl rfl rfl ?_
  refine jg_y (fun w hs => yv_ln rfl (hs.row 0 rfl)) rfl rfl ?_
  refine jg_mv rfl rfl rfl ?_
  refine jg_nils [(8, _), (11, _), (83, _), (84, _)] ⟨rfl, rfl, rfl, rfl, trivial⟩ ?_
  refine jk_sn ?_
  refine jn_block ?_
  refine jn_lp (n := big) (fun (s : Int) (g : Unit) => [(8, q23.v), (11, q25.v), (83, .int .i64 (v24.1.length : Int)), (84, .int .i64 s)]) (fun (s : Int) (g : Unit) => []) (fun (s : Int) (g : Unit) => [(rowH q23 41 2 Moment.enc v22.1), (rowH q25 41 2 Moment.enc v24.1)]) 0 () [1, 0] ⟨rfl, rfl, rfl, rfl, trivial⟩ rfl rfl rfl ?_
  intro z26 q27 n30 k28 H29
  refine jn_seq ?_
  refine jn_reg 17 ?_
  refine jg_y (fun w hs => yv_lss rfl rfl) rfl rfl ?_
  refine jg_nils [(8, _), (11, _), (83, _), (84, _), (85, _)] ⟨rfl, rfl, rfl, rfl, rfl, trivial⟩ ?_
  refine jk_sn ?_
  refine jn_seq ?_
  refine jn_cond rfl ?_ ?_
  rotate_left
  · refine jn_exit ?_
    refine jk_se (jk_le (jk_bh (jk_sn ?_)))
    refine jn_seq ?_
    refine jn_reg 22 ?_
    refine jg_c0 rfl (fun v w hs hm => law20_sane_c hm ) rfl rfl fun v39 => ?_
    refine jg_as rfl rfl rfl ?_
    refine jg_nils [(2, _)] ⟨rfl, trivial⟩ ?_
    refine jk_sel (is := []) (s0 rfl) rfl ?_
    refine jk_sn ?_
    refine jn_ret ?_
    exact jk_ret1 rfl (fun w hs => .tmp rfl) (fun w hs => ⟨rfl, hs.drop⟩)
  refine jn_skip ?_
  refine jk_sn ?_
  refine jn_seq ?_
  refine jn_block ?_
  refine jn_seq ?_
  refine jn_reg 18 ?_
  refine jg_mv rfl rfl rfl ?_
  refine jg_as rfl rfl rfl ?_
  refine jg_nils [(8, _), (11, _), (14, _), (83, _), (84, _)] ⟨rfl, rfl, rfl, rfl, rfl, trivial⟩ ?_
  refine jk_sn ?_
  refine jn_seq ?_
  refine jn_draw (L' := [_, _]) 19 [0, 1] [0, 1, 2, 3, 4, 5, 6, 7, 8, 9, 10, 11, 12, 13, 14, 15, 16, 17, 18, 19, 20, 21, 22, 23] 16777215 16777215 [0, 0, 3, 4, 8, 0, 0, 96, 128, 256, 528, 1024, 2048, 2048, 14336, 18432, 34816, 2048, 2048, 395264, 526336, 1050624, 2164736, 4196352] [0, 0, 3, 7, 15, 0, 0, 96, 224, 480, 1023, 2047, 4095, 4095, 16383, 32767, 65535, 4095, 4095, 397311, 921599, 1970175, 4194303, 8388607] [(0, true), (1, true), (2, true), (3, true), (4, true), (5, true), (6, true), (7, true), (8, true), (9, true), (10, true), (11, true), (12, true), (13, true), (14, true), (15, true), (16, true), (17, true), (18, true), (19, true), (20, true), (21, true), (22, true), (23, true)] rfl (np_seq (np_blk (np_seq (np_rnd (np_blk (np_seq np_rt)))))) (by kernel_rfl) (by kernel_rfl) (by kernel_rfl) (by kernel_rfl) (by kernel_rfl) (by kernel_rfl) (by kernel_rfl) (by kernel_rfl) ?_
  refine jd_mv rfl rfl rfl rfl ?_
  refine jd_mv rfl rfl rfl rfl ?_
  refine jd_ix fun x31 h32 => ?_
  refine jd_y rfl (fun w hs => yv_ix rfl rfl (hs.row 1 rfl) h32) rfl rfl ?_
  refine jd_y rfl (fun w hs => yv_ef rfl (hs.row 1 rfl) h32.1) rfl rfl ?_
  refine jd_y rfl (fun w hs => yv_e1 rfl (hs.row 1 rfl) h32.1 rfl) rfl rfl ?_
  refine jd_mv rfl rfl rfl rfl ?_
  refine jd_mv rfl rfl rfl rfl ?_
  refine jd_ix fun x33 h34 => ?_
  refine jd_y rfl (fun w hs => yv_ix rfl rfl (hs.row 0 rfl) h34) rfl rfl ?_
  refine jd_y rfl (fun w hs => yv_ef rfl (hs.row 0 rfl) h34.1) rfl rfl ?_
  refine jd_y rfl (fun w hs => yv_e1 rfl (hs.row 0 rfl) h34.1 rfl) rfl rfl ?_
  refine jd_y rfl (fun w hs => yv_lss rfl rfl) rfl rfl ?_
  refine jd_mv rfl rfl rfl rfl ?_
  refine jd_split 98 rfl ?_ ?_
  · refine jd_skip rfl rfl rfl ?_
    refine jd_skip rfl rfl rfl ?_
    refine jd_skip rfl rfl rfl ?_
    refine jd_skip rfl rfl rfl ?_
    refine jd_skip rfl rfl rfl ?_
    refine jd_skip rfl rfl rfl ?_
    refine jd_skip rfl rfl rfl ?_
    refine jd_skip rfl rfl rfl ?_
    refine jd_skip rfl rfl rfl ?_
    refine jd_skip rfl rfl rfl ?_
    refine jd_skip rfl rfl rfl ?_
    refine jd_y rfl (fun w hs => yv_pick_t rfl rfl) rfl rfl ?_
    refine jd_nils [(8, _), (11, _), (83, _), (84, _), (110, _)] ⟨rfl, rfl, rfl, rfl, rfl, trivial⟩ ?_
    refine jk_sn ?_
    refine jn_ct rfl ?_
    refine jn_seq ?_
    refine jn_reg 20 ?_
    refine jg_as rfl rfl rfl ?_
    refine jg_nils [(2, _)] ⟨rfl, trivial⟩ ?_
    refine jk_sel (is := []) (s0 rfl) rfl ?_
    refine jk_sn ?_
    refine jn_ret ?_
    refine jk_br (jk_sr (jk_lr (jk_br (jk_sr ?_))))
    exact jk_ret1 rfl (fun w hs => .tmp rfl) (fun w hs => ⟨rfl, hs.drop⟩)
  refine jd_mv rfl rfl rfl rfl ?_
  refine jd_mv rfl rfl rfl rfl ?_
  refine jd_ix fun x35 h36 => ?_
  refine jd_y rfl (fun w hs => yv_ix rfl rfl (hs.row 1 rfl) h36) rfl rfl ?_
  refine jd_y rfl (fun w hs => yv_ef rfl (hs.row 1 rfl) h36.1) rfl rfl ?_
  refine jd_y rfl (fun w hs => yv_e1 rfl (hs.row 1 rfl) h36.1 rfl) rfl rfl ?_
  refine jd_mv rfl rfl rfl rfl ?_
  refine jd_mv rfl rfl rfl rfl ?_
  refine jd_ix fun x37 h38 => ?_
  refine jd_y rfl (fun w hs => yv_ix rfl rfl (hs.row 0 rfl) h38) rfl rfl ?_
  refine jd_y rfl (fun w hs => yv_ef rfl (hs.row 0 rfl) h38.1) rfl rfl ?_
  refine jd_y rfl (fun w hs => yv_e1 rfl (hs.row 0 rfl) h38.1 rfl) rfl rfl ?_
  refine jd_y rfl (fun w hs => yv_gtr rfl rfl) rfl rfl ?_
  refine jd_y rfl (fun w hs => yv_pick_f rfl rfl) rfl rfl ?_
  refine jd_nils [(8, _), (11, _), (83, _), (84, _), (110, _)] ⟨rfl, rfl, rfl, rfl, rfl, trivial⟩ ?_
  refine jk_sn ?_
  refine jn_cond rfl ?_ ?_
  rotate_left
  · refine jn_skip ?_
    refine jk_bn (jk_sn ?_)
    refine jn_reg 21 ?_
    refine jg_y (fun w hs => yv_add_w rfl rfl) rfl rfl ?_
    refine jg_mv rfl rfl rfl ?_
    refine jg_nils [(8, _), (11, _), (83, _), (84, _)] ⟨rfl, rfl, rfl, rfl, trivial⟩ ?_
    exact jk_use H29 (w64 (z26 + 1)) () [0, 1] ⟨rfl, rfl, rfl, rfl, trivial⟩ rfl rfl rfl
  refine jn_seq ?_
  refine jn_reg 20 ?_
  refine jg_as rfl rfl rfl ?_
  refine jg_nils [(2, _)] ⟨rfl, trivial⟩ ?_
  refine jk_sel (is := []) (s0 rfl) rfl ?_
  refine jk_sn ?_
  refine jn_ret ?_
  refine jk_br (jk_sr (jk_lr (jk_br (jk_sr ?_))))
  exact jk_ret1 rfl (fun w hs => .tmp rfl) (fun w hs => ⟨rfl, hs.drop⟩)
theorem gen_Passages_c {w : World} {a0 : (List Passage)} {a1 : (List Passage)} {ha0 : Hd} {ha1 : Hd} {v : Bool} (hm : gen_Passages a0 a1 = some v) (Rha0 : Sl w ha0 Passage.enc a0) (Rha1 : Sl w ha1 Passage.enc a1) : Gives Try.prog 24 [ha0.v, ha1.v] w (.bool v) := by
  refine j_gives (vs := [ha0.v, ha1.v]) (U := fun (v : Bool) => .bool v) Try.func24 rfl Try.ntmps24 rfl rfl hm ?_
  unfold gen_Passages
  clear hm
  refine jn_seq ?_
  refine jn_reg 0 ?_
  refine jg_as rfl rfl rfl ?_
  refine jg_nils [(0, _), (1, _)] ⟨rfl, rfl, trivial⟩ ?_
  refine jk_sn ?_
  refine jn_seq ?_
  refine jn_seq ?_
  refine jn_reg 1 ?_
  refine jg_mv rfl rfl rfl ?_
  refine jg_y (fun w hs => yv_ln rfl (hs.arg Rha0)) rfl rfl ?_
  refine jg_mv rfl rfl rfl ?_
  refine jg_y (fun w hs => yv_ln rfl (hs.arg Rha1)) rfl rfl ?_
  refine jg_y (fun w hs => yv_neq rfl rfl) rfl rfl ?_
  refine jg_nils [(0, _), (1, _), (10, _)] ⟨rfl, rfl, rfl, trivial⟩ ?_
  refine jk_sn ?_
  refine jn_cond rfl ?_ ?_
  · refine jn_seq ?_
    refine jn_reg 2 ?_
    refine jg_as rfl rfl rfl ?_
    refine jg_nils [(4, _)] ⟨rfl, trivial⟩ ?_
    refine jk_sn ?_
    refine jn_ret ?_
    refine jk_sr ?_
    exact jk_ret1 rfl (fun w hs => .tmp rfl) (fun w hs => ⟨rfl, hs.drop⟩)
  refine jn_skip ?_
  refine jk_sn ?_
  refine jn_seq ?_
  refine jn_seq ?_
  refine jn_reg 3 ?_
  refine jg_as rfl rfl rfl ?_
  refine jg_nils [(0, _), (1, _), (5, _)] ⟨rfl, rfl, rfl, trivial⟩ ?_
  refine jk_sn ?_
  refine jn_block ?_
  refine jn_lp (n := big) (fun (s : Int) (g : Unit) => [(0, ha0.v), (1, ha1.v), (5, .int .i64 s)]) (fun (s : Int) (g : Unit) => []) (fun (s : Int) (g : Unit) => []) 0 () [] ⟨rfl, rfl, rfl, trivial⟩ rfl rfl rfl ?_
  intro z1 q2 n5 k3 H4
  refine jn_seq ?_
  refine jn_seq ?_
  refine jn_reg 4 ?_
  refine jg_mv rfl rfl rfl ?_
  refine jg_mv rfl rfl rfl ?_
  refine jg_y (fun w hs => yv_ln rfl (hs.arg Rha0)) rfl rfl ?_
  refine jg_y (fun w hs => yv_lss rfl rfl) rfl rfl ?_
  refine jg_nils [(0, _), (1, _), (5, _), (14, _)] ⟨rfl, rfl, rfl, rfl, trivial⟩ ?_
  refine jk_sn ?_
  refine jn_cond rfl ?_ ?_
  rotate_left
  · refine jn_exit ?_
    refine jk_se (jk_le (jk_bh (jk_sn ?_)))
    refine jn_seq ?_
    refine jn_reg 8 ?_
    refine jg_as rfl rfl rfl ?_
    refine jg_nils [(4, _)] ⟨rfl, trivial⟩ ?_
    refine jk_sn ?_
    refine jn_ret ?_
    exact jk_ret1 rfl (fun w hs => .tmp rfl) (fun w hs => ⟨rfl, hs.drop⟩)
  refine jn_skip ?_
  refine jk_sn ?_
  refine jn_seq ?_
  refine jn_block ?_
  refine jn_seq ?_
  refine jn_draw (L' := []) 6 [] [0, 1, 2, 3, 4, 5, 6, 7, 8] 511 511 [0, 0, 3, 4, 0, 0, 48, 64, 136] [0, 0, 3, 7, 0, 0, 48, 112, 255] [(0, true), (1, true), (2, true), (3, true), (4, true), (5, true), (6, true), (7, true), (8, true)] rfl (np_seq (np_blk (np_seq (np_rnd (np_blk (np_seq np_rt)))))) (by kernel_rfl) (by kernel_rfl) (by kernel_rfl) (by kernel_rfl) (by kernel_rfl) (by kernel_rfl) (by kernel_rfl) (by kernel_rfl) ?_
  refine jd_mv rfl rfl rfl rfl ?_
  refine jd_mv rfl rfl rfl rfl ?_
  refine jd_ix fun x6 h7 => ?_
  refine jd_y rfl (fun w hs => yv_ix rfl rfl (hs.arg Rha0) h7) rfl rfl ?_
  refine jd_y rfl (fun w hs => yv_eS rfl (hs.arg Rha0) h7.1 (l6 rfl) rfl) rfl rfl ?_
  refine jd_mv rfl rfl rfl rfl ?_
  refine jd_mv rfl rfl rfl rfl ?_
  refine jd_ix fun x8 h9 => ?_
  refine jd_y rfl (fun w hs => yv_ix rfl rfl (hs.arg Rha1) h9) rfl rfl ?_
  refine jd_y rfl (fun w hs => yv_eS rfl (hs.arg Rha1) h9.1 (l6 rfl) rfl) rfl rfl ?_
  refine jd_y rfl (fun w hs => yne43 rfl rfl) rfl rfl ?_
  refine jd_nils [(0, _), (1, _), (5, _), (25, _)] ⟨rfl, rfl, rfl, rfl, trivial⟩ ?_
  refine jk_sn ?_
  refine jn_cond rfl ?_ ?_
  · refine jn_seq ?_
    refine jn_reg 7 ?_
    refine jg_as rfl rfl rfl ?_
    refine jg_nils [(4, _)] ⟨rfl, trivial⟩ ?_
    refine jk_sn ?_
    refine jn_ret ?_
    refine jk_br (jk_sr (jk_lr (jk_br (jk_sr ?_))))
    exact jk_ret1 rfl (fun w hs => .tmp rfl) (fun w hs => ⟨rfl, hs.drop⟩)
  refine jn_skip ?_
  refine jk_bn (jk_sn ?_)
  refine jn_reg 5 ?_
  refine jg_mv rfl rfl rfl ?_
  refine jg_y (fun w hs => yv_add_w rfl rfl) rfl rfl ?_
  refine jg_as rfl rfl rfl ?_
  refine jg_nils [(0, _), (1, _), (5, _)] ⟨rfl, rfl, rfl, trivial⟩ ?_
  exact jk_use H4 (w64 (z1 + 1)) () [] ⟨rfl, rfl, rfl, trivial⟩ rfl rfl rfl
theorem law20_RunoffParts_c {w : World} {a0 : (List Int)} {ha0 : Hd} {v : Bool} (hm : law20_RunoffParts a0 = some v) (Rha0 : Sl w ha0 encI a0) : Gives Try.prog 5 [ha0.v] w (.bool v) := by
  refine j_gives (vs := [ha0.v]) (U := fun (v : Bool) => .bool v) Try.func5 rfl Try.ntmps5 rfl rfl hm ?_
  unfold law20_RunoffParts
  clear hm
  refine jn_seq ?_
  refine jn_reg 0 ?_
  refine jg_as rfl rfl rfl ?_
  refine jg_nils [(0, _)] ⟨rfl, trivial⟩ ?_
  refine jk_sn ?_
  refine jn_seq ?_
  refine jn_reg 1 ?_
  refine jg_mv rfl rfl rfl ?_
  refine jg_c rfl (fun v w hs hm => gen_New_c hm (hs.arg Rha0)) rfl rfl fun v1 q2 => ?_
  refine jg_L (r1 rfl) ?_
  refine jg_as rfl rfl rfl ?_
  refine jg_nils [(3, _)] ⟨rfl, trivial⟩ ?_
  refine jk_sn ?_
  refine jn_seq ?_
  refine jn_reg 2 ?_
  refine jg_mv rfl rfl rfl ?_
  refine jl_c 0 rfl rfl (fun v w hs hm => gen_Maker_Pieces_c hm (hs.blkL (i := 0) rfl) (hs.arg Rha0) (hs.offAL 0 Rha0 rfl)) (fun _ => rfl) rfl rfl fun v3 q4 => ?_
  refine jg_L (r2 rfl) ?_
  refine jg_as rfl rfl rfl ?_
  refine jg_nils [(3, _), (4, _)] ⟨rfl, rfl, trivial⟩ ?_
  refine jk_sn ?_
  refine jn_seq ?_
  refine jn_reg 3 ?_
  refine jg_mv rfl rfl rfl ?_
  refine jg_mv rfl rfl rfl ?_
  refine jl_c 1 rfl rfl (fun v w hs hm => gen_Maker_Motion_c hm (hs.blkL (i := 1) rfl) (hs.arg Rha0) (hs.offAL 1 Rha0 rfl) (hs.row 0 rfl) (hs.offLL 0 1 rfl rfl)) (fun _ => rfl) rfl rfl fun v5 q6 => ?_
  refine jg_L (r4 rfl) ?_
  refine jg_alloc (l5 rfl) rfl rfl fun g7 => ?_
  refine jg_store 0 rfl rfl rfl (l5 rfl) rfl rfl rfl rfl (l5 rfl) (r5 rfl) ?_
  refine jg_nils [(3, _), (4, _), (5, _)] ⟨rfl, rfl, rfl, trivial⟩ ?_
  refine jk_sn ?_
  refine jn_seq ?_
  refine jn_reg 4 ?_
  refine jg_mv rfl rfl rfl ?_
  refine jg_y (fun w hs => yv_load rfl (ldBB (hs.blkL (i := 0) rfl) rfl)) rfl rfl ?_
  refine jl_c 4 rfl rfl (fun v w hs hm => gen_Maker_Run_c (a1 := v5.1) hm (hs.blkL (i := 4) rfl) (hs.arg Rha0) (hs.offAL 4 Rha0 rfl) (hs.row 1 rfl) (hs.offLL 1 4 rfl rfl) (hs.row 2 rfl) (hs.offLL 2 4 rfl rfl)) (fun _ => rfl) rfl rfl fun v8 q9 => ?_
  refine jg_L (r7 rfl) ?_
  refine jg_alloc (l3 rfl) rfl rfl fun g10 => ?_
  refine jg_store 0 rfl rfl rfl (l3 rfl) rfl rfl rfl rfl (l3 rfl) (r8 rfl) ?_
  refine jg_nils [(3, _), (4, _), (5, _), (6, _)] ⟨rfl, rfl, rfl, rfl, trivial⟩ ?_
  refine jk_sn ?_
  refine jn_seq ?_
  refine jn_reg 5 ?_
  refine jg_mv rfl rfl rfl ?_
  refine jg_mv rfl rfl rfl ?_
  refine jg_y (fun w hs => yv_ln rfl (hs.row 6 rfl)) rfl rfl ?_
  refine jl_c 7 rfl rfl (fun v w hs hm => gen_Maker_From_c hm (hs.blkL (i := 7) rfl) (hs.arg Rha0) (hs.offAL 7 Rha0 rfl)) (fun _ => rfl) rfl rfl fun v11 q12 => ?_
  refine jg_L (r8 rfl) ?_
  refine jg_as rfl rfl rfl ?_
  refine jg_nils [(4, _), (5, _), (6, _), (7, _)] ⟨rfl, rfl, rfl, rfl, trivial⟩ ?_
  refine jk_sn ?_
  refine jn_seq ?_
  refine jn_reg 6 ?_
  refine jg_mv rfl rfl rfl ?_
  refine jg_mv rfl rfl rfl ?_
  refine jg_ck fun h13 => ?_
  refine jg_y (fun w hs => yv_hi rfl rfl (hs.row 6 rfl) (of_decide_eq_true h13)) rfl rfl ?_
  refine jg_c0 rfl (fun v w hs hm => r20_Retarders_c hm (Sl.hi (hs.row 6 rfl) (of_decide_eq_true h13))) rfl rfl fun v14 => ?_
  refine jg_as rfl rfl rfl ?_
  refine jg_nils [(4, _), (5, _), (6, _), (7, _), (8, _)] ⟨rfl, rfl, rfl, rfl, rfl, trivial⟩ ?_
  refine jk_sn ?_
  refine jn_seq ?_
  refine jn_reg 7 ?_
  refine jg_mv rfl rfl rfl ?_
  refine jg_y (fun w hs => yv_load rfl (ldBB (hs.blkL (i := 3) rfl) rfl)) rfl rfl ?_
  refine jg_c rfl (fun v w hs hm => runoff_Pass_c (a1 := v5.1) hm (hs.row 6 rfl) (hs.row 4 rfl) (hs.row 5 rfl)) rfl rfl fun v15 q16 => ?_
  refine jg_L (r9 rfl) ?_
  refine jg_mv rfl rfl rfl ?_
  refine jg_y (fun w hs => yv_extract rfl rfl) rfl rfl ?_
  refine jg_y (fun w hs => yv_extract rfl rfl) rfl rfl ?_
  refine jg_as rfl rfl rfl ?_
  refine jg_as rfl rfl rfl ?_
  refine jg_nils [(4, _), (5, _), (6, _), (7, _), (8, _), (9, _), (10, _)] ⟨rfl, rfl, rfl, rfl, rfl, rfl, rfl, trivial⟩ ?_
  refine jk_sn ?_
  refine jn_seq ?_
  refine jn_draw (L' := [_, _, _, _, _, _, _, _]) 8 [0, 1, 2, 3, 4, 5, 6, 7] [0, 1, 2, 3, 4, 5, 6, 7, 8, 9, 10, 11, 12, 13, 14, 15, 16, 17, 18, 19, 20, 21] 4194303 4194303 [0, 0, 3, 0, 8, 0, 32, 0, 192, 0, 512, 0, 2048, 0, 12288, 17680, 32772, 65536, 131072, 131072, 524287, 2097151] [0, 0, 3, 0, 8, 0, 32, 0, 224, 0, 512, 0, 2048, 0, 14336, 32760, 65535, 131071, 262143, 262143, 524287, 2097151] [(0, true), (1, true), (2, true), (3, true), (4, true), (5, true), (6, true), (7, true), (8, true), (9, true), (10, true), (11, true), (12, true), (13, true), (14, true), (15, true), (16, false), (17, true), (18, true), (19, true), (20, true), (21, true)] rfl (np_seq np_rt) (by kernel_rfl) (by kernel_rfl) (by kernel_rfl) (by kernel_rfl) (by kernel_rfl) (by kernel_rfl) (by kernel_rfl) (by kernel_rfl) ?_
  refine jd_mv rfl rfl rfl rfl ?_
  refine jd_mv rfl rfl rfl rfl ?_
  refine jd_ck fun h17 => ?_
  refine jd_y rfl (fun w hs => yv_hi rfl rfl (hs.row 7 rfl) (of_decide_eq_true h17)) rfl rfl ?_
  refine jd_y rfl (fun w hs => yv_fieldAddr rfl) rfl rfl ?_
  refine jd_y rfl (fun w hs => yv_load rfl (ldPB (hs.blk (i := 4) rfl) (l2 rfl) rfl)) rfl rfl ?_
  refine jd_y rfl (fun w hs => yv_fieldAddr rfl) rfl rfl ?_
  refine jd_y rfl (fun w hs => yv_load rfl (ld1B (hs.blk (i := 4) rfl) rfl)) rfl rfl ?_
  refine jd_mv rfl rfl rfl rfl ?_
  refine jd_ck fun h18 => ?_
  refine jd_y rfl (fun w hs => yv_hi rfl rfl (hs.row 5 rfl) (of_decide_eq_true h18)) rfl rfl ?_
  refine jd_y rfl (fun w hs => yv_fieldAddr rfl) rfl rfl ?_
  refine jd_y rfl (fun w hs => yv_load rfl (ld1B (hs.blk (i := 4) rfl) rfl)) rfl rfl ?_
  refine jd_y rfl (fun w hs => yv_fieldAddr rfl) rfl rfl ?_
  refine jd_y rfl (fun w hs => yv_load rfl (ld1B (hs.blk (i := 4) rfl) rfl)) rfl rfl ?_
  refine jd_mv rfl rfl rfl rfl ?_
  refine jd_ck fun h19 => ?_
  refine jd_y rfl (fun w hs => yv_hi rfl rfl (hs.row 6 rfl) (of_decide_eq_true h19)) rfl rfl ?_
  refine jd_y rfl (fun w hs => yv_build rfl (o5 rfl)) rfl rfl ?_
  refine jd_h rfl ?_
  refine jg_c rfl (fun v w hs hm => runoff_Pass_c (a1 := (Motion.mk v5.1.Speed (v5.1.Class.take (Int.toNat v11.1)) v5.1.Error (v5.1.Targets.take (Int.toNat v14)))) hm (Sl.hi (hs.row 7 rfl) (of_decide_eq_true h17)) (Sl.hi (hs.row 5 rfl) (of_decide_eq_true h18)) (Sl.hi (hs.row 6 rfl) (of_decide_eq_true h19))) rfl rfl fun v20 q21 => ?_
  refine jg_L (r10 rfl) ?_
  refine jg_nil ?_
  refine jk_dn [1, 2, 3, 4, 5, 6, 7, 8] rfl ?_
  refine jd_mv rfl rfl rfl rfl ?_
  refine jd_y rfl (fun w hs => yv_extract rfl rfl) rfl rfl ?_
  refine jd_y rfl (fun w hs => yv_extract rfl rfl) rfl rfl ?_
  refine jd_as rfl rfl rfl rfl ?_
  refine jd_as rfl rfl rfl rfl ?_
  refine jd_nils [(4, _), (6, _), (7, _), (8, _), (9, _), (10, _), (11, _), (12, _)] ⟨rfl, rfl, rfl, rfl, rfl, rfl, rfl, rfl, trivial⟩ ?_
  refine jk_sel (is := [0, 1, 2, 3, 4, 8]) (s6 rfl) rfl ?_
  refine jk_sn ?_
  refine jn_seq ?_
  refine jn_reg 9 ?_
  refine jg_mv rfl rfl rfl ?_
  refine jg_y (fun w hs => yv_load rfl (ldBB (hs.blkL (i := 2) rfl) rfl)) rfl rfl ?_
  refine jg_c rfl (fun v w hs hm => runoff_Point_c (a1 := v8.1) hm (hs.row 5 rfl) (hs.row 3 rfl) (hs.row 4 rfl)) rfl rfl fun v22 q23 => ?_
  refine jg_L (r7 rfl) ?_
  refine jg_mv rfl rfl rfl ?_
  refine jg_y (fun w hs => yv_extract rfl rfl) rfl rfl ?_
  refine jg_y (fun w hs => yv_extract rfl rfl) rfl rfl ?_
  refine jg_y (fun w hs => yv_extract rfl rfl) rfl rfl ?_
  refine jg_as rfl rfl rfl ?_
  refine jg_as rfl rfl rfl ?_
  refine jg_as rfl rfl rfl ?_
  refine jg_nils [(4, _), (6, _), (7, _), (8, _), (9, _), (10, _), (11, _), (12, _), (13, _), (15, _)] ⟨rfl, rfl, rfl, rfl, rfl, rfl, rfl, rfl, rfl, rfl, trivial⟩ ?_
  refine jk_sn ?_
  refine jn_seq ?_
  refine jn_draw (L' := [_, _, _, _, _, _, _]) 10 [0, 1, 2, 3, 4, 5, 6] [0, 1, 2, 3, 4, 5, 6, 7, 8, 9, 10, 11, 12, 13, 14, 15, 16, 17, 18, 19, 20, 21] 4194303 4194303 [0, 0, 3, 0, 8, 0, 32, 0, 192, 0, 512, 0, 3072, 4368, 8196, 16384, 32768, 32768, 32768, 131071, 786431, 2097151] [0, 0, 3, 0, 8, 0, 32, 0, 224, 0, 512, 0, 3584, 8184, 16383, 32767, 65535, 65535, 65535, 131071, 786431, 2097151] [(0, true), (1, true), (2, true), (3, true), (4, true), (5, true), (6, true), (7, true), (8, true), (9, true), (10, true), (11, true), (12, true), (13, true), (14, false), (15, true), (16, true), (17, true), (18, true), (19, true), (20, true), (21, true)] rfl (np_seq np_rt) (by kernel_rfl) (by kernel_rfl) (by kernel_rfl) (by kernel_rfl) (by kernel_rfl) (by kernel_rfl) (by kernel_rfl) (by kernel_rfl) ?_
  refine jd_mv rfl rfl rfl rfl ?_
  refine jd_mv rfl rfl rfl rfl ?_
  refine jd_ck fun h24 => ?_
  refine jd_y rfl (fun w hs => yv_hi rfl rfl (hs.row 6 rfl) (of_decide_eq_true h24)) rfl rfl ?_
  refine jd_y rfl (fun w hs => yv_fieldAddr rfl) rfl rfl ?_
  refine jd_y rfl (fun w hs => yv_load rfl (ld1B (hs.blk (i := 3) rfl) rfl)) rfl rfl ?_
  refine jd_y rfl (fun w hs => yv_fieldAddr rfl) rfl rfl ?_
  refine jd_y rfl (fun w hs => yv_load rfl (ld1B (hs.blk (i := 3) rfl) rfl)) rfl rfl ?_
  refine jd_mv rfl rfl rfl rfl ?_
  refine jd_ck fun h25 => ?_
  refine jd_y rfl (fun w hs => yv_hi rfl rfl (hs.row 4 rfl) (of_decide_eq_true h25)) rfl rfl ?_
  refine jd_y rfl (fun w hs => yv_fieldAddr rfl) rfl rfl ?_
  refine jd_y rfl (fun w hs => yv_load rfl (ld1B (hs.blk (i := 3) rfl) rfl)) rfl rfl ?_
  refine jd_mv rfl rfl rfl rfl ?_
  refine jd_ck fun h26 => ?_
  refine jd_y rfl (fun w hs => yv_hi rfl rfl (hs.row 5 rfl) (of_decide_eq_true h26)) rfl rfl ?_
  refine jd_y rfl (fun w hs => yv_build rfl (o3 rfl)) rfl rfl ?_
  refine jd_h rfl ?_
  refine jg_c rfl (fun v w hs hm => runoff_Point_c (a1 := (Run.mk v8.1.Speed (v8.1.Resist.take (Int.toNat v11.1)) (v8.1.Targets.take (Int.toNat v14)))) hm (Sl.hi (hs.row 6 rfl) (of_decide_eq_true h24)) (Sl.hi (hs.row 4 rfl) (of_decide_eq_true h25)) (Sl.hi (hs.row 5 rfl) (of_decide_eq_true h26))) rfl rfl fun v27 q28 => ?_
  refine jg_L (r8 rfl) ?_
  refine jg_nil ?_
  refine jk_dn [1, 2, 3, 4, 5, 6, 7] rfl ?_
  refine jd_mv rfl rfl rfl rfl ?_
  refine jd_y rfl (fun w hs => yv_extract rfl rfl) rfl rfl ?_
  refine jd_y rfl (fun w hs => yv_extract rfl rfl) rfl rfl ?_
  refine jd_y rfl (fun w hs => yv_extract rfl rfl) rfl rfl ?_
  refine jd_as rfl rfl rfl rfl ?_
  refine jd_as rfl rfl rfl rfl ?_
  refine jd_as rfl rfl rfl rfl ?_
  refine jd_nils [(4, _), (7, _), (9, _), (10, _), (11, _), (12, _), (13, _), (15, _), (16, _), (18, _)] ⟨rfl, rfl, rfl, rfl, rfl, rfl, rfl, rfl, rfl, rfl, trivial⟩ ?_
  refine jk_sel (is := [0, 1, 2, 3, 7]) (s5 rfl) rfl ?_
  refine jk_sn ?_
  refine jn_seq ?_
  refine jn_seq ?_
  refine jn_reg 11 ?_
  refine jg_mv rfl rfl rfl ?_
  refine jg_y (fun w hs => yv_neq rfl rfl) rfl rfl ?_
  refine jg_mv rfl rfl rfl ?_
  refine jg_split 91 rfl ?_ ?_
  · refine jg_skip rfl rfl ?_
    refine jg_skip rfl rfl ?_
    refine jg_y (fun w hs => yv_pick_t rfl rfl) rfl rfl ?_
    refine jg_mv rfl rfl rfl ?_
    refine jg_skip rfl rfl ?_
    refine jg_skip rfl rfl ?_
    refine jg_y (fun w hs => yv_pick_t rfl rfl) rfl rfl ?_
    refine jg_mv rfl rfl rfl ?_
    refine jg_skip rfl rfl ?_
    refine jg_skip rfl rfl ?_
    refine jg_y (fun w hs => yv_pick_t rfl rfl) rfl rfl ?_
    refine jg_mv rfl rfl rfl ?_
    refine jg_skip rfl rfl ?_
    refine jg_skip rfl rfl ?_
    refine jg_skip rfl rfl ?_
    refine jg_skip rfl rfl ?_
    refine jg_skip rfl rfl ?_
    refine jg_skip rfl rfl ?_
    refine jg_y (fun w hs => yv_pick_t rfl rfl) rfl rfl ?_
    refine jg_mv rfl rfl rfl ?_
    refine jg_skip rfl rfl ?_
    refine jg_skip rfl rfl ?_
    refine jg_skip rfl rfl ?_
    refine jg_skip rfl rfl ?_
    refine jg_skip rfl rfl ?_
    refine jg_y (fun w hs => yv_pick_t rfl rfl) rfl rfl ?_
    refine jg_nils [(7, _), (9, _), (11, _), (13, _), (16, _), (117, _)] ⟨rfl, rfl, rfl, rfl, rfl, rfl, trivial⟩ ?_
    refine jk_sn ?_
    refine jn_ct rfl ?_
    refine jn_seq ?_
    refine jn_reg 12 ?_
    refine jg_as rfl rfl rfl ?_
    refine jg_nils [(2, _)] ⟨rfl, trivial⟩ ?_
    refine jk_sel (is := []) (s0 rfl) rfl ?_
    refine jk_sn ?_
    refine jn_ret ?_
    refine jk_sr ?_
    exact jk_ret1 rfl (fun w hs => .tmp rfl) (fun w hs => ⟨rfl, hs.drop⟩)
  refine jg_mv rfl rfl rfl ?_
  refine jg_y (fun w hs => yv_neq rfl rfl) rfl rfl ?_
  refine jg_y (fun w hs => yv_pick_f rfl rfl) rfl rfl ?_
  refine jg_mv rfl rfl rfl ?_
  refine jg_split 95 rfl ?_ ?_
  · refine jg_skip rfl rfl ?_
    refine jg_skip rfl rfl ?_
    refine jg_y (fun w hs => yv_pick_t rfl rfl) rfl rfl ?_
    refine jg_mv rfl rfl rfl ?_
    refine jg_skip rfl rfl ?_
    refine jg_skip rfl rfl ?_
    refine jg_y (fun w hs => yv_pick_t rfl rfl) rfl rfl ?_
    refine jg_mv rfl rfl rfl ?_
    refine jg_skip rfl rfl ?_
    refine jg_skip rfl rfl ?_
    refine jg_skip rfl rfl ?_
    refine jg_skip rfl rfl ?_
    refine jg_skip rfl rfl ?_
    refine jg_skip rfl rfl ?_
    refine jg_y (fun w hs => yv_pick_t rfl rfl) rfl rfl ?_
    refine jg_mv rfl rfl rfl ?_
    refine jg_skip rfl rfl ?_
    refine jg_skip rfl rfl ?_
    refine jg_skip rfl rfl ?_
    refine jg_skip rfl rfl ?_
    refine jg_skip rfl rfl ?_
    refine jg_y (fun w hs => yv_pick_t rfl rfl) rfl rfl ?_
    refine jg_nils [(7, _), (9, _), (11, _), (13, _), (16, _), (117, _)] ⟨rfl, rfl, rfl, rfl, rfl, rfl, trivial⟩ ?_
    refine jk_sn ?_
    refine jn_ct rfl ?_
    refine jn_seq ?_
    refine jn_reg 12 ?_
    refine jg_as rfl rfl rfl ?_
    refine jg_nils [(2, _)] ⟨rfl, trivial⟩ ?_
    refine jk_sel (is := []) (s0 rfl) rfl ?_
    refine jk_sn ?_
    refine jn_ret ?_
    refine jk_sr ?_
    exact jk_ret1 rfl (fun w hs => .tmp rfl) (fun w hs => ⟨rfl, hs.drop⟩)
  refine jg_mv rfl rfl rfl ?_
  refine jg_y (fun w hs => yv_neq rfl rfl) rfl rfl ?_
  refine jg_y (fun w hs => yv_pick_f rfl rfl) rfl rfl ?_
  refine jg_mv rfl rfl rfl ?_
  refine jg_split 99 rfl ?_ ?_
  · refine jg_skip rfl rfl ?_
    refine jg_skip rfl rfl ?_
    refine jg_y (fun w hs => yv_pick_t rfl rfl) rfl rfl ?_
    refine jg_mv rfl rfl rfl ?_
    refine jg_skip rfl rfl ?_
    refine jg_skip rfl rfl ?_
    refine jg_skip rfl rfl ?_
    refine jg_skip rfl rfl ?_
    refine jg_skip rfl rfl ?_
    refine jg_skip rfl rfl ?_
    refine jg_y (fun w hs => yv_pick_t rfl rfl) rfl rfl ?_
    refine jg_mv rfl rfl rfl ?_
    refine jg_skip rfl rfl ?_
    refine jg_skip rfl rfl ?_
    refine jg_skip rfl rfl ?_
    refine jg_skip rfl rfl ?_
    refine jg_skip rfl rfl ?_
    refine jg_y (fun w hs => yv_pick_t rfl rfl) rfl rfl ?_
    refine jg_nils [(7, _), (9, _), (11, _), (13, _), (16, _), (117, _)] ⟨rfl, rfl, rfl, rfl, rfl, rfl, trivial⟩ ?_
    refine jk_sn ?_
    refine jn_ct rfl ?_
    refine jn_seq ?_
    refine jn_reg 12 ?_
    refine jg_as rfl rfl rfl ?_
    refine jg_nils [(2, _)] ⟨rfl, trivial⟩ ?_
    refine jk_sel (is := []) (s0 rfl) rfl ?_
    refine jk_sn ?_
    refine jn_ret ?_
    refine jk_sr ?_
    exact jk_ret1 rfl (fun w hs => .tmp rfl) (fun w hs => ⟨rfl, hs.drop⟩)
  refine jg_mv rfl rfl rfl ?_
  refine jg_y (fun w hs => yv_neq rfl rfl) rfl rfl ?_
  refine jg_y (fun w hs => yv_pick_f rfl rfl) rfl rfl ?_
  refine jg_mv rfl rfl rfl ?_
  refine jg_split 103 rfl ?_ ?_
  · refine jg_skip rfl rfl ?_
    refine jg_skip rfl rfl ?_
    refine jg_skip rfl rfl ?_
    refine jg_skip rfl rfl ?_
    refine jg_skip rfl rfl ?_
    refine jg_skip rfl rfl ?_
    refine jg_y (fun w hs => yv_pick_t rfl rfl) rfl rfl ?_
    refine jg_mv rfl rfl rfl ?_
    refine jg_skip rfl rfl ?_
    refine jg_skip rfl rfl ?_
    refine jg_skip rfl rfl ?_
    refine jg_skip rfl rfl ?_
    refine jg_skip rfl rfl ?_
    refine jg_y (fun w hs => yv_pick_t rfl rfl) rfl rfl ?_
    refine jg_nils [(7, _), (9, _), (11, _), (13, _), (16, _), (117, _)] ⟨rfl, rfl, rfl, rfl, rfl, rfl, trivial⟩ ?_
    refine jk_sn ?_
    refine jn_ct rfl ?_
    refine jn_seq ?_
    refine jn_reg 12 ?_
    refine jg_as rfl rfl rfl ?_
    refine jg_nils [(2, _)] ⟨rfl, trivial⟩ ?_
    refine jk_sel (is := []) (s0 rfl) rfl ?_
    refine jk_sn ?_
    refine jn_ret ?_
    refine jk_sr ?_
    exact jk_ret1 rfl (fun w hs => .tmp rfl) (fun w hs => ⟨rfl, hs.drop⟩)
  refine jg_mv rfl rfl rfl ?_
  refine jg_y (fun w hs => yv_ln rfl (hs.row 3 rfl)) rfl rfl ?_
  refine jg_mv rfl rfl rfl ?_
  refine jg_y (fun w hs => yv_ln rfl (hs.row 4 rfl)) rfl rfl ?_
  refine jg_y (fun w hs => yv_add_w rfl rfl) rfl rfl ?_
  refine jg_y (fun w hs => yv_neq rfl rfl) rfl rfl ?_
  refine jg_y (fun w hs => yv_pick_f rfl rfl) rfl rfl ?_
  refine jg_mv rfl rfl rfl ?_
  refine jg_split 111 rfl ?_ ?_
  · refine jg_skip rfl rfl ?_
    refine jg_skip rfl rfl ?_
    refine jg_skip rfl rfl ?_
    refine jg_skip rfl rfl ?_
    refine jg_skip rfl rfl ?_
    refine jg_y (fun w hs => yv_pick_t rfl rfl) rfl rfl ?_
    refine jg_nils [(7, _), (9, _), (11, _), (13, _), (16, _), (117, _)] ⟨rfl, rfl, rfl, rfl, rfl, rfl, trivial⟩ ?_
    refine jk_sn ?_
    refine jn_ct rfl ?_
    refine jn_seq ?_
    refine jn_reg 12 ?_
    refine jg_as rfl rfl rfl ?_
    refine jg_nils [(2, _)] ⟨rfl, trivial⟩ ?_
    refine jk_sel (is := []) (s0 rfl) rfl ?_
    refine jk_sn ?_
    refine jn_ret ?_
    refine jk_sr ?_
    exact jk_ret1 rfl (fun w hs => .tmp rfl) (fun w hs => ⟨rfl, hs.drop⟩)
  refine jg_mv rfl rfl rfl ?_
  refine jg_y (fun w hs => yv_ln rfl (hs.row 1 rfl)) rfl rfl ?_
  refine jg_mv rfl rfl rfl ?_
  refine jg_y (fun w hs => yv_ln rfl (hs.row 0 rfl)) rfl rfl ?_
  refine jg_y (fun w hs => yv_lss rfl rfl) rfl rfl ?_
  refine jg_y (fun w hs => yv_pick_f rfl rfl) rfl rfl ?_
  refine jg_nils [(7, _), (9, _), (11, _), (13, _), (16, _), (117, _)] ⟨rfl, rfl, rfl, rfl, rfl, rfl, trivial⟩ ?_
  refine jk_sn ?_
  refine jn_cond rfl ?_ ?_
  · refine jn_seq ?_
    refine jn_reg 12 ?_
    refine jg_as rfl rfl rfl ?_
    refine jg_nils [(2, _)] ⟨rfl, trivial⟩ ?_
    refine jk_sel (is := []) (s0 rfl) rfl ?_
    refine jk_sn ?_
    refine jn_ret ?_
    refine jk_sr ?_
    exact jk_ret1 rfl (fun w hs => .tmp rfl) (fun w hs => ⟨rfl, hs.drop⟩)
  refine jn_skip ?_
  refine jk_sn ?_
  refine jn_seq ?_
  refine jn_reg 13 ?_
  refine jg_mv rfl rfl rfl ?_
  refine jg_mv rfl rfl rfl ?_
  refine jg_mv rfl rfl rfl ?_
  refine jg_y (fun w hs => yv_add_w rfl rfl) rfl rfl ?_
  refine jg_ck fun h29 => ?_
  refine jg_y (fun w hs => yv_hi rfl rfl (hs.row 3 rfl) (of_decide_eq_true h29)) rfl rfl ?_
  refine jg_c0 rfl (fun v w hs hm => gen_Passages_c hm (hs.row 2 rfl) (Sl.hi (hs.row 3 rfl) (of_decide_eq_true h29))) rfl rfl fun v30 => ?_
  refine jg_mv rfl rfl rfl ?_
  refine jg_split 124 rfl ?_ ?_
  rotate_left
  · refine jg_skip rfl rfl ?_
    refine jg_skip rfl rfl ?_
    refine jg_skip rfl rfl ?_
    refine jg_skip rfl rfl ?_
    refine jg_skip rfl rfl ?_
    refine jg_skip rfl rfl ?_
    refine jg_y (fun w hs => yv_pick_f rfl rfl) rfl rfl ?_
    refine jg_mv rfl rfl rfl ?_
    refine jg_skip rfl rfl ?_
    refine jg_skip rfl rfl ?_
    refine jg_skip rfl rfl ?_
    refine jg_skip rfl rfl ?_
    refine jg_skip rfl rfl ?_
    refine jg_skip rfl rfl ?_
    refine jg_skip rfl rfl ?_
    refine jg_skip rfl rfl ?_
    refine jg_skip rfl rfl ?_
    refine jg_skip rfl rfl ?_
    refine jg_skip rfl rfl ?_
    refine jg_skip rfl rfl ?_
    refine jg_y (fun w hs => yv_pick_f rfl rfl) rfl rfl ?_
    refine jg_mv rfl rfl rfl ?_
    refine jg_skip rfl rfl ?_
    refine jg_y (fun w hs => yv_pick_f rfl rfl) rfl rfl ?_
    refine jg_as rfl rfl rfl ?_
    refine jg_nils [(2, _)] ⟨rfl, trivial⟩ ?_
    refine jk_sel (is := []) (s0 rfl) rfl ?_
    refine jk_sn ?_
    refine jn_ret ?_
    exact jk_ret1 rfl (fun w hs => .tmp rfl) (fun w hs => ⟨rfl, hs.drop⟩)
  refine jg_mv rfl rfl rfl ?_
  refine jg_mv rfl rfl rfl ?_
  refine jg_mv rfl rfl rfl ?_
  refine jg_y (fun w hs => yv_ln rfl (hs.row 0 rfl)) rfl rfl ?_
  refine jg_ck fun h31 => ?_
  refine jg_y (fun w hs => yv_hi rfl rfl (hs.row 1 rfl) (of_decide_eq_true h31)) rfl rfl ?_
  refine jg_c0 rfl (fun v w hs hm => gen_Moments_c hm (hs.row 0 rfl) (Sl.hi (hs.row 1 rfl) (of_decide_eq_true h31))) rfl rfl fun v32 => ?_
  refine jg_y (fun w hs => yv_pick_t rfl rfl) rfl rfl ?_
  refine jg_mv rfl rfl rfl ?_
  refine jg_split 132 rfl ?_ ?_
  rotate_left
  · refine jg_skip rfl rfl ?_
    refine jg_skip rfl rfl ?_
    refine jg_skip rfl rfl ?_
    refine jg_skip rfl rfl ?_
    refine jg_skip rfl rfl ?_
    refine jg_skip rfl rfl ?_
    refine jg_skip rfl rfl ?_
    refine jg_skip rfl rfl ?_
    refine jg_skip rfl rfl ?_
    refine jg_skip rfl rfl ?_
    refine jg_skip rfl rfl ?_
    refine jg_skip rfl rfl ?_
    refine jg_y (fun w hs => yv_pick_f rfl rfl) rfl rfl ?_
    refine jg_mv rfl rfl rfl ?_
    refine jg_skip rfl rfl ?_
    refine jg_y (fun w hs => yv_pick_f rfl rfl) rfl rfl ?_
    refine jg_as rfl rfl rfl ?_
    refine jg_nils [(2, _)] ⟨rfl, trivial⟩ ?_
    refine jk_sel (is := []) (s0 rfl) rfl ?_
    refine jk_sn ?_
    refine jn_ret ?_
    exact jk_ret1 rfl (fun w hs => .tmp rfl) (fun w hs => ⟨rfl, hs.drop⟩)
  refine jg_mv rfl rfl rfl ?_
  refine jg_y (fun w hs => yv_ln rfl (hs.row 0 rfl)) rfl rfl ?_
  refine jg_mv rfl rfl rfl ?_
  refine jg_y (fun w hs => yv_ln rfl (hs.row 1 rfl)) rfl rfl ?_
  refine jg_y (fun w hs => yv_eql rfl rfl) rfl rfl ?_
  refine jg_mv rfl rfl rfl ?_
  refine jg_split 138 rfl ?_ ?_
  · refine jg_skip rfl rfl ?_
    refine jg_skip rfl rfl ?_
    refine jg_skip rfl rfl ?_
    refine jg_skip rfl rfl ?_
    refine jg_skip rfl rfl ?_
    refine jg_y (fun w hs => yv_pick_t rfl rfl) rfl rfl ?_
    refine jg_y (fun w hs => yv_pick_t rfl rfl) rfl rfl ?_
    refine jg_mv rfl rfl rfl ?_
    refine jg_c0 rfl (fun v w hs hm => law20_sane_c hm ) rfl rfl fun v33 => ?_
    refine jg_y (fun w hs => yv_pick_t rfl rfl) rfl rfl ?_
    refine jg_as rfl rfl rfl ?_
    refine jg_nils [(2, _)] ⟨rfl, trivial⟩ ?_
    refine jk_sel (is := []) (s0 rfl) rfl ?_
    refine jk_sn ?_
    refine jn_ret ?_
    exact jk_ret1 rfl (fun w hs => .tmp rfl) (fun w hs => ⟨rfl, hs.drop⟩)
  refine jg_mv rfl rfl rfl ?_
  refine jg_y (fun w hs => yv_ln rfl (hs.row 0 rfl)) rfl rfl ?_
  refine jg_mv rfl rfl rfl ?_
  refine jg_y (fun w hs => yv_add_w rfl rfl) rfl rfl ?_
  refine jg_y (fun w hs => yv_eql rfl rfl) rfl rfl ?_
  refine jg_y (fun w hs => yv_pick_f rfl rfl) rfl rfl ?_
  refine jg_y (fun w hs => yv_pick_t rfl rfl) rfl rfl ?_
  refine jg_mv rfl rfl rfl ?_
  refine jg_split 146 rfl ?_ ?_
  · refine jg_c0 rfl (fun v w hs hm => law20_sane_c hm ) rfl rfl fun v34 => ?_
    refine jg_y (fun w hs => yv_pick_t rfl rfl) rfl rfl ?_
    refine jg_as rfl rfl rfl ?_
    refine jg_nils [(2, _)] ⟨rfl, trivial⟩ ?_
    refine jk_sel (is := []) (s0 rfl) rfl ?_
    refine jk_sn ?_
    refine jn_ret ?_
    exact jk_ret1 rfl (fun w hs => .tmp rfl) (fun w hs => ⟨rfl, hs.drop⟩)
  refine jg_skip rfl rfl ?_
  refine jg_y (fun w hs => yv_pick_f rfl rfl) rfl rfl ?_
  refine jg_as rfl rfl rfl ?_
  refine jg_nils [(2, _)] ⟨rfl, trivial⟩ ?_
  refine jk_sel (is := []) (s0 rfl) rfl ?_
  refine jk_sn ?_
  refine jn_ret ?_
  exact jk_ret1 rfl (fun w hs => .tmp rfl) (fun w hs => ⟨rfl, hs.drop⟩)
theorem law20_RunoffBrakes_c {w : World} {a0 : (List Int)} {ha0 : Hd} {v : Bool} (hm : law20_RunoffBrakes a0 = some v) (Rha0 : Sl w ha0 encI a0) : Gives Try.prog 6 [ha0.v] w (.bool v) := by
  refine j_gives (vs := [ha0.v]) (U := fun (v : Bool) => .bool v) Try.func6 rfl Try.ntmps6 rfl rfl hm ?_
  unfold law20_RunoffBrakes
  clear hm
  refine jn_seq ?_
  refine jn_reg 0 ?_
  refine jg_as rfl rfl rfl ?_
  refine jg_nils [(0, _)] ⟨rfl, trivial⟩ ?_
  refine jk_sn ?_
  refine jn_seq ?_
  refine jn_reg 1 ?_
  refine jg_mv rfl rfl rfl ?_
  refine jg_c rfl (fun v w hs hm => gen_New_c hm (hs.arg Rha0)) rfl rfl fun v1 q2 => ?_
  refine jg_L (r1 rfl) ?_
  refine jg_as rfl rfl rfl ?_
  refine jg_nils [(3, _)] ⟨rfl, trivial⟩ ?_
  refine jk_sn ?_
  refine jn_seq ?_
  refine jn_reg 2 ?_
  refine jg_mv rfl rfl rfl ?_
  refine jl_c 0 rfl rfl (fun v w hs hm => gen_Maker_Pieces_c hm (hs.blkL (i := 0) rfl) (hs.arg Rha0) (hs.offAL 0 Rha0 rfl)) (fun _ => rfl) rfl rfl fun v3 q4 => ?_
  refine jg_L (r2 rfl) ?_
  refine jg_y (fun w hs => yv_build rfl (o5 rfl)) rfl rfl ?_
  refine jg_lit (enc := Piece.enc) [(Piece.mk 0 5000 500 0 1000000000)] rfl rfl rfl rfl rfl rfl rfl rfl fun hd5 => ?_
  refine jg_append 1 rfl rfl rfl (fun w hs => (hs.row 0 rfl)) rfl rfl rfl fun y6 hd7 => ?_
  refine jg_L (r3 rfl) ?_
  refine jg_as rfl rfl rfl ?_
  refine jg_nils [(3, _), (4, _)] ⟨rfl, rfl, trivial⟩ ?_
  refine jk_sn ?_
  refine jn_seq ?_
  refine jn_reg 3 ?_
  refine jg_mv rfl rfl rfl ?_
  refine jg_mv rfl rfl rfl ?_
  refine jl_c 2 rfl rfl (fun v w hs hm => gen_Maker_Motion_c hm (hs.blkL (i := 2) rfl) (hs.arg Rha0) (hs.offAL 2 Rha0 rfl) (hs.row 1 rfl) (hs.offLL 1 2 rfl rfl)) (fun _ => rfl) rfl rfl fun v8 q9 => ?_
  refine jg_L (r5 rfl) ?_
  refine jg_alloc (l5 rfl) rfl rfl fun g10 => ?_
  refine jg_store 0 rfl rfl rfl (l5 rfl) rfl rfl rfl rfl (l5 rfl) (r6 rfl) ?_
  refine jg_nils [(3, _), (4, _), (5, _)] ⟨rfl, rfl, rfl, trivial⟩ ?_
  refine jk_sn ?_
  refine jn_seq ?_
  refine jn_reg 4 ?_
  refine jg_y (fun w hs => yv_fieldAddr rfl) rfl rfl ?_
  refine jg_y (fun w hs => yv_load rfl (ld1B (hs.blkL (i := 0) rfl) rfl)) rfl rfl ?_
  refine jg_y (fun w hs => yv_ln rfl (hs.row 2 rfl)) rfl rfl ?_
  refine jg_yl (fun w hs => yv_sub_w rfl rfl) rfl rfl fun x11 => ?_
  refine jg_as rfl rfl rfl ?_
  refine jg_nils [(3, _), (4, _), (5, _), (6, _)] ⟨rfl, rfl, rfl, rfl, trivial⟩ ?_
  refine jk_sn ?_
  refine jn_seq ?_
  refine jn_draw (L' := [_, _, _, _]) 5 [0, 1, 2, 4] [0, 1, 2, 3, 4, 5, 6] 127 255 [0, 1, 0, 0, 0, 24, 63, 127] [0, 1, 0, 0, 0, 24, 63, 127] [(0, true), (1, true), (2, true), (3, true), (4, false), (5, false), (6, true), (7, false)] rfl (np_seq np_rt) (by kernel_rfl) (by kernel_rfl) (by kernel_rfl) (by kernel_rfl) (by kernel_rfl) (by kernel_rfl) (by kernel_rfl) (by kernel_rfl) ?_
  refine jd_y rfl (fun w hs => yv_fieldAddr rfl) rfl rfl ?_
  refine jd_y rfl (fun w hs => yv_load rfl (ld1B (hs.blk (i := 0) rfl) rfl)) rfl rfl ?_
  refine jd_mv rfl rfl rfl rfl ?_
  refine jd_mv rfl rfl rfl rfl ?_
  refine jd_h rfl ?_
  refine jg_lit (enc := encI) [0, 300, 1200, 2500] rfl rfl rfl rfl rfl rfl rfl rfl fun hd12 => ?_
  refine jg_nil ?_
  refine jk_dn [1, 2, 3, 5] rfl ?_
  refine jd_h rfl ?_
  refine jl_c 6 rfl rfl (fun v w hs hm => gen_Maker_Pick_c hm (hs.blkL (i := 6) rfl) (hs.arg Rha0) (hs.offAL 6 Rha0 rfl) (hs.row 0 rfl) (hs.offLL 0 6 rfl rfl)) (fun _ => rfl) rfl rfl fun v13 q14 => ?_
  refine jg_L (r7 rfl) ?_
  refine jg_nil ?_
  refine jk_dn [1, 2, 3, 5] rfl ?_
  refine jd_ix fun x15 h16 => ?_
  refine jd_y rfl (fun w hs => yv_ix rfl rfl (hs.row 2 rfl) h16) rfl rfl ?_
  refine jd_h rfl ?_
  refine jg_storeE 3 (a' := v13.1) rfl rfl h16.1 rfl (l1 rfl) rfl rfl rfl rfl fun y17 => ?_
  refine jg_L (r7 rfl) ?_
  refine jg_nil ?_
  refine jk_df rfl ?_
  refine jf_nils [(3, _), (4, _), (5, _), (6, _)] ⟨rfl, rfl, rfl, rfl, trivial⟩ ?_
  refine jk_sel (is := [1, 2, 3, 5, 6]) (s5 rfl) rfl ?_
  refine jk_sn ?_
  refine jn_seq ?_
  refine jn_reg 6 ?_
  refine jg_mv rfl rfl rfl ?_
  refine jg_y (fun w hs => yv_load rfl (ldBB (hs.blkL (i := 0) rfl) rfl)) rfl rfl ?_
  refine jg_c rfl (fun v w hs hm => runoff_Pass_c (a1 := (Motion.mk v8.1.Speed v8.1.Class v8.1.Error y17)) hm (hs.row 3 rfl) (hs.row 1 rfl) (hs.row 2 rfl)) rfl rfl fun v18 q19 => ?_
  refine jg_L (r6 rfl) ?_
  refine jg_mv rfl rfl rfl ?_
  refine jg_y (fun w hs => yv_extract rfl rfl) rfl rfl ?_
  refine jg_y (fun w hs => yv_extract rfl rfl) rfl rfl ?_
  refine jg_as rfl rfl rfl ?_
  refine jg_as rfl rfl rfl ?_
  refine jg_nils [(3, _), (4, _), (5, _), (6, _), (7, _), (8, _)] ⟨rfl, rfl, rfl, rfl, rfl, rfl, trivial⟩ ?_
  refine jk_sn ?_
  refine jn_seq ?_
  refine jn_reg 7 ?_
  refine jg_mv rfl rfl rfl ?_
  refine jg_y (fun w hs => yv_load rfl (ldBB (hs.blkL (i := 1) rfl) rfl)) rfl rfl ?_
  refine jl_c 5 rfl rfl (fun v w hs hm => gen_Maker_Run_c (a1 := (Motion.mk v8.1.Speed v8.1.Class v8.1.Error y17)) hm (hs.blkL (i := 5) rfl) (hs.arg Rha0) (hs.offAL 5 Rha0 rfl) (hs.row 2 rfl) (hs.offLL 2 5 rfl rfl) (hs.row 3 rfl) (hs.offLL 3 5 rfl rfl)) (fun _ => rfl) rfl rfl fun v20 q21 => ?_
  refine jg_L (r8 rfl) ?_
  refine jg_alloc (l3 rfl) rfl rfl fun g22 => ?_
  refine jg_store 0 rfl rfl rfl (l3 rfl) rfl rfl rfl rfl (l3 rfl) (r9 rfl) ?_
  refine jg_nils [(3, _), (4, _), (5, _), (6, _), (7, _), (8, _), (9, _)] ⟨rfl, rfl, rfl, rfl, rfl, rfl, rfl, trivial⟩ ?_
  refine jk_sn ?_
  refine jn_seq ?_
  refine jn_reg 8 ?_
  refine jg_y (fun w hs => yv_load rfl (ldBB (hs.blkL (i := 0) rfl) rfl)) rfl rfl ?_
  refine jg_alloc (l3 rfl) rfl rfl fun g23 => ?_
  refine jg_store 0 rfl rfl rfl (l3 rfl) rfl rfl rfl rfl (l3 rfl) (r10 rfl) ?_
  refine jg_nils [(3, _), (4, _), (5, _), (6, _), (7, _), (8, _), (9, _), (10, _)] ⟨rfl, rfl, rfl, rfl, rfl, rfl, rfl, rfl, trivial⟩ ?_
  refine jk_sn ?_
  refine jn_seq ?_
  refine jn_reg 9 ?_
  refine jg_lit0 (enc := encI) rfl rfl fun hd24 => ?_
  refine jg_y (fun w hs => yv_fieldAddr rfl) rfl rfl ?_
  refine jg_y (fun w hs => yv_load rfl (ld1B (hs.blkL (i := 2) rfl) rfl)) rfl rfl ?_
  refine jg_append 0 rfl rfl rfl (fun w hs => (hs.row 4 rfl)) rfl rfl rfl fun y25 hd26 => ?_
  refine jg_L (r11 rfl) ?_
  refine jg_y (fun w hs => yv_fieldAddr rfl) rfl rfl ?_
  refine jg_store 1 rfl rfl rfl (l1 rfl) rfl rfl rfl rfl (l3 rfl) (r11 rfl) ?_
  refine jg_nils [(3, _), (4, _), (5, _), (6, _), (7, _), (8, _), (9, _), (10, _)] ⟨rfl, rfl, rfl, rfl, rfl, rfl, rfl, rfl, trivial⟩ ?_
  refine jk_sn ?_
  refine jn_join (fun (s : (List Int)) (g : Unit) => [(4, hd7.v), (5, .pointer (some ⟨g10, 0, none⟩)), (6, .int .i64 x11), (7, q19.v), (8, .int .i64 v18.2), (9, .pointer (some ⟨g22, 0, none⟩)), (10, .pointer (some ⟨g23, 0, none⟩))]) (fun (s : (List Int)) (g : Unit) => []) (fun (s : (List Int)) (g : Unit) => [(rowH hd7 32 5 Piece.enc y6), (Res.blk g10 28 [.int .i64 v8.1.Speed.Lo, .int .i64 v8.1.Speed.Hi, q9.1.v, .int .i64 v8.1.Error, q9.2.v]), (rowH q9.1 24 2 Interval.enc v8.1.Class), (rowH q9.2 3 1 encI y17), (rowH q19 43 6 Passage.enc v18.1), (Res.blk g22 30 [.int .i64 v20.1.Speed, q21.1.v, q21.2.v]), (rowH q21.1 3 1 encI v20.1.Resist), (rowH q21.2 3 1 encI v20.1.Targets), (Res.blk g23 30 [.int .i64 v20.1.Speed, q21.1.v, hd26.v]), (rowH hd26 3 1 encI s)]) ?_ ?_
  rotate_left
  · intro k29 H30
    refine jn_seq ?_
    refine jn_reg 10 ?_
    refine jg_y (fun w hs => yv_fieldAddr rfl) rfl rfl ?_
    refine jg_y (fun w hs => yv_load rfl (ld1B (hs.blkL (i := 1) rfl) rfl)) rfl rfl ?_
    refine jg_y (fun w hs => yv_ln rfl (hs.row 0 rfl)) rfl rfl ?_
    refine jg_mv rfl rfl rfl ?_
    refine jg_nils [(3, _), (4, _), (5, _), (6, _), (7, _), (8, _), (9, _), (10, _), (59, _), (60, _)] ⟨rfl, rfl, rfl, rfl, rfl, rfl, rfl, rfl, rfl, rfl, trivial⟩ ?_
    refine jk_sn ?_
    refine jn_block ?_
    refine jn_lp (n := big) (fun (s : (Int × (List Int) × Int)) (g : Unit) => [(3, .pointer (some ⟨q2, 0, none⟩)), (4, hd7.v), (5, .pointer (some ⟨g10, 0, none⟩)), (6, .int .i64 x11), (7, q19.v), (8, .int .i64 v18.2), (9, .pointer (some ⟨g22, 0, none⟩)), (10, .pointer (some ⟨g23, 0, none⟩)), (59, .int .i64 (y25.length : Int)), (60, .int .i64 s.2.2)]) (fun (s : (Int × (List Int) × Int)) (g : Unit) => []) (fun (s : (Int × (List Int) × Int)) (g : Unit) => [(Res.blk q2 82 [ha0.v, .int .i64 s.1]), (rowH hd7 32 5 Piece.enc y6), (Res.blk g10 28 [.int .i64 v8.1.Speed.Lo, .int .i64 v8.1.Speed.Hi, q9.1.v, .int .i64 v8.1.Error, q9.2.v]), (rowH q9.1 24 2 Interval.enc v8.1.Class), (rowH q9.2 3 1 encI y17), (rowH q19 43 6 Passage.enc v18.1), (Res.blk g22 30 [.int .i64 v20.1.Speed, q21.1.v, q21.2.v]), (rowH q21.1 3 1 encI v20.1.Resist), (rowH q21.2 3 1 encI v20.1.Targets), (Res.blk g23 30 [.int .i64 v20.1.Speed, q21.1.v, hd26.v]), (rowH hd26 3 1 encI s.2.1)]) (v20.2, y25, 0) () [10, 9, 6, 7, 8, 5, 2, 3, 4, 1, 0] ⟨rfl, rfl, rfl, rfl, rfl, rfl, rfl, rfl, rfl, rfl, trivial⟩ rfl rfl rfl ?_
    intro z59 q60 n63 k61 H62
    refine jn_seq ?_
    refine jn_reg 11 ?_
    refine jg_y (fun w hs => yv_lss rfl rfl) rfl rfl ?_
    refine jg_nils [(3, _), (4, _), (5, _), (6, _), (7, _), (8, _), (9, _), (10, _), (59, _), (60, _), (61, _)] ⟨rfl, rfl, rfl, rfl, rfl, rfl, rfl, rfl, rfl, rfl, rfl, trivial⟩ ?_
    refine jk_sn ?_
    refine jn_seq ?_
    refine jn_cond rfl ?_ ?_
    rotate_left
    · refine jn_exit ?_
      refine jk_se (jk_le (jk_bh ?_))
      exact jk_use H30 z59.2.1 () [1, 2, 3, 4, 5, 6, 7, 8, 9, 10] ⟨rfl, rfl, rfl, rfl, rfl, rfl, rfl, trivial⟩ rfl rfl rfl
    refine jn_skip ?_
    refine jk_sn ?_
    refine jn_seq ?_
    refine jn_block ?_
    refine jn_seq ?_
    refine jn_reg 12 ?_
    refine jg_mv rfl rfl rfl ?_
    refine jg_as rfl rfl rfl ?_
    refine jg_nils [(3, _), (4, _), (5, _), (6, _), (7, _), (8, _), (9, _), (10, _), (11, _), (59, _), (60, _)] ⟨rfl, rfl, rfl, rfl, rfl, rfl, rfl, rfl, rfl, rfl, rfl, trivial⟩ ?_
    refine jk_sn ?_
    refine jn_seq ?_
    refine jn_reg 13 ?_
    refine jg_y (fun w hs => yv_fieldAddr rfl) rfl rfl ?_
    refine jg_y (fun w hs => yv_load rfl (ld1B (hs.blkL (i := 9) rfl) rfl)) rfl rfl ?_
    refine jg_mv rfl rfl rfl ?_
    refine jg_ix fun x64 h65 => ?_
    refine jg_y (fun w hs => yv_ix rfl rfl (hs.row 10 rfl) h65) rfl rfl ?_
    refine jg_y (fun w hs => yv_e1 rfl (hs.row 10 rfl) h65.1 rfl) rfl rfl ?_
    refine jg_y (fun w hs => yv_gtr rfl rfl) rfl rfl ?_
    refine jg_nils [(3, _), (4, _), (5, _), (6, _), (7, _), (8, _), (9, _), (10, _), (11, _), (59, _), (60, _), (68, _)] ⟨rfl, rfl, rfl, rfl, rfl, rfl, rfl, rfl, rfl, rfl, rfl, rfl, trivial⟩ ?_
    refine jk_sn ?_
    refine jn_cond rfl ?_ ?_
    rotate_left
    · refine jn_skip ?_
      refine jk_bn (jk_sn ?_)
      refine jn_reg 15 ?_
      refine jg_y (fun w hs => yv_add_w rfl rfl) rfl rfl ?_
      refine jg_mv rfl rfl rfl ?_
      refine jg_nils [(3, _), (4, _), (5, _), (6, _), (7, _), (8, _), (9, _), (10, _), (59, _), (60, _)] ⟨rfl, rfl, rfl, rfl, rfl, rfl, rfl, rfl, rfl, rfl, trivial⟩ ?_
      exact jk_use H62 (z59.1, z59.2.1, w64 (z59.2.2 + 1)) () [0, 1, 2, 3, 4, 5, 6, 7, 8, 9, 10] ⟨rfl, rfl, rfl, rfl, rfl, rfl, rfl, rfl, rfl, rfl, trivial⟩ rfl rfl rfl
    refine jn_draw (L' := [_, _, _, _, _, _, _, _, _, _]) 14 [1, 2, 3, 4, 5, 6, 7, 8, 9, 10] [0, 1, 2, 3, 4, 5, 6, 7, 8, 9, 10, 11, 12, 13] 16383 32767 [0, 1, 0, 6, 8, 0, 0, 64, 0, 384, 512, 1056, 2064, 8191, 16383] [0, 1, 0, 7, 15, 0, 0, 64, 0, 448, 960, 2016, 4095, 8191, 16383] [(0, true), (1, true), (2, true), (3, true), (4, true), (5, true), (6, true), (7, true), (8, true), (9, true), (10, true), (11, false), (12, true), (13, true), (14, false)] rfl (np_blk (np_seq (np_rnd (np_blk (np_seq np_rt))))) (by kernel_rfl) (by kernel_rfl) (by kernel_rfl) (by kernel_rfl) (by kernel_rfl) (by kernel_rfl) (by kernel_rfl) (by kernel_rfl) ?_
    refine jd_y rfl (fun w hs => yv_fieldAddr rfl) rfl rfl ?_
    refine jd_y rfl (fun w hs => yv_load rfl (ld1B (hs.blk (i := 8) rfl) rfl)) rfl rfl ?_
    refine jd_mv rfl rfl rfl rfl ?_
    refine jd_ix fun x66 h67 => ?_
    refine jd_y rfl (fun w hs => yv_ix rfl rfl (hs.row 9 rfl) h67) rfl rfl ?_
    refine jd_y rfl (fun w hs => yv_e1 rfl (hs.row 9 rfl) h67.1 rfl) rfl rfl ?_
    refine jd_mv rfl rfl rfl rfl ?_
    refine jd_y rfl (fun w hs => yv_fieldAddr rfl) rfl rfl ?_
    refine jd_y rfl (fun w hs => yv_load rfl (ld1B (hs.blk (i := 8) rfl) rfl)) rfl rfl ?_
    refine jd_mv rfl rfl rfl rfl ?_
    refine jd_ix fun x68 h69 => ?_
    refine jd_y rfl (fun w hs => yv_ix rfl rfl (hs.row 9 rfl) h69) rfl rfl ?_
    refine jd_y rfl (fun w hs => yv_e1 rfl (hs.row 9 rfl) h69.1 rfl) rfl rfl ?_
    refine jd_h rfl ?_
    refine jl_c 0 rfl rfl (fun v w hs hm => gen_Maker_Next_c hm (hs.blkL (i := 0) rfl) (hs.arg Rha0) (hs.offAL 0 Rha0 rfl)) (fun _ => rfl) rfl rfl fun v70 q71 => ?_
    refine jg_L (r11 rfl) ?_
    refine jg_nil ?_
    refine jk_dn [1, 2, 3, 4, 5, 6, 7, 8, 9, 10] rfl ?_
    refine jd_y rfl (fun w hs => yv_sub_w rfl rfl) rfl rfl ?_
    refine jd_ix fun x72 h73 => ?_
    refine jd_y rfl (fun w hs => yv_ix rfl rfl (hs.row 9 rfl) h73) rfl rfl ?_
    refine jd_h rfl ?_
    refine jg_storeE 10 (a' := w64 (x66 - v70.1)) rfl rfl h73.1 rfl (l1 rfl) rfl rfl rfl rfl fun y74 => ?_
    refine jg_L (r11 rfl) ?_
    refine jg_nil ?_
    refine jk_df rfl ?_
    refine jf_nils [(3, _), (4, _), (5, _), (6, _), (7, _), (8, _), (9, _), (10, _), (59, _), (60, _)] ⟨rfl, rfl, rfl, rfl, rfl, rfl, rfl, rfl, rfl, rfl, trivial⟩ ?_
    refine jk_bn (jk_sn ?_)
    refine jn_reg 15 ?_
    refine jg_y (fun w hs => yv_add_w rfl rfl) rfl rfl ?_
    refine jg_mv rfl rfl rfl ?_
    refine jg_nils [(3, _), (4, _), (5, _), (6, _), (7, _), (8, _), (9, _), (10, _), (59, _), (60, _)] ⟨rfl, rfl, rfl, rfl, rfl, rfl, rfl, rfl, rfl, rfl, trivial⟩ ?_
    exact jk_use H62 (v70.2, y74, w64 (z59.2.2 + 1)) () [0, 1, 2, 3, 4, 5, 6, 7, 8, 9, 10] ⟨rfl, rfl, rfl, rfl, rfl, rfl, rfl, rfl, rfl, rfl, trivial⟩ rfl rfl rfl
  intro z27 q28
  refine jn_seq ?_
  refine jn_reg 16 ?_
  refine jg_mv rfl rfl rfl ?_
  refine jg_y (fun w hs => yv_load rfl (ldBB (hs.blkL (i := 5) rfl) rfl)) rfl rfl ?_
  refine jg_c rfl (fun v w hs hm => runoff_Point_c (a1 := v20.1) hm (hs.row 0 rfl) (hs.row 6 rfl) (hs.row 7 rfl)) rfl rfl fun v31 q32 => ?_
  refine jg_L (r11 rfl) ?_
  refine jg_mv rfl rfl rfl ?_
  refine jg_y (fun w hs => yv_extract rfl rfl) rfl rfl ?_
  refine jg_y (fun w hs => yv_extract rfl rfl) rfl rfl ?_
  refine jg_y (fun w hs => yv_extract rfl rfl) rfl rfl ?_
  refine jg_as rfl rfl rfl ?_
  refine jg_as rfl rfl rfl ?_
  refine jg_as rfl rfl rfl ?_
  refine jg_nils [(4, _), (5, _), (6, _), (7, _), (8, _), (10, _), (12, _), (14, _)] ⟨rfl, rfl, rfl, rfl, rfl, rfl, rfl, rfl, trivial⟩ ?_
  refine jk_sel (is := [0, 1, 2, 3, 4, 5, 7, 9, 10]) (s9 rfl) rfl ?_
  refine jk_sn ?_
  refine jn_seq ?_
  refine jn_reg 17 ?_
  refine jg_mv rfl rfl rfl ?_
  refine jg_y (fun w hs => yv_load rfl (ldBB (hs.blkL (i := 7) rfl) rfl)) rfl rfl ?_
  refine jg_c rfl (fun v w hs hm => runoff_Point_c (a1 := (Run.mk v20.1.Speed v20.1.Resist z27)) hm (hs.row 1 rfl) (hs.row 6 rfl) (hs.row 8 rfl)) rfl rfl fun v33 q34 => ?_
  refine jg_L (r10 rfl) ?_
  refine jg_mv rfl rfl rfl ?_
  refine jg_y (fun w hs => yv_extract rfl rfl) rfl rfl ?_
  refine jg_y (fun w hs => yv_extract rfl rfl) rfl rfl ?_
  refine jg_y (fun w hs => yv_extract rfl rfl) rfl rfl ?_
  refine jg_as rfl rfl rfl ?_
  refine jg_as rfl rfl rfl ?_
  refine jg_as rfl rfl rfl ?_
  refine jg_nils [(4, _), (5, _), (6, _), (7, _), (8, _), (12, _), (14, _), (15, _), (17, _)] ⟨rfl, rfl, rfl, rfl, rfl, rfl, rfl, rfl, rfl, trivial⟩ ?_
  refine jk_sel (is := [0, 1, 2, 3, 4, 5, 6]) (s7 rfl) rfl ?_
  refine jk_sn ?_
  refine jn_seq ?_
  refine jn_seq ?_
  refine jn_reg 18 ?_
  refine jg_mv rfl rfl rfl ?_
  refine jg_y (fun w hs => yv_neq rfl rfl) rfl rfl ?_
  refine jg_mv rfl rfl rfl ?_
  refine jg_split 100 rfl ?_ ?_
  · refine jg_skip rfl rfl ?_
    refine jg_skip rfl rfl ?_
    refine jg_y (fun w hs => yv_pick_t rfl rfl) rfl rfl ?_
    refine jg_mv rfl rfl rfl ?_
    refine jg_skip rfl rfl ?_
    refine jg_skip rfl rfl ?_
    refine jg_y (fun w hs => yv_pick_t rfl rfl) rfl rfl ?_
    refine jg_mv rfl rfl rfl ?_
    refine jg_skip rfl rfl ?_
    refine jg_skip rfl rfl ?_
    refine jg_skip rfl rfl ?_
    refine jg_skip rfl rfl ?_
    refine jg_skip rfl rfl ?_
    refine jg_skip rfl rfl ?_
    refine jg_y (fun w hs => yv_pick_t rfl rfl) rfl rfl ?_
    refine jg_mv rfl rfl rfl ?_
    refine jg_skip rfl rfl ?_
    refine jg_skip rfl rfl ?_
    refine jg_skip rfl rfl ?_
    refine jg_skip rfl rfl ?_
    refine jg_skip rfl rfl ?_
    refine jg_y (fun w hs => yv_pick_t rfl rfl) rfl rfl ?_
    refine jg_nils [(4, _), (5, _), (6, _), (7, _), (12, _), (15, _), (122, _)] ⟨rfl, rfl, rfl, rfl, rfl, rfl, rfl, trivial⟩ ?_
    refine jk_sn ?_
    refine jn_ct rfl ?_
    refine jn_seq ?_
    refine jn_reg 19 ?_
    refine jg_as rfl rfl rfl ?_
    refine jg_nils [(2, _)] ⟨rfl, trivial⟩ ?_
    refine jk_sel (is := []) (s0 rfl) rfl ?_
    refine jk_sn ?_
    refine jn_ret ?_
    refine jk_sr ?_
    exact jk_ret1 rfl (fun w hs => .tmp rfl) (fun w hs => ⟨rfl, hs.drop⟩)
  refine jg_mv rfl rfl rfl ?_
  refine jg_y (fun w hs => yv_neq rfl rfl) rfl rfl ?_
  refine jg_y (fun w hs => yv_pick_f rfl rfl) rfl rfl ?_
  refine jg_mv rfl rfl rfl ?_
  refine jg_split 104 rfl ?_ ?_
  · refine jg_skip rfl rfl ?_
    refine jg_skip rfl rfl ?_
    refine jg_y (fun w hs => yv_pick_t rfl rfl) rfl rfl ?_
    refine jg_mv rfl rfl rfl ?_
    refine jg_skip rfl rfl ?_
    refine jg_skip rfl rfl ?_
    refine jg_skip rfl rfl ?_
    refine jg_skip rfl rfl ?_
    refine jg_skip rfl rfl ?_
    refine jg_skip rfl rfl ?_
    refine jg_y (fun w hs => yv_pick_t rfl rfl) rfl rfl ?_
    refine jg_mv rfl rfl rfl ?_
    refine jg_skip rfl rfl ?_
    refine jg_skip rfl rfl ?_
    refine jg_skip rfl rfl ?_
    refine jg_skip rfl rfl ?_
    refine jg_skip rfl rfl ?_
    refine jg_y (fun w hs => yv_pick_t rfl rfl) rfl rfl ?_
    refine jg_nils [(4, _), (5, _), (6, _), (7, _), (12, _), (15, _), (122, _)] ⟨rfl, rfl, rfl, rfl, rfl, rfl, rfl, trivial⟩ ?_
    refine jk_sn ?_
    refine jn_ct rfl ?_
    refine jn_seq ?_
    refine jn_reg 19 ?_
    refine jg_as rfl rfl rfl ?_
    refine jg_nils [(2, _)] ⟨rfl, trivial⟩ ?_
    refine jk_sel (is := []) (s0 rfl) rfl ?_
    refine jk_sn ?_
    refine jn_ret ?_
    refine jk_sr ?_
    exact jk_ret1 rfl (fun w hs => .tmp rfl) (fun w hs => ⟨rfl, hs.drop⟩)
  refine jg_mv rfl rfl rfl ?_
  refine jg_y (fun w hs => yv_neq rfl rfl) rfl rfl ?_
  refine jg_y (fun w hs => yv_pick_f rfl rfl) rfl rfl ?_
  refine jg_mv rfl rfl rfl ?_
  refine jg_split 108 rfl ?_ ?_
  · refine jg_skip rfl rfl ?_
    refine jg_skip rfl rfl ?_
    refine jg_skip rfl rfl ?_
    refine jg_skip rfl rfl ?_
    refine jg_skip rfl rfl ?_
    refine jg_skip rfl rfl ?_
    refine jg_y (fun w hs => yv_pick_t rfl rfl) rfl rfl ?_
    refine jg_mv rfl rfl rfl ?_
    refine jg_skip rfl rfl ?_
    refine jg_skip rfl rfl ?_
    refine jg_skip rfl rfl ?_
    refine jg_skip rfl rfl ?_
    refine jg_skip rfl rfl ?_
    refine jg_y (fun w hs => yv_pick_t rfl rfl) rfl rfl ?_
    refine jg_nils [(4, _), (5, _), (6, _), (7, _), (12, _), (15, _), (122, _)] ⟨rfl, rfl, rfl, rfl, rfl, rfl, rfl, trivial⟩ ?_
    refine jk_sn ?_
    refine jn_ct rfl ?_
    refine jn_seq ?_
    refine jn_reg 19 ?_
    refine jg_as rfl rfl rfl ?_
    refine jg_nils [(2, _)] ⟨rfl, trivial⟩ ?_
    refine jk_sel (is := []) (s0 rfl) rfl ?_
    refine jk_sn ?_
    refine jn_ret ?_
    refine jk_sr ?_
    exact jk_ret1 rfl (fun w hs => .tmp rfl) (fun w hs => ⟨rfl, hs.drop⟩)
  refine jg_mv rfl rfl rfl ?_
  refine jg_y (fun w hs => yv_ln rfl (hs.row 6 rfl)) rfl rfl ?_
  refine jg_mv rfl rfl rfl ?_
  refine jg_y (fun w hs => yv_ln rfl (hs.row 2 rfl)) rfl rfl ?_
  refine jg_y (fun w hs => yv_add_w rfl rfl) rfl rfl ?_
  refine jg_y (fun w hs => yv_neq rfl rfl) rfl rfl ?_
  refine jg_y (fun w hs => yv_pick_f rfl rfl) rfl rfl ?_
  refine jg_mv rfl rfl rfl ?_
  refine jg_split 116 rfl ?_ ?_
  · refine jg_skip rfl rfl ?_
    refine jg_skip rfl rfl ?_
    refine jg_skip rfl rfl ?_
    refine jg_skip rfl rfl ?_
    refine jg_skip rfl rfl ?_
    refine jg_y (fun w hs => yv_pick_t rfl rfl) rfl rfl ?_
    refine jg_nils [(4, _), (5, _), (6, _), (7, _), (12, _), (15, _), (122, _)] ⟨rfl, rfl, rfl, rfl, rfl, rfl, rfl, trivial⟩ ?_
    refine jk_sn ?_
    refine jn_ct rfl ?_
    refine jn_seq ?_
    refine jn_reg 19 ?_
    refine jg_as rfl rfl rfl ?_
    refine jg_nils [(2, _)] ⟨rfl, trivial⟩ ?_
    refine jk_sel (is := []) (s0 rfl) rfl ?_
    refine jk_sn ?_
    refine jn_ret ?_
    refine jk_sr ?_
    exact jk_ret1 rfl (fun w hs => .tmp rfl) (fun w hs => ⟨rfl, hs.drop⟩)
  refine jg_mv rfl rfl rfl ?_
  refine jg_y (fun w hs => yv_ln rfl (hs.row 0 rfl)) rfl rfl ?_
  refine jg_mv rfl rfl rfl ?_
  refine jg_y (fun w hs => yv_ln rfl (hs.row 1 rfl)) rfl rfl ?_
  refine jg_y (fun w hs => yv_gtr rfl rfl) rfl rfl ?_
  refine jg_y (fun w hs => yv_pick_f rfl rfl) rfl rfl ?_
  refine jg_nils [(4, _), (5, _), (6, _), (7, _), (12, _), (15, _), (122, _)] ⟨rfl, rfl, rfl, rfl, rfl, rfl, rfl, trivial⟩ ?_
  refine jk_sn ?_
  refine jn_cond rfl ?_ ?_
  · refine jn_seq ?_
    refine jn_reg 19 ?_
    refine jg_as rfl rfl rfl ?_
    refine jg_nils [(2, _)] ⟨rfl, trivial⟩ ?_
    refine jk_sel (is := []) (s0 rfl) rfl ?_
    refine jk_sn ?_
    refine jn_ret ?_
    refine jk_sr ?_
    exact jk_ret1 rfl (fun w hs => .tmp rfl) (fun w hs => ⟨rfl, hs.drop⟩)
  refine jn_skip ?_
  refine jk_sn ?_
  refine jn_seq ?_
  refine jn_draw (L' := [_, _, _, _, _, _, _]) 20 [0, 1, 2, 3, 4, 5, 6] [0, 1, 2, 3, 4, 5, 6, 7, 8] 511 511 [0, 1, 0, 6, 8, 0, 32, 80, 255] [0, 1, 0, 7, 15, 0, 32, 127, 255] [(0, true), (1, true), (2, true), (3, true), (4, true), (5, true), (6, true), (7, true), (8, true)] rfl (np_seq np_rt) (by kernel_rfl) (by kernel_rfl) (by kernel_rfl) (by kernel_rfl) (by kernel_rfl) (by kernel_rfl) (by kernel_rfl) (by kernel_rfl) ?_
  refine jd_y rfl (fun w hs => yv_fieldAddr rfl) rfl rfl ?_
  refine jd_y rfl (fun w hs => yv_load rfl (ld1B (hs.blk (i := 3) rfl) rfl)) rfl rfl ?_
  refine jd_mv rfl rfl rfl rfl ?_
  refine jd_ix fun x35 h36 => ?_
  refine jd_y rfl (fun w hs => yv_ix rfl rfl (hs.row 5 rfl) h36) rfl rfl ?_
  refine jd_y rfl (fun w hs => yv_e1 rfl (hs.row 5 rfl) h36.1 rfl) rfl rfl ?_
  refine jd_y rfl (fun w hs => yv_fieldAddr rfl) rfl rfl ?_
  refine jd_y rfl (fun w hs => yv_load rfl (ld1B (hs.blk (i := 3) rfl) rfl)) rfl rfl ?_
  refine jd_y rfl (fun w hs => yv_add_w rfl rfl) rfl rfl ?_
  refine jd_as rfl rfl rfl rfl ?_
  refine jd_nils [(4, _), (7, _), (12, _), (15, _), (18, _)] ⟨rfl, rfl, rfl, rfl, rfl, trivial⟩ ?_
  refine jk_sel (is := [0, 1, 2, 6]) (s4 rfl) rfl ?_
  refine jk_sn ?_
  refine jn_join (fun (s : Unit) (g : Unit) => [(12, q32.v), (15, q34.v)]) (fun (s : Unit) (g : Unit) => []) (fun (s : Unit) (g : Unit) => [(rowH q32 41 2 Moment.enc v31.1), (rowH q34 41 2 Moment.enc v33.1)]) ?_ ?_
  rotate_left
  · intro k39 H40
    refine jn_seq ?_
    refine jn_reg 21 ?_
    refine jg_mv rfl rfl rfl ?_
    refine jg_mv rfl rfl rfl ?_
    refine jg_y (fun w hs => yv_ln rfl (hs.row 2 rfl)) rfl rfl ?_
    refine jg_ix fun x55 h56 => ?_
    refine jg_y (fun w hs => yv_ix rfl rfl (hs.row 3 rfl) h56) rfl rfl ?_
    refine jg_y (fun w hs => yv_eS rfl (hs.row 3 rfl) h56.1 (l6 rfl) rfl) rfl rfl ?_
    refine jg_alloc (l6 rfl) rfl rfl fun g57 => ?_
    refine jg_store 0 rfl rfl rfl (l6 rfl) rfl rfl rfl rfl (l6 rfl) (r5 rfl) ?_
    refine jg_nils [(12, _), (15, _), (18, _), (19, _)] ⟨rfl, rfl, rfl, rfl, trivial⟩ ?_
    refine jk_sel (is := [0, 1, 2]) (s3 rfl) rfl ?_
    refine jk_sn ?_
    refine jn_seq ?_
    refine jn_reg 22 ?_
    refine jg_y (fun w hs => yv_fieldAddr rfl) rfl rfl ?_
    refine jg_y (fun w hs => yv_load rfl (ld1B (hs.blkL (i := 0) rfl) rfl)) rfl rfl ?_
    refine jg_y (fun w hs => yv_not rfl) rfl rfl ?_
    refine jg_mv rfl rfl rfl ?_
    refine jg_split 139 rfl ?_ ?_
    rotate_left
    · refine jg_skip rfl rfl ?_
      refine jg_skip rfl rfl ?_
      refine jg_skip rfl rfl ?_
      refine jg_skip rfl rfl ?_
      refine jg_skip rfl rfl ?_
      refine jg_skip rfl rfl ?_
      refine jg_skip rfl rfl ?_
      refine jg_y (fun w hs => yv_pick_f rfl rfl) rfl rfl ?_
      refine jg_nils [(12, _), (15, _), (147, _)] ⟨rfl, rfl, rfl, trivial⟩ ?_
      refine jk_sn ?_
      refine jn_cf rfl ?_
      refine jn_skip ?_
      exact jk_use H40 () () [2, 1] ⟨rfl, rfl, trivial⟩ rfl rfl rfl
    refine jg_y (fun w hs => yv_fieldAddr rfl) rfl rfl ?_
    refine jg_y (fun w hs => yv_fieldAddr rfl) rfl rfl ?_
    refine jg_y (fun w hs => yv_load rfl (ld1B (hs.blkL (i := 0) rfl) rfl)) rfl rfl ?_
    refine jg_mv rfl rfl rfl ?_
    refine jg_mv rfl rfl rfl ?_
    refine jg_yl (fun w hs => yv_mul_w rfl rfl) rfl rfl fun x58 => ?_
    refine jg_y (fun w hs => yv_gtr rfl rfl) rfl rfl ?_
    refine jg_y (fun w hs => yv_pick_t rfl rfl) rfl rfl ?_
    refine jg_nils [(12, _), (15, _), (147, _)] ⟨rfl, rfl, rfl, trivial⟩ ?_
    refine jk_sn ?_
    refine jn_cond rfl ?_ ?_
    rotate_left
    · refine jn_skip ?_
      exact jk_use H40 () () [2, 1] ⟨rfl, rfl, trivial⟩ rfl rfl rfl
    refine jn_seq ?_
    refine jn_reg 23 ?_
    refine jg_as rfl rfl rfl ?_
    refine jg_nils [(2, _)] ⟨rfl, trivial⟩ ?_
    refine jk_sel (is := []) (s0 rfl) rfl ?_
    refine jk_sn ?_
    refine jn_ret ?_
    refine jk_sr ?_
    exact jk_ret1 rfl (fun w hs => .tmp rfl) (fun w hs => ⟨rfl, hs.drop⟩)
  intro z37 q38
  refine jn_seq ?_
  refine jn_seq ?_
  refine jn_reg 24 ?_
  refine jg_mv rfl rfl rfl ?_
  refine jg_y (fun w hs => yv_ln rfl (hs.row 1 rfl)) rfl rfl ?_
  refine jg_mv rfl rfl rfl ?_
  refine jg_nils [(12, _), (15, _), (149, _), (150, _)] ⟨rfl, rfl, rfl, rfl, trivial⟩ ?_
  refine jk_sn ?_
  refine jn_block ?_
  refine jn_lp (n := big) (fun (s : Int) (g : Unit) => [(12, q32.v), (15, q34.v), (149, .int .i64 (v33.1.length : Int)), (150, .int .i64 s)]) (fun (s : Int) (g : Unit) => []) (fun (s : Int) (g : Unit) => [(rowH q32 41 2 Moment.enc v31.1), (rowH q34 41 2 Moment.enc v33.1)]) 0 () [0, 1] ⟨rfl, rfl, rfl, rfl, trivial⟩ rfl rfl rfl ?_
  intro z41 q42 n45 k43 H44
  refine jn_seq ?_
  refine jn_reg 25 ?_
  refine jg_y (fun w hs => yv_lss rfl rfl) rfl rfl ?_
  refine jg_nils [(12, _), (15, _), (149, _), (150, _), (151, _)] ⟨rfl, rfl, rfl, rfl, rfl, trivial⟩ ?_
  refine jk_sn ?_
  refine jn_seq ?_
  refine jn_cond rfl ?_ ?_
  rotate_left
  · refine jn_exit ?_
    refine jk_se (jk_le (jk_bh (jk_sn ?_)))
    refine jn_seq ?_
    refine jn_reg 30 ?_
    refine jg_c0 rfl (fun v w hs hm => law20_sane_c hm ) rfl rfl fun v54 => ?_
    refine jg_as rfl rfl rfl ?_
    refine jg_nils [(2, _)] ⟨rfl, trivial⟩ ?_
    refine jk_sel (is := []) (s0 rfl) rfl ?_
    refine jk_sn ?_
    refine jn_ret ?_
    exact jk_ret1 rfl (fun w hs => .tmp rfl) (fun w hs => ⟨rfl, hs.drop⟩)
  refine jn_skip ?_
  refine jk_sn ?_
  refine jn_seq ?_
  refine jn_block ?_
  refine jn_seq ?_
  refine jn_reg 26 ?_
  refine jg_mv rfl rfl rfl ?_
  refine jg_as rfl rfl rfl ?_
  refine jg_nils [(12, _), (15, _), (20, _), (149, _), (150, _)] ⟨rfl, rfl, rfl, rfl, rfl, trivial⟩ ?_
  refine jk_sn ?_
  refine jn_seq ?_
  refine jn_draw (L' := [_, _]) 27 [0, 1] [0, 1, 2, 3, 4, 5, 6, 7, 8, 9, 10, 11, 12, 13, 14, 15, 16, 17, 18, 19, 20, 21, 22, 23] 16777215 16777215 [0, 0, 3, 4, 8, 0, 0, 96, 128, 256, 528, 1024, 2048, 2048, 14336, 18432, 34816, 2048, 2048, 395264, 526336, 1050624, 2164736, 4196352] [0, 0, 3, 7, 15, 0, 0, 96, 224, 480, 1023, 2047, 4095, 4095, 16383, 32767, 65535, 4095, 4095, 397311, 921599, 1970175, 4194303, 8388607] [(0, true), (1, true), (2, true), (3, true), (4, true), (5, true), (6, true), (7, true), (8, true), (9, true), (10, true), (11, true), (12, true), (13, true), (14, true), (15, true), (16, true), (17, true), (18, true), (19, true), (20, true), (21, true), (22, true), (23, true)] rfl (np_seq (np_blk (np_seq (np_rnd (np_blk (np_seq np_rt)))))) (by kernel_rfl) (by kernel_rfl) (by kernel_rfl) (by kernel_rfl) (by kernel_rfl) (by kernel_rfl) (by kernel_rfl) (by kernel_rfl) ?_
  refine jd_mv rfl rfl rfl rfl ?_
  refine jd_mv rfl rfl rfl rfl ?_
  refine jd_ix fun x46 h47 => ?_
  refine jd_y rfl (fun w hs => yv_ix rfl rfl (hs.row 1 rfl) h47) rfl rfl ?_
  refine jd_y rfl (fun w hs => yv_ef rfl (hs.row 1 rfl) h47.1) rfl rfl ?_
  refine jd_y rfl (fun w hs => yv_e1 rfl (hs.row 1 rfl) h47.1 rfl) rfl rfl ?_
  refine jd_mv rfl rfl rfl rfl ?_
  refine jd_mv rfl rfl rfl rfl ?_
  refine jd_ix fun x48 h49 => ?_
  refine jd_y rfl (fun w hs => yv_ix rfl rfl (hs.row 0 rfl) h49) rfl rfl ?_
  refine jd_y rfl (fun w hs => yv_ef rfl (hs.row 0 rfl) h49.1) rfl rfl ?_
  refine jd_y rfl (fun w hs => yv_e1 rfl (hs.row 0 rfl) h49.1 rfl) rfl rfl ?_
  refine jd_y rfl (fun w hs => yv_gtr rfl rfl) rfl rfl ?_
  refine jd_mv rfl rfl rfl rfl ?_
  refine jd_split 164 rfl ?_ ?_
  · refine jd_skip rfl rfl rfl ?_
    refine jd_skip rfl rfl rfl ?_
    refine jd_skip rfl rfl rfl ?_
    refine jd_skip rfl rfl rfl ?_
    refine jd_skip rfl rfl rfl ?_
    refine jd_skip rfl rfl rfl ?_
    refine jd_skip rfl rfl rfl ?_
    refine jd_skip rfl rfl rfl ?_
    refine jd_skip rfl rfl rfl ?_
    refine jd_skip rfl rfl rfl ?_
    refine jd_skip rfl rfl rfl ?_
    refine jd_y rfl (fun w hs => yv_pick_t rfl rfl) rfl rfl ?_
    refine jd_nils [(12, _), (15, _), (149, _), (150, _), (176, _)] ⟨rfl, rfl, rfl, rfl, rfl, trivial⟩ ?_
    refine jk_sn ?_
    refine jn_ct rfl ?_
    refine jn_seq ?_
    refine jn_reg 28 ?_
    refine jg_as rfl rfl rfl ?_
    refine jg_nils [(2, _)] ⟨rfl, trivial⟩ ?_
    refine jk_sel (is := []) (s0 rfl) rfl ?_
    refine jk_sn ?_
    refine jn_ret ?_
    refine jk_br (jk_sr (jk_lr (jk_br (jk_sr ?_))))
    exact jk_ret1 rfl (fun w hs => .tmp rfl) (fun w hs => ⟨rfl, hs.drop⟩)
  refine jd_mv rfl rfl rfl rfl ?_
  refine jd_mv rfl rfl rfl rfl ?_
  refine jd_ix fun x50 h51 => ?_
  refine jd_y rfl (fun w hs => yv_ix rfl rfl (hs.row 1 rfl) h51) rfl rfl ?_
  refine jd_y rfl (fun w hs => yv_ef rfl (hs.row 1 rfl) h51.1) rfl rfl ?_
  refine jd_y rfl (fun w hs => yv_e1 rfl (hs.row 1 rfl) h51.1 rfl) rfl rfl ?_
  refine jd_mv rfl rfl rfl rfl ?_
  refine jd_mv rfl rfl rfl rfl ?_
  refine jd_ix fun x52 h53 => ?_
  refine jd_y rfl (fun w hs => yv_ix rfl rfl (hs.row 0 rfl) h53) rfl rfl ?_
  refine jd_y rfl (fun w hs => yv_ef rfl (hs.row 0 rfl) h53.1) rfl rfl ?_
  refine jd_y rfl (fun w hs => yv_e1 rfl (hs.row 0 rfl) h53.1 rfl) rfl rfl ?_
  refine jd_y rfl (fun w hs => yv_lss rfl rfl) rfl rfl ?_
  refine jd_y rfl (fun w hs => yv_pick_f rfl rfl) rfl rfl ?_
  refine jd_nils [(12, _), (15, _), (149, _), (150, _), (176, _)] ⟨rfl, rfl, rfl, rfl, rfl, trivial⟩ ?_
  refine jk_sn ?_
  refine jn_cond rfl ?_ ?_
  rotate_left
  · refine jn_skip ?_
    refine jk_bn (jk_sn ?_)
    refine jn_reg 29 ?_
    refine jg_y (fun w hs => yv_add_w rfl rfl) rfl rfl ?_
    refine jg_mv rfl rfl rfl ?_
    refine jg_nils [(12, _), (15, _), (149, _), (150, _)] ⟨rfl, rfl, rfl, rfl, trivial⟩ ?_
    exact jk_use H44 (w64 (z41 + 1)) () [0, 1] ⟨rfl, rfl, rfl, rfl, trivial⟩ rfl rfl rfl
  refine jn_seq ?_
  refine jn_reg 28 ?_
  refine jg_as rfl rfl rfl ?_
  refine jg_nils [(2, _)] ⟨rfl, trivial⟩ ?_
  refine jk_sel (is := []) (s0 rfl) rfl ?_
  refine jk_sn ?_
  refine jn_ret ?_
  refine jk_br (jk_sr (jk_lr (jk_br (jk_sr ?_))))
  exact jk_ret1 rfl (fun w hs => .tmp rfl) (fun w hs => ⟨rfl, hs.drop⟩)
theorem interval_Contains_c {w : World} {a0 : Interval} {a1 : Int}  {v : Bool} (hm : interval_Contains a0 a1 = some v) : Gives Try.prog 46 [.agg #[.int .i64 a0.Lo, .int .i64 a0.Hi], .int .i64 a1] w (.bool v) := by
  refine j_gives (vs := [.agg #[.int .i64 a0.Lo, .int .i64 a0.Hi], .int .i64 a1]) (U := fun (v : Bool) => .bool v) Try.func46 rfl Try.ntmps46 rfl rfl hm ?_
  unfold interval_Contains
  clear hm
  refine jn_seq ?_
  refine jn_reg 0 ?_
  refine jg_box rfl (l2 rfl) rfl rfl fun g1 => ?_
  refine jg_as rfl rfl rfl ?_
  refine jg_nils [(1, _), (2, _)] ⟨rfl, rfl, trivial⟩ ?_
  refine jk_sn ?_
  refine jn_seq ?_
  refine jn_reg 1 ?_
  refine jg_y (fun w hs => yv_load rfl (ldBB (hs.blkL (i := 0) rfl) rfl)) rfl rfl ?_
  refine jg_c0 rfl (fun v w hs hm => interval_Valid_c (a0 := a0) hm ) rfl rfl fun v2 => ?_
  refine jg_mv rfl rfl rfl ?_
  refine jg_split 7 rfl ?_ ?_
  rotate_left
  · refine jg_skip rfl rfl ?_
    refine jg_skip rfl rfl ?_
    refine jg_skip rfl rfl ?_
    refine jg_skip rfl rfl ?_
    refine jg_y (fun w hs => yv_pick_f rfl rfl) rfl rfl ?_
    refine jg_mv rfl rfl rfl ?_
    refine jg_skip rfl rfl ?_
    refine jg_skip rfl rfl ?_
    refine jg_skip rfl rfl ?_
    refine jg_skip rfl rfl ?_
    refine jg_y (fun w hs => yv_pick_f rfl rfl) rfl rfl ?_
    refine jg_as rfl rfl rfl ?_
    refine jg_nils [(4, _)] ⟨rfl, trivial⟩ ?_
    refine jk_sn ?_
    refine jn_ret ?_
    exact jk_ret1 rfl (fun w hs => .tmp rfl) (fun w hs => ⟨rfl, hs.drop⟩)
  refine jg_mv rfl rfl rfl ?_
  refine jg_y (fun w hs => yv_fieldAddr rfl) rfl rfl ?_
  refine jg_y (fun w hs => yv_load rfl (ld1B (hs.blkL (i := 0) rfl) rfl)) rfl rfl ?_
  refine jg_y (fun w hs => yv_geq rfl rfl) rfl rfl ?_
  refine jg_y (fun w hs => yv_pick_t rfl rfl) rfl rfl ?_
  refine jg_mv rfl rfl rfl ?_
  refine jg_split 13 rfl ?_ ?_
  · refine jg_mv rfl rfl rfl ?_
    refine jg_y (fun w hs => yv_fieldAddr rfl) rfl rfl ?_
    refine jg_y (fun w hs => yv_load rfl (ld1B (hs.blkL (i := 0) rfl) rfl)) rfl rfl ?_
    refine jg_y (fun w hs => yv_leq rfl rfl) rfl rfl ?_
    refine jg_y (fun w hs => yv_pick_t rfl rfl) rfl rfl ?_
    refine jg_as rfl rfl rfl ?_
    refine jg_nils [(4, _)] ⟨rfl, trivial⟩ ?_
    refine jk_sn ?_
    refine jn_ret ?_
    exact jk_ret1 rfl (fun w hs => .tmp rfl) (fun w hs => ⟨rfl, hs.drop⟩)
  refine jg_skip rfl rfl ?_
  refine jg_skip rfl rfl ?_
  refine jg_skip rfl rfl ?_
  refine jg_skip rfl rfl ?_
  refine jg_y (fun w hs => yv_pick_f rfl rfl) rfl rfl ?_
  refine jg_as rfl rfl rfl ?_
  refine jg_nils [(4, _)] ⟨rfl, trivial⟩ ?_
  refine jk_sn ?_
  refine jn_ret ?_
  exact jk_ret1 rfl (fun w hs => .tmp rfl) (fun w hs => ⟨rfl, hs.drop⟩)
theorem runoff_In_c {w : World} {a0 : Moment} {a1 : Passage}  {v : Bool} (hm : runoff_In a0 a1 = some v) : Gives Try.prog 28 [.agg #[.int .i64 a0.Time, .int .i64 a0.Energy], .agg #[.int .i64 a1.Time.Lo, .int .i64 a1.Time.Hi, .int .i64 a1.Energy.Lo, .int .i64 a1.Energy.Hi, .bool a1.Slow, .bool a1.Stops]] w (.bool v) := by
  refine j_gives (vs := [.agg #[.int .i64 a0.Time, .int .i64 a0.Energy], .agg #[.int .i64 a1.Time.Lo, .int .i64 a1.Time.Hi, .int .i64 a1.Energy.Lo, .int .i64 a1.Energy.Hi, .bool a1.Slow, .bool a1.Stops]]) (U := fun (v : Bool) => .bool v) Try.func28 rfl Try.ntmps28 rfl rfl hm ?_
  unfold runoff_In
  clear hm
  refine jn_seq ?_
  refine jn_reg 0 ?_
  refine jg_box rfl (l2 rfl) rfl rfl fun g1 => ?_
  refine jg_box rfl (l6 rfl) rfl rfl fun g2 => ?_
  refine jg_as rfl rfl rfl ?_
  refine jg_nils [(2, _), (3, _)] ⟨rfl, rfl, trivial⟩ ?_
  refine jk_sn ?_
  refine jn_seq ?_
  refine jn_reg 1 ?_
  refine jg_y (fun w hs => yv_fieldAddr rfl) rfl rfl ?_
  refine jg_y (fun w hs => yv_load rfl (ld1B (hs.blkL (i := 0) rfl) rfl)) rfl rfl ?_
  refine jg_y (fun w hs => yv_not rfl) rfl rfl ?_
  refine jg_mv rfl rfl rfl ?_
  refine jg_split 8 rfl ?_ ?_
  rotate_left
  · refine jg_skip rfl rfl ?_
    refine jg_skip rfl rfl ?_
    refine jg_skip rfl rfl ?_
    refine jg_skip rfl rfl ?_
    refine jg_skip rfl rfl ?_
    refine jg_y (fun w hs => yv_pick_f rfl rfl) rfl rfl ?_
    refine jg_mv rfl rfl rfl ?_
    refine jg_skip rfl rfl ?_
    refine jg_skip rfl rfl ?_
    refine jg_skip rfl rfl ?_
    refine jg_skip rfl rfl ?_
    refine jg_skip rfl rfl ?_
    refine jg_y (fun w hs => yv_pick_f rfl rfl) rfl rfl ?_
    refine jg_as rfl rfl rfl ?_
    refine jg_nils [(4, _)] ⟨rfl, trivial⟩ ?_
    refine jk_sel (is := []) (s0 rfl) rfl ?_
    refine jk_sn ?_
    refine jn_ret ?_
    exact jk_ret1 rfl (fun w hs => .tmp rfl) (fun w hs => ⟨rfl, hs.drop⟩)
  refine jg_y (fun w hs => yv_fieldAddr rfl) rfl rfl ?_
  refine jg_y (fun w hs => yv_load rfl (ldPB (hs.blkL (i := 0) rfl) (l2 rfl) rfl)) rfl rfl ?_
  refine jg_y (fun w hs => yv_fieldAddr rfl) rfl rfl ?_
  refine jg_y (fun w hs => yv_load rfl (ld1B (hs.blkL (i := 1) rfl) rfl)) rfl rfl ?_
  refine jg_c0 rfl (fun v w hs hm => interval_Contains_c (a0 := a1.Time) hm ) rfl rfl fun v3 => ?_
  refine jg_y (fun w hs => yv_pick_t rfl rfl) rfl rfl ?_
  refine jg_mv rfl rfl rfl ?_
  refine jg_split 15 rfl ?_ ?_
  · refine jg_y (fun w hs => yv_fieldAddr rfl) rfl rfl ?_
    refine jg_y (fun w hs => yv_load rfl (ldPB (hs.blkL (i := 0) rfl) (l2 rfl) rfl)) rfl rfl ?_
    refine jg_y (fun w hs => yv_fieldAddr rfl) rfl rfl ?_
    refine jg_y (fun w hs => yv_load rfl (ld1B (hs.blkL (i := 1) rfl) rfl)) rfl rfl ?_
    refine jg_c0 rfl (fun v w hs hm => interval_Contains_c (a0 := a1.Energy) hm ) rfl rfl fun v4 => ?_
    refine jg_y (fun w hs => yv_pick_t rfl rfl) rfl rfl ?_
    refine jg_as rfl rfl rfl ?_
    refine jg_nils [(4, _)] ⟨rfl, trivial⟩ ?_
    refine jk_sel (is := []) (s0 rfl) rfl ?_
    refine jk_sn ?_
    refine jn_ret ?_
    exact jk_ret1 rfl (fun w hs => .tmp rfl) (fun w hs => ⟨rfl, hs.drop⟩)
  refine jg_skip rfl rfl ?_
  refine jg_skip rfl rfl ?_
  refine jg_skip rfl rfl ?_
  refine jg_skip rfl rfl ?_
  refine jg_skip rfl rfl ?_
  refine jg_y (fun w hs => yv_pick_f rfl rfl) rfl rfl ?_
  refine jg_as rfl rfl rfl ?_
  refine jg_nils [(4, _)] ⟨rfl, trivial⟩ ?_
  refine jk_sel (is := []) (s0 rfl) rfl ?_
  refine jk_sn ?_
  refine jn_ret ?_
  exact jk_ret1 rfl (fun w hs => .tmp rfl) (fun w hs => ⟨rfl, hs.drop⟩)
theorem law20_RunoffContains_c {w : World} {a0 : (List Int)} {ha0 : Hd} {v : Bool} (hm : law20_RunoffContains a0 = some v) (Rha0 : Sl w ha0 encI a0) : Gives Try.prog 10 [ha0.v] w (.bool v) := by
  refine j_gives (vs := [ha0.v]) (U := fun (v : Bool) => .bool v) Try.func10 rfl Try.ntmps10 rfl rfl hm ?_
  unfold law20_RunoffContains
  clear hm
  refine jn_seq ?_
  refine jn_reg 0 ?_
  refine jg_as rfl rfl rfl ?_
  refine jg_nils [(0, _)] ⟨rfl, trivial⟩ ?_
  refine jk_sn ?_
  refine jn_seq ?_
  refine jn_reg 1 ?_
  refine jg_mv rfl rfl rfl ?_
  refine jg_c rfl (fun v w hs hm => gen_New_c hm (hs.arg Rha0)) rfl rfl fun v1 q2 => ?_
  refine jg_L (r1 rfl) ?_
  refine jg_as rfl rfl rfl ?_
  refine jg_nils [(3, _)] ⟨rfl, trivial⟩ ?_
  refine jk_sn ?_
  refine jn_seq ?_
  refine jn_seq ?_
  refine jn_reg 2 ?_
  refine jg_as rfl rfl rfl ?_
  refine jg_nils [(3, _), (4, _)] ⟨rfl, rfl, trivial⟩ ?_
  refine jk_sn ?_
  refine jn_block ?_
  refine jn_lp (n := big) (fun (s : (Int × Int)) (g : Unit) => [(3, .pointer (some ⟨q2, 0, none⟩)), (4, .int .i64 s.2)]) (fun (s : (Int × Int)) (g : Unit) => []) (fun (s : (Int × Int)) (g : Unit) => [(Res.blk q2 82 [ha0.v, .int .i64 s.1])]) (v1.fn, 0) () [0] ⟨rfl, rfl, trivial⟩ rfl rfl rfl ?_
  intro z3 q4 n7 k5 H6
  refine jn_seq ?_
  refine jn_seq ?_
  refine jn_reg 3 ?_
  refine jg_mv rfl rfl rfl ?_
  refine jg_y (fun w hs => yv_lss rfl rfl) rfl rfl ?_
  refine jg_nils [(3, _), (4, _), (18, _)] ⟨rfl, rfl, rfl, trivial⟩ ?_
  refine jk_sn ?_
  refine jn_cond rfl ?_ ?_
  rotate_left
  · refine jn_exit ?_
    refine jk_se (jk_le (jk_bh (jk_sn ?_)))
    refine jn_seq ?_
    refine jn_reg 27 ?_
    refine jg_c0 rfl (fun v w hs hm => law20_sane_c hm ) rfl rfl fun v51 => ?_
    refine jg_as rfl rfl rfl ?_
    refine jg_nils [(2, _)] ⟨rfl, trivial⟩ ?_
    refine jk_sn ?_
    refine jn_ret ?_
    exact jk_ret1 rfl (fun w hs => .tmp rfl) (fun w hs => ⟨rfl, hs.drop⟩)
  refine jn_skip ?_
  refine jk_sn ?_
  refine jn_seq ?_
  refine jn_block ?_
  refine jn_seq ?_
  refine jn_reg 5 ?_
  refine jg_mv rfl rfl rfl ?_
  refine jl_c 0 rfl rfl (fun v w hs hm => gen_Maker_Pieces_c hm (hs.blkL (i := 0) rfl) (hs.arg Rha0) (hs.offAL 0 Rha0 rfl)) (fun _ => rfl) rfl rfl fun v8 q9 => ?_
  refine jg_L (r2 rfl) ?_
  refine jg_as rfl rfl rfl ?_
  refine jg_nils [(3, _), (4, _), (5, _)] ⟨rfl, rfl, rfl, trivial⟩ ?_
  refine jk_sn ?_
  refine jn_seq ?_
  refine jn_reg 6 ?_
  refine jg_mv rfl rfl rfl ?_
  refine jg_mv rfl rfl rfl ?_
  refine jl_c 1 rfl rfl (fun v w hs hm => gen_Maker_Motion_c hm (hs.blkL (i := 1) rfl) (hs.arg Rha0) (hs.offAL 1 Rha0 rfl) (hs.row 0 rfl) (hs.offLL 0 1 rfl rfl)) (fun _ => rfl) rfl rfl fun v10 q11 => ?_
  refine jg_L (r4 rfl) ?_
  refine jg_alloc (l5 rfl) rfl rfl fun g12 => ?_
  refine jg_store 0 rfl rfl rfl (l5 rfl) rfl rfl rfl rfl (l5 rfl) (r5 rfl) ?_
  refine jg_nils [(3, _), (4, _), (5, _), (6, _)] ⟨rfl, rfl, rfl, rfl, trivial⟩ ?_
  refine jk_sn ?_
  refine jn_seq ?_
  refine jn_reg 7 ?_
  refine jg_mv rfl rfl rfl ?_
  refine jg_y (fun w hs => yv_load rfl (ldBB (hs.blkL (i := 0) rfl) rfl)) rfl rfl ?_
  refine jg_c rfl (fun v w hs hm => runoff_Pass_c (a1 := v10.1) hm (hs.row 3 rfl) (hs.row 1 rfl) (hs.row 2 rfl)) rfl rfl fun v13 q14 => ?_
  refine jg_L (r6 rfl) ?_
  refine jg_mv rfl rfl rfl ?_
  refine jg_y (fun w hs => yv_extract rfl rfl) rfl rfl ?_
  refine jg_y (fun w hs => yv_extract rfl rfl) rfl rfl ?_
  refine jg_as rfl rfl rfl ?_
  refine jg_as rfl rfl rfl ?_
  refine jg_nils [(3, _), (4, _), (5, _), (6, _), (7, _), (8, _)] ⟨rfl, rfl, rfl, rfl, rfl, rfl, trivial⟩ ?_
  refine jk_sn ?_
  refine jn_seq ?_
  refine jn_seq ?_
  refine jn_reg 8 ?_
  refine jg_mv rfl rfl rfl ?_
  refine jg_y (fun w hs => yv_neq rfl rfl) rfl rfl ?_
  refine jg_mv rfl rfl rfl ?_
  refine jg_split 34 rfl ?_ ?_
  · refine jg_skip rfl rfl ?_
    refine jg_skip rfl rfl ?_
    refine jg_skip rfl rfl ?_
    refine jg_skip rfl rfl ?_
    refine jg_skip rfl rfl ?_
    refine jg_skip rfl rfl ?_
    refine jg_y (fun w hs => yv_pick_t rfl rfl) rfl rfl ?_
    refine jg_nils [(3, _), (4, _), (5, _), (6, _), (7, _), (41, _)] ⟨rfl, rfl, rfl, rfl, rfl, rfl, trivial⟩ ?_
    refine jk_sn ?_
    refine jn_ct rfl ?_
    refine jn_seq ?_
    refine jn_reg 9 ?_
    refine jg_as rfl rfl rfl ?_
    refine jg_nils [(2, _)] ⟨rfl, trivial⟩ ?_
    refine jk_sel (is := []) (s0 rfl) rfl ?_
    refine jk_sn ?_
    refine jn_ret ?_
    refine jk_sr (jk_br (jk_sr (jk_lr (jk_br (jk_sr ?_)))))
    exact jk_ret1 rfl (fun w hs => .tmp rfl) (fun w hs => ⟨rfl, hs.drop⟩)
  refine jg_mv rfl rfl rfl ?_
  refine jg_y (fun w hs => yv_ln rfl (hs.row 0 rfl)) rfl rfl ?_
  refine jg_mv rfl rfl rfl ?_
  refine jg_y (fun w hs => yv_ln rfl (hs.row 4 rfl)) rfl rfl ?_
  refine jg_y (fun w hs => yv_add_w rfl rfl) rfl rfl ?_
  refine jg_y (fun w hs => yv_neq rfl rfl) rfl rfl ?_
  refine jg_y (fun w hs => yv_pick_f rfl rfl) rfl rfl ?_
  refine jg_nils [(3, _), (4, _), (5, _), (6, _), (7, _), (41, _)] ⟨rfl, rfl, rfl, rfl, rfl, rfl, trivial⟩ ?_
  refine jk_sn ?_
  refine jn_cond rfl ?_ ?_
  · refine jn_seq ?_
    refine jn_reg 9 ?_
    refine jg_as rfl rfl rfl ?_
    refine jg_nils [(2, _)] ⟨rfl, trivial⟩ ?_
    refine jk_sel (is := []) (s0 rfl) rfl ?_
    refine jk_sn ?_
    refine jn_ret ?_
    refine jk_sr (jk_br (jk_sr (jk_lr (jk_br (jk_sr ?_)))))
    exact jk_ret1 rfl (fun w hs => .tmp rfl) (fun w hs => ⟨rfl, hs.drop⟩)
  refine jn_skip ?_
  refine jk_sn ?_
  refine jn_seq ?_
  refine jn_reg 10 ?_
  refine jg_as rfl rfl rfl ?_
  refine jg_nils [(3, _), (4, _), (5, _), (6, _), (7, _), (9, _)] ⟨rfl, rfl, rfl, rfl, rfl, rfl, trivial⟩ ?_
  refine jk_sn ?_
  refine jn_block ?_
  refine jn_lp (n := big) (fun (s : (Int × Int)) (g : Unit) => [(3, .pointer (some ⟨q2, 0, none⟩)), (4, .int .i64 z3.2), (5, q9.v), (6, .pointer (some ⟨g12, 0, none⟩)), (7, q14.v), (9, .int .i64 s.2)]) (fun (s : (Int × Int)) (g : Unit) => []) (fun (s : (Int × Int)) (g : Unit) => [(Res.blk q2 82 [ha0.v, .int .i64 s.1]), (rowH q9 32 5 Piece.enc v8.1), (Res.blk g12 28 [.int .i64 v10.1.Speed.Lo, .int .i64 v10.1.Speed.Hi, q11.1.v, .int .i64 v10.1.Error, q11.2.v]), (rowH q11.1 24 2 Interval.enc v10.1.Class), (rowH q11.2 3 1 encI v10.1.Targets), (rowH q14 43 6 Passage.enc v13.1)]) (v10.2, 0) () [5, 4, 1, 2, 3, 0] ⟨rfl, rfl, rfl, rfl, rfl, rfl, trivial⟩ rfl rfl rfl ?_
  intro z15 q16 n19 k17 H18
  refine jn_seq ?_
  refine jn_seq ?_
  refine jn_reg 11 ?_
  refine jg_mv rfl rfl rfl ?_
  refine jg_y (fun w hs => yv_lss rfl rfl) rfl rfl ?_
  refine jg_nils [(3, _), (4, _), (5, _), (6, _), (7, _), (9, _), (43, _)] ⟨rfl, rfl, rfl, rfl, rfl, rfl, rfl, trivial⟩ ?_
  refine jk_sn ?_
  refine jn_cond rfl ?_ ?_
  rotate_left
  · refine jn_exit ?_
    refine jk_se (jk_le (jk_bh (jk_bn (jk_sn ?_))))
    refine jn_reg 4 ?_
    refine jg_mv rfl rfl rfl ?_
    refine jg_y (fun w hs => yv_add_w rfl rfl) rfl rfl ?_
    refine jg_as rfl rfl rfl ?_
    refine jg_nils [(3, _), (4, _)] ⟨rfl, rfl, trivial⟩ ?_
    refine jk_sel (is := [0]) (s1 rfl) rfl ?_
    exact jk_use H6 (z15.1, w64 (z3.2 + 1)) () [0] ⟨rfl, rfl, trivial⟩ rfl rfl rfl
  refine jn_skip ?_
  refine jk_sn ?_
  refine jn_seq ?_
  refine jn_block ?_
  refine jn_seq ?_
  refine jn_reg 13 ?_
  refine jg_mv rfl rfl rfl ?_
  refine jg_mv rfl rfl rfl ?_
  refine jg_y (fun w hs => yv_load rfl (ldBB (hs.blkL (i := 2) rfl) rfl)) rfl rfl ?_
  refine jl_c 0 rfl rfl (fun v w hs hm => gen_Maker_Run_c (a1 := v10.1) hm (hs.blkL (i := 0) rfl) (hs.arg Rha0) (hs.offAL 0 Rha0 rfl) (hs.row 3 rfl) (hs.offLL 3 0 rfl rfl) (hs.row 4 rfl) (hs.offLL 4 0 rfl rfl)) (fun _ => rfl) rfl rfl fun v20 q21 => ?_
  refine jg_L (r8 rfl) ?_
  refine jg_c rfl (fun v w hs hm => runoff_Point_c (a1 := v20.1) hm (hs.row 3 rfl) (hs.row 0 rfl) (hs.row 1 rfl)) rfl rfl fun v22 q23 => ?_
  refine jg_L (r9 rfl) ?_
  refine jg_mv rfl rfl rfl ?_
  refine jg_y (fun w hs => yv_extract rfl rfl) rfl rfl ?_
  refine jg_y (fun w hs => yv_extract rfl rfl) rfl rfl ?_
  refine jg_y (fun w hs => yv_extract rfl rfl) rfl rfl ?_
  refine jg_as rfl rfl rfl ?_
  refine jg_as rfl rfl rfl ?_
  refine jg_as rfl rfl rfl ?_
  refine jg_nils [(3, _), (4, _), (5, _), (6, _), (7, _), (9, _), (10, _), (11, _), (12, _)] ⟨rfl, rfl, rfl, rfl, rfl, rfl, rfl, rfl, rfl, trivial⟩ ?_
  refine jk_sel (is := [0, 3, 4, 5, 6, 7, 8]) (s7 rfl) rfl ?_
  refine jk_sn ?_
  refine jn_join (fun (s : Unit) (g : Unit) => [(3, .pointer (some ⟨q2, 0, none⟩)), (4, .int .i64 z3.2), (5, q9.v), (6, .pointer (some ⟨g12, 0, none⟩)), (7, q14.v), (9, .int .i64 z15.2), (10, q23.v)]) (fun (s : Unit) (g : Unit) => []) (fun (s : Unit) (g : Unit) => [(Res.blk q2 82 [ha0.v, .int .i64 v20.2]), (rowH q9 32 5 Piece.enc v8.1), (Res.blk g12 28 [.int .i64 v10.1.Speed.Lo, .int .i64 v10.1.Speed.Hi, q11.1.v, .int .i64 v10.1.Error, q11.2.v]), (rowH q11.1 24 2 Interval.enc v10.1.Class), (rowH q11.2 3 1 encI v10.1.Targets), (rowH q14 43 6 Passage.enc v13.1), (rowH q23 41 2 Moment.enc v22.1)]) ?_ ?_
  · intro z24 q25
    refine jn_join (fun (s : Unit) (g : Unit) => [(3, .pointer (some ⟨q2, 0, none⟩)), (4, .int .i64 z3.2), (5, q9.v), (6, .pointer (some ⟨g12, 0, none⟩)), (7, q14.v), (9, .int .i64 z15.2), (10, q23.v)]) (fun (s : Unit) (g : Unit) => []) (fun (s : Unit) (g : Unit) => [(Res.blk q2 82 [ha0.v, .int .i64 v20.2]), (rowH q9 32 5 Piece.enc v8.1), (Res.blk g12 28 [.int .i64 v10.1.Speed.Lo, .int .i64 v10.1.Speed.Hi, q11.1.v, .int .i64 v10.1.Error, q11.2.v]), (rowH q11.1 24 2 Interval.enc v10.1.Class), (rowH q11.2 3 1 encI v10.1.Targets), (rowH q14 43 6 Passage.enc v13.1), (rowH q23 41 2 Moment.enc v22.1)]) ?_ ?_
    rotate_left
    · intro k30 H31
      refine jn_seq ?_
      refine jn_reg 16 ?_
      refine jg_mv rfl rfl rfl ?_
      refine jg_y (fun w hs => yv_ln rfl (hs.row 6 rfl)) rfl rfl ?_
      refine jg_mv rfl rfl rfl ?_
      refine jg_nils [(3, _), (4, _), (5, _), (6, _), (7, _), (9, _), (10, _), (91, _), (92, _)] ⟨rfl, rfl, rfl, rfl, rfl, rfl, rfl, rfl, rfl, trivial⟩ ?_
      refine jk_sn ?_
      refine jn_block ?_
      refine jn_lp (n := big) (fun (s : Int) (g : Unit) => [(3, .pointer (some ⟨q2, 0, none⟩)), (4, .int .i64 z3.2), (5, q9.v), (6, .pointer (some ⟨g12, 0, none⟩)), (7, q14.v), (9, .int .i64 z15.2), (10, q23.v), (91, .int .i64 (v22.1.length : Int)), (92, .int .i64 s)]) (fun (s : Int) (g : Unit) => []) (fun (s : Int) (g : Unit) => [(Res.blk q2 82 [ha0.v, .int .i64 v20.2]), (rowH q9 32 5 Piece.enc v8.1), (Res.blk g12 28 [.int .i64 v10.1.Speed.Lo, .int .i64 v10.1.Speed.Hi, q11.1.v, .int .i64 v10.1.Error, q11.2.v]), (rowH q11.1 24 2 Interval.enc v10.1.Class), (rowH q11.2 3 1 encI v10.1.Targets), (rowH q14 43 6 Passage.enc v13.1), (rowH q23 41 2 Moment.enc v22.1)]) 0 () [0, 1, 2, 3, 4, 5, 6] ⟨rfl, rfl, rfl, rfl, rfl, rfl, rfl, rfl, rfl, trivial⟩ rfl rfl rfl ?_
      intro z41 q42 n45 k43 H44
      refine jn_seq ?_
      refine jn_reg 17 ?_
      refine jg_y (fun w hs => yv_lss rfl rfl) rfl rfl ?_
      refine jg_nils [(3, _), (4, _), (5, _), (6, _), (7, _), (9, _), (10, _), (91, _), (92, _), (93, _)] ⟨rfl, rfl, rfl, rfl, rfl, rfl, rfl, rfl, rfl, rfl, trivial⟩ ?_
      refine jk_sn ?_
      refine jn_seq ?_
      refine jn_cond rfl ?_ ?_
      rotate_left
      · refine jn_exit ?_
        refine jk_se (jk_le (jk_bh ?_))
        exact jk_use H31 () () [0, 1, 2, 3, 4, 5, 6] ⟨rfl, rfl, rfl, rfl, rfl, rfl, rfl, trivial⟩ rfl rfl rfl
      refine jn_skip ?_
      refine jk_sn ?_
      refine jn_seq ?_
      refine jn_block ?_
      refine jn_seq ?_
      refine jn_reg 18 ?_
      refine jg_mv rfl rfl rfl ?_
      refine jg_as rfl rfl rfl ?_
      refine jg_nils [(3, _), (4, _), (5, _), (6, _), (7, _), (9, _), (10, _), (13, _), (91, _), (92, _)] ⟨rfl, rfl, rfl, rfl, rfl, rfl, rfl, rfl, rfl, rfl, trivial⟩ ?_
      refine jk_sn ?_
      refine jn_seq ?_
      refine jn_draw (L' := [_, _, _, _, _, _, _]) 19 [0, 1, 2, 3, 4, 5, 6] [0, 1, 2, 3, 4, 5, 6, 7, 8, 9] 1023 1023 [0, 0, 3, 4, 0, 0, 48, 64, 136, 256] [0, 0, 3, 7, 0, 0, 48, 112, 255, 511] [(0, true), (1, true), (2, true), (3, true), (4, true), (5, true), (6, true), (7, true), (8, true), (9, true)] rfl (np_seq (np_blk (np_seq (np_rnd (np_blk (np_seq (np_blk (np_seq (np_rnd (np_blk (np_blk (np_seq (np_rnd (np_blk (np_seq np_rt))))))))))))))) (by kernel_rfl) (by kernel_rfl) (by kernel_rfl) (by kernel_rfl) (by kernel_rfl) (by kernel_rfl) (by kernel_rfl) (by kernel_rfl) ?_
      refine jd_mv rfl rfl rfl rfl ?_
      refine jd_mv rfl rfl rfl rfl ?_
      refine jd_ix fun x46 h47 => ?_
      refine jd_y rfl (fun w hs => yv_ix rfl rfl (hs.row 6 rfl) h47) rfl rfl ?_
      refine jd_y rfl (fun w hs => yv_eS rfl (hs.row 6 rfl) h47.1 (l2 rfl) rfl) rfl rfl ?_
      refine jd_mv rfl rfl rfl rfl ?_
      refine jd_mv rfl rfl rfl rfl ?_
      refine jd_ix fun x48 h49 => ?_
      refine jd_y rfl (fun w hs => yv_ix rfl rfl (hs.row 5 rfl) h49) rfl rfl ?_
      refine jd_y rfl (fun w hs => yv_eS rfl (hs.row 5 rfl) h49.1 (l6 rfl) rfl) rfl rfl ?_
      refine jd_c0 rfl rfl (fun v w hs hm => runoff_In_c (a0 := x46) (a1 := x48) hm ) rfl rfl fun v50 => ?_
      refine jd_y rfl (fun w hs => yv_not rfl) rfl rfl ?_
      refine jd_nils [(3, _), (4, _), (5, _), (6, _), (7, _), (9, _), (10, _), (91, _), (92, _), (104, _)] ⟨rfl, rfl, rfl, rfl, rfl, rfl, rfl, rfl, rfl, rfl, trivial⟩ ?_
      refine jk_sn ?_
      refine jn_cond rfl ?_ ?_
      rotate_left
      · refine jn_skip ?_
        refine jk_bn (jk_sn ?_)
        refine jn_reg 21 ?_
        refine jg_y (fun w hs => yv_add_w rfl rfl) rfl rfl ?_
        refine jg_mv rfl rfl rfl ?_
        refine jg_nils [(3, _), (4, _), (5, _), (6, _), (7, _), (9, _), (10, _), (91, _), (92, _)] ⟨rfl, rfl, rfl, rfl, rfl, rfl, rfl, rfl, rfl, trivial⟩ ?_
        exact jk_use H44 (w64 (z41 + 1)) () [0, 1, 2, 3, 4, 5, 6] ⟨rfl, rfl, rfl, rfl, rfl, rfl, rfl, rfl, rfl, trivial⟩ rfl rfl rfl
      refine jn_seq ?_
      refine jn_reg 20 ?_
      refine jg_as rfl rfl rfl ?_
      refine jg_nils [(2, _)] ⟨rfl, trivial⟩ ?_
      refine jk_sel (is := []) (s0 rfl) rfl ?_
      refine jk_sn ?_
      refine jn_ret ?_
      refine jk_br (jk_sr (jk_lr (jk_br (jk_sr (jk_br (jk_sr (jk_lr (jk_br (jk_br (jk_sr (jk_lr (jk_br (jk_sr ?_)))))))))))))
      exact jk_ret1 rfl (fun w hs => .tmp rfl) (fun w hs => ⟨rfl, hs.drop⟩)
    intro z28 q29
    refine jn_seq ?_
    refine jn_reg 22 ?_
    refine jg_mv rfl rfl rfl ?_
    refine jg_y (fun w hs => yv_ln rfl (hs.row 6 rfl)) rfl rfl ?_
    refine jg_as rfl rfl rfl ?_
    refine jg_nils [(3, _), (4, _), (5, _), (6, _), (7, _), (9, _), (14, _)] ⟨rfl, rfl, rfl, rfl, rfl, rfl, rfl, trivial⟩ ?_
    refine jk_sn ?_
    refine jn_block ?_
    refine jn_lp (n := big) (fun (s : Int) (g : Unit) => [(3, .pointer (some ⟨q2, 0, none⟩)), (4, .int .i64 z3.2), (5, q9.v), (6, .pointer (some ⟨g12, 0, none⟩)), (7, q14.v), (9, .int .i64 z15.2), (14, .int .i64 s)]) (fun (s : Int) (g : Unit) => []) (fun (s : Int) (g : Unit) => [(Res.blk q2 82 [ha0.v, .int .i64 v20.2]), (rowH q9 32 5 Piece.enc v8.1), (Res.blk g12 28 [.int .i64 v10.1.Speed.Lo, .int .i64 v10.1.Speed.Hi, q11.1.v, .int .i64 v10.1.Error, q11.2.v]), (rowH q11.1 24 2 Interval.enc v10.1.Class), (rowH q11.2 3 1 encI v10.1.Targets), (rowH q14 43 6 Passage.enc v13.1)]) (v22.1.length : Int) () [0, 1, 2, 3, 4, 5] ⟨rfl, rfl, rfl, rfl, rfl, rfl, rfl, trivial⟩ rfl rfl rfl ?_
    intro z32 q33 n36 k34 H35
    refine jn_seq ?_
    refine jn_seq ?_
    refine jn_reg 23 ?_
    refine jg_mv rfl rfl rfl ?_
    refine jg_mv rfl rfl rfl ?_
    refine jg_y (fun w hs => yv_ln rfl (hs.row 5 rfl)) rfl rfl ?_
    refine jg_y (fun w hs => yv_lss rfl rfl) rfl rfl ?_
    refine jg_nils [(3, _), (4, _), (5, _), (6, _), (7, _), (9, _), (14, _), (111, _)] ⟨rfl, rfl, rfl, rfl, rfl, rfl, rfl, rfl, trivial⟩ ?_
    refine jk_sn ?_
    refine jn_cond rfl ?_ ?_
    rotate_left
    · refine jn_exit ?_
      refine jk_se (jk_le (jk_bh (jk_bn (jk_sn ?_))))
      refine jn_reg 12 ?_
      refine jg_mv rfl rfl rfl ?_
      refine jg_y (fun w hs => yv_add_w rfl rfl) rfl rfl ?_
      refine jg_as rfl rfl rfl ?_
      refine jg_nils [(3, _), (4, _), (5, _), (6, _), (7, _), (9, _)] ⟨rfl, rfl, rfl, rfl, rfl, rfl, trivial⟩ ?_
      exact jk_use H18 (v20.2, w64 (z15.2 + 1)) () [0, 1, 2, 3, 4, 5] ⟨rfl, rfl, rfl, rfl, rfl, rfl, trivial⟩ rfl rfl rfl
    refine jn_skip ?_
    refine jk_sn ?_
    refine jn_seq ?_
    refine jn_block ?_
    refine jn_seq ?_
    refine jn_reg 25 ?_
    refine jg_mv rfl rfl rfl ?_
    refine jg_mv rfl rfl rfl ?_
    refine jg_ix fun x37 h38 => ?_
    refine jg_y (fun w hs => yv_ix rfl rfl (hs.row 5 rfl) h38) rfl rfl ?_
    refine jg_y (fun w hs => yv_ef rfl (hs.row 5 rfl) h38.1) rfl rfl ?_
    refine jg_y (fun w hs => yv_e1 rfl (hs.row 5 rfl) h38.1 rfl) rfl rfl ?_
    refine jg_y (fun w hs => yv_not rfl) rfl rfl ?_
    refine jg_mv rfl rfl rfl ?_
    refine jg_split 120 rfl ?_ ?_
    rotate_left
    · refine jg_skip rfl rfl ?_
      refine jg_skip rfl rfl ?_
      refine jg_skip rfl rfl ?_
      refine jg_skip rfl rfl ?_
      refine jg_skip rfl rfl ?_
      refine jg_skip rfl rfl ?_
      refine jg_y (fun w hs => yv_pick_f rfl rfl) rfl rfl ?_
      refine jg_nils [(3, _), (4, _), (5, _), (6, _), (7, _), (9, _), (14, _), (127, _)] ⟨rfl, rfl, rfl, rfl, rfl, rfl, rfl, rfl, trivial⟩ ?_
      refine jk_sn ?_
      refine jn_cf rfl ?_
      refine jn_skip ?_
      refine jk_bn (jk_sn ?_)
      refine jn_reg 24 ?_
      refine jg_mv rfl rfl rfl ?_
      refine jg_y (fun w hs => yv_add_w rfl rfl) rfl rfl ?_
      refine jg_as rfl rfl rfl ?_
      refine jg_nils [(3, _), (4, _), (5, _), (6, _), (7, _), (9, _), (14, _)] ⟨rfl, rfl, rfl, rfl, rfl, rfl, rfl, trivial⟩ ?_
      exact jk_use H35 (w64 (z32 + 1)) () [0, 1, 2, 3, 4, 5] ⟨rfl, rfl, rfl, rfl, rfl, rfl, rfl, trivial⟩ rfl rfl rfl
    refine jg_mv rfl rfl rfl ?_
    refine jg_mv rfl rfl rfl ?_
    refine jg_ix fun x39 h40 => ?_
    refine jg_y (fun w hs => yv_ix rfl rfl (hs.row 5 rfl) h40) rfl rfl ?_
    refine jg_y (fun w hs => yv_ef rfl (hs.row 5 rfl) h40.1) rfl rfl ?_
    refine jg_y (fun w hs => yv_e1 rfl (hs.row 5 rfl) h40.1 rfl) rfl rfl ?_
    refine jg_y (fun w hs => yv_not rfl) rfl rfl ?_
    refine jg_y (fun w hs => yv_pick_t rfl rfl) rfl rfl ?_
    refine jg_nils [(3, _), (4, _), (5, _), (6, _), (7, _), (9, _), (14, _), (127, _)] ⟨rfl, rfl, rfl, rfl, rfl, rfl, rfl, rfl, trivial⟩ ?_
    refine jk_sn ?_
    refine jn_cond rfl ?_ ?_
    rotate_left
    · refine jn_skip ?_
      refine jk_bn (jk_sn ?_)
      refine jn_reg 24 ?_
      refine jg_mv rfl rfl rfl ?_
      refine jg_y (fun w hs => yv_add_w rfl rfl) rfl rfl ?_
      refine jg_as rfl rfl rfl ?_
      refine jg_nils [(3, _), (4, _), (5, _), (6, _), (7, _), (9, _), (14, _)] ⟨rfl, rfl, rfl, rfl, rfl, rfl, rfl, trivial⟩ ?_
      exact jk_use H35 (w64 (z32 + 1)) () [0, 1, 2, 3, 4, 5] ⟨rfl, rfl, rfl, rfl, rfl, rfl, rfl, trivial⟩ rfl rfl rfl
    refine jn_seq ?_
    refine jn_reg 26 ?_
    refine jg_as rfl rfl rfl ?_
    refine jg_nils [(2, _)] ⟨rfl, trivial⟩ ?_
    refine jk_sel (is := []) (s0 rfl) rfl ?_
    refine jk_sn ?_
    refine jn_ret ?_
    refine jk_br (jk_sr (jk_lr (jk_br (jk_br (jk_sr (jk_lr (jk_br (jk_br (jk_sr (jk_lr (jk_br (jk_sr ?_))))))))))))
    exact jk_ret1 rfl (fun w hs => .tmp rfl) (fun w hs => ⟨rfl, hs.drop⟩)
  intro k26 H27
  refine jn_seq ?_
  refine jn_reg 14 ?_
  refine jg_mv rfl rfl rfl ?_
  refine jg_y (fun w hs => yv_neq rfl rfl) rfl rfl ?_
  refine jg_mv rfl rfl rfl ?_
  refine jg_split 57 rfl ?_ ?_
  · refine jg_skip rfl rfl ?_
    refine jg_skip rfl rfl ?_
    refine jg_skip rfl rfl ?_
    refine jg_y (fun w hs => yv_pick_t rfl rfl) rfl rfl ?_
    refine jg_mv rfl rfl rfl ?_
    refine jg_skip rfl rfl ?_
    refine jg_skip rfl rfl ?_
    refine jg_skip rfl rfl ?_
    refine jg_skip rfl rfl ?_
    refine jg_skip rfl rfl ?_
    refine jg_y (fun w hs => yv_pick_t rfl rfl) rfl rfl ?_
    refine jg_mv rfl rfl rfl ?_
    refine jg_skip rfl rfl ?_
    refine jg_skip rfl rfl ?_
    refine jg_skip rfl rfl ?_
    refine jg_skip rfl rfl ?_
    refine jg_skip rfl rfl ?_
    refine jg_skip rfl rfl ?_
    refine jg_skip rfl rfl ?_
    refine jg_skip rfl rfl ?_
    refine jg_y (fun w hs => yv_pick_t rfl rfl) rfl rfl ?_
    refine jg_mv rfl rfl rfl ?_
    refine jg_skip rfl rfl ?_
    refine jg_skip rfl rfl ?_
    refine jg_skip rfl rfl ?_
    refine jg_skip rfl rfl ?_
    refine jg_skip rfl rfl ?_
    refine jg_skip rfl rfl ?_
    refine jg_skip rfl rfl ?_
    refine jg_skip rfl rfl ?_
    refine jg_skip rfl rfl ?_
    refine jg_y (fun w hs => yv_pick_t rfl rfl) rfl rfl ?_
    refine jg_nils [(3, _), (4, _), (5, _), (6, _), (7, _), (9, _), (10, _), (89, _)] ⟨rfl, rfl, rfl, rfl, rfl, rfl, rfl, rfl, trivial⟩ ?_
    refine jk_sn ?_
    refine jn_ct rfl ?_
    refine jn_seq ?_
    refine jn_reg 15 ?_
    refine jg_as rfl rfl rfl ?_
    refine jg_nils [(2, _)] ⟨rfl, trivial⟩ ?_
    refine jk_sel (is := []) (s0 rfl) rfl ?_
    refine jk_sn ?_
    refine jn_ret ?_
    refine jk_sr (jk_br (jk_sr (jk_lr (jk_br (jk_br (jk_sr (jk_lr (jk_br (jk_sr ?_)))))))))
    exact jk_ret1 rfl (fun w hs => .tmp rfl) (fun w hs => ⟨rfl, hs.drop⟩)
  refine jg_mv rfl rfl rfl ?_
  refine jg_y (fun w hs => yv_ln rfl (hs.row 0 rfl)) rfl rfl ?_
  refine jg_y (fun w hs => yv_eql rfl rfl) rfl rfl ?_
  refine jg_y (fun w hs => yv_pick_f rfl rfl) rfl rfl ?_
  refine jg_mv rfl rfl rfl ?_
  refine jg_split 62 rfl ?_ ?_
  · refine jg_skip rfl rfl ?_
    refine jg_skip rfl rfl ?_
    refine jg_skip rfl rfl ?_
    refine jg_skip rfl rfl ?_
    refine jg_skip rfl rfl ?_
    refine jg_y (fun w hs => yv_pick_t rfl rfl) rfl rfl ?_
    refine jg_mv rfl rfl rfl ?_
    refine jg_skip rfl rfl ?_
    refine jg_skip rfl rfl ?_
    refine jg_skip rfl rfl ?_
    refine jg_skip rfl rfl ?_
    refine jg_skip rfl rfl ?_
    refine jg_skip rfl rfl ?_
    refine jg_skip rfl rfl ?_
    refine jg_skip rfl rfl ?_
    refine jg_y (fun w hs => yv_pick_t rfl rfl) rfl rfl ?_
    refine jg_mv rfl rfl rfl ?_
    refine jg_skip rfl rfl ?_
    refine jg_skip rfl rfl ?_
    refine jg_skip rfl rfl ?_
    refine jg_skip rfl rfl ?_
    refine jg_skip rfl rfl ?_
    refine jg_skip rfl rfl ?_
    refine jg_skip rfl rfl ?_
    refine jg_skip rfl rfl ?_
    refine jg_skip rfl rfl ?_
    refine jg_y (fun w hs => yv_pick_t rfl rfl) rfl rfl ?_
    refine jg_nils [(3, _), (4, _), (5, _), (6, _), (7, _), (9, _), (10, _), (89, _)] ⟨rfl, rfl, rfl, rfl, rfl, rfl, rfl, rfl, trivial⟩ ?_
    refine jk_sn ?_
    refine jn_ct rfl ?_
    refine jn_seq ?_
    refine jn_reg 15 ?_
    refine jg_as rfl rfl rfl ?_
    refine jg_nils [(2, _)] ⟨rfl, trivial⟩ ?_
    refine jk_sel (is := []) (s0 rfl) rfl ?_
    refine jk_sn ?_
    refine jn_ret ?_
    refine jk_sr (jk_br (jk_sr (jk_lr (jk_br (jk_br (jk_sr (jk_lr (jk_br (jk_sr ?_)))))))))
    exact jk_ret1 rfl (fun w hs => .tmp rfl) (fun w hs => ⟨rfl, hs.drop⟩)
  refine jg_mv rfl rfl rfl ?_
  refine jg_y (fun w hs => yv_ln rfl (hs.row 0 rfl)) rfl rfl ?_
  refine jg_mv rfl rfl rfl ?_
  refine jg_y (fun w hs => yv_ln rfl (hs.row 6 rfl)) rfl rfl ?_
  refine jg_y (fun w hs => yv_gtr rfl rfl) rfl rfl ?_
  refine jg_y (fun w hs => yv_pick_f rfl rfl) rfl rfl ?_
  refine jg_mv rfl rfl rfl ?_
  refine jg_split 69 rfl ?_ ?_
  · refine jg_skip rfl rfl ?_
    refine jg_skip rfl rfl ?_
    refine jg_skip rfl rfl ?_
    refine jg_skip rfl rfl ?_
    refine jg_skip rfl rfl ?_
    refine jg_skip rfl rfl ?_
    refine jg_skip rfl rfl ?_
    refine jg_skip rfl rfl ?_
    refine jg_y (fun w hs => yv_pick_t rfl rfl) rfl rfl ?_
    refine jg_mv rfl rfl rfl ?_
    refine jg_skip rfl rfl ?_
    refine jg_skip rfl rfl ?_
    refine jg_skip rfl rfl ?_
    refine jg_skip rfl rfl ?_
    refine jg_skip rfl rfl ?_
    refine jg_skip rfl rfl ?_
    refine jg_skip rfl rfl ?_
    refine jg_skip rfl rfl ?_
    refine jg_skip rfl rfl ?_
    refine jg_y (fun w hs => yv_pick_t rfl rfl) rfl rfl ?_
    refine jg_nils [(3, _), (4, _), (5, _), (6, _), (7, _), (9, _), (10, _), (89, _)] ⟨rfl, rfl, rfl, rfl, rfl, rfl, rfl, rfl, trivial⟩ ?_
    refine jk_sn ?_
    refine jn_ct rfl ?_
    refine jn_seq ?_
    refine jn_reg 15 ?_
    refine jg_as rfl rfl rfl ?_
    refine jg_nils [(2, _)] ⟨rfl, trivial⟩ ?_
    refine jk_sel (is := []) (s0 rfl) rfl ?_
    refine jk_sn ?_
    refine jn_ret ?_
    refine jk_sr (jk_br (jk_sr (jk_lr (jk_br (jk_br (jk_sr (jk_lr (jk_br (jk_sr ?_)))))))))
    exact jk_ret1 rfl (fun w hs => .tmp rfl) (fun w hs => ⟨rfl, hs.drop⟩)
  refine jg_mv rfl rfl rfl ?_
  refine jg_y (fun w hs => yv_lss rfl rfl) rfl rfl ?_
  refine jg_mv rfl rfl rfl ?_
  refine jg_y (fun w hs => yv_ln rfl (hs.row 0 rfl)) rfl rfl ?_
  refine jg_mv rfl rfl rfl ?_
  refine jg_y (fun w hs => yv_ln rfl (hs.row 6 rfl)) rfl rfl ?_
  refine jg_y (fun w hs => yv_eql rfl rfl) rfl rfl ?_
  refine jg_y (fun w hs => yv_neqb Try.underlying4 rfl rfl) rfl rfl ?_
  refine jg_y (fun w hs => yv_pick_f rfl rfl) rfl rfl ?_
  refine jg_mv rfl rfl rfl ?_
  refine jg_split 79 rfl ?_ ?_
  · refine jg_skip rfl rfl ?_
    refine jg_skip rfl rfl ?_
    refine jg_skip rfl rfl ?_
    refine jg_skip rfl rfl ?_
    refine jg_skip rfl rfl ?_
    refine jg_skip rfl rfl ?_
    refine jg_skip rfl rfl ?_
    refine jg_skip rfl rfl ?_
    refine jg_skip rfl rfl ?_
    refine jg_y (fun w hs => yv_pick_t rfl rfl) rfl rfl ?_
    refine jg_nils [(3, _), (4, _), (5, _), (6, _), (7, _), (9, _), (10, _), (89, _)] ⟨rfl, rfl, rfl, rfl, rfl, rfl, rfl, rfl, trivial⟩ ?_
    refine jk_sn ?_
    refine jn_ct rfl ?_
    refine jn_seq ?_
    refine jn_reg 15 ?_
    refine jg_as rfl rfl rfl ?_
    refine jg_nils [(2, _)] ⟨rfl, trivial⟩ ?_
    refine jk_sel (is := []) (s0 rfl) rfl ?_
    refine jk_sn ?_
    refine jn_ret ?_
    refine jk_sr (jk_br (jk_sr (jk_lr (jk_br (jk_br (jk_sr (jk_lr (jk_br (jk_sr ?_)))))))))
    exact jk_ret1 rfl (fun w hs => .tmp rfl) (fun w hs => ⟨rfl, hs.drop⟩)
  refine jg_mv rfl rfl rfl ?_
  refine jg_y (fun w hs => yv_geq rfl rfl) rfl rfl ?_
  refine jg_mv rfl rfl rfl ?_
  refine jg_split 82 rfl ?_ ?_
  rotate_left
  · refine jg_skip rfl rfl ?_
    refine jg_skip rfl rfl ?_
    refine jg_skip rfl rfl ?_
    refine jg_skip rfl rfl ?_
    refine jg_skip rfl rfl ?_
    refine jg_y (fun w hs => yv_pick_f rfl rfl) rfl rfl ?_
    refine jg_y (fun w hs => yv_pick_f rfl rfl) rfl rfl ?_
    refine jg_nils [(3, _), (4, _), (5, _), (6, _), (7, _), (9, _), (10, _), (89, _)] ⟨rfl, rfl, rfl, rfl, rfl, rfl, rfl, rfl, trivial⟩ ?_
    refine jk_sn ?_
    refine jn_cf rfl ?_
    refine jn_skip ?_
    exact jk_use H27 () () [1, 2, 3, 4, 5, 6, 0] ⟨rfl, rfl, rfl, rfl, rfl, rfl, rfl, trivial⟩ rfl rfl rfl
  refine jg_mv rfl rfl rfl ?_
  refine jg_mv rfl rfl rfl ?_
  refine jg_y (fun w hs => yv_ln rfl (hs.row 0 rfl)) rfl rfl ?_
  refine jg_y (fun w hs => yv_sub_w rfl rfl) rfl rfl ?_
  refine jg_y (fun w hs => yv_neq rfl rfl) rfl rfl ?_
  refine jg_y (fun w hs => yv_pick_t rfl rfl) rfl rfl ?_
  refine jg_y (fun w hs => yv_pick_f rfl rfl) rfl rfl ?_
  refine jg_nils [(3, _), (4, _), (5, _), (6, _), (7, _), (9, _), (10, _), (89, _)] ⟨rfl, rfl, rfl, rfl, rfl, rfl, rfl, rfl, trivial⟩ ?_
  refine jk_sn ?_
  refine jn_cond rfl ?_ ?_
  rotate_left
  · refine jn_skip ?_
    exact jk_use H27 () () [1, 2, 3, 4, 5, 6, 0] ⟨rfl, rfl, rfl, rfl, rfl, rfl, rfl, trivial⟩ rfl rfl rfl
  refine jn_seq ?_
  refine jn_reg 15 ?_
  refine jg_as rfl rfl rfl ?_
  refine jg_nils [(2, _)] ⟨rfl, trivial⟩ ?_
  refine jk_sel (is := []) (s0 rfl) rfl ?_
  refine jk_sn ?_
  refine jn_ret ?_
  refine jk_sr (jk_br (jk_sr (jk_lr (jk_br (jk_br (jk_sr (jk_lr (jk_br (jk_sr ?_)))))))))
  exact jk_ret1 rfl (fun w hs => .tmp rfl) (fun w hs => ⟨rfl, hs.drop⟩)
theorem law20_RunoffLate_c {w : World} {a0 : Int}  {v : Bool} (hm : law20_RunoffLate a0 = some v) : Gives Try.prog 3 [.int .i64 a0] w (.bool v) := by
  refine j_gives (vs := [.int .i64 a0]) (U := fun (v : Bool) => .bool v) Try.func3 rfl Try.ntmps3 rfl rfl hm ?_
  unfold law20_RunoffLate
  clear hm
  refine jn_seq ?_
  refine jn_reg 0 ?_
  refine jg_as rfl rfl rfl ?_
  refine jg_nils [(0, _)] ⟨rfl, trivial⟩ ?_
  refine jk_sn ?_
  refine jn_seq ?_
  refine jn_reg 1 ?_
  refine jg_mv rfl rfl rfl ?_
  refine jg_y (fun w hs => yv_tmod rfl rfl (by decide)) rfl rfl ?_
  refine jg_y (fun w hs => yv_add_w rfl rfl) rfl rfl ?_
  refine jg_yl (fun w hs => yv_tmod rfl rfl (by decide)) rfl rfl fun x1 => ?_
  refine jg_y (fun w hs => yv_add_w rfl rfl) rfl rfl ?_
  refine jg_as rfl rfl rfl ?_
  refine jg_nils [(0, _)] ⟨rfl, trivial⟩ ?_
  refine jk_sn ?_
  refine jn_seq ?_
  refine jn_reg 2 ?_
  refine jg_as rfl rfl rfl ?_
  refine jg_nils [(0, _), (3, _)] ⟨rfl, rfl, trivial⟩ ?_
  refine jk_sn ?_
  refine jn_seq ?_
  refine jn_reg 3 ?_
  refine jg_y (fun w hs => yv_build rfl (o2 rfl)) rfl rfl ?_
  refine jg_y (fun w hs => yv_build rfl (o5 rfl)) rfl rfl ?_
  refine jg_alloc (l5 rfl) rfl rfl fun g2 => ?_
  refine jg_store 0 rfl rfl rfl (l5 rfl) rfl rfl rfl rfl (l5 rfl) (r1 rfl) ?_
  refine jg_nils [(0, _), (3, _), (4, _)] ⟨rfl, rfl, rfl, trivial⟩ ?_
  refine jk_sn ?_
  refine jn_seq ?_
  refine jn_reg 4 ?_
  refine jg_y (fun w hs => yv_build rfl (o3 rfl)) rfl rfl ?_
  refine jg_alloc (l3 rfl) rfl rfl fun g3 => ?_
  refine jg_store 0 rfl rfl rfl (l3 rfl) rfl rfl rfl rfl (l3 rfl) (r2 rfl) ?_
  refine jg_nils [(0, _), (3, _), (4, _), (5, _)] ⟨rfl, rfl, rfl, rfl, trivial⟩ ?_
  refine jk_sn ?_
  refine jn_join (fun (s : ((List Piece) × (List Interval) × (List Int))) (g : (Hd × Hd × Hd)) => [(0, .int .i64 (w64 (2 + x1))), (3, g.1.v), (4, .pointer (some ⟨g2, 0, none⟩)), (5, .pointer (some ⟨g3, 0, none⟩))]) (fun (s : ((List Piece) × (List Interval) × (List Int))) (g : (Hd × Hd × Hd)) => []) (fun (s : ((List Piece) × (List Interval) × (List Int))) (g : (Hd × Hd × Hd)) => [(rowH g.1 32 5 Piece.enc s.1), (Res.blk g2 28 [.int .i64 1, .int .i64 1, g.2.1.v, .int .i64 0, (Hd.mk none 0 0).v]), (rowH g.2.1 24 2 Interval.enc s.2.1), (Res.blk g3 30 [.int .i64 1, g.2.2.v, (Hd.mk none 0 0).v]), (rowH g.2.2 3 1 encI s.2.2)]) ?_ ?_
  rotate_left
  · intro k6 H7
    refine jn_seq ?_
    refine jn_reg 5 ?_
    refine jg_as rfl rfl rfl ?_
    refine jg_nils [(0, _), (3, _), (4, _), (5, _), (6, _)] ⟨rfl, rfl, rfl, rfl, rfl, trivial⟩ ?_
    refine jk_sn ?_
    refine jn_block ?_
    refine jn_addnil 32 5 Piece.enc ?_
    refine jn_addnil 24 2 Interval.enc ?_
    refine jn_addnil 3 1 encI ?_
    refine jn_lp (n := big) (fun (s : ((List Piece) × (List Interval) × (List Int) × Int)) (g : (Hd × Hd × Hd)) => [(0, .int .i64 (w64 (2 + x1))), (3, g.1.v), (4, .pointer (some ⟨g2, 0, none⟩)), (5, .pointer (some ⟨g3, 0, none⟩)), (6, .int .i64 s.2.2.2)]) (fun (s : ((List Piece) × (List Interval) × (List Int) × Int)) (g : (Hd × Hd × Hd)) => []) (fun (s : ((List Piece) × (List Interval) × (List Int) × Int)) (g : (Hd × Hd × Hd)) => [(rowH g.1 32 5 Piece.enc s.1), (Res.blk g2 28 [.int .i64 1, .int .i64 1, g.2.1.v, .int .i64 0, (Hd.mk none 0 0).v]), (rowH g.2.1 24 2 Interval.enc s.2.1), (Res.blk g3 30 [.int .i64 1, g.2.2.v, (Hd.mk none 0 0).v]), (rowH g.2.2 3 1 encI s.2.2.1)]) (([] : List Piece), ([] : List Interval), ([] : List Int), 0) ((Hd.mk none 0 0), (Hd.mk none 0 0), (Hd.mk none 0 0)) [2, 4, 1, 3, 0] ⟨rfl, rfl, rfl, rfl, rfl, trivial⟩ rfl rfl rfl ?_
    intro z27 q28 n31 k29 H30
    refine jn_seq ?_
    refine jn_seq ?_
    refine jn_reg 6 ?_
    refine jg_mv rfl rfl rfl ?_
    refine jg_mv rfl rfl rfl ?_
    refine jg_y (fun w hs => yv_lss rfl rfl) rfl rfl ?_
    refine jg_nils [(0, _), (3, _), (4, _), (5, _), (6, _), (24, _)] ⟨rfl, rfl, rfl, rfl, rfl, rfl, trivial⟩ ?_
    refine jk_sn ?_
    refine jn_cond rfl ?_ ?_
    rotate_left
    · refine jn_exit ?_
      refine jk_se (jk_le (jk_bh ?_))
      exact jk_use H7 (z27.1, z27.2.1, z27.2.2.1) (q28.1, q28.2.1, q28.2.2) [0, 1, 2, 3, 4] ⟨rfl, rfl, rfl, rfl, trivial⟩ rfl rfl rfl
    refine jn_skip ?_
    refine jk_sn ?_
    refine jn_seq ?_
    refine jn_block ?_
    refine jn_seq ?_
    refine jn_reg 8 ?_
    refine jg_mv rfl rfl rfl ?_
    refine jg_mv rfl rfl rfl ?_
    refine jg_y (fun w hs => yv_build rfl (o5 rfl)) rfl rfl ?_
    refine jg_lit (enc := Piece.enc) [(Piece.mk z27.2.2.2 1000000 0 0 0)] rfl rfl rfl rfl rfl rfl rfl rfl fun hd32 => ?_
    refine jg_append 1 rfl rfl rfl (fun w hs => (hs.row 0 rfl)) rfl rfl rfl fun y33 hd34 => ?_
    refine jg_L (r6 rfl) ?_
    refine jg_as rfl rfl rfl ?_
    refine jg_nils [(0, _), (3, _), (4, _), (5, _), (6, _)] ⟨rfl, rfl, rfl, rfl, rfl, trivial⟩ ?_
    refine jk_sn ?_
    refine jn_seq ?_
    refine jn_reg 9 ?_
    refine jg_y (fun w hs => yv_fieldAddr rfl) rfl rfl ?_
    refine jg_y (fun w hs => yv_load rfl (ld1B (hs.blkL (i := 2) rfl) rfl)) rfl rfl ?_
    refine jg_y (fun w hs => yv_build rfl (o2 rfl)) rfl rfl ?_
    refine jg_lit (enc := Interval.enc) [(Interval.mk 0 0)] rfl rfl rfl rfl rfl rfl rfl rfl fun hd35 => ?_
    refine jg_append 4 rfl rfl rfl (fun w hs => (hs.row 0 rfl)) rfl rfl rfl fun y36 hd37 => ?_
    refine jg_L (r7 rfl) ?_
    refine jg_y (fun w hs => yv_fieldAddr rfl) rfl rfl ?_
    refine jg_store 3 rfl rfl rfl (l1 rfl) rfl rfl rfl rfl (l5 rfl) (r7 rfl) ?_
    refine jg_nils [(0, _), (3, _), (4, _), (5, _), (6, _)] ⟨rfl, rfl, rfl, rfl, rfl, trivial⟩ ?_
    refine jk_sel (is := [2, 3, 4, 5, 6]) (s5 rfl) rfl ?_
    refine jk_sn ?_
    refine jn_reg 10 ?_
    refine jg_y (fun w hs => yv_fieldAddr rfl) rfl rfl ?_
    refine jg_y (fun w hs => yv_load rfl (ld1B (hs.blkL (i := 3) rfl) rfl)) rfl rfl ?_
    refine jg_lit (enc := encI) [0] rfl rfl rfl rfl rfl rfl rfl rfl fun hd38 => ?_
    refine jg_append 5 rfl rfl rfl (fun w hs => (hs.row 0 rfl)) rfl rfl rfl fun y39 hd40 => ?_
    refine jg_L (r6 rfl) ?_
    refine jg_y (fun w hs => yv_fieldAddr rfl) rfl rfl ?_
    refine jg_store 4 rfl rfl rfl (l1 rfl) rfl rfl rfl rfl (l3 rfl) (r6 rfl) ?_
    refine jg_nils [(0, _), (3, _), (4, _), (5, _), (6, _)] ⟨rfl, rfl, rfl, rfl, rfl, trivial⟩ ?_
    refine jk_bn (jk_sn ?_)
    refine jn_reg 7 ?_
    refine jg_mv rfl rfl rfl ?_
    refine jg_y (fun w hs => yv_add_w rfl rfl) rfl rfl ?_
    refine jg_as rfl rfl rfl ?_
    refine jg_nils [(0, _), (3, _), (4, _), (5, _), (6, _)] ⟨rfl, rfl, rfl, rfl, rfl, trivial⟩ ?_
    exact jk_use H30 (y33, y36, y39, w64 (z27.2.2.2 + 1)) (hd34, hd37, hd40) [1, 2, 3, 4, 5] ⟨rfl, rfl, rfl, rfl, rfl, trivial⟩ rfl rfl rfl
  intro z4 q5
  refine jn_seq ?_
  refine jn_reg 11 ?_
  refine jg_mv rfl rfl rfl ?_
  refine jg_y (fun w hs => yv_load rfl (ldBB (hs.blkL (i := 1) rfl) rfl)) rfl rfl ?_
  refine jg_c rfl (fun v w hs hm => runoff_Pass_c (a1 := (Motion.mk (Interval.mk 1 1) z4.2.1 0 ([] : List Int))) hm (hs.row 0 rfl) (hs.row 2 rfl) Sl.nil) rfl rfl fun v8 q9 => ?_
  refine jg_L (r6 rfl) ?_
  refine jg_mv rfl rfl rfl ?_
  refine jg_y (fun w hs => yv_extract rfl rfl) rfl rfl ?_
  refine jg_y (fun w hs => yv_extract rfl rfl) rfl rfl ?_
  refine jg_as rfl rfl rfl ?_
  refine jg_as rfl rfl rfl ?_
  refine jg_nils [(0, _), (3, _), (5, _), (7, _), (8, _)] ⟨rfl, rfl, rfl, rfl, rfl, trivial⟩ ?_
  refine jk_sel (is := [0, 1, 4, 5]) (s4 rfl) rfl ?_
  refine jk_sn ?_
  refine jn_seq ?_
  refine jn_reg 12 ?_
  refine jg_mv rfl rfl rfl ?_
  refine jg_y (fun w hs => yv_load rfl (ldBB (hs.blkL (i := 2) rfl) rfl)) rfl rfl ?_
  refine jg_c rfl (fun v w hs hm => runoff_Point_c (a1 := (Run.mk 1 z4.2.2 ([] : List Int))) hm (hs.row 1 rfl) (hs.row 3 rfl) Sl.nil) rfl rfl fun v10 q11 => ?_
  refine jg_L (r5 rfl) ?_
  refine jg_mv rfl rfl rfl ?_
  refine jg_y (fun w hs => yv_extract rfl rfl) rfl rfl ?_
  refine jg_y (fun w hs => yv_extract rfl rfl) rfl rfl ?_
  refine jg_y (fun w hs => yv_extract rfl rfl) rfl rfl ?_
  refine jg_as rfl rfl rfl ?_
  refine jg_as rfl rfl rfl ?_
  refine jg_as rfl rfl rfl ?_
  refine jg_nils [(0, _), (7, _), (8, _), (9, _), (10, _), (11, _)] ⟨rfl, rfl, rfl, rfl, rfl, rfl, trivial⟩ ?_
  refine jk_sel (is := [0, 1]) (s2 rfl) rfl ?_
  refine jk_sn ?_
  refine jn_seq ?_
  refine jn_seq ?_
  refine jn_reg 13 ?_
  refine jg_mv rfl rfl rfl ?_
  refine jg_y (fun w hs => yv_neq rfl rfl) rfl rfl ?_
  refine jg_mv rfl rfl rfl ?_
  refine jg_split 58 rfl ?_ ?_
  · refine jg_skip rfl rfl ?_
    refine jg_skip rfl rfl ?_
    refine jg_y (fun w hs => yv_pick_t rfl rfl) rfl rfl ?_
    refine jg_mv rfl rfl rfl ?_
    refine jg_skip rfl rfl ?_
    refine jg_skip rfl rfl ?_
    refine jg_y (fun w hs => yv_pick_t rfl rfl) rfl rfl ?_
    refine jg_mv rfl rfl rfl ?_
    refine jg_skip rfl rfl ?_
    refine jg_skip rfl rfl ?_
    refine jg_skip rfl rfl ?_
    refine jg_skip rfl rfl ?_
    refine jg_skip rfl rfl ?_
    refine jg_y (fun w hs => yv_pick_t rfl rfl) rfl rfl ?_
    refine jg_mv rfl rfl rfl ?_
    refine jg_skip rfl rfl ?_
    refine jg_skip rfl rfl ?_
    refine jg_skip rfl rfl ?_
    refine jg_skip rfl rfl ?_
    refine jg_skip rfl rfl ?_
    refine jg_y (fun w hs => yv_pick_t rfl rfl) rfl rfl ?_
    refine jg_nils [(0, _), (7, _), (9, _), (79, _)] ⟨rfl, rfl, rfl, rfl, trivial⟩ ?_
    refine jk_sn ?_
    refine jn_ct rfl ?_
    refine jn_seq ?_
    refine jn_reg 14 ?_
    refine jg_as rfl rfl rfl ?_
    refine jg_nils [(2, _)] ⟨rfl, trivial⟩ ?_
    refine jk_sel (is := []) (s0 rfl) rfl ?_
    refine jk_sn ?_
    refine jn_ret ?_
    refine jk_sr ?_
    exact jk_ret1 rfl (fun w hs => .tmp rfl) (fun w hs => ⟨rfl, hs.drop⟩)
  refine jg_mv rfl rfl rfl ?_
  refine jg_y (fun w hs => yv_neq rfl rfl) rfl rfl ?_
  refine jg_y (fun w hs => yv_pick_f rfl rfl) rfl rfl ?_
  refine jg_mv rfl rfl rfl ?_
  refine jg_split 62 rfl ?_ ?_
  · refine jg_skip rfl rfl ?_
    refine jg_skip rfl rfl ?_
    refine jg_y (fun w hs => yv_pick_t rfl rfl) rfl rfl ?_
    refine jg_mv rfl rfl rfl ?_
    refine jg_skip rfl rfl ?_
    refine jg_skip rfl rfl ?_
    refine jg_skip rfl rfl ?_
    refine jg_skip rfl rfl ?_
    refine jg_skip rfl rfl ?_
    refine jg_y (fun w hs => yv_pick_t rfl rfl) rfl rfl ?_
    refine jg_mv rfl rfl rfl ?_
    refine jg_skip rfl rfl ?_
    refine jg_skip rfl rfl ?_
    refine jg_skip rfl rfl ?_
    refine jg_skip rfl rfl ?_
    refine jg_skip rfl rfl ?_
    refine jg_y (fun w hs => yv_pick_t rfl rfl) rfl rfl ?_
    refine jg_nils [(0, _), (7, _), (9, _), (79, _)] ⟨rfl, rfl, rfl, rfl, trivial⟩ ?_
    refine jk_sn ?_
    refine jn_ct rfl ?_
    refine jn_seq ?_
    refine jn_reg 14 ?_
    refine jg_as rfl rfl rfl ?_
    refine jg_nils [(2, _)] ⟨rfl, trivial⟩ ?_
    refine jk_sel (is := []) (s0 rfl) rfl ?_
    refine jk_sn ?_
    refine jn_ret ?_
    refine jk_sr ?_
    exact jk_ret1 rfl (fun w hs => .tmp rfl) (fun w hs => ⟨rfl, hs.drop⟩)
  refine jg_mv rfl rfl rfl ?_
  refine jg_y (fun w hs => yv_neq rfl rfl) rfl rfl ?_
  refine jg_y (fun w hs => yv_pick_f rfl rfl) rfl rfl ?_
  refine jg_mv rfl rfl rfl ?_
  refine jg_split 66 rfl ?_ ?_
  · refine jg_skip rfl rfl ?_
    refine jg_skip rfl rfl ?_
    refine jg_skip rfl rfl ?_
    refine jg_skip rfl rfl ?_
    refine jg_skip rfl rfl ?_
    refine jg_y (fun w hs => yv_pick_t rfl rfl) rfl rfl ?_
    refine jg_mv rfl rfl rfl ?_
    refine jg_skip rfl rfl ?_
    refine jg_skip rfl rfl ?_
    refine jg_skip rfl rfl ?_
    refine jg_skip rfl rfl ?_
    refine jg_skip rfl rfl ?_
    refine jg_y (fun w hs => yv_pick_t rfl rfl) rfl rfl ?_
    refine jg_nils [(0, _), (7, _), (9, _), (79, _)] ⟨rfl, rfl, rfl, rfl, trivial⟩ ?_
    refine jk_sn ?_
    refine jn_ct rfl ?_
    refine jn_seq ?_
    refine jn_reg 14 ?_
    refine jg_as rfl rfl rfl ?_
    refine jg_nils [(2, _)] ⟨rfl, trivial⟩ ?_
    refine jk_sel (is := []) (s0 rfl) rfl ?_
    refine jk_sn ?_
    refine jn_ret ?_
    refine jk_sr ?_
    exact jk_ret1 rfl (fun w hs => .tmp rfl) (fun w hs => ⟨rfl, hs.drop⟩)
  refine jg_mv rfl rfl rfl ?_
  refine jg_y (fun w hs => yv_ln rfl (hs.row 1 rfl)) rfl rfl ?_
  refine jg_mv rfl rfl rfl ?_
  refine jg_y (fun w hs => yv_add_w rfl rfl) rfl rfl ?_
  refine jg_y (fun w hs => yv_neq rfl rfl) rfl rfl ?_
  refine jg_y (fun w hs => yv_pick_f rfl rfl) rfl rfl ?_
  refine jg_mv rfl rfl rfl ?_
  refine jg_split 73 rfl ?_ ?_
  · refine jg_skip rfl rfl ?_
    refine jg_skip rfl rfl ?_
    refine jg_skip rfl rfl ?_
    refine jg_skip rfl rfl ?_
    refine jg_skip rfl rfl ?_
    refine jg_y (fun w hs => yv_pick_t rfl rfl) rfl rfl ?_
    refine jg_nils [(0, _), (7, _), (9, _), (79, _)] ⟨rfl, rfl, rfl, rfl, trivial⟩ ?_
    refine jk_sn ?_
    refine jn_ct rfl ?_
    refine jn_seq ?_
    refine jn_reg 14 ?_
    refine jg_as rfl rfl rfl ?_
    refine jg_nils [(2, _)] ⟨rfl, trivial⟩ ?_
    refine jk_sel (is := []) (s0 rfl) rfl ?_
    refine jk_sn ?_
    refine jn_ret ?_
    refine jk_sr ?_
    exact jk_ret1 rfl (fun w hs => .tmp rfl) (fun w hs => ⟨rfl, hs.drop⟩)
  refine jg_mv rfl rfl rfl ?_
  refine jg_y (fun w hs => yv_ln rfl (hs.row 0 rfl)) rfl rfl ?_
  refine jg_mv rfl rfl rfl ?_
  refine jg_y (fun w hs => yv_add_w rfl rfl) rfl rfl ?_
  refine jg_y (fun w hs => yv_neq rfl rfl) rfl rfl ?_
  refine jg_y (fun w hs => yv_pick_f rfl rfl) rfl rfl ?_
  refine jg_nils [(0, _), (7, _), (9, _), (79, _)] ⟨rfl, rfl, rfl, rfl, trivial⟩ ?_
  refine jk_sn ?_
  refine jn_cond rfl ?_ ?_
  · refine jn_seq ?_
    refine jn_reg 14 ?_
    refine jg_as rfl rfl rfl ?_
    refine jg_nils [(2, _)] ⟨rfl, trivial⟩ ?_
    refine jk_sel (is := []) (s0 rfl) rfl ?_
    refine jk_sn ?_
    refine jn_ret ?_
    refine jk_sr ?_
    exact jk_ret1 rfl (fun w hs => .tmp rfl) (fun w hs => ⟨rfl, hs.drop⟩)
  refine jn_skip ?_
  refine jk_sn ?_
  refine jn_seq ?_
  refine jn_seq ?_
  refine jn_reg 15 ?_
  refine jg_as rfl rfl rfl ?_
  refine jg_nils [(0, _), (7, _), (9, _), (12, _)] ⟨rfl, rfl, rfl, rfl, trivial⟩ ?_
  refine jk_sn ?_
  refine jn_block ?_
  refine jn_lp (n := big) (fun (s : Int) (g : Unit) => [(0, .int .i64 (w64 (2 + x1))), (7, q9.v), (9, q11.v), (12, .int .i64 s)]) (fun (s : Int) (g : Unit) => []) (fun (s : Int) (g : Unit) => [(rowH q9 43 6 Passage.enc v8.1), (rowH q11 41 2 Moment.enc v10.1)]) 1 () [1, 0] ⟨rfl, rfl, rfl, rfl, trivial⟩ rfl rfl rfl ?_
  intro z12 q13 n16 k14 H15
  refine jn_seq ?_
  refine jn_seq ?_
  refine jn_reg 16 ?_
  refine jg_mv rfl rfl rfl ?_
  refine jg_mv rfl rfl rfl ?_
  refine jg_y (fun w hs => yv_leq rfl rfl) rfl rfl ?_
  refine jg_nils [(0, _), (7, _), (9, _), (12, _), (82, _)] ⟨rfl, rfl, rfl, rfl, rfl, trivial⟩ ?_
  refine jk_sn ?_
  refine jn_cond rfl ?_ ?_
  rotate_left
  · refine jn_exit ?_
    refine jk_se (jk_le (jk_bh (jk_sn ?_)))
    refine jn_seq ?_
    refine jn_reg 21 ?_
    refine jg_c0 rfl (fun v w hs hm => law20_sane_c hm ) rfl rfl fun v26 => ?_
    refine jg_as rfl rfl rfl ?_
    refine jg_nils [(2, _)] ⟨rfl, trivial⟩ ?_
    refine jk_sel (is := []) (s0 rfl) rfl ?_
    refine jk_sn ?_
    refine jn_ret ?_
    exact jk_ret1 rfl (fun w hs => .tmp rfl) (fun w hs => ⟨rfl, hs.drop⟩)
  refine jn_skip ?_
  refine jk_sn ?_
  refine jn_seq ?_
  refine jn_block ?_
  refine jn_seq ?_
  refine jn_reg 18 ?_
  refine jg_mv rfl rfl rfl ?_
  refine jg_y (fun w hs => yv_mul_w rfl rfl) rfl rfl ?_
  refine jg_yl (fun w hs => yv_min rfl rfl) rfl rfl fun x17 => ?_
  refine jg_as rfl rfl rfl ?_
  refine jg_nils [(0, _), (7, _), (9, _), (12, _), (13, _)] ⟨rfl, rfl, rfl, rfl, rfl, trivial⟩ ?_
  refine jk_sn ?_
  refine jn_seq ?_
  refine jn_reg 19 ?_
  refine jg_mv rfl rfl rfl ?_
  refine jg_mv rfl rfl rfl ?_
  refine jg_ix fun x18 h19 => ?_
  refine jg_y (fun w hs => yv_ix rfl rfl (hs.row 1 rfl) h19) rfl rfl ?_
  refine jg_y (fun w hs => yv_ef rfl (hs.row 1 rfl) h19.1) rfl rfl ?_
  refine jg_y (fun w hs => yv_e1 rfl (hs.row 1 rfl) h19.1 rfl) rfl rfl ?_
  refine jg_mv rfl rfl rfl ?_
  refine jg_y (fun w hs => yv_neq rfl rfl) rfl rfl ?_
  refine jg_mv rfl rfl rfl ?_
  refine jg_split 95 rfl ?_ ?_
  · refine jg_skip rfl rfl ?_
    refine jg_skip rfl rfl ?_
    refine jg_skip rfl rfl ?_
    refine jg_skip rfl rfl ?_
    refine jg_skip rfl rfl ?_
    refine jg_skip rfl rfl ?_
    refine jg_skip rfl rfl ?_
    refine jg_skip rfl rfl ?_
    refine jg_skip rfl rfl ?_
    refine jg_y (fun w hs => yv_pick_t rfl rfl) rfl rfl ?_
    refine jg_mv rfl rfl rfl ?_
    refine jg_skip rfl rfl ?_
    refine jg_skip rfl rfl ?_
    refine jg_skip rfl rfl ?_
    refine jg_skip rfl rfl ?_
    refine jg_skip rfl rfl ?_
    refine jg_y (fun w hs => yv_pick_t rfl rfl) rfl rfl ?_
    refine jg_mv rfl rfl rfl ?_
    refine jg_skip rfl rfl ?_
    refine jg_skip rfl rfl ?_
    refine jg_skip rfl rfl ?_
    refine jg_skip rfl rfl ?_
    refine jg_skip rfl rfl ?_
    refine jg_skip rfl rfl ?_
    refine jg_y (fun w hs => yv_pick_t rfl rfl) rfl rfl ?_
    refine jg_nils [(0, _), (7, _), (9, _), (12, _), (120, _)] ⟨rfl, rfl, rfl, rfl, rfl, trivial⟩ ?_
    refine jk_sn ?_
    refine jn_ct rfl ?_
    refine jn_seq ?_
    refine jn_reg 20 ?_
    refine jg_as rfl rfl rfl ?_
    refine jg_nils [(2, _)] ⟨rfl, trivial⟩ ?_
    refine jk_sel (is := []) (s0 rfl) rfl ?_
    refine jk_sn ?_
    refine jn_ret ?_
    refine jk_br (jk_sr (jk_lr (jk_br (jk_sr ?_))))
    exact jk_ret1 rfl (fun w hs => .tmp rfl) (fun w hs => ⟨rfl, hs.drop⟩)
  refine jg_mv rfl rfl rfl ?_
  refine jg_mv rfl rfl rfl ?_
  refine jg_ix fun x20 h21 => ?_
  refine jg_y (fun w hs => yv_ix rfl rfl (hs.row 0 rfl) h21) rfl rfl ?_
  refine jg_y (fun w hs => yv_ef rfl (hs.row 0 rfl) h21.1) rfl rfl ?_
  refine jg_y (fun w hs => yv_eS rfl (hs.row 0 rfl) h21.1 (l2 rfl) rfl) rfl rfl ?_
  refine jg_mv rfl rfl rfl ?_
  refine jg_mv rfl rfl rfl ?_
  refine jg_y (fun w hs => yv_build rfl (o2 rfl)) rfl rfl ?_
  refine jg_y (fun w hs => yne24 rfl rfl) rfl rfl ?_
  refine jg_y (fun w hs => yv_pick_f rfl rfl) rfl rfl ?_
  refine jg_mv rfl rfl rfl ?_
  refine jg_split 106 rfl ?_ ?_
  · refine jg_skip rfl rfl ?_
    refine jg_skip rfl rfl ?_
    refine jg_skip rfl rfl ?_
    refine jg_skip rfl rfl ?_
    refine jg_skip rfl rfl ?_
    refine jg_y (fun w hs => yv_pick_t rfl rfl) rfl rfl ?_
    refine jg_mv rfl rfl rfl ?_
    refine jg_skip rfl rfl ?_
    refine jg_skip rfl rfl ?_
    refine jg_skip rfl rfl ?_
    refine jg_skip rfl rfl ?_
    refine jg_skip rfl rfl ?_
    refine jg_skip rfl rfl ?_
    refine jg_y (fun w hs => yv_pick_t rfl rfl) rfl rfl ?_
    refine jg_nils [(0, _), (7, _), (9, _), (12, _), (120, _)] ⟨rfl, rfl, rfl, rfl, rfl, trivial⟩ ?_
    refine jk_sn ?_
    refine jn_ct rfl ?_
    refine jn_seq ?_
    refine jn_reg 20 ?_
    refine jg_as rfl rfl rfl ?_
    refine jg_nils [(2, _)] ⟨rfl, trivial⟩ ?_
    refine jk_sel (is := []) (s0 rfl) rfl ?_
    refine jk_sn ?_
    refine jn_ret ?_
    refine jk_br (jk_sr (jk_lr (jk_br (jk_sr ?_))))
    exact jk_ret1 rfl (fun w hs => .tmp rfl) (fun w hs => ⟨rfl, hs.drop⟩)
  refine jg_mv rfl rfl rfl ?_
  refine jg_mv rfl rfl rfl ?_
  refine jg_ix fun x22 h23 => ?_
  refine jg_y (fun w hs => yv_ix rfl rfl (hs.row 0 rfl) h23) rfl rfl ?_
  refine jg_y (fun w hs => yv_ef rfl (hs.row 0 rfl) h23.1) rfl rfl ?_
  refine jg_y (fun w hs => yv_e1 rfl (hs.row 0 rfl) h23.1 rfl) rfl rfl ?_
  refine jg_y (fun w hs => yv_pick_f rfl rfl) rfl rfl ?_
  refine jg_mv rfl rfl rfl ?_
  refine jg_split 113 rfl ?_ ?_
  · refine jg_skip rfl rfl ?_
    refine jg_skip rfl rfl ?_
    refine jg_skip rfl rfl ?_
    refine jg_skip rfl rfl ?_
    refine jg_skip rfl rfl ?_
    refine jg_skip rfl rfl ?_
    refine jg_y (fun w hs => yv_pick_t rfl rfl) rfl rfl ?_
    refine jg_nils [(0, _), (7, _), (9, _), (12, _), (120, _)] ⟨rfl, rfl, rfl, rfl, rfl, trivial⟩ ?_
    refine jk_sn ?_
    refine jn_ct rfl ?_
    refine jn_seq ?_
    refine jn_reg 20 ?_
    refine jg_as rfl rfl rfl ?_
    refine jg_nils [(2, _)] ⟨rfl, trivial⟩ ?_
    refine jk_sel (is := []) (s0 rfl) rfl ?_
    refine jk_sn ?_
    refine jn_ret ?_
    refine jk_br (jk_sr (jk_lr (jk_br (jk_sr ?_))))
    exact jk_ret1 rfl (fun w hs => .tmp rfl) (fun w hs => ⟨rfl, hs.drop⟩)
  refine jg_mv rfl rfl rfl ?_
  refine jg_mv rfl rfl rfl ?_
  refine jg_ix fun x24 h25 => ?_
  refine jg_y (fun w hs => yv_ix rfl rfl (hs.row 1 rfl) h25) rfl rfl ?_
  refine jg_y (fun w hs => yv_ef rfl (hs.row 1 rfl) h25.1) rfl rfl ?_
  refine jg_y (fun w hs => yv_e1 rfl (hs.row 1 rfl) h25.1 rfl) rfl rfl ?_
  refine jg_y (fun w hs => yv_neq rfl rfl) rfl rfl ?_
  refine jg_y (fun w hs => yv_pick_f rfl rfl) rfl rfl ?_
  refine jg_nils [(0, _), (7, _), (9, _), (12, _), (120, _)] ⟨rfl, rfl, rfl, rfl, rfl, trivial⟩ ?_
  refine jk_sn ?_
  refine jn_cond rfl ?_ ?_
  rotate_left
  · refine jn_skip ?_
    refine jk_bn (jk_sn ?_)
    refine jn_reg 17 ?_
    refine jg_mv rfl rfl rfl ?_
    refine jg_y (fun w hs => yv_add_w rfl rfl) rfl rfl ?_
    refine jg_as rfl rfl rfl ?_
    refine jg_nils [(0, _), (7, _), (9, _), (12, _)] ⟨rfl, rfl, rfl, rfl, trivial⟩ ?_
    exact jk_use H15 (w64 (z12 + 1)) () [0, 1] ⟨rfl, rfl, rfl, rfl, trivial⟩ rfl rfl rfl
  refine jn_seq ?_
  refine jn_reg 20 ?_
  refine jg_as rfl rfl rfl ?_
  refine jg_nils [(2, _)] ⟨rfl, trivial⟩ ?_
  refine jk_sel (is := []) (s0 rfl) rfl ?_
  refine jk_sn ?_
  refine jn_ret ?_
  refine jk_br (jk_sr (jk_lr (jk_br (jk_sr ?_))))
  exact jk_ret1 rfl (fun w hs => .tmp rfl) (fun w hs => ⟨rfl, hs.drop⟩)
end Go.Proofs.Ytbojnnefpapamaa
