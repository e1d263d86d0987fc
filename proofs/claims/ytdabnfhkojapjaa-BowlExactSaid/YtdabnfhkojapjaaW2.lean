/-
  The functions give what their models give. Printed by a program.
-/
import Derived.Test.YtdabnfhkojapjaaFacts
import Derived.Test.YtdabnfhkojapjaaMod
import Derived.Test.YtdabnfhkojapjaaW0
import Derived.Test.YtdabnfhkojapjaaW1
namespace Go.Proofs.Ytdabnfhkojapjaa
open Go.Hy
set_option linter.unusedVariables false
set_option linter.unusedSimpArgs false
set_option maxHeartbeats 2000000
set_option maxRecDepth 100000
theorem r32_Leave_c {w : World} {a0 : Stand} {a1 : Int} {ha0_Wagons : Hd} {ha0_Lengths : Hd} {v : (Stand × (List Int) × Int)} (hm : r32_Leave a0 a1 = some v) (Rha0_Wagons : Sl w ha0_Wagons encI a0.Wagons) (Rha0_Lengths : Sl w ha0_Lengths encI a0.Lengths) : Calls Try.prog 35 ([.agg #[.int .i64 a0.Room, ha0_Wagons.v, ha0_Lengths.v], .int .i64 a1] : List Value).toArray w (fun e w' => ∃ g : (Hd × Hd × Hd), e = .returned (.tuple #[.agg #[.int .i64 v.1.Room, g.1.v, g.2.1.v], g.2.2.v, .int .i64 v.2.2]) ∧ St w w' [] [(rowH g.1 3 1 encI v.1.Wagons), (rowH g.2.1 3 1 encI v.1.Lengths), (rowH g.2.2 3 1 encI v.2.1)]) := by
  refine j_enter (vs := [.agg #[.int .i64 a0.Room, ha0_Wagons.v, ha0_Lengths.v], .int .i64 a1]) (R := fun (v : (Stand × (List Int) × Int)) (e : Ending) (w' : World) => ∃ g : (Hd × Hd × Hd), e = .returned (.tuple #[.agg #[.int .i64 v.1.Room, g.1.v, g.2.1.v], g.2.2.v, .int .i64 v.2.2]) ∧ St w w' [] [(rowH g.1 3 1 encI v.1.Wagons), (rowH g.2.1 3 1 encI v.1.Lengths), (rowH g.2.2 3 1 encI v.2.1)]) Try.func35 rfl Try.ntmps35 rfl rfl (St.refl w) hm ?_
  unfold r32_Leave
  clear hm
  refine jn_seq ?_
  refine jn_reg 0 ?_
  refine jg_box rfl (l3 rfl) rfl rfl fun g1 => ?_
  refine jg_alloc (l3 rfl) rfl rfl fun g2 => ?_
  refine jg_as rfl rfl rfl ?_
  refine jg_as rfl rfl rfl ?_
  refine jg_nils [(1, _), (2, _), (4, _)] ⟨rfl, rfl, rfl, trivial⟩ ?_
  refine jk_sn ?_
  refine jn_seq ?_
  refine jn_seq ?_
  refine jn_reg 1 ?_
  refine jg_y (fun w hs => yv_load rfl (ldBB (hs.blkL (i := 1) rfl) rfl)) rfl rfl ?_
  refine jg_c0 rfl (fun v w hs hm => r32_Valid_c (a0 := a0) hm (hs.arg Rha0_Wagons) (hs.arg Rha0_Lengths)) rfl rfl fun v3 => ?_
  refine jg_y (fun w hs => yv_not rfl) rfl rfl ?_
  refine jg_nils [(1, _), (2, _), (4, _), (10, _)] ⟨rfl, rfl, rfl, rfl, trivial⟩ ?_
  refine jk_sn ?_
  refine jn_cond rfl ?_ ?_
  · refine jn_seq ?_
    refine jn_reg 2 ?_
    refine jg_y (fun w hs => yv_build rfl (o3 rfl)) rfl rfl ?_
    refine jg_store 0 rfl rfl rfl (l3 rfl) rfl rfl rfl rfl (l3 rfl) (r2 rfl) ?_
    refine jg_as rfl rfl rfl ?_
    refine jg_as rfl rfl rfl ?_
    refine jg_nils [(4, _), (5, _), (6, _)] ⟨rfl, rfl, rfl, trivial⟩ ?_
    refine jk_sn ?_
    refine jn_ret ?_
    refine jk_sr ?_
    refine jk_addnil 3 1 encI ?_
    refine jk_addnil 3 1 encI ?_
    refine jk_addnil 3 1 encI ?_
    exact jk_ret3 rfl (fun w hs => .cell rfl (ldBB (hs.blkL (i := 3) rfl) rfl)) (fun w hs => .tmp rfl) (fun w hs => .tmp rfl) (fun w hs => ⟨((Hd.mk none 0 0), (Hd.mk none 0 0), (Hd.mk none 0 0)), rfl, hs.sel (is := [2, 1, 0]) rfl rfl⟩)
  refine jn_skip ?_
  refine jk_sn ?_
  refine jn_seq ?_
  refine jn_reg 3 ?_
  refine jg_y (fun w hs => yv_fieldAddr rfl) rfl rfl ?_
  refine jg_y (fun w hs => yv_load rfl (ld1B (hs.blkL (i := 1) rfl) rfl)) rfl rfl ?_
  refine jg_y (fun w hs => yv_ln rfl (hs.arg Rha0_Wagons)) rfl rfl ?_
  refine jg_mv rfl rfl rfl ?_
  refine jg_yl (fun w hs => yv_sub_w rfl rfl) rfl rfl fun x4 => ?_
  refine jg_as rfl rfl rfl ?_
  refine jg_nils [(1, _), (2, _), (4, _), (7, _)] ⟨rfl, rfl, rfl, rfl, trivial⟩ ?_
  refine jk_sn ?_
  refine jn_seq ?_
  refine jn_seq ?_
  refine jn_reg 4 ?_
  refine jg_mv rfl rfl rfl ?_
  refine jg_y (fun w hs => yv_lss rfl rfl) rfl rfl ?_
  refine jg_mv rfl rfl rfl ?_
  refine jg_split 19 rfl ?_ ?_
  · refine jg_skip rfl rfl ?_
    refine jg_skip rfl rfl ?_
    refine jg_y (fun w hs => yv_pick_t rfl rfl) rfl rfl ?_
    refine jg_nils [(2, _), (4, _), (7, _), (22, _)] ⟨rfl, rfl, rfl, rfl, trivial⟩ ?_
    refine jk_sn ?_
    refine jn_ct rfl ?_
    refine jn_seq ?_
    refine jn_reg 5 ?_
    refine jg_y (fun w hs => yv_build rfl (o3 rfl)) rfl rfl ?_
    refine jg_store 0 rfl rfl rfl (l3 rfl) rfl rfl rfl rfl (l3 rfl) (r2 rfl) ?_
    refine jg_as rfl rfl rfl ?_
    refine jg_as rfl rfl rfl ?_
    refine jg_nils [(4, _), (5, _), (6, _)] ⟨rfl, rfl, rfl, trivial⟩ ?_
    refine jk_sn ?_
    refine jn_ret ?_
    refine jk_sr ?_
    refine jk_addnil 3 1 encI ?_
    refine jk_addnil 3 1 encI ?_
    refine jk_addnil 3 1 encI ?_
    exact jk_ret3 rfl (fun w hs => .cell rfl (ldBB (hs.blkL (i := 3) rfl) rfl)) (fun w hs => .tmp rfl) (fun w hs => .tmp rfl) (fun w hs => ⟨((Hd.mk none 0 0), (Hd.mk none 0 0), (Hd.mk none 0 0)), rfl, hs.sel (is := [2, 1, 0]) rfl rfl⟩)
  refine jg_mv rfl rfl rfl ?_
  refine jg_y (fun w hs => yv_lss rfl rfl) rfl rfl ?_
  refine jg_y (fun w hs => yv_pick_f rfl rfl) rfl rfl ?_
  refine jg_nils [(2, _), (4, _), (7, _), (22, _)] ⟨rfl, rfl, rfl, rfl, trivial⟩ ?_
  refine jk_sn ?_
  refine jn_cond rfl ?_ ?_
  · refine jn_seq ?_
    refine jn_reg 5 ?_
    refine jg_y (fun w hs => yv_build rfl (o3 rfl)) rfl rfl ?_
    refine jg_store 0 rfl rfl rfl (l3 rfl) rfl rfl rfl rfl (l3 rfl) (r2 rfl) ?_
    refine jg_as rfl rfl rfl ?_
    refine jg_as rfl rfl rfl ?_
    refine jg_nils [(4, _), (5, _), (6, _)] ⟨rfl, rfl, rfl, trivial⟩ ?_
    refine jk_sn ?_
    refine jn_ret ?_
    refine jk_sr ?_
    refine jk_addnil 3 1 encI ?_
    refine jk_addnil 3 1 encI ?_
    refine jk_addnil 3 1 encI ?_
    exact jk_ret3 rfl (fun w hs => .cell rfl (ldBB (hs.blkL (i := 3) rfl) rfl)) (fun w hs => .tmp rfl) (fun w hs => .tmp rfl) (fun w hs => ⟨((Hd.mk none 0 0), (Hd.mk none 0 0), (Hd.mk none 0 0)), rfl, hs.sel (is := [2, 1, 0]) rfl rfl⟩)
  refine jn_skip ?_
  refine jk_sn ?_
  refine jn_seq ?_
  refine jn_drawA 6 [0, 1, 2, 3, 4, 5, 6, 7, 8, 9, 10, 11, 12, 13, 14, 15, 16, 17, 18, 19, 20, 21, 22, 23] 16777215 264224 21 [0, 1, 0, 0, 8, 0, 48, 68, 0, 0, 512, 0, 3072, 4480, 8322, 0, 0, 65536, 0, 393216, 565248, 1081343, 4194303, 8388607] [0, 1, 0, 0, 8, 0, 56, 124, 0, 0, 512, 0, 3584, 8188, 16383, 0, 0, 65536, 0, 458752, 1032188, 2097151, 4194303, 8388607] [(5, true), (11, true), (18, true)] (np_seq np_rt) (by kernel_rfl) (by kernel_rfl) (by kernel_rfl) (by kernel_rfl) (by kernel_rfl) (by kernel_rfl) (by kernel_rfl) (by kernel_rfl) ?_
  refine jt_mv rfl rfl rfl ?_
  refine jt_mv rfl rfl rfl ?_
  refine jt_mv rfl rfl rfl ?_
  refine jd_x ?_
  refine jx_to (L' := [_, _]) [0, 1, 2, 3, 4, 6, 7, 8, 9, 10, 12, 13, 14, 15, 16, 17, 19, 20] [21] [0, 1] rfl ?_
  refine jx_lin [0, 1] 1832927 990843 10 [0, 1, 0, 0, 8, 0, 56, 124, 0, 0, 512, 0, 3584, 8188, 16383, 0, 0, 65536, 0, 458752, 1032188, 2097151, 4194303, 8388607] [(0, true), (1, true), (3, true), (4, true), (6, true), (9, true), (10, true), (12, true), (16, true), (17, true), (19, true)] rfl (np_seq np_rt) (by kernel_rfl) (by kernel_rfl) (by kernel_rfl) (by kernel_rfl) (by kernel_rfl) (by kernel_rfl) (by kernel_rfl) (by kernel_rfl) (by kernel_rfl) ?_
  refine jd_y rfl (fun w hs => yv_fieldAddr rfl) rfl rfl ?_
  refine jd_y rfl (fun w hs => yv_load rfl (ld1B (hs.blk (i := 1) rfl) rfl)) rfl rfl ?_
  refine jd_y rfl (fun w hs => yv_fieldAddr rfl) rfl rfl ?_
  refine jd_y rfl (fun w hs => yv_load rfl (ld1B (hs.blk (i := 1) rfl) rfl)) rfl rfl ?_
  refine jd_ck fun h125 => ?_
  refine jd_y rfl (fun w hs => yv_hi rfl rfl (hs.arg Rha0_Wagons) (of_decide_eq_true h125)) rfl rfl ?_
  refine jd_y rfl (fun w hs => yv_fieldAddr rfl) rfl rfl ?_
  refine jd_y rfl (fun w hs => yv_load rfl (ld1B (hs.blk (i := 1) rfl) rfl)) rfl rfl ?_
  refine jd_ck fun h245 => ?_
  refine jd_y rfl (fun w hs => yv_hi rfl rfl (hs.arg Rha0_Lengths) (of_decide_eq_true h245)) rfl rfl ?_
  refine jd_y rfl (fun w hs => yv_fieldAddr rfl) rfl rfl ?_
  refine jd_y rfl (fun w hs => yv_load rfl (ld1B (hs.blk (i := 1) rfl) rfl)) rfl rfl ?_
  refine jd_ck fun h385 => ?_
  refine jd_y rfl (fun w hs => yv_lo rfl rfl (hs.arg Rha0_Wagons) (of_decide_eq_true h385)) rfl rfl ?_
  refine jd_x ?_
  refine jx3 (i := 2) (i2 := 8) (i3 := 15) (by kernel_rfl) (by kernel_rfl) rfl rfl rfl ?_ ?_ ?_
  · refine jg_lit0 (enc := encI) rfl rfl fun hd45 => ?_
    refine jg_nil ?_
    refine jk_xn [1, 2] rfl ?_
    refine jx3 (i := 7) (i2 := 8) (i3 := 15) (by kernel_rfl) (by kernel_rfl) rfl rfl rfl ?_ ?_ ?_
    · refine jg_append 0 rfl rfl rfl (fun w hs => (Sl.hi (hs.arg Rha0_Wagons) (of_decide_eq_true h125))) rfl rfl rfl fun y145 hd146 => ?_
      refine jg_L (r3 rfl) ?_
      refine jg_nil ?_
      refine jk_xn [1, 2] rfl ?_
      refine jx2 (i := 8) (i2 := 15) (by kernel_rfl) (by kernel_rfl) rfl rfl ?_ ?_
      · refine jg_lit0 (enc := encI) rfl rfl fun hd165 => ?_
        refine jg_nil ?_
        refine jk_xn [2, 3] rfl ?_
        refine jx2 (i := 13) (i2 := 15) (by kernel_rfl) (by kernel_rfl) rfl rfl ?_ ?_
        · refine jg_append 0 rfl rfl rfl (fun w hs => (Sl.hi (hs.arg Rha0_Lengths) (of_decide_eq_true h245))) rfl rfl rfl fun y265 hd266 => ?_
          refine jg_L (r4 rfl) ?_
          refine jg_nil ?_
          refine jk_xn [2, 3] rfl ?_
          refine jx_lin [2, 3] 1832927 1015807 5 [0, 1, 0, 0, 8, 0, 56, 124, 0, 0, 512, 0, 3584, 8188, 16383, 0, 0, 65536, 0, 458752, 1032188, 2097151, 4194303, 8388607] [(14, true)] rfl (np_seq np_rt) (by kernel_rfl) (by kernel_rfl) (by kernel_rfl) (by kernel_rfl) (by kernel_rfl) (by kernel_rfl) (by kernel_rfl) (by kernel_rfl) (by kernel_rfl) ?_
          refine jd_y rfl (fun w hs => yv_build rfl (o3 rfl)) rfl rfl ?_
          refine jd_x ?_
          refine jx1 (i := 15) (by kernel_rfl) (by kernel_rfl) rfl ?_
          refine jg_lit0 (enc := encI) rfl rfl fun hd305 => ?_
          refine jg_nil ?_
          refine jk_xn [3, 4] rfl ?_
          refine jx1 (i := 20) (by kernel_rfl) (by kernel_rfl) rfl ?_
          refine jg_append 0 rfl rfl rfl (fun w hs => (Sl.lo (sz := 1) (hs.arg Rha0_Wagons) (of_decide_eq_true h385))) rfl rfl rfl fun y405 hd406 => ?_
          refine jg_L (r5 rfl) ?_
          refine jg_nil ?_
          refine jk_xn [3, 4] rfl ?_
          refine jx1 (i := 21) (by kernel_rfl) (by kernel_rfl) rfl ?_
          refine jg_store 3 rfl rfl rfl (l3 rfl) rfl rfl rfl rfl (l3 rfl) (r5 rfl) ?_
          refine jg_nil ?_
          refine jk_xf (by kernel_rfl) ?_
          refine jx1 (i := 22) (by kernel_rfl) (by kernel_rfl) rfl ?_
          refine jg_as rfl rfl rfl ?_
          refine jg_nil ?_
          refine jk_xf (by kernel_rfl) ?_
          refine jx1 (i := 23) (by kernel_rfl) (by kernel_rfl) rfl ?_
          refine jg_as rfl rfl rfl ?_
          refine jg_nil ?_
          refine jk_xf (by kernel_rfl) ?_
          refine jx0 [(4, _), (5, _), (6, _)] ⟨rfl, rfl, rfl, trivial⟩ (by kernel_rfl) (by kernel_rfl) ?_
          refine jk_sn ?_
          refine jn_ret ?_
          exact jk_ret3 rfl (fun w hs => .cell rfl (ldBB (hs.blkL (i := 3) rfl) rfl)) (fun w hs => .tmp rfl) (fun w hs => .tmp rfl) (fun w hs => ⟨(hd146, hd266, hd406), rfl, hs.sel (is := [2, 1, 0]) rfl rfl⟩)
        refine jg_lit0 (enc := encI) rfl rfl fun hd305 => ?_
        refine jg_nil ?_
        refine jk_xn [3, 4] rfl ?_
        refine jx1 (i := 13) (by kernel_rfl) (by kernel_rfl) rfl ?_
        refine jg_append 1 rfl rfl rfl (fun w hs => (Sl.hi (hs.arg Rha0_Lengths) (of_decide_eq_true h245))) rfl rfl rfl fun y265 hd266 => ?_
        refine jg_L (r5 rfl) ?_
        refine jg_nil ?_
        refine jk_xn [3, 4] rfl ?_
        refine jx_lin [3, 4] 1832927 1048575 4 [0, 1, 0, 0, 8, 0, 56, 124, 0, 0, 512, 0, 3584, 8188, 16383, 0, 0, 65536, 0, 458752, 1032188, 2097151, 4194303, 8388607] [(14, true)] rfl (np_seq np_rt) (by kernel_rfl) (by kernel_rfl) (by kernel_rfl) (by kernel_rfl) (by kernel_rfl) (by kernel_rfl) (by kernel_rfl) (by kernel_rfl) (by kernel_rfl) ?_
        refine jd_y rfl (fun w hs => yv_build rfl (o3 rfl)) rfl rfl ?_
        refine jd_x ?_
        refine jx1 (i := 20) (by kernel_rfl) (by kernel_rfl) rfl ?_
        refine jg_append 0 rfl rfl rfl (fun w hs => (Sl.lo (sz := 1) (hs.arg Rha0_Wagons) (of_decide_eq_true h385))) rfl rfl rfl fun y405 hd406 => ?_
        refine jg_L (r5 rfl) ?_
        refine jg_nil ?_
        refine jk_xn [3, 4] rfl ?_
        refine jx1 (i := 21) (by kernel_rfl) (by kernel_rfl) rfl ?_
        refine jg_store 3 rfl rfl rfl (l3 rfl) rfl rfl rfl rfl (l3 rfl) (r5 rfl) ?_
        refine jg_nil ?_
        refine jk_xf (by kernel_rfl) ?_
        refine jx1 (i := 22) (by kernel_rfl) (by kernel_rfl) rfl ?_
        refine jg_as rfl rfl rfl ?_
        refine jg_nil ?_
        refine jk_xf (by kernel_rfl) ?_
        refine jx1 (i := 23) (by kernel_rfl) (by kernel_rfl) rfl ?_
        refine jg_as rfl rfl rfl ?_
        refine jg_nil ?_
        refine jk_xf (by kernel_rfl) ?_
        refine jx0 [(4, _), (5, _), (6, _)] ⟨rfl, rfl, rfl, trivial⟩ (by kernel_rfl) (by kernel_rfl) ?_
        refine jk_sn ?_
        refine jn_ret ?_
        exact jk_ret3 rfl (fun w hs => .cell rfl (ldBB (hs.blkL (i := 3) rfl) rfl)) (fun w hs => .tmp rfl) (fun w hs => .tmp rfl) (fun w hs => ⟨(hd146, hd266, hd406), rfl, hs.sel (is := [2, 1, 0]) rfl rfl⟩)
      refine jg_lit0 (enc := encI) rfl rfl fun hd305 => ?_
      refine jg_nil ?_
      refine jk_xn [2, 3] rfl ?_
      refine jx1 (i := 8) (by kernel_rfl) (by kernel_rfl) rfl ?_
      refine jg_lit0 (enc := encI) rfl rfl fun hd165 => ?_
      refine jg_nil ?_
      refine jk_xn [3, 4] rfl ?_
      refine jx1 (i := 13) (by kernel_rfl) (by kernel_rfl) rfl ?_
      refine jg_append 0 rfl rfl rfl (fun w hs => (Sl.hi (hs.arg Rha0_Lengths) (of_decide_eq_true h245))) rfl rfl rfl fun y265 hd266 => ?_
      refine jg_L (r5 rfl) ?_
      refine jg_nil ?_
      refine jk_xn [3, 4] rfl ?_
      refine jx_lin [3, 4] 1832927 1048575 4 [0, 1, 0, 0, 8, 0, 56, 124, 0, 0, 512, 0, 3584, 8188, 16383, 0, 0, 65536, 0, 458752, 1032188, 2097151, 4194303, 8388607] [(14, true)] rfl (np_seq np_rt) (by kernel_rfl) (by kernel_rfl) (by kernel_rfl) (by kernel_rfl) (by kernel_rfl) (by kernel_rfl) (by kernel_rfl) (by kernel_rfl) (by kernel_rfl) ?_
      refine jd_y rfl (fun w hs => yv_build rfl (o3 rfl)) rfl rfl ?_
      refine jd_x ?_
      refine jx1 (i := 20) (by kernel_rfl) (by kernel_rfl) rfl ?_
      refine jg_append 1 rfl rfl rfl (fun w hs => (Sl.lo (sz := 1) (hs.arg Rha0_Wagons) (of_decide_eq_true h385))) rfl rfl rfl fun y405 hd406 => ?_
      refine jg_L (r5 rfl) ?_
      refine jg_nil ?_
      refine jk_xn [3, 4] rfl ?_
      refine jx1 (i := 21) (by kernel_rfl) (by kernel_rfl) rfl ?_
      refine jg_store 3 rfl rfl rfl (l3 rfl) rfl rfl rfl rfl (l3 rfl) (r5 rfl) ?_
      refine jg_nil ?_
      refine jk_xf (by kernel_rfl) ?_
      refine jx1 (i := 22) (by kernel_rfl) (by kernel_rfl) rfl ?_
      refine jg_as rfl rfl rfl ?_
      refine jg_nil ?_
      refine jk_xf (by kernel_rfl) ?_
      refine jx1 (i := 23) (by kernel_rfl) (by kernel_rfl) rfl ?_
      refine jg_as rfl rfl rfl ?_
      refine jg_nil ?_
      refine jk_xf (by kernel_rfl) ?_
      refine jx0 [(4, _), (5, _), (6, _)] ⟨rfl, rfl, rfl, trivial⟩ (by kernel_rfl) (by kernel_rfl) ?_
      refine jk_sn ?_
      refine jn_ret ?_
      exact jk_ret3 rfl (fun w hs => .cell rfl (ldBB (hs.blkL (i := 3) rfl) rfl)) (fun w hs => .tmp rfl) (fun w hs => .tmp rfl) (fun w hs => ⟨(hd146, hd266, hd406), rfl, hs.sel (is := [2, 0, 1]) rfl rfl⟩)
    · refine jg_lit0 (enc := encI) rfl rfl fun hd165 => ?_
      refine jg_nil ?_
      refine jk_xn [2, 3] rfl ?_
      refine jx2 (i := 7) (i2 := 15) (by kernel_rfl) (by kernel_rfl) rfl rfl ?_ ?_
      · refine jg_append 1 rfl rfl rfl (fun w hs => (Sl.hi (hs.arg Rha0_Wagons) (of_decide_eq_true h125))) rfl rfl rfl fun y145 hd146 => ?_
        refine jg_L (r4 rfl) ?_
        refine jg_nil ?_
        refine jk_xn [2, 3] rfl ?_
        refine jx2 (i := 13) (i2 := 15) (by kernel_rfl) (by kernel_rfl) rfl rfl ?_ ?_
        · refine jg_append 0 rfl rfl rfl (fun w hs => (Sl.hi (hs.arg Rha0_Lengths) (of_decide_eq_true h245))) rfl rfl rfl fun y265 hd266 => ?_
          refine jg_L (r4 rfl) ?_
          refine jg_nil ?_
          refine jk_xn [2, 3] rfl ?_
          refine jx_lin [2, 3] 1832927 1015807 5 [0, 1, 0, 0, 8, 0, 56, 124, 0, 0, 512, 0, 3584, 8188, 16383, 0, 0, 65536, 0, 458752, 1032188, 2097151, 4194303, 8388607] [(14, true)] rfl (np_seq np_rt) (by kernel_rfl) (by kernel_rfl) (by kernel_rfl) (by kernel_rfl) (by kernel_rfl) (by kernel_rfl) (by kernel_rfl) (by kernel_rfl) (by kernel_rfl) ?_
          refine jd_y rfl (fun w hs => yv_build rfl (o3 rfl)) rfl rfl ?_
          refine jd_x ?_
          refine jx1 (i := 15) (by kernel_rfl) (by kernel_rfl) rfl ?_
          refine jg_lit0 (enc := encI) rfl rfl fun hd305 => ?_
          refine jg_nil ?_
          refine jk_xn [3, 4] rfl ?_
          refine jx1 (i := 20) (by kernel_rfl) (by kernel_rfl) rfl ?_
          refine jg_append 0 rfl rfl rfl (fun w hs => (Sl.lo (sz := 1) (hs.arg Rha0_Wagons) (of_decide_eq_true h385))) rfl rfl rfl fun y405 hd406 => ?_
          refine jg_L (r5 rfl) ?_
          refine jg_nil ?_
          refine jk_xn [3, 4] rfl ?_
          refine jx1 (i := 21) (by kernel_rfl) (by kernel_rfl) rfl ?_
          refine jg_store 3 rfl rfl rfl (l3 rfl) rfl rfl rfl rfl (l3 rfl) (r5 rfl) ?_
          refine jg_nil ?_
          refine jk_xf (by kernel_rfl) ?_
          refine jx1 (i := 22) (by kernel_rfl) (by kernel_rfl) rfl ?_
          refine jg_as rfl rfl rfl ?_
          refine jg_nil ?_
          refine jk_xf (by kernel_rfl) ?_
          refine jx1 (i := 23) (by kernel_rfl) (by kernel_rfl) rfl ?_
          refine jg_as rfl rfl rfl ?_
          refine jg_nil ?_
          refine jk_xf (by kernel_rfl) ?_
          refine jx0 [(4, _), (5, _), (6, _)] ⟨rfl, rfl, rfl, trivial⟩ (by kernel_rfl) (by kernel_rfl) ?_
          refine jk_sn ?_
          refine jn_ret ?_
          exact jk_ret3 rfl (fun w hs => .cell rfl (ldBB (hs.blkL (i := 3) rfl) rfl)) (fun w hs => .tmp rfl) (fun w hs => .tmp rfl) (fun w hs => ⟨(hd146, hd266, hd406), rfl, hs.sel (is := [2, 1, 0]) rfl rfl⟩)
        refine jg_lit0 (enc := encI) rfl rfl fun hd305 => ?_
        refine jg_nil ?_
        refine jk_xn [3, 4] rfl ?_
        refine jx1 (i := 13) (by kernel_rfl) (by kernel_rfl) rfl ?_
        refine jg_append 1 rfl rfl rfl (fun w hs => (Sl.hi (hs.arg Rha0_Lengths) (of_decide_eq_true h245))) rfl rfl rfl fun y265 hd266 => ?_
        refine jg_L (r5 rfl) ?_
        refine jg_nil ?_
        refine jk_xn [3, 4] rfl ?_
        refine jx_lin [3, 4] 1832927 1048575 4 [0, 1, 0, 0, 8, 0, 56, 124, 0, 0, 512, 0, 3584, 8188, 16383, 0, 0, 65536, 0, 458752, 1032188, 2097151, 4194303, 8388607] [(14, true)] rfl (np_seq np_rt) (by kernel_rfl) (by kernel_rfl) (by kernel_rfl) (by kernel_rfl) (by kernel_rfl) (by kernel_rfl) (by kernel_rfl) (by kernel_rfl) (by kernel_rfl) ?_
        refine jd_y rfl (fun w hs => yv_build rfl (o3 rfl)) rfl rfl ?_
        refine jd_x ?_
        refine jx1 (i := 20) (by kernel_rfl) (by kernel_rfl) rfl ?_
        refine jg_append 0 rfl rfl rfl (fun w hs => (Sl.lo (sz := 1) (hs.arg Rha0_Wagons) (of_decide_eq_true h385))) rfl rfl rfl fun y405 hd406 => ?_
        refine jg_L (r5 rfl) ?_
        refine jg_nil ?_
        refine jk_xn [3, 4] rfl ?_
        refine jx1 (i := 21) (by kernel_rfl) (by kernel_rfl) rfl ?_
        refine jg_store 3 rfl rfl rfl (l3 rfl) rfl rfl rfl rfl (l3 rfl) (r5 rfl) ?_
        refine jg_nil ?_
        refine jk_xf (by kernel_rfl) ?_
        refine jx1 (i := 22) (by kernel_rfl) (by kernel_rfl) rfl ?_
        refine jg_as rfl rfl rfl ?_
        refine jg_nil ?_
        refine jk_xf (by kernel_rfl) ?_
        refine jx1 (i := 23) (by kernel_rfl) (by kernel_rfl) rfl ?_
        refine jg_as rfl rfl rfl ?_
        refine jg_nil ?_
        refine jk_xf (by kernel_rfl) ?_
        refine jx0 [(4, _), (5, _), (6, _)] ⟨rfl, rfl, rfl, trivial⟩ (by kernel_rfl) (by kernel_rfl) ?_
        refine jk_sn ?_
        refine jn_ret ?_
        exact jk_ret3 rfl (fun w hs => .cell rfl (ldBB (hs.blkL (i := 3) rfl) rfl)) (fun w hs => .tmp rfl) (fun w hs => .tmp rfl) (fun w hs => ⟨(hd146, hd266, hd406), rfl, hs.sel (is := [2, 1, 0]) rfl rfl⟩)
      refine jg_lit0 (enc := encI) rfl rfl fun hd305 => ?_
      refine jg_nil ?_
      refine jk_xn [3, 4] rfl ?_
      refine jx1 (i := 7) (by kernel_rfl) (by kernel_rfl) rfl ?_
      refine jg_append 2 rfl rfl rfl (fun w hs => (Sl.hi (hs.arg Rha0_Wagons) (of_decide_eq_true h125))) rfl rfl rfl fun y145 hd146 => ?_
      refine jg_L (r5 rfl) ?_
      refine jg_nil ?_
      refine jk_xn [3, 4] rfl ?_
      refine jx1 (i := 13) (by kernel_rfl) (by kernel_rfl) rfl ?_
      refine jg_append 1 rfl rfl rfl (fun w hs => (Sl.hi (hs.arg Rha0_Lengths) (of_decide_eq_true h245))) rfl rfl rfl fun y265 hd266 => ?_
      refine jg_L (r5 rfl) ?_
      refine jg_nil ?_
      refine jk_xn [3, 4] rfl ?_
      refine jx_lin [3, 4] 1832927 1048575 4 [0, 1, 0, 0, 8, 0, 56, 124, 0, 0, 512, 0, 3584, 8188, 16383, 0, 0, 65536, 0, 458752, 1032188, 2097151, 4194303, 8388607] [(14, true)] rfl (np_seq np_rt) (by kernel_rfl) (by kernel_rfl) (by kernel_rfl) (by kernel_rfl) (by kernel_rfl) (by kernel_rfl) (by kernel_rfl) (by kernel_rfl) (by kernel_rfl) ?_
      refine jd_y rfl (fun w hs => yv_build rfl (o3 rfl)) rfl rfl ?_
      refine jd_x ?_
      refine jx1 (i := 20) (by kernel_rfl) (by kernel_rfl) rfl ?_
      refine jg_append 0 rfl rfl rfl (fun w hs => (Sl.lo (sz := 1) (hs.arg Rha0_Wagons) (of_decide_eq_true h385))) rfl rfl rfl fun y405 hd406 => ?_
      refine jg_L (r5 rfl) ?_
      refine jg_nil ?_
      refine jk_xn [3, 4] rfl ?_
      refine jx1 (i := 21) (by kernel_rfl) (by kernel_rfl) rfl ?_
      refine jg_store 3 rfl rfl rfl (l3 rfl) rfl rfl rfl rfl (l3 rfl) (r5 rfl) ?_
      refine jg_nil ?_
      refine jk_xf (by kernel_rfl) ?_
      refine jx1 (i := 22) (by kernel_rfl) (by kernel_rfl) rfl ?_
      refine jg_as rfl rfl rfl ?_
      refine jg_nil ?_
      refine jk_xf (by kernel_rfl) ?_
      refine jx1 (i := 23) (by kernel_rfl) (by kernel_rfl) rfl ?_
      refine jg_as rfl rfl rfl ?_
      refine jg_nil ?_
      refine jk_xf (by kernel_rfl) ?_
      refine jx0 [(4, _), (5, _), (6, _)] ⟨rfl, rfl, rfl, trivial⟩ (by kernel_rfl) (by kernel_rfl) ?_
      refine jk_sn ?_
      refine jn_ret ?_
      exact jk_ret3 rfl (fun w hs => .cell rfl (ldBB (hs.blkL (i := 3) rfl) rfl)) (fun w hs => .tmp rfl) (fun w hs => .tmp rfl) (fun w hs => ⟨(hd146, hd266, hd406), rfl, hs.sel (is := [2, 1, 0]) rfl rfl⟩)
    refine jg_lit0 (enc := encI) rfl rfl fun hd305 => ?_
    refine jg_nil ?_
    refine jk_xn [2, 3] rfl ?_
    refine jx2 (i := 7) (i2 := 8) (by kernel_rfl) (by kernel_rfl) rfl rfl ?_ ?_
    · refine jg_append 1 rfl rfl rfl (fun w hs => (Sl.hi (hs.arg Rha0_Wagons) (of_decide_eq_true h125))) rfl rfl rfl fun y145 hd146 => ?_
      refine jg_L (r4 rfl) ?_
      refine jg_nil ?_
      refine jk_xn [2, 3] rfl ?_
      refine jx1 (i := 8) (by kernel_rfl) (by kernel_rfl) rfl ?_
      refine jg_lit0 (enc := encI) rfl rfl fun hd165 => ?_
      refine jg_nil ?_
      refine jk_xn [3, 4] rfl ?_
      refine jx1 (i := 13) (by kernel_rfl) (by kernel_rfl) rfl ?_
      refine jg_append 0 rfl rfl rfl (fun w hs => (Sl.hi (hs.arg Rha0_Lengths) (of_decide_eq_true h245))) rfl rfl rfl fun y265 hd266 => ?_
      refine jg_L (r5 rfl) ?_
      refine jg_nil ?_
      refine jk_xn [3, 4] rfl ?_
      refine jx_lin [3, 4] 1832927 1048575 4 [0, 1, 0, 0, 8, 0, 56, 124, 0, 0, 512, 0, 3584, 8188, 16383, 0, 0, 65536, 0, 458752, 1032188, 2097151, 4194303, 8388607] [(14, true)] rfl (np_seq np_rt) (by kernel_rfl) (by kernel_rfl) (by kernel_rfl) (by kernel_rfl) (by kernel_rfl) (by kernel_rfl) (by kernel_rfl) (by kernel_rfl) (by kernel_rfl) ?_
      refine jd_y rfl (fun w hs => yv_build rfl (o3 rfl)) rfl rfl ?_
      refine jd_x ?_
      refine jx1 (i := 20) (by kernel_rfl) (by kernel_rfl) rfl ?_
      refine jg_append 1 rfl rfl rfl (fun w hs => (Sl.lo (sz := 1) (hs.arg Rha0_Wagons) (of_decide_eq_true h385))) rfl rfl rfl fun y405 hd406 => ?_
      refine jg_L (r5 rfl) ?_
      refine jg_nil ?_
      refine jk_xn [3, 4] rfl ?_
      refine jx1 (i := 21) (by kernel_rfl) (by kernel_rfl) rfl ?_
      refine jg_store 3 rfl rfl rfl (l3 rfl) rfl rfl rfl rfl (l3 rfl) (r5 rfl) ?_
      refine jg_nil ?_
      refine jk_xf (by kernel_rfl) ?_
      refine jx1 (i := 22) (by kernel_rfl) (by kernel_rfl) rfl ?_
      refine jg_as rfl rfl rfl ?_
      refine jg_nil ?_
      refine jk_xf (by kernel_rfl) ?_
      refine jx1 (i := 23) (by kernel_rfl) (by kernel_rfl) rfl ?_
      refine jg_as rfl rfl rfl ?_
      refine jg_nil ?_
      refine jk_xf (by kernel_rfl) ?_
      refine jx0 [(4, _), (5, _), (6, _)] ⟨rfl, rfl, rfl, trivial⟩ (by kernel_rfl) (by kernel_rfl) ?_
      refine jk_sn ?_
      refine jn_ret ?_
      exact jk_ret3 rfl (fun w hs => .cell rfl (ldBB (hs.blkL (i := 3) rfl) rfl)) (fun w hs => .tmp rfl) (fun w hs => .tmp rfl) (fun w hs => ⟨(hd146, hd266, hd406), rfl, hs.sel (is := [2, 0, 1]) rfl rfl⟩)
    refine jg_lit0 (enc := encI) rfl rfl fun hd165 => ?_
    refine jg_nil ?_
    refine jk_xn [3, 4] rfl ?_
    refine jx1 (i := 7) (by kernel_rfl) (by kernel_rfl) rfl ?_
    refine jg_append 2 rfl rfl rfl (fun w hs => (Sl.hi (hs.arg Rha0_Wagons) (of_decide_eq_true h125))) rfl rfl rfl fun y145 hd146 => ?_
    refine jg_L (r5 rfl) ?_
    refine jg_nil ?_
    refine jk_xn [3, 4] rfl ?_
    refine jx1 (i := 13) (by kernel_rfl) (by kernel_rfl) rfl ?_
    refine jg_append 0 rfl rfl rfl (fun w hs => (Sl.hi (hs.arg Rha0_Lengths) (of_decide_eq_true h245))) rfl rfl rfl fun y265 hd266 => ?_
    refine jg_L (r5 rfl) ?_
    refine jg_nil ?_
    refine jk_xn [3, 4] rfl ?_
    refine jx_lin [3, 4] 1832927 1048575 4 [0, 1, 0, 0, 8, 0, 56, 124, 0, 0, 512, 0, 3584, 8188, 16383, 0, 0, 65536, 0, 458752, 1032188, 2097151, 4194303, 8388607] [(14, true)] rfl (np_seq np_rt) (by kernel_rfl) (by kernel_rfl) (by kernel_rfl) (by kernel_rfl) (by kernel_rfl) (by kernel_rfl) (by kernel_rfl) (by kernel_rfl) (by kernel_rfl) ?_
    refine jd_y rfl (fun w hs => yv_build rfl (o3 rfl)) rfl rfl ?_
    refine jd_x ?_
    refine jx1 (i := 20) (by kernel_rfl) (by kernel_rfl) rfl ?_
    refine jg_append 1 rfl rfl rfl (fun w hs => (Sl.lo (sz := 1) (hs.arg Rha0_Wagons) (of_decide_eq_true h385))) rfl rfl rfl fun y405 hd406 => ?_
    refine jg_L (r5 rfl) ?_
    refine jg_nil ?_
    refine jk_xn [3, 4] rfl ?_
    refine jx1 (i := 21) (by kernel_rfl) (by kernel_rfl) rfl ?_
    refine jg_store 3 rfl rfl rfl (l3 rfl) rfl rfl rfl rfl (l3 rfl) (r5 rfl) ?_
    refine jg_nil ?_
    refine jk_xf (by kernel_rfl) ?_
    refine jx1 (i := 22) (by kernel_rfl) (by kernel_rfl) rfl ?_
    refine jg_as rfl rfl rfl ?_
    refine jg_nil ?_
    refine jk_xf (by kernel_rfl) ?_
    refine jx1 (i := 23) (by kernel_rfl) (by kernel_rfl) rfl ?_
    refine jg_as rfl rfl rfl ?_
    refine jg_nil ?_
    refine jk_xf (by kernel_rfl) ?_
    refine jx0 [(4, _), (5, _), (6, _)] ⟨rfl, rfl, rfl, trivial⟩ (by kernel_rfl) (by kernel_rfl) ?_
    refine jk_sn ?_
    refine jn_ret ?_
    exact jk_ret3 rfl (fun w hs => .cell rfl (ldBB (hs.blkL (i := 3) rfl) rfl)) (fun w hs => .tmp rfl) (fun w hs => .tmp rfl) (fun w hs => ⟨(hd146, hd266, hd406), rfl, hs.sel (is := [2, 0, 1]) rfl rfl⟩)
  · refine jg_lit0 (enc := encI) rfl rfl fun hd165 => ?_
    refine jg_nil ?_
    refine jk_xn [1, 2] rfl ?_
    refine jx2 (i := 2) (i2 := 15) (by kernel_rfl) (by kernel_rfl) rfl rfl ?_ ?_
    · refine jg_lit0 (enc := encI) rfl rfl fun hd45 => ?_
      refine jg_nil ?_
      refine jk_xn [2, 3] rfl ?_
      refine jx2 (i := 7) (i2 := 15) (by kernel_rfl) (by kernel_rfl) rfl rfl ?_ ?_
      · refine jg_append 0 rfl rfl rfl (fun w hs => (Sl.hi (hs.arg Rha0_Wagons) (of_decide_eq_true h125))) rfl rfl rfl fun y145 hd146 => ?_
        refine jg_L (r4 rfl) ?_
        refine jg_nil ?_
        refine jk_xn [2, 3] rfl ?_
        refine jx2 (i := 13) (i2 := 15) (by kernel_rfl) (by kernel_rfl) rfl rfl ?_ ?_
        · refine jg_append 1 rfl rfl rfl (fun w hs => (Sl.hi (hs.arg Rha0_Lengths) (of_decide_eq_true h245))) rfl rfl rfl fun y265 hd266 => ?_
          refine jg_L (r4 rfl) ?_
          refine jg_nil ?_
          refine jk_xn [2, 3] rfl ?_
          refine jx_lin [2, 3] 1832927 1015807 5 [0, 1, 0, 0, 8, 0, 56, 124, 0, 0, 512, 0, 3584, 8188, 16383, 0, 0, 65536, 0, 458752, 1032188, 2097151, 4194303, 8388607] [(14, true)] rfl (np_seq np_rt) (by kernel_rfl) (by kernel_rfl) (by kernel_rfl) (by kernel_rfl) (by kernel_rfl) (by kernel_rfl) (by kernel_rfl) (by kernel_rfl) (by kernel_rfl) ?_
          refine jd_y rfl (fun w hs => yv_build rfl (o3 rfl)) rfl rfl ?_
          refine jd_x ?_
          refine jx1 (i := 15) (by kernel_rfl) (by kernel_rfl) rfl ?_
          refine jg_lit0 (enc := encI) rfl rfl fun hd305 => ?_
          refine jg_nil ?_
          refine jk_xn [3, 4] rfl ?_
          refine jx1 (i := 20) (by kernel_rfl) (by kernel_rfl) rfl ?_
          refine jg_append 0 rfl rfl rfl (fun w hs => (Sl.lo (sz := 1) (hs.arg Rha0_Wagons) (of_decide_eq_true h385))) rfl rfl rfl fun y405 hd406 => ?_
          refine jg_L (r5 rfl) ?_
          refine jg_nil ?_
          refine jk_xn [3, 4] rfl ?_
          refine jx1 (i := 21) (by kernel_rfl) (by kernel_rfl) rfl ?_
          refine jg_store 3 rfl rfl rfl (l3 rfl) rfl rfl rfl rfl (l3 rfl) (r5 rfl) ?_
          refine jg_nil ?_
          refine jk_xf (by kernel_rfl) ?_
          refine jx1 (i := 22) (by kernel_rfl) (by kernel_rfl) rfl ?_
          refine jg_as rfl rfl rfl ?_
          refine jg_nil ?_
          refine jk_xf (by kernel_rfl) ?_
          refine jx1 (i := 23) (by kernel_rfl) (by kernel_rfl) rfl ?_
          refine jg_as rfl rfl rfl ?_
          refine jg_nil ?_
          refine jk_xf (by kernel_rfl) ?_
          refine jx0 [(4, _), (5, _), (6, _)] ⟨rfl, rfl, rfl, trivial⟩ (by kernel_rfl) (by kernel_rfl) ?_
          refine jk_sn ?_
          refine jn_ret ?_
          exact jk_ret3 rfl (fun w hs => .cell rfl (ldBB (hs.blkL (i := 3) rfl) rfl)) (fun w hs => .tmp rfl) (fun w hs => .tmp rfl) (fun w hs => ⟨(hd146, hd266, hd406), rfl, hs.sel (is := [1, 2, 0]) rfl rfl⟩)
        refine jg_lit0 (enc := encI) rfl rfl fun hd305 => ?_
        refine jg_nil ?_
        refine jk_xn [3, 4] rfl ?_
        refine jx1 (i := 13) (by kernel_rfl) (by kernel_rfl) rfl ?_
        refine jg_append 2 rfl rfl rfl (fun w hs => (Sl.hi (hs.arg Rha0_Lengths) (of_decide_eq_true h245))) rfl rfl rfl fun y265 hd266 => ?_
        refine jg_L (r5 rfl) ?_
        refine jg_nil ?_
        refine jk_xn [3, 4] rfl ?_
        refine jx_lin [3, 4] 1832927 1048575 4 [0, 1, 0, 0, 8, 0, 56, 124, 0, 0, 512, 0, 3584, 8188, 16383, 0, 0, 65536, 0, 458752, 1032188, 2097151, 4194303, 8388607] [(14, true)] rfl (np_seq np_rt) (by kernel_rfl) (by kernel_rfl) (by kernel_rfl) (by kernel_rfl) (by kernel_rfl) (by kernel_rfl) (by kernel_rfl) (by kernel_rfl) (by kernel_rfl) ?_
        refine jd_y rfl (fun w hs => yv_build rfl (o3 rfl)) rfl rfl ?_
        refine jd_x ?_
        refine jx1 (i := 20) (by kernel_rfl) (by kernel_rfl) rfl ?_
        refine jg_append 0 rfl rfl rfl (fun w hs => (Sl.lo (sz := 1) (hs.arg Rha0_Wagons) (of_decide_eq_true h385))) rfl rfl rfl fun y405 hd406 => ?_
        refine jg_L (r5 rfl) ?_
        refine jg_nil ?_
        refine jk_xn [3, 4] rfl ?_
        refine jx1 (i := 21) (by kernel_rfl) (by kernel_rfl) rfl ?_
        refine jg_store 3 rfl rfl rfl (l3 rfl) rfl rfl rfl rfl (l3 rfl) (r5 rfl) ?_
        refine jg_nil ?_
        refine jk_xf (by kernel_rfl) ?_
        refine jx1 (i := 22) (by kernel_rfl) (by kernel_rfl) rfl ?_
        refine jg_as rfl rfl rfl ?_
        refine jg_nil ?_
        refine jk_xf (by kernel_rfl) ?_
        refine jx1 (i := 23) (by kernel_rfl) (by kernel_rfl) rfl ?_
        refine jg_as rfl rfl rfl ?_
        refine jg_nil ?_
        refine jk_xf (by kernel_rfl) ?_
        refine jx0 [(4, _), (5, _), (6, _)] ⟨rfl, rfl, rfl, trivial⟩ (by kernel_rfl) (by kernel_rfl) ?_
        refine jk_sn ?_
        refine jn_ret ?_
        exact jk_ret3 rfl (fun w hs => .cell rfl (ldBB (hs.blkL (i := 3) rfl) rfl)) (fun w hs => .tmp rfl) (fun w hs => .tmp rfl) (fun w hs => ⟨(hd146, hd266, hd406), rfl, hs.sel (is := [1, 2, 0]) rfl rfl⟩)
      refine jg_lit0 (enc := encI) rfl rfl fun hd305 => ?_
      refine jg_nil ?_
      refine jk_xn [3, 4] rfl ?_
      refine jx1 (i := 7) (by kernel_rfl) (by kernel_rfl) rfl ?_
      refine jg_append 1 rfl rfl rfl (fun w hs => (Sl.hi (hs.arg Rha0_Wagons) (of_decide_eq_true h125))) rfl rfl rfl fun y145 hd146 => ?_
      refine jg_L (r5 rfl) ?_
      refine jg_nil ?_
      refine jk_xn [3, 4] rfl ?_
      refine jx1 (i := 13) (by kernel_rfl) (by kernel_rfl) rfl ?_
      refine jg_append 2 rfl rfl rfl (fun w hs => (Sl.hi (hs.arg Rha0_Lengths) (of_decide_eq_true h245))) rfl rfl rfl fun y265 hd266 => ?_
      refine jg_L (r5 rfl) ?_
      refine jg_nil ?_
      refine jk_xn [3, 4] rfl ?_
      refine jx_lin [3, 4] 1832927 1048575 4 [0, 1, 0, 0, 8, 0, 56, 124, 0, 0, 512, 0, 3584, 8188, 16383, 0, 0, 65536, 0, 458752, 1032188, 2097151, 4194303, 8388607] [(14, true)] rfl (np_seq np_rt) (by kernel_rfl) (by kernel_rfl) (by kernel_rfl) (by kernel_rfl) (by kernel_rfl) (by kernel_rfl) (by kernel_rfl) (by kernel_rfl) (by kernel_rfl) ?_
      refine jd_y rfl (fun w hs => yv_build rfl (o3 rfl)) rfl rfl ?_
      refine jd_x ?_
      refine jx1 (i := 20) (by kernel_rfl) (by kernel_rfl) rfl ?_
      refine jg_append 0 rfl rfl rfl (fun w hs => (Sl.lo (sz := 1) (hs.arg Rha0_Wagons) (of_decide_eq_true h385))) rfl rfl rfl fun y405 hd406 => ?_
      refine jg_L (r5 rfl) ?_
      refine jg_nil ?_
      refine jk_xn [3, 4] rfl ?_
      refine jx1 (i := 21) (by kernel_rfl) (by kernel_rfl) rfl ?_
      refine jg_store 3 rfl rfl rfl (l3 rfl) rfl rfl rfl rfl (l3 rfl) (r5 rfl) ?_
      refine jg_nil ?_
      refine jk_xf (by kernel_rfl) ?_
      refine jx1 (i := 22) (by kernel_rfl) (by kernel_rfl) rfl ?_
      refine jg_as rfl rfl rfl ?_
      refine jg_nil ?_
      refine jk_xf (by kernel_rfl) ?_
      refine jx1 (i := 23) (by kernel_rfl) (by kernel_rfl) rfl ?_
      refine jg_as rfl rfl rfl ?_
      refine jg_nil ?_
      refine jk_xf (by kernel_rfl) ?_
      refine jx0 [(4, _), (5, _), (6, _)] ⟨rfl, rfl, rfl, trivial⟩ (by kernel_rfl) (by kernel_rfl) ?_
      refine jk_sn ?_
      refine jn_ret ?_
      exact jk_ret3 rfl (fun w hs => .cell rfl (ldBB (hs.blkL (i := 3) rfl) rfl)) (fun w hs => .tmp rfl) (fun w hs => .tmp rfl) (fun w hs => ⟨(hd146, hd266, hd406), rfl, hs.sel (is := [1, 2, 0]) rfl rfl⟩)
    refine jg_lit0 (enc := encI) rfl rfl fun hd305 => ?_
    refine jg_nil ?_
    refine jk_xn [2, 3] rfl ?_
    refine jx1 (i := 2) (by kernel_rfl) (by kernel_rfl) rfl ?_
    refine jg_lit0 (enc := encI) rfl rfl fun hd45 => ?_
    refine jg_nil ?_
    refine jk_xn [3, 4] rfl ?_
    refine jx1 (i := 7) (by kernel_rfl) (by kernel_rfl) rfl ?_
    refine jg_append 0 rfl rfl rfl (fun w hs => (Sl.hi (hs.arg Rha0_Wagons) (of_decide_eq_true h125))) rfl rfl rfl fun y145 hd146 => ?_
    refine jg_L (r5 rfl) ?_
    refine jg_nil ?_
    refine jk_xn [3, 4] rfl ?_
    refine jx1 (i := 13) (by kernel_rfl) (by kernel_rfl) rfl ?_
    refine jg_append 2 rfl rfl rfl (fun w hs => (Sl.hi (hs.arg Rha0_Lengths) (of_decide_eq_true h245))) rfl rfl rfl fun y265 hd266 => ?_
    refine jg_L (r5 rfl) ?_
    refine jg_nil ?_
    refine jk_xn [3, 4] rfl ?_
    refine jx_lin [3, 4] 1832927 1048575 4 [0, 1, 0, 0, 8, 0, 56, 124, 0, 0, 512, 0, 3584, 8188, 16383, 0, 0, 65536, 0, 458752, 1032188, 2097151, 4194303, 8388607] [(14, true)] rfl (np_seq np_rt) (by kernel_rfl) (by kernel_rfl) (by kernel_rfl) (by kernel_rfl) (by kernel_rfl) (by kernel_rfl) (by kernel_rfl) (by kernel_rfl) (by kernel_rfl) ?_
    refine jd_y rfl (fun w hs => yv_build rfl (o3 rfl)) rfl rfl ?_
    refine jd_x ?_
    refine jx1 (i := 20) (by kernel_rfl) (by kernel_rfl) rfl ?_
    refine jg_append 1 rfl rfl rfl (fun w hs => (Sl.lo (sz := 1) (hs.arg Rha0_Wagons) (of_decide_eq_true h385))) rfl rfl rfl fun y405 hd406 => ?_
    refine jg_L (r5 rfl) ?_
    refine jg_nil ?_
    refine jk_xn [3, 4] rfl ?_
    refine jx1 (i := 21) (by kernel_rfl) (by kernel_rfl) rfl ?_
    refine jg_store 3 rfl rfl rfl (l3 rfl) rfl rfl rfl rfl (l3 rfl) (r5 rfl) ?_
    refine jg_nil ?_
    refine jk_xf (by kernel_rfl) ?_
    refine jx1 (i := 22) (by kernel_rfl) (by kernel_rfl) rfl ?_
    refine jg_as rfl rfl rfl ?_
    refine jg_nil ?_
    refine jk_xf (by kernel_rfl) ?_
    refine jx1 (i := 23) (by kernel_rfl) (by kernel_rfl) rfl ?_
    refine jg_as rfl rfl rfl ?_
    refine jg_nil ?_
    refine jk_xf (by kernel_rfl) ?_
    refine jx0 [(4, _), (5, _), (6, _)] ⟨rfl, rfl, rfl, trivial⟩ (by kernel_rfl) (by kernel_rfl) ?_
    refine jk_sn ?_
    refine jn_ret ?_
    exact jk_ret3 rfl (fun w hs => .cell rfl (ldBB (hs.blkL (i := 3) rfl) rfl)) (fun w hs => .tmp rfl) (fun w hs => .tmp rfl) (fun w hs => ⟨(hd146, hd266, hd406), rfl, hs.sel (is := [0, 2, 1]) rfl rfl⟩)
  refine jg_lit0 (enc := encI) rfl rfl fun hd305 => ?_
  refine jg_nil ?_
  refine jk_xn [1, 2] rfl ?_
  refine jx2 (i := 2) (i2 := 8) (by kernel_rfl) (by kernel_rfl) rfl rfl ?_ ?_
  · refine jg_lit0 (enc := encI) rfl rfl fun hd45 => ?_
    refine jg_nil ?_
    refine jk_xn [2, 3] rfl ?_
    refine jx2 (i := 7) (i2 := 8) (by kernel_rfl) (by kernel_rfl) rfl rfl ?_ ?_
    · refine jg_append 0 rfl rfl rfl (fun w hs => (Sl.hi (hs.arg Rha0_Wagons) (of_decide_eq_true h125))) rfl rfl rfl fun y145 hd146 => ?_
      refine jg_L (r4 rfl) ?_
      refine jg_nil ?_
      refine jk_xn [2, 3] rfl ?_
      refine jx1 (i := 8) (by kernel_rfl) (by kernel_rfl) rfl ?_
      refine jg_lit0 (enc := encI) rfl rfl fun hd165 => ?_
      refine jg_nil ?_
      refine jk_xn [3, 4] rfl ?_
      refine jx1 (i := 13) (by kernel_rfl) (by kernel_rfl) rfl ?_
      refine jg_append 0 rfl rfl rfl (fun w hs => (Sl.hi (hs.arg Rha0_Lengths) (of_decide_eq_true h245))) rfl rfl rfl fun y265 hd266 => ?_
      refine jg_L (r5 rfl) ?_
      refine jg_nil ?_
      refine jk_xn [3, 4] rfl ?_
      refine jx_lin [3, 4] 1832927 1048575 4 [0, 1, 0, 0, 8, 0, 56, 124, 0, 0, 512, 0, 3584, 8188, 16383, 0, 0, 65536, 0, 458752, 1032188, 2097151, 4194303, 8388607] [(14, true)] rfl (np_seq np_rt) (by kernel_rfl) (by kernel_rfl) (by kernel_rfl) (by kernel_rfl) (by kernel_rfl) (by kernel_rfl) (by kernel_rfl) (by kernel_rfl) (by kernel_rfl) ?_
      refine jd_y rfl (fun w hs => yv_build rfl (o3 rfl)) rfl rfl ?_
      refine jd_x ?_
      refine jx1 (i := 20) (by kernel_rfl) (by kernel_rfl) rfl ?_
      refine jg_append 2 rfl rfl rfl (fun w hs => (Sl.lo (sz := 1) (hs.arg Rha0_Wagons) (of_decide_eq_true h385))) rfl rfl rfl fun y405 hd406 => ?_
      refine jg_L (r5 rfl) ?_
      refine jg_nil ?_
      refine jk_xn [3, 4] rfl ?_
      refine jx1 (i := 21) (by kernel_rfl) (by kernel_rfl) rfl ?_
      refine jg_store 3 rfl rfl rfl (l3 rfl) rfl rfl rfl rfl (l3 rfl) (r5 rfl) ?_
      refine jg_nil ?_
      refine jk_xf (by kernel_rfl) ?_
      refine jx1 (i := 22) (by kernel_rfl) (by kernel_rfl) rfl ?_
      refine jg_as rfl rfl rfl ?_
      refine jg_nil ?_
      refine jk_xf (by kernel_rfl) ?_
      refine jx1 (i := 23) (by kernel_rfl) (by kernel_rfl) rfl ?_
      refine jg_as rfl rfl rfl ?_
      refine jg_nil ?_
      refine jk_xf (by kernel_rfl) ?_
      refine jx0 [(4, _), (5, _), (6, _)] ⟨rfl, rfl, rfl, trivial⟩ (by kernel_rfl) (by kernel_rfl) ?_
      refine jk_sn ?_
      refine jn_ret ?_
      exact jk_ret3 rfl (fun w hs => .cell rfl (ldBB (hs.blkL (i := 3) rfl) rfl)) (fun w hs => .tmp rfl) (fun w hs => .tmp rfl) (fun w hs => ⟨(hd146, hd266, hd406), rfl, hs.sel (is := [1, 0, 2]) rfl rfl⟩)
    refine jg_lit0 (enc := encI) rfl rfl fun hd165 => ?_
    refine jg_nil ?_
    refine jk_xn [3, 4] rfl ?_
    refine jx1 (i := 7) (by kernel_rfl) (by kernel_rfl) rfl ?_
    refine jg_append 1 rfl rfl rfl (fun w hs => (Sl.hi (hs.arg Rha0_Wagons) (of_decide_eq_true h125))) rfl rfl rfl fun y145 hd146 => ?_
    refine jg_L (r5 rfl) ?_
    refine jg_nil ?_
    refine jk_xn [3, 4] rfl ?_
    refine jx1 (i := 13) (by kernel_rfl) (by kernel_rfl) rfl ?_
    refine jg_append 0 rfl rfl rfl (fun w hs => (Sl.hi (hs.arg Rha0_Lengths) (of_decide_eq_true h245))) rfl rfl rfl fun y265 hd266 => ?_
    refine jg_L (r5 rfl) ?_
    refine jg_nil ?_
    refine jk_xn [3, 4] rfl ?_
    refine jx_lin [3, 4] 1832927 1048575 4 [0, 1, 0, 0, 8, 0, 56, 124, 0, 0, 512, 0, 3584, 8188, 16383, 0, 0, 65536, 0, 458752, 1032188, 2097151, 4194303, 8388607] [(14, true)] rfl (np_seq np_rt) (by kernel_rfl) (by kernel_rfl) (by kernel_rfl) (by kernel_rfl) (by kernel_rfl) (by kernel_rfl) (by kernel_rfl) (by kernel_rfl) (by kernel_rfl) ?_
    refine jd_y rfl (fun w hs => yv_build rfl (o3 rfl)) rfl rfl ?_
    refine jd_x ?_
    refine jx1 (i := 20) (by kernel_rfl) (by kernel_rfl) rfl ?_
    refine jg_append 2 rfl rfl rfl (fun w hs => (Sl.lo (sz := 1) (hs.arg Rha0_Wagons) (of_decide_eq_true h385))) rfl rfl rfl fun y405 hd406 => ?_
    refine jg_L (r5 rfl) ?_
    refine jg_nil ?_
    refine jk_xn [3, 4] rfl ?_
    refine jx1 (i := 21) (by kernel_rfl) (by kernel_rfl) rfl ?_
    refine jg_store 3 rfl rfl rfl (l3 rfl) rfl rfl rfl rfl (l3 rfl) (r5 rfl) ?_
    refine jg_nil ?_
    refine jk_xf (by kernel_rfl) ?_
    refine jx1 (i := 22) (by kernel_rfl) (by kernel_rfl) rfl ?_
    refine jg_as rfl rfl rfl ?_
    refine jg_nil ?_
    refine jk_xf (by kernel_rfl) ?_
    refine jx1 (i := 23) (by kernel_rfl) (by kernel_rfl) rfl ?_
    refine jg_as rfl rfl rfl ?_
    refine jg_nil ?_
    refine jk_xf (by kernel_rfl) ?_
    refine jx0 [(4, _), (5, _), (6, _)] ⟨rfl, rfl, rfl, trivial⟩ (by kernel_rfl) (by kernel_rfl) ?_
    refine jk_sn ?_
    refine jn_ret ?_
    exact jk_ret3 rfl (fun w hs => .cell rfl (ldBB (hs.blkL (i := 3) rfl) rfl)) (fun w hs => .tmp rfl) (fun w hs => .tmp rfl) (fun w hs => ⟨(hd146, hd266, hd406), rfl, hs.sel (is := [1, 0, 2]) rfl rfl⟩)
  refine jg_lit0 (enc := encI) rfl rfl fun hd165 => ?_
  refine jg_nil ?_
  refine jk_xn [2, 3] rfl ?_
  refine jx1 (i := 2) (by kernel_rfl) (by kernel_rfl) rfl ?_
  refine jg_lit0 (enc := encI) rfl rfl fun hd45 => ?_
  refine jg_nil ?_
  refine jk_xn [3, 4] rfl ?_
  refine jx1 (i := 7) (by kernel_rfl) (by kernel_rfl) rfl ?_
  refine jg_append 0 rfl rfl rfl (fun w hs => (Sl.hi (hs.arg Rha0_Wagons) (of_decide_eq_true h125))) rfl rfl rfl fun y145 hd146 => ?_
  refine jg_L (r5 rfl) ?_
  refine jg_nil ?_
  refine jk_xn [3, 4] rfl ?_
  refine jx1 (i := 13) (by kernel_rfl) (by kernel_rfl) rfl ?_
  refine jg_append 1 rfl rfl rfl (fun w hs => (Sl.hi (hs.arg Rha0_Lengths) (of_decide_eq_true h245))) rfl rfl rfl fun y265 hd266 => ?_
  refine jg_L (r5 rfl) ?_
  refine jg_nil ?_
  refine jk_xn [3, 4] rfl ?_
  refine jx_lin [3, 4] 1832927 1048575 4 [0, 1, 0, 0, 8, 0, 56, 124, 0, 0, 512, 0, 3584, 8188, 16383, 0, 0, 65536, 0, 458752, 1032188, 2097151, 4194303, 8388607] [(14, true)] rfl (np_seq np_rt) (by kernel_rfl) (by kernel_rfl) (by kernel_rfl) (by kernel_rfl) (by kernel_rfl) (by kernel_rfl) (by kernel_rfl) (by kernel_rfl) (by kernel_rfl) ?_
  refine jd_y rfl (fun w hs => yv_build rfl (o3 rfl)) rfl rfl ?_
  refine jd_x ?_
  refine jx1 (i := 20) (by kernel_rfl) (by kernel_rfl) rfl ?_
  refine jg_append 2 rfl rfl rfl (fun w hs => (Sl.lo (sz := 1) (hs.arg Rha0_Wagons) (of_decide_eq_true h385))) rfl rfl rfl fun y405 hd406 => ?_
  refine jg_L (r5 rfl) ?_
  refine jg_nil ?_
  refine jk_xn [3, 4] rfl ?_
  refine jx1 (i := 21) (by kernel_rfl) (by kernel_rfl) rfl ?_
  refine jg_store 3 rfl rfl rfl (l3 rfl) rfl rfl rfl rfl (l3 rfl) (r5 rfl) ?_
  refine jg_nil ?_
  refine jk_xf (by kernel_rfl) ?_
  refine jx1 (i := 22) (by kernel_rfl) (by kernel_rfl) rfl ?_
  refine jg_as rfl rfl rfl ?_
  refine jg_nil ?_
  refine jk_xf (by kernel_rfl) ?_
  refine jx1 (i := 23) (by kernel_rfl) (by kernel_rfl) rfl ?_
  refine jg_as rfl rfl rfl ?_
  refine jg_nil ?_
  refine jk_xf (by kernel_rfl) ?_
  refine jx0 [(4, _), (5, _), (6, _)] ⟨rfl, rfl, rfl, trivial⟩ (by kernel_rfl) (by kernel_rfl) ?_
  refine jk_sn ?_
  refine jn_ret ?_
  exact jk_ret3 rfl (fun w hs => .cell rfl (ldBB (hs.blkL (i := 3) rfl) rfl)) (fun w hs => .tmp rfl) (fun w hs => .tmp rfl) (fun w hs => ⟨(hd146, hd266, hd406), rfl, hs.sel (is := [0, 1, 2]) rfl rfl⟩)
theorem gen_Ints_c {w : World} {a0 : (List Int)} {a1 : (List Int)} {ha0 : Hd} {ha1 : Hd} {v : Bool} (hm : gen_Ints a0 a1 = some v) (Rha0 : Sl w ha0 encI a0) (Rha1 : Sl w ha1 encI a1) : Gives Try.prog 21 [ha0.v, ha1.v] w (.bool v) := by
  refine j_gives (vs := [ha0.v, ha1.v]) (U := fun (v : Bool) => .bool v) Try.func21 rfl Try.ntmps21 rfl rfl hm ?_
  unfold gen_Ints
  clear hm
  refine jn_seq ?_
  refine jn_reg 0 ?_
  refine jg_as rfl rfl rfl ?_
  refine jg_nils [(0, _), (1, _)] ⟨rfl, rfl, trivial⟩ ?_
  refine jk_sn ?_
  refine jn_seq ?_
  refine jn_seq ?_
  refine jn_reg 1 ?_
  refine jg_mv rfl rfl rfl ?_
  refine jg_y (fun w hs => yv_ln rfl (hs.arg Rha0)) rfl rfl ?_
  refine jg_mv rfl rfl rfl ?_
  refine jg_y (fun w hs => yv_ln rfl (hs.arg Rha1)) rfl rfl ?_
  refine jg_y (fun w hs => yv_neq rfl rfl) rfl rfl ?_
  refine jg_nils [(0, _), (1, _), (10, _)] ⟨rfl, rfl, rfl, trivial⟩ ?_
  refine jk_sn ?_
  refine jn_cond rfl ?_ ?_
  · refine jn_seq ?_
    refine jn_reg 2 ?_
    refine jg_as rfl rfl rfl ?_
    refine jg_nils [(4, _)] ⟨rfl, trivial⟩ ?_
    refine jk_sn ?_
    refine jn_ret ?_
    refine jk_sr ?_
    exact jk_ret1 rfl (fun w hs => .tmp rfl) (fun w hs => ⟨rfl, hs.drop⟩)
  refine jn_skip ?_
  refine jk_sn ?_
  refine jn_seq ?_
  refine jn_seq ?_
  refine jn_reg 3 ?_
  refine jg_as rfl rfl rfl ?_
  refine jg_nils [(0, _), (1, _), (5, _)] ⟨rfl, rfl, rfl, trivial⟩ ?_
  refine jk_sn ?_
  refine jn_block ?_
  refine jn_lp (n := big) (fun (s : Int) (g : Unit) => [(0, ha0.v), (1, ha1.v), (5, .int .i64 s)]) (fun (s : Int) (g : Unit) => []) (fun (s : Int) (g : Unit) => []) 0 () [] ⟨rfl, rfl, rfl, trivial⟩ rfl rfl rfl ?_
  intro z1 q2 n5 k3 H4
  refine jn_seq ?_
  refine jn_seq ?_
  refine jn_reg 4 ?_
  refine jg_mv rfl rfl rfl ?_
  refine jg_mv rfl rfl rfl ?_
  refine jg_y (fun w hs => yv_ln rfl (hs.arg Rha0)) rfl rfl ?_
  refine jg_y (fun w hs => yv_lss rfl rfl) rfl rfl ?_
  refine jg_nils [(0, _), (1, _), (5, _), (14, _)] ⟨rfl, rfl, rfl, rfl, trivial⟩ ?_
  refine jk_sn ?_
  refine jn_cond rfl ?_ ?_
  rotate_left
  · refine jn_exit ?_
    refine jk_se (jk_le (jk_bh (jk_sn ?_)))
    refine jn_seq ?_
    refine jn_reg 8 ?_
    refine jg_as rfl rfl rfl ?_
    refine jg_nils [(4, _)] ⟨rfl, trivial⟩ ?_
    refine jk_sn ?_
    refine jn_ret ?_
    exact jk_ret1 rfl (fun w hs => .tmp rfl) (fun w hs => ⟨rfl, hs.drop⟩)
  refine jn_skip ?_
  refine jk_sn ?_
  refine jn_seq ?_
  refine jn_block ?_
  refine jn_seq ?_
  refine jn_draw (L' := []) 6 [] [0, 1, 2, 3, 4, 5, 6, 7, 8] 511 511 [0, 0, 3, 4, 0, 0, 48, 64, 136] [0, 0, 3, 7, 0, 0, 48, 112, 255] [(0, true), (1, true), (2, true), (3, true), (4, true), (5, true), (6, true), (7, true), (8, true)] rfl (np_seq (np_blk (np_seq (np_rnd (np_blk (np_seq np_rt)))))) (by kernel_rfl) (by kernel_rfl) (by kernel_rfl) (by kernel_rfl) (by kernel_rfl) (by kernel_rfl) (by kernel_rfl) (by kernel_rfl) ?_
  refine jd_mv rfl rfl rfl rfl ?_
  refine jd_mv rfl rfl rfl rfl ?_
  refine jd_ix fun x6 h7 => ?_
  refine jd_y rfl (fun w hs => yv_ix rfl rfl (hs.arg Rha0) h7) rfl rfl ?_
  refine jd_y rfl (fun w hs => yv_e1 rfl (hs.arg Rha0) h7.1 rfl) rfl rfl ?_
  refine jd_mv rfl rfl rfl rfl ?_
  refine jd_mv rfl rfl rfl rfl ?_
  refine jd_ix fun x8 h9 => ?_
  refine jd_y rfl (fun w hs => yv_ix rfl rfl (hs.arg Rha1) h9) rfl rfl ?_
  refine jd_y rfl (fun w hs => yv_e1 rfl (hs.arg Rha1) h9.1 rfl) rfl rfl ?_
  refine jd_y rfl (fun w hs => yv_neq rfl rfl) rfl rfl ?_
  refine jd_nils [(0, _), (1, _), (5, _), (25, _)] ⟨rfl, rfl, rfl, rfl, trivial⟩ ?_
  refine jk_sn ?_
  refine jn_cond rfl ?_ ?_
  · refine jn_seq ?_
    refine jn_reg 7 ?_
    refine jg_as rfl rfl rfl ?_
    refine jg_nils [(4, _)] ⟨rfl, trivial⟩ ?_
    refine jk_sn ?_
    refine jn_ret ?_
    refine jk_br (jk_sr (jk_lr (jk_br (jk_sr ?_))))
    exact jk_ret1 rfl (fun w hs => .tmp rfl) (fun w hs => ⟨rfl, hs.drop⟩)
  refine jn_skip ?_
  refine jk_bn (jk_sn ?_)
  refine jn_reg 5 ?_
  refine jg_mv rfl rfl rfl ?_
  refine jg_y (fun w hs => yv_add_w rfl rfl) rfl rfl ?_
  refine jg_as rfl rfl rfl ?_
  refine jg_nils [(0, _), (1, _), (5, _)] ⟨rfl, rfl, rfl, trivial⟩ ?_
  exact jk_use H4 (w64 (z1 + 1)) () [] ⟨rfl, rfl, rfl, trivial⟩ rfl rfl rfl
theorem yardgen_SameStands_c {w : World} {a0 : Stand} {a1 : Stand} {ha0_Wagons : Hd} {ha0_Lengths : Hd} {ha1_Wagons : Hd} {ha1_Lengths : Hd} {v : Bool} (hm : yardgen_SameStands a0 a1 = some v) (Rha0_Wagons : Sl w ha0_Wagons encI a0.Wagons) (Rha0_Lengths : Sl w ha0_Lengths encI a0.Lengths) (Rha1_Wagons : Sl w ha1_Wagons encI a1.Wagons) (Rha1_Lengths : Sl w ha1_Lengths encI a1.Lengths) : Gives Try.prog 20 [.agg #[.int .i64 a0.Room, ha0_Wagons.v, ha0_Lengths.v], .agg #[.int .i64 a1.Room, ha1_Wagons.v, ha1_Lengths.v]] w (.bool v) := by
  refine j_gives (vs := [.agg #[.int .i64 a0.Room, ha0_Wagons.v, ha0_Lengths.v], .agg #[.int .i64 a1.Room, ha1_Wagons.v, ha1_Lengths.v]]) (U := fun (v : Bool) => .bool v) Try.func20 rfl Try.ntmps20 rfl rfl hm ?_
  unfold yardgen_SameStands
  clear hm
  refine jn_seq ?_
  refine jn_reg 0 ?_
  refine jg_box rfl (l3 rfl) rfl rfl fun g1 => ?_
  refine jg_box rfl (l3 rfl) rfl rfl fun g2 => ?_
  refine jg_as rfl rfl rfl ?_
  refine jg_nils [(2, _), (3, _)] ⟨rfl, rfl, trivial⟩ ?_
  refine jk_sn ?_
  refine jn_seq ?_
  refine jn_reg 1 ?_
  refine jg_y (fun w hs => yv_fieldAddr rfl) rfl rfl ?_
  refine jg_y (fun w hs => yv_load rfl (ld1B (hs.blkL (i := 1) rfl) rfl)) rfl rfl ?_
  refine jg_y (fun w hs => yv_fieldAddr rfl) rfl rfl ?_
  refine jg_y (fun w hs => yv_load rfl (ld1B (hs.blkL (i := 0) rfl) rfl)) rfl rfl ?_
  refine jg_y (fun w hs => yv_eql rfl rfl) rfl rfl ?_
  refine jg_mv rfl rfl rfl ?_
  refine jg_split 10 rfl ?_ ?_
  rotate_left
  · refine jg_skip rfl rfl ?_
    refine jg_skip rfl rfl ?_
    refine jg_skip rfl rfl ?_
    refine jg_skip rfl rfl ?_
    refine jg_skip rfl rfl ?_
    refine jg_y (fun w hs => yv_pick_f rfl rfl) rfl rfl ?_
    refine jg_mv rfl rfl rfl ?_
    refine jg_skip rfl rfl ?_
    refine jg_skip rfl rfl ?_
    refine jg_skip rfl rfl ?_
    refine jg_skip rfl rfl ?_
    refine jg_skip rfl rfl ?_
    refine jg_y (fun w hs => yv_pick_f rfl rfl) rfl rfl ?_
    refine jg_as rfl rfl rfl ?_
    refine jg_nils [(4, _)] ⟨rfl, trivial⟩ ?_
    refine jk_sel (is := []) (s0 rfl) rfl ?_
    refine jk_sn ?_
    refine jn_ret ?_
    exact jk_ret1 rfl (fun w hs => .tmp rfl) (fun w hs => ⟨rfl, hs.drop⟩)
  refine jg_y (fun w hs => yv_fieldAddr rfl) rfl rfl ?_
  refine jg_y (fun w hs => yv_load rfl (ld1B (hs.blkL (i := 1) rfl) rfl)) rfl rfl ?_
  refine jg_y (fun w hs => yv_fieldAddr rfl) rfl rfl ?_
  refine jg_y (fun w hs => yv_load rfl (ld1B (hs.blkL (i := 0) rfl) rfl)) rfl rfl ?_
  refine jg_c0 rfl (fun v w hs hm => gen_Ints_c hm (hs.arg Rha0_Wagons) (hs.arg Rha1_Wagons)) rfl rfl fun v3 => ?_
  refine jg_y (fun w hs => yv_pick_t rfl rfl) rfl rfl ?_
  refine jg_mv rfl rfl rfl ?_
  refine jg_split 17 rfl ?_ ?_
  · refine jg_y (fun w hs => yv_fieldAddr rfl) rfl rfl ?_
    refine jg_y (fun w hs => yv_load rfl (ld1B (hs.blkL (i := 1) rfl) rfl)) rfl rfl ?_
    refine jg_y (fun w hs => yv_fieldAddr rfl) rfl rfl ?_
    refine jg_y (fun w hs => yv_load rfl (ld1B (hs.blkL (i := 0) rfl) rfl)) rfl rfl ?_
    refine jg_c0 rfl (fun v w hs hm => gen_Ints_c hm (hs.arg Rha0_Lengths) (hs.arg Rha1_Lengths)) rfl rfl fun v4 => ?_
    refine jg_y (fun w hs => yv_pick_t rfl rfl) rfl rfl ?_
    refine jg_as rfl rfl rfl ?_
    refine jg_nils [(4, _)] ⟨rfl, trivial⟩ ?_
    refine jk_sel (is := []) (s0 rfl) rfl ?_
    refine jk_sn ?_
    refine jn_ret ?_
    exact jk_ret1 rfl (fun w hs => .tmp rfl) (fun w hs => ⟨rfl, hs.drop⟩)
  refine jg_skip rfl rfl ?_
  refine jg_skip rfl rfl ?_
  refine jg_skip rfl rfl ?_
  refine jg_skip rfl rfl ?_
  refine jg_skip rfl rfl ?_
  refine jg_y (fun w hs => yv_pick_f rfl rfl) rfl rfl ?_
  refine jg_as rfl rfl rfl ?_
  refine jg_nils [(4, _)] ⟨rfl, trivial⟩ ?_
  refine jk_sel (is := []) (s0 rfl) rfl ?_
  refine jk_sn ?_
  refine jn_ret ?_
  exact jk_ret1 rfl (fun w hs => .tmp rfl) (fun w hs => ⟨rfl, hs.drop⟩)
theorem bowl_Free_c {w : World} {a0 : Stand} {ha0_Wagons : Hd} {ha0_Lengths : Hd} {v : Int} (hm : bowl_Free a0 = some v) (Rha0_Wagons : Sl w ha0_Wagons encI a0.Wagons) (Rha0_Lengths : Sl w ha0_Lengths encI a0.Lengths) : Gives Try.prog 22 [.agg #[.int .i64 a0.Room, ha0_Wagons.v, ha0_Lengths.v]] w (.int .i64 v) := by
  refine j_gives (vs := [.agg #[.int .i64 a0.Room, ha0_Wagons.v, ha0_Lengths.v]]) (U := fun (v : Int) => .int .i64 v) Try.func22 rfl Try.ntmps22 rfl rfl hm ?_
  unfold bowl_Free
  clear hm
  refine jn_seq ?_
  refine jn_reg 0 ?_
  refine jg_box rfl (l3 rfl) rfl rfl fun g1 => ?_
  refine jg_as rfl rfl rfl ?_
  refine jg_nils [(1, _)] ⟨rfl, trivial⟩ ?_
  refine jk_sn ?_
  refine jn_seq ?_
  refine jn_seq ?_
  refine jn_reg 1 ?_
  refine jg_y (fun w hs => yv_load rfl (ldBB (hs.blkL (i := 0) rfl) rfl)) rfl rfl ?_
  refine jg_c0 rfl (fun v w hs hm => bowl_Valid_c (a0 := a0) hm (hs.arg Rha0_Wagons) (hs.arg Rha0_Lengths)) rfl rfl fun v2 => ?_
  refine jg_y (fun w hs => yv_not rfl) rfl rfl ?_
  refine jg_nils [(1, _), (7, _)] ⟨rfl, rfl, trivial⟩ ?_
  refine jk_sn ?_
  refine jn_cond rfl ?_ ?_
  · refine jn_seq ?_
    refine jn_reg 2 ?_
    refine jg_as rfl rfl rfl ?_
    refine jg_nils [(2, _)] ⟨rfl, trivial⟩ ?_
    refine jk_sn ?_
    refine jn_ret ?_
    refine jk_sr ?_
    exact jk_ret1 rfl (fun w hs => .tmp rfl) (fun w hs => ⟨rfl, hs.drop⟩)
  refine jn_skip ?_
  refine jk_sn ?_
  refine jn_seq ?_
  refine jn_reg 3 ?_
  refine jg_y (fun w hs => yv_load rfl (ldBB (hs.blkL (i := 0) rfl) rfl)) rfl rfl ?_
  refine jg_c0 rfl (fun v w hs hm => bowl_foul_c (a0 := a0) hm (hs.arg Rha0_Wagons) (hs.arg Rha0_Lengths)) rfl rfl fun v3 => ?_
  refine jg_mv rfl rfl rfl ?_
  refine jg_y (fun w hs => yv_extract rfl rfl) rfl rfl ?_
  refine jg_y (fun w hs => yv_extract rfl rfl) rfl rfl ?_
  refine jg_as rfl rfl rfl ?_
  refine jg_as rfl rfl rfl ?_
  refine jg_nils [(4, _)] ⟨rfl, trivial⟩ ?_
  refine jk_sn ?_
  refine jn_seq ?_
  refine jn_reg 4 ?_
  refine jg_mv rfl rfl rfl ?_
  refine jg_as rfl rfl rfl ?_
  refine jg_nils [(2, _)] ⟨rfl, trivial⟩ ?_
  refine jk_sn ?_
  refine jn_ret ?_
  exact jk_ret1 rfl (fun w hs => .tmp rfl) (fun w hs => ⟨rfl, hs.drop⟩)
theorem r32_Free_c {w : World} {a0 : Stand} {ha0_Wagons : Hd} {ha0_Lengths : Hd} {v : Int} (hm : r32_Free a0 = some v) (Rha0_Wagons : Sl w ha0_Wagons encI a0.Wagons) (Rha0_Lengths : Sl w ha0_Lengths encI a0.Lengths) : Gives Try.prog 38 [.agg #[.int .i64 a0.Room, ha0_Wagons.v, ha0_Lengths.v]] w (.int .i64 v) := by
  refine j_gives (vs := [.agg #[.int .i64 a0.Room, ha0_Wagons.v, ha0_Lengths.v]]) (U := fun (v : Int) => .int .i64 v) Try.func38 rfl Try.ntmps38 rfl rfl hm ?_
  unfold r32_Free
  clear hm
  refine jn_seq ?_
  refine jn_reg 0 ?_
  refine jg_box rfl (l3 rfl) rfl rfl fun g1 => ?_
  refine jg_as rfl rfl rfl ?_
  refine jg_nils [(1, _)] ⟨rfl, trivial⟩ ?_
  refine jk_sn ?_
  refine jn_seq ?_
  refine jn_seq ?_
  refine jn_reg 1 ?_
  refine jg_y (fun w hs => yv_load rfl (ldBB (hs.blkL (i := 0) rfl) rfl)) rfl rfl ?_
  refine jg_c0 rfl (fun v w hs hm => r32_Valid_c (a0 := a0) hm (hs.arg Rha0_Wagons) (hs.arg Rha0_Lengths)) rfl rfl fun v2 => ?_
  refine jg_y (fun w hs => yv_not rfl) rfl rfl ?_
  refine jg_nils [(1, _), (7, _)] ⟨rfl, rfl, trivial⟩ ?_
  refine jk_sn ?_
  refine jn_cond rfl ?_ ?_
  · refine jn_seq ?_
    refine jn_reg 2 ?_
    refine jg_as rfl rfl rfl ?_
    refine jg_nils [(2, _)] ⟨rfl, trivial⟩ ?_
    refine jk_sn ?_
    refine jn_ret ?_
    refine jk_sr ?_
    exact jk_ret1 rfl (fun w hs => .tmp rfl) (fun w hs => ⟨rfl, hs.drop⟩)
  refine jn_skip ?_
  refine jk_sn ?_
  refine jn_seq ?_
  refine jn_reg 3 ?_
  refine jg_y (fun w hs => yv_fieldAddr rfl) rfl rfl ?_
  refine jg_y (fun w hs => yv_load rfl (ld1B (hs.blkL (i := 0) rfl) rfl)) rfl rfl ?_
  refine jg_as rfl rfl rfl ?_
  refine jg_nils [(1, _), (3, _)] ⟨rfl, rfl, trivial⟩ ?_
  refine jk_sn ?_
  refine jn_seq ?_
  refine jn_seq ?_
  refine jn_reg 4 ?_
  refine jg_as rfl rfl rfl ?_
  refine jg_nils [(1, _), (3, _), (4, _)] ⟨rfl, rfl, rfl, trivial⟩ ?_
  refine jk_sn ?_
  refine jn_block ?_
  refine jn_lp (n := big) (fun (s : (Int × Int)) (g : Unit) => [(1, .pointer (some ⟨g1, 0, none⟩)), (3, .int .i64 s.1), (4, .int .i64 s.2)]) (fun (s : (Int × Int)) (g : Unit) => []) (fun (s : (Int × Int)) (g : Unit) => [(Res.blk g1 24 [.int .i64 a0.Room, ha0_Wagons.v, ha0_Lengths.v])]) (a0.Room, 0) () [0] ⟨rfl, rfl, rfl, trivial⟩ rfl rfl rfl ?_
  intro z3 q4 n7 k5 H6
  refine jn_seq ?_
  refine jn_seq ?_
  refine jn_reg 5 ?_
  refine jg_mv rfl rfl rfl ?_
  refine jg_y (fun w hs => yv_fieldAddr rfl) rfl rfl ?_
  refine jg_y (fun w hs => yv_load rfl (ld1B (hs.blkL (i := 0) rfl) rfl)) rfl rfl ?_
  refine jg_y (fun w hs => yv_ln rfl (hs.arg Rha0_Lengths)) rfl rfl ?_
  refine jg_y (fun w hs => yv_lss rfl rfl) rfl rfl ?_
  refine jg_nils [(1, _), (3, _), (4, _), (14, _)] ⟨rfl, rfl, rfl, rfl, trivial⟩ ?_
  refine jk_sn ?_
  refine jn_cond rfl ?_ ?_
  rotate_left
  · refine jn_exit ?_
    refine jk_se (jk_le (jk_bh (jk_sn ?_)))
    refine jn_seq ?_
    refine jn_reg 8 ?_
    refine jg_mv rfl rfl rfl ?_
    refine jg_as rfl rfl rfl ?_
    refine jg_nils [(2, _)] ⟨rfl, trivial⟩ ?_
    refine jk_sn ?_
    refine jn_ret ?_
    exact jk_ret1 rfl (fun w hs => .tmp rfl) (fun w hs => ⟨rfl, hs.drop⟩)
  refine jn_skip ?_
  refine jk_sn ?_
  refine jn_seq ?_
  refine jn_block ?_
  refine jn_reg 7 ?_
  refine jg_mv rfl rfl rfl ?_
  refine jg_y (fun w hs => yv_fieldAddr rfl) rfl rfl ?_
  refine jg_y (fun w hs => yv_load rfl (ld1B (hs.blkL (i := 0) rfl) rfl)) rfl rfl ?_
  refine jg_mv rfl rfl rfl ?_
  refine jg_ix fun x8 h9 => ?_
  refine jg_y (fun w hs => yv_ix rfl rfl (hs.arg Rha0_Lengths) h9) rfl rfl ?_
  refine jg_y (fun w hs => yv_e1 rfl (hs.arg Rha0_Lengths) h9.1 rfl) rfl rfl ?_
  refine jg_y (fun w hs => yv_sub_w rfl rfl) rfl rfl ?_
  refine jg_as rfl rfl rfl ?_
  refine jg_nils [(1, _), (3, _), (4, _)] ⟨rfl, rfl, rfl, trivial⟩ ?_
  refine jk_bn (jk_sn ?_)
  refine jn_reg 6 ?_
  refine jg_mv rfl rfl rfl ?_
  refine jg_y (fun w hs => yv_add_w rfl rfl) rfl rfl ?_
  refine jg_as rfl rfl rfl ?_
  refine jg_nils [(1, _), (3, _), (4, _)] ⟨rfl, rfl, rfl, trivial⟩ ?_
  exact jk_use H6 (w64 (z3.1 - x8), w64 (z3.2 + 1)) () [0] ⟨rfl, rfl, rfl, trivial⟩ rfl rfl rfl
theorem law32_exact_c {w : World} {a0 : Stand} {a1 : (List Int)} {a2 : (List Int)} {a3 : Int} {ha0_Wagons : Hd} {ha0_Lengths : Hd} {ha1 : Hd} {ha2 : Hd} {v : Bool} (hm : law32_exact a0 a1 a2 a3 = some v) (Rha0_Wagons : Sl w ha0_Wagons encI a0.Wagons) (Rha0_Lengths : Sl w ha0_Lengths encI a0.Lengths) (Rha1 : Sl w ha1 encI a1) (Rha2 : Sl w ha2 encI a2) : Gives Try.prog 14 [.agg #[.int .i64 a0.Room, ha0_Wagons.v, ha0_Lengths.v], ha1.v, ha2.v, .int .i64 a3] w (.bool v) := by
  refine j_gives (vs := [.agg #[.int .i64 a0.Room, ha0_Wagons.v, ha0_Lengths.v], ha1.v, ha2.v, .int .i64 a3]) (U := fun (v : Bool) => .bool v) Try.func14 rfl Try.ntmps14 rfl rfl hm ?_
  unfold law32_exact
  clear hm
  refine jn_seq ?_
  refine jn_reg 0 ?_
  refine jg_box rfl (l3 rfl) rfl rfl fun g1 => ?_
  refine jg_as rfl rfl rfl ?_
  refine jg_nils [(1, _), (2, _), (3, _), (4, _)] ⟨rfl, rfl, rfl, rfl, trivial⟩ ?_
  refine jk_sn ?_
  refine jn_seq ?_
  refine jn_reg 1 ?_
  refine jg_y (fun w hs => yv_load rfl (ldBB (hs.blkL (i := 0) rfl) rfl)) rfl rfl ?_
  refine jg_mv rfl rfl rfl ?_
  refine jg_mv rfl rfl rfl ?_
  refine jg_c rfl (fun v w hs hm => bowl_Arrive_c (a0 := a0) hm (hs.arg Rha0_Wagons) (hs.arg Rha0_Lengths) (hs.arg Rha1) (hs.arg Rha2)) rfl rfl fun v2 q3 => ?_
  refine jg_L (r3 rfl) ?_
  refine jg_mv rfl rfl rfl ?_
  refine jg_y (fun w hs => yv_extract rfl rfl) rfl rfl ?_
  refine jg_y (fun w hs => yv_extract rfl rfl) rfl rfl ?_
  refine jg_y (fun w hs => yv_extract rfl rfl) rfl rfl ?_
  refine jg_alloc (l3 rfl) rfl rfl fun g4 => ?_
  refine jg_store 0 rfl rfl rfl (l3 rfl) rfl rfl rfl rfl (l3 rfl) (r4 rfl) ?_
  refine jg_as rfl rfl rfl ?_
  refine jg_as rfl rfl rfl ?_
  refine jg_nils [(1, _), (2, _), (3, _), (4, _), (9, _), (10, _), (11, _)] ⟨rfl, rfl, rfl, rfl, rfl, rfl, rfl, trivial⟩ ?_
  refine jk_sn ?_
  refine jn_seq ?_
  refine jn_reg 2 ?_
  refine jg_y (fun w hs => yv_load rfl (ldBB (hs.blkL (i := 3) rfl) rfl)) rfl rfl ?_
  refine jg_mv rfl rfl rfl ?_
  refine jg_mv rfl rfl rfl ?_
  refine jg_c rfl (fun v w hs hm => r32_Arrive_c (a0 := a0) hm (hs.arg Rha0_Wagons) (hs.arg Rha0_Lengths) (hs.arg Rha1) (hs.arg Rha2)) rfl rfl fun v5 q6 => ?_
  refine jg_L (r6 rfl) ?_
  refine jg_mv rfl rfl rfl ?_
  refine jg_y (fun w hs => yv_extract rfl rfl) rfl rfl ?_
  refine jg_y (fun w hs => yv_extract rfl rfl) rfl rfl ?_
  refine jg_y (fun w hs => yv_extract rfl rfl) rfl rfl ?_
  refine jg_alloc (l3 rfl) rfl rfl fun g7 => ?_
  refine jg_store 0 rfl rfl rfl (l3 rfl) rfl rfl rfl rfl (l3 rfl) (r7 rfl) ?_
  refine jg_as rfl rfl rfl ?_
  refine jg_as rfl rfl rfl ?_
  refine jg_nils [(3, _), (4, _), (9, _), (10, _), (11, _), (12, _), (13, _), (14, _)] ⟨rfl, rfl, rfl, rfl, rfl, rfl, rfl, rfl, trivial⟩ ?_
  refine jk_sn ?_
  refine jn_seq ?_
  refine jn_reg 3 ?_
  refine jg_y (fun w hs => yv_load rfl (ldBB (hs.blkL (i := 6) rfl) rfl)) rfl rfl ?_
  refine jg_mv rfl rfl rfl ?_
  refine jg_c rfl (fun v w hs hm => bowl_Leave_c (a0 := a0) hm (hs.arg Rha0_Wagons) (hs.arg Rha0_Lengths)) rfl rfl fun v8 q9 => ?_
  refine jg_L (r10 rfl) ?_
  refine jg_mv rfl rfl rfl ?_
  refine jg_y (fun w hs => yv_extract rfl rfl) rfl rfl ?_
  refine jg_y (fun w hs => yv_extract rfl rfl) rfl rfl ?_
  refine jg_y (fun w hs => yv_extract rfl rfl) rfl rfl ?_
  refine jg_alloc (l3 rfl) rfl rfl fun g10 => ?_
  refine jg_store 0 rfl rfl rfl (l3 rfl) rfl rfl rfl rfl (l3 rfl) (r11 rfl) ?_
  refine jg_as rfl rfl rfl ?_
  refine jg_as rfl rfl rfl ?_
  refine jg_nils [(3, _), (4, _), (9, _), (10, _), (11, _), (12, _), (13, _), (14, _), (15, _), (16, _), (17, _)] ⟨rfl, rfl, rfl, rfl, rfl, rfl, rfl, rfl, rfl, rfl, rfl, trivial⟩ ?_
  refine jk_sn ?_
  refine jn_seq ?_
  refine jn_reg 4 ?_
  refine jg_y (fun w hs => yv_load rfl (ldBB (hs.blkL (i := 10) rfl) rfl)) rfl rfl ?_
  refine jg_mv rfl rfl rfl ?_
  refine jg_c rfl (fun v w hs hm => r32_Leave_c (a0 := a0) hm (hs.arg Rha0_Wagons) (hs.arg Rha0_Lengths)) rfl rfl fun v11 q12 => ?_
  refine jg_L (r14 rfl) ?_
  refine jg_mv rfl rfl rfl ?_
  refine jg_y (fun w hs => yv_extract rfl rfl) rfl rfl ?_
  refine jg_y (fun w hs => yv_extract rfl rfl) rfl rfl ?_
  refine jg_y (fun w hs => yv_extract rfl rfl) rfl rfl ?_
  refine jg_alloc (l3 rfl) rfl rfl fun g13 => ?_
  refine jg_store 0 rfl rfl rfl (l3 rfl) rfl rfl rfl rfl (l3 rfl) (r15 rfl) ?_
  refine jg_as rfl rfl rfl ?_
  refine jg_as rfl rfl rfl ?_
  refine jg_nils [(4, _), (9, _), (10, _), (11, _), (12, _), (13, _), (14, _), (15, _), (16, _), (17, _), (18, _), (19, _), (20, _)] ⟨rfl, rfl, rfl, rfl, rfl, rfl, rfl, rfl, rfl, rfl, rfl, rfl, rfl, trivial⟩ ?_
  refine jk_sn ?_
  refine jn_seq ?_
  refine jn_draw (L' := [_, _, _, _, _, _, _, _, _, _, _, _, _, _, _]) 5 [0, 1, 2, 3, 4, 5, 6, 7, 8, 9, 10, 11, 12, 13, 14] [0, 1, 2, 3, 4, 5, 6, 7, 8, 9, 10, 11, 12, 13, 14, 15, 16, 17, 18, 19, 20, 21, 22, 23, 24, 25, 26, 27, 28, 29, 30, 31, 32, 33, 34, 35, 36, 37, 38, 39, 40, 41, 42] 8796093022207 8796093022207 [0, 0, 3, 4, 8, 8, 56, 72, 136, 256, 256, 1792, 2304, 4352, 8192, 8192, 57344, 73728, 196608, 262144, 262144, 1835008, 2359296, 6291456, 8388608, 8388608, 58720256, 75497472, 142606336, 268435456, 805306368, 268435456, 3489660928, 5637144576, 8858370048, 21474836480, 34359738368, 103079215104, 34359738368, 446676598784, 721554505728, 1133871366144, 4398046511103] [0, 0, 3, 7, 15, 15, 63, 127, 255, 511, 511, 2047, 4095, 8191, 16383, 16383, 65535, 131071, 262143, 524287, 524287, 2097151, 4194303, 8388607, 16777215, 16777215, 67108863, 134217727, 268435455, 536870911, 1073741823, 536870911, 4294967295, 8589934591, 17179869183, 34359738367, 68719476735, 137438953471, 68719476735, 549755813887, 1099511627775, 2199023255551, 4398046511103] [(0, true), (1, true), (2, true), (3, true), (4, true), (5, true), (6, true), (7, true), (8, true), (9, true), (10, true), (11, true), (12, true), (13, true), (14, true), (15, true), (16, true), (17, true), (18, true), (19, true), (20, true), (21, true), (22, true), (23, true), (24, true), (25, true), (26, true), (27, true), (28, true), (29, true), (30, true), (31, true), (32, true), (33, true), (34, true), (35, true), (36, true), (37, true), (38, true), (39, true), (40, true), (41, true), (42, true)] rfl (np_seq np_rt) (by kernel_rfl) (by kernel_rfl) (by kernel_rfl) (by kernel_rfl) (by kernel_rfl) (by kernel_rfl) (by kernel_rfl) (by kernel_rfl) ?_
  refine jd_y rfl (fun w hs => yv_load rfl (ldBB (hs.blk (i := 11) rfl) rfl)) rfl rfl ?_
  refine jd_y rfl (fun w hs => yv_load rfl (ldBB (hs.blk (i := 8) rfl) rfl)) rfl rfl ?_
  refine jd_c0 rfl rfl (fun v w hs hm => yardgen_SameStands_c (a0 := v2.1) (a1 := v5.1) hm (hs.row 12 rfl) (hs.row 13 rfl) (hs.row 9 rfl) (hs.row 10 rfl)) rfl rfl fun v14 => ?_
  refine jd_mv rfl rfl rfl rfl ?_
  refine jd_split 54 rfl ?_ ?_
  rotate_left
  · refine jd_skip rfl rfl rfl ?_
    refine jd_skip rfl rfl rfl ?_
    refine jd_skip rfl rfl rfl ?_
    refine jd_y rfl (fun w hs => yv_pick_f rfl rfl) rfl rfl ?_
    refine jd_mv rfl rfl rfl rfl ?_
    refine jd_skip rfl rfl rfl ?_
    refine jd_skip rfl rfl rfl ?_
    refine jd_skip rfl rfl rfl ?_
    refine jd_y rfl (fun w hs => yv_pick_f rfl rfl) rfl rfl ?_
    refine jd_mv rfl rfl rfl rfl ?_
    refine jd_skip rfl rfl rfl ?_
    refine jd_skip rfl rfl rfl ?_
    refine jd_skip rfl rfl rfl ?_
    refine jd_y rfl (fun w hs => yv_pick_f rfl rfl) rfl rfl ?_
    refine jd_mv rfl rfl rfl rfl ?_
    refine jd_skip rfl rfl rfl ?_
    refine jd_skip rfl rfl rfl ?_
    refine jd_skip rfl rfl rfl ?_
    refine jd_y rfl (fun w hs => yv_pick_f rfl rfl) rfl rfl ?_
    refine jd_mv rfl rfl rfl rfl ?_
    refine jd_skip rfl rfl rfl ?_
    refine jd_skip rfl rfl rfl ?_
    refine jd_skip rfl rfl rfl ?_
    refine jd_y rfl (fun w hs => yv_pick_f rfl rfl) rfl rfl ?_
    refine jd_mv rfl rfl rfl rfl ?_
    refine jd_skip rfl rfl rfl ?_
    refine jd_skip rfl rfl rfl ?_
    refine jd_skip rfl rfl rfl ?_
    refine jd_skip rfl rfl rfl ?_
    refine jd_skip rfl rfl rfl ?_
    refine jd_y rfl (fun w hs => yv_pick_f rfl rfl) rfl rfl ?_
    refine jd_mv rfl rfl rfl rfl ?_
    refine jd_skip rfl rfl rfl ?_
    refine jd_skip rfl rfl rfl ?_
    refine jd_skip rfl rfl rfl ?_
    refine jd_skip rfl rfl rfl ?_
    refine jd_skip rfl rfl rfl ?_
    refine jd_y rfl (fun w hs => yv_pick_f rfl rfl) rfl rfl ?_
    refine jd_as rfl rfl rfl rfl ?_
    refine jd_nils [(8, _)] ⟨rfl, trivial⟩ ?_
    refine jk_sel (is := []) (s0 rfl) rfl ?_
    refine jk_sn ?_
    refine jn_ret ?_
    exact jk_ret1 rfl (fun w hs => .tmp rfl) (fun w hs => ⟨rfl, hs.drop⟩)
  refine jd_mv rfl rfl rfl rfl ?_
  refine jd_mv rfl rfl rfl rfl ?_
  refine jd_y rfl (fun w hs => yv_eql rfl rfl) rfl rfl ?_
  refine jd_y rfl (fun w hs => yv_pick_t rfl rfl) rfl rfl ?_
  refine jd_mv rfl rfl rfl rfl ?_
  refine jd_split 59 rfl ?_ ?_
  rotate_left
  · refine jd_skip rfl rfl rfl ?_
    refine jd_skip rfl rfl rfl ?_
    refine jd_skip rfl rfl rfl ?_
    refine jd_y rfl (fun w hs => yv_pick_f rfl rfl) rfl rfl ?_
    refine jd_mv rfl rfl rfl rfl ?_
    refine jd_skip rfl rfl rfl ?_
    refine jd_skip rfl rfl rfl ?_
    refine jd_skip rfl rfl rfl ?_
    refine jd_y rfl (fun w hs => yv_pick_f rfl rfl) rfl rfl ?_
    refine jd_mv rfl rfl rfl rfl ?_
    refine jd_skip rfl rfl rfl ?_
    refine jd_skip rfl rfl rfl ?_
    refine jd_skip rfl rfl rfl ?_
    refine jd_y rfl (fun w hs => yv_pick_f rfl rfl) rfl rfl ?_
    refine jd_mv rfl rfl rfl rfl ?_
    refine jd_skip rfl rfl rfl ?_
    refine jd_skip rfl rfl rfl ?_
    refine jd_skip rfl rfl rfl ?_
    refine jd_y rfl (fun w hs => yv_pick_f rfl rfl) rfl rfl ?_
    refine jd_mv rfl rfl rfl rfl ?_
    refine jd_skip rfl rfl rfl ?_
    refine jd_skip rfl rfl rfl ?_
    refine jd_skip rfl rfl rfl ?_
    refine jd_skip rfl rfl rfl ?_
    refine jd_skip rfl rfl rfl ?_
    refine jd_y rfl (fun w hs => yv_pick_f rfl rfl) rfl rfl ?_
    refine jd_mv rfl rfl rfl rfl ?_
    refine jd_skip rfl rfl rfl ?_
    refine jd_skip rfl rfl rfl ?_
    refine jd_skip rfl rfl rfl ?_
    refine jd_skip rfl rfl rfl ?_
    refine jd_skip rfl rfl rfl ?_
    refine jd_y rfl (fun w hs => yv_pick_f rfl rfl) rfl rfl ?_
    refine jd_as rfl rfl rfl rfl ?_
    refine jd_nils [(8, _)] ⟨rfl, trivial⟩ ?_
    refine jk_sel (is := []) (s0 rfl) rfl ?_
    refine jk_sn ?_
    refine jn_ret ?_
    exact jk_ret1 rfl (fun w hs => .tmp rfl) (fun w hs => ⟨rfl, hs.drop⟩)
  refine jd_mv rfl rfl rfl rfl ?_
  refine jd_mv rfl rfl rfl rfl ?_
  refine jd_y rfl (fun w hs => yv_eql rfl rfl) rfl rfl ?_
  refine jd_y rfl (fun w hs => yv_pick_t rfl rfl) rfl rfl ?_
  refine jd_mv rfl rfl rfl rfl ?_
  refine jd_split 64 rfl ?_ ?_
  rotate_left
  · refine jd_skip rfl rfl rfl ?_
    refine jd_skip rfl rfl rfl ?_
    refine jd_skip rfl rfl rfl ?_
    refine jd_y rfl (fun w hs => yv_pick_f rfl rfl) rfl rfl ?_
    refine jd_mv rfl rfl rfl rfl ?_
    refine jd_skip rfl rfl rfl ?_
    refine jd_skip rfl rfl rfl ?_
    refine jd_skip rfl rfl rfl ?_
    refine jd_y rfl (fun w hs => yv_pick_f rfl rfl) rfl rfl ?_
    refine jd_mv rfl rfl rfl rfl ?_
    refine jd_skip rfl rfl rfl ?_
    refine jd_skip rfl rfl rfl ?_
    refine jd_skip rfl rfl rfl ?_
    refine jd_y rfl (fun w hs => yv_pick_f rfl rfl) rfl rfl ?_
    refine jd_mv rfl rfl rfl rfl ?_
    refine jd_skip rfl rfl rfl ?_
    refine jd_skip rfl rfl rfl ?_
    refine jd_skip rfl rfl rfl ?_
    refine jd_skip rfl rfl rfl ?_
    refine jd_skip rfl rfl rfl ?_
    refine jd_y rfl (fun w hs => yv_pick_f rfl rfl) rfl rfl ?_
    refine jd_mv rfl rfl rfl rfl ?_
    refine jd_skip rfl rfl rfl ?_
    refine jd_skip rfl rfl rfl ?_
    refine jd_skip rfl rfl rfl ?_
    refine jd_skip rfl rfl rfl ?_
    refine jd_skip rfl rfl rfl ?_
    refine jd_y rfl (fun w hs => yv_pick_f rfl rfl) rfl rfl ?_
    refine jd_as rfl rfl rfl rfl ?_
    refine jd_nils [(8, _)] ⟨rfl, trivial⟩ ?_
    refine jk_sel (is := []) (s0 rfl) rfl ?_
    refine jk_sn ?_
    refine jn_ret ?_
    exact jk_ret1 rfl (fun w hs => .tmp rfl) (fun w hs => ⟨rfl, hs.drop⟩)
  refine jd_y rfl (fun w hs => yv_load rfl (ldBB (hs.blk (i := 4) rfl) rfl)) rfl rfl ?_
  refine jd_y rfl (fun w hs => yv_load rfl (ldBB (hs.blk (i := 0) rfl) rfl)) rfl rfl ?_
  refine jd_c0 rfl rfl (fun v w hs hm => yardgen_SameStands_c (a0 := v8.1) (a1 := v11.1) hm (hs.row 5 rfl) (hs.row 6 rfl) (hs.row 1 rfl) (hs.row 2 rfl)) rfl rfl fun v15 => ?_
  refine jd_y rfl (fun w hs => yv_pick_t rfl rfl) rfl rfl ?_
  refine jd_mv rfl rfl rfl rfl ?_
  refine jd_split 69 rfl ?_ ?_
  rotate_left
  · refine jd_skip rfl rfl rfl ?_
    refine jd_skip rfl rfl rfl ?_
    refine jd_skip rfl rfl rfl ?_
    refine jd_y rfl (fun w hs => yv_pick_f rfl rfl) rfl rfl ?_
    refine jd_mv rfl rfl rfl rfl ?_
    refine jd_skip rfl rfl rfl ?_
    refine jd_skip rfl rfl rfl ?_
    refine jd_skip rfl rfl rfl ?_
    refine jd_y rfl (fun w hs => yv_pick_f rfl rfl) rfl rfl ?_
    refine jd_mv rfl rfl rfl rfl ?_
    refine jd_skip rfl rfl rfl ?_
    refine jd_skip rfl rfl rfl ?_
    refine jd_skip rfl rfl rfl ?_
    refine jd_skip rfl rfl rfl ?_
    refine jd_skip rfl rfl rfl ?_
    refine jd_y rfl (fun w hs => yv_pick_f rfl rfl) rfl rfl ?_
    refine jd_mv rfl rfl rfl rfl ?_
    refine jd_skip rfl rfl rfl ?_
    refine jd_skip rfl rfl rfl ?_
    refine jd_skip rfl rfl rfl ?_
    refine jd_skip rfl rfl rfl ?_
    refine jd_skip rfl rfl rfl ?_
    refine jd_y rfl (fun w hs => yv_pick_f rfl rfl) rfl rfl ?_
    refine jd_as rfl rfl rfl rfl ?_
    refine jd_nils [(8, _)] ⟨rfl, trivial⟩ ?_
    refine jk_sel (is := []) (s0 rfl) rfl ?_
    refine jk_sn ?_
    refine jn_ret ?_
    exact jk_ret1 rfl (fun w hs => .tmp rfl) (fun w hs => ⟨rfl, hs.drop⟩)
  refine jd_mv rfl rfl rfl rfl ?_
  refine jd_mv rfl rfl rfl rfl ?_
  refine jd_c0 rfl rfl (fun v w hs hm => gen_Ints_c hm (hs.row 7 rfl) (hs.row 3 rfl)) rfl rfl fun v16 => ?_
  refine jd_y rfl (fun w hs => yv_pick_t rfl rfl) rfl rfl ?_
  refine jd_mv rfl rfl rfl rfl ?_
  refine jd_split 74 rfl ?_ ?_
  rotate_left
  · refine jd_skip rfl rfl rfl ?_
    refine jd_skip rfl rfl rfl ?_
    refine jd_skip rfl rfl rfl ?_
    refine jd_y rfl (fun w hs => yv_pick_f rfl rfl) rfl rfl ?_
    refine jd_mv rfl rfl rfl rfl ?_
    refine jd_skip rfl rfl rfl ?_
    refine jd_skip rfl rfl rfl ?_
    refine jd_skip rfl rfl rfl ?_
    refine jd_skip rfl rfl rfl ?_
    refine jd_skip rfl rfl rfl ?_
    refine jd_y rfl (fun w hs => yv_pick_f rfl rfl) rfl rfl ?_
    refine jd_mv rfl rfl rfl rfl ?_
    refine jd_skip rfl rfl rfl ?_
    refine jd_skip rfl rfl rfl ?_
    refine jd_skip rfl rfl rfl ?_
    refine jd_skip rfl rfl rfl ?_
    refine jd_skip rfl rfl rfl ?_
    refine jd_y rfl (fun w hs => yv_pick_f rfl rfl) rfl rfl ?_
    refine jd_as rfl rfl rfl rfl ?_
    refine jd_nils [(8, _)] ⟨rfl, trivial⟩ ?_
    refine jk_sel (is := []) (s0 rfl) rfl ?_
    refine jk_sn ?_
    refine jn_ret ?_
    exact jk_ret1 rfl (fun w hs => .tmp rfl) (fun w hs => ⟨rfl, hs.drop⟩)
  refine jd_mv rfl rfl rfl rfl ?_
  refine jd_mv rfl rfl rfl rfl ?_
  refine jd_y rfl (fun w hs => yv_eql rfl rfl) rfl rfl ?_
  refine jd_y rfl (fun w hs => yv_pick_t rfl rfl) rfl rfl ?_
  refine jd_mv rfl rfl rfl rfl ?_
  refine jd_split 79 rfl ?_ ?_
  rotate_left
  · refine jd_skip rfl rfl rfl ?_
    refine jd_skip rfl rfl rfl ?_
    refine jd_skip rfl rfl rfl ?_
    refine jd_skip rfl rfl rfl ?_
    refine jd_skip rfl rfl rfl ?_
    refine jd_y rfl (fun w hs => yv_pick_f rfl rfl) rfl rfl ?_
    refine jd_mv rfl rfl rfl rfl ?_
    refine jd_skip rfl rfl rfl ?_
    refine jd_skip rfl rfl rfl ?_
    refine jd_skip rfl rfl rfl ?_
    refine jd_skip rfl rfl rfl ?_
    refine jd_skip rfl rfl rfl ?_
    refine jd_y rfl (fun w hs => yv_pick_f rfl rfl) rfl rfl ?_
    refine jd_as rfl rfl rfl rfl ?_
    refine jd_nils [(8, _)] ⟨rfl, trivial⟩ ?_
    refine jk_sel (is := []) (s0 rfl) rfl ?_
    refine jk_sn ?_
    refine jn_ret ?_
    exact jk_ret1 rfl (fun w hs => .tmp rfl) (fun w hs => ⟨rfl, hs.drop⟩)
  refine jd_y rfl (fun w hs => yv_load rfl (ldBB (hs.blk (i := 14) rfl) rfl)) rfl rfl ?_
  refine jd_c0 rfl rfl (fun v w hs hm => bowl_Valid_c (a0 := a0) hm (hs.arg Rha0_Wagons) (hs.arg Rha0_Lengths)) rfl rfl fun v17 => ?_
  refine jd_y rfl (fun w hs => yv_load rfl (ldBB (hs.blk (i := 14) rfl) rfl)) rfl rfl ?_
  refine jd_c0 rfl rfl (fun v w hs hm => r32_Valid_c (a0 := a0) hm (hs.arg Rha0_Wagons) (hs.arg Rha0_Lengths)) rfl rfl fun v18 => ?_
  refine jd_y rfl (fun w hs => yv_eqlb Try.underlying4 rfl rfl) rfl rfl ?_
  refine jd_y rfl (fun w hs => yv_pick_t rfl rfl) rfl rfl ?_
  refine jd_mv rfl rfl rfl rfl ?_
  refine jd_split 86 rfl ?_ ?_
  · refine jd_y rfl (fun w hs => yv_load rfl (ldBB (hs.blk (i := 14) rfl) rfl)) rfl rfl ?_
    refine jd_c0 rfl rfl (fun v w hs hm => bowl_Free_c (a0 := a0) hm (hs.arg Rha0_Wagons) (hs.arg Rha0_Lengths)) rfl rfl fun v19 => ?_
    refine jd_y rfl (fun w hs => yv_load rfl (ldBB (hs.blk (i := 14) rfl) rfl)) rfl rfl ?_
    refine jd_c0 rfl rfl (fun v w hs hm => r32_Free_c (a0 := a0) hm (hs.arg Rha0_Wagons) (hs.arg Rha0_Lengths)) rfl rfl fun v20 => ?_
    refine jd_y rfl (fun w hs => yv_eql rfl rfl) rfl rfl ?_
    refine jd_y rfl (fun w hs => yv_pick_t rfl rfl) rfl rfl ?_
    refine jd_as rfl rfl rfl rfl ?_
    refine jd_nils [(8, _)] ⟨rfl, trivial⟩ ?_
    refine jk_sel (is := []) (s0 rfl) rfl ?_
    refine jk_sn ?_
    refine jn_ret ?_
    exact jk_ret1 rfl (fun w hs => .tmp rfl) (fun w hs => ⟨rfl, hs.drop⟩)
  refine jd_skip rfl rfl rfl ?_
  refine jd_skip rfl rfl rfl ?_
  refine jd_skip rfl rfl rfl ?_
  refine jd_skip rfl rfl rfl ?_
  refine jd_skip rfl rfl rfl ?_
  refine jd_y rfl (fun w hs => yv_pick_f rfl rfl) rfl rfl ?_
  refine jd_as rfl rfl rfl rfl ?_
  refine jd_nils [(8, _)] ⟨rfl, trivial⟩ ?_
  refine jk_sel (is := []) (s0 rfl) rfl ?_
  refine jk_sn ?_
  refine jn_ret ?_
  exact jk_ret1 rfl (fun w hs => .tmp rfl) (fun w hs => ⟨rfl, hs.drop⟩)
theorem runoff_in_c {w : World} {a0 : Int} {a1 : Int} {a2 : Int}  {v : Bool} (hm : runoff_in a0 a1 a2 = some v) : Gives Try.prog 67 [.int .i64 a0, .int .i64 a1, .int .i64 a2] w (.bool v) := by
  refine j_gives (vs := [.int .i64 a0, .int .i64 a1, .int .i64 a2]) (U := fun (v : Bool) => .bool v) Try.func67 rfl Try.ntmps67 rfl rfl hm ?_
  unfold runoff_in
  clear hm
  refine jn_seq ?_
  refine jn_reg 0 ?_
  refine jg_as rfl rfl rfl ?_
  refine jg_nils [(0, _), (1, _), (2, _)] ⟨rfl, rfl, rfl, trivial⟩ ?_
  refine jk_sn ?_
  refine jn_seq ?_
  refine jn_reg 1 ?_
  refine jg_mv rfl rfl rfl ?_
  refine jg_mv rfl rfl rfl ?_
  refine jg_y (fun w hs => yv_geq rfl rfl) rfl rfl ?_
  refine jg_mv rfl rfl rfl ?_
  refine jg_split 10 rfl ?_ ?_
  · refine jg_mv rfl rfl rfl ?_
    refine jg_mv rfl rfl rfl ?_
    refine jg_y (fun w hs => yv_leq rfl rfl) rfl rfl ?_
    refine jg_y (fun w hs => yv_pick_t rfl rfl) rfl rfl ?_
    refine jg_as rfl rfl rfl ?_
    refine jg_nils [(6, _)] ⟨rfl, trivial⟩ ?_
    refine jk_sn ?_
    refine jn_ret ?_
    exact jk_ret1 rfl (fun w hs => .tmp rfl) (fun w hs => ⟨rfl, hs.drop⟩)
  refine jg_skip rfl rfl ?_
  refine jg_skip rfl rfl ?_
  refine jg_skip rfl rfl ?_
  refine jg_y (fun w hs => yv_pick_f rfl rfl) rfl rfl ?_
  refine jg_as rfl rfl rfl ?_
  refine jg_nils [(6, _)] ⟨rfl, trivial⟩ ?_
  refine jk_sn ?_
  refine jn_ret ?_
  exact jk_ret1 rfl (fun w hs => .tmp rfl) (fun w hs => ⟨rfl, hs.drop⟩)
theorem runoff_Valid_c {w : World} {a0 : (List Piece)} {ha0 : Hd} {v : Int} (hm : runoff_Valid a0 = some v) (Rha0 : Sl w ha0 Piece.enc a0) : Gives Try.prog 47 [ha0.v] w (.int .i64 v) := by
  refine j_gives (vs := [ha0.v]) (U := fun (v : Int) => .int .i64 v) Try.func47 rfl Try.ntmps47 rfl rfl hm ?_
  unfold runoff_Valid
  clear hm
  refine jn_seq ?_
  refine jn_reg 0 ?_
  refine jg_as rfl rfl rfl ?_
  refine jg_nils [(0, _)] ⟨rfl, trivial⟩ ?_
  refine jk_sn ?_
  refine jn_seq ?_
  refine jn_seq ?_
  refine jn_reg 1 ?_
  refine jg_mv rfl rfl rfl ?_
  refine jg_y (fun w hs => yv_ln rfl (hs.arg Rha0)) rfl rfl ?_
  refine jg_y (fun w hs => yv_lss rfl rfl) rfl rfl ?_
  refine jg_mv rfl rfl rfl ?_
  refine jg_split 8 rfl ?_ ?_
  · refine jg_skip rfl rfl ?_
    refine jg_skip rfl rfl ?_
    refine jg_skip rfl rfl ?_
    refine jg_y (fun w hs => yv_pick_t rfl rfl) rfl rfl ?_
    refine jg_nils [(0, _), (12, _)] ⟨rfl, rfl, trivial⟩ ?_
    refine jk_sn ?_
    refine jn_ct rfl ?_
    refine jn_seq ?_
    refine jn_reg 2 ?_
    refine jg_as rfl rfl rfl ?_
    refine jg_nils [(2, _)] ⟨rfl, trivial⟩ ?_
    refine jk_sn ?_
    refine jn_ret ?_
    refine jk_sr ?_
    exact jk_ret1 rfl (fun w hs => .tmp rfl) (fun w hs => ⟨rfl, hs.drop⟩)
  refine jg_mv rfl rfl rfl ?_
  refine jg_y (fun w hs => yv_ln rfl (hs.arg Rha0)) rfl rfl ?_
  refine jg_y (fun w hs => yv_gtr rfl rfl) rfl rfl ?_
  refine jg_y (fun w hs => yv_pick_f rfl rfl) rfl rfl ?_
  refine jg_nils [(0, _), (12, _)] ⟨rfl, rfl, trivial⟩ ?_
  refine jk_sn ?_
  refine jn_cond rfl ?_ ?_
  · refine jn_seq ?_
    refine jn_reg 2 ?_
    refine jg_as rfl rfl rfl ?_
    refine jg_nils [(2, _)] ⟨rfl, trivial⟩ ?_
    refine jk_sn ?_
    refine jn_ret ?_
    refine jk_sr ?_
    exact jk_ret1 rfl (fun w hs => .tmp rfl) (fun w hs => ⟨rfl, hs.drop⟩)
  refine jn_skip ?_
  refine jk_sn ?_
  refine jn_seq ?_
  refine jn_seq ?_
  refine jn_reg 3 ?_
  refine jg_mv rfl rfl rfl ?_
  refine jg_y (fun w hs => yv_ln rfl (hs.arg Rha0)) rfl rfl ?_
  refine jg_mv rfl rfl rfl ?_
  refine jg_nils [(13, _), (14, _), (15, _)] ⟨rfl, rfl, rfl, trivial⟩ ?_
  refine jk_sn ?_
  refine jn_block ?_
  refine jn_lp (n := big) (fun (s : Int) (g : Unit) => [(13, ha0.v), (14, .int .i64 (a0.length : Int)), (15, .int .i64 s)]) (fun (s : Int) (g : Unit) => []) (fun (s : Int) (g : Unit) => []) 0 () [] ⟨rfl, rfl, rfl, trivial⟩ rfl rfl rfl ?_
  intro z1 q2 n5 k3 H4
  refine jn_seq ?_
  refine jn_reg 4 ?_
  refine jg_y (fun w hs => yv_lss rfl rfl) rfl rfl ?_
  refine jg_nils [(13, _), (14, _), (15, _), (16, _)] ⟨rfl, rfl, rfl, rfl, trivial⟩ ?_
  refine jk_sn ?_
  refine jn_seq ?_
  refine jn_cond rfl ?_ ?_
  rotate_left
  · refine jn_exit ?_
    refine jk_se (jk_le (jk_bh (jk_sn ?_)))
    refine jn_seq ?_
    refine jn_reg 9 ?_
    refine jg_as rfl rfl rfl ?_
    refine jg_nils [(2, _)] ⟨rfl, trivial⟩ ?_
    refine jk_sn ?_
    refine jn_ret ?_
    exact jk_ret1 rfl (fun w hs => .tmp rfl) (fun w hs => ⟨rfl, hs.drop⟩)
  refine jn_skip ?_
  refine jk_sn ?_
  refine jn_seq ?_
  refine jn_block ?_
  refine jn_seq ?_
  refine jn_reg 5 ?_
  refine jg_ix fun x6 h7 => ?_
  refine jg_y (fun w hs => yv_ix rfl rfl (hs.arg Rha0) h7) rfl rfl ?_
  refine jg_y (fun w hs => yv_eS rfl (hs.arg Rha0) h7.1 (l5 rfl) rfl) rfl rfl ?_
  refine jg_alloc (l5 rfl) rfl rfl fun g8 => ?_
  refine jg_store 0 rfl rfl rfl (l5 rfl) rfl rfl rfl rfl (l5 rfl) (r1 rfl) ?_
  refine jg_nils [(4, _), (13, _), (14, _), (15, _)] ⟨rfl, rfl, rfl, rfl, trivial⟩ ?_
  refine jk_sn ?_
  refine jn_seq ?_
  refine jn_reg 6 ?_
  refine jg_y (fun w hs => yv_fieldAddr rfl) rfl rfl ?_
  refine jg_y (fun w hs => yv_load rfl (ld1B (hs.blkL (i := 0) rfl) rfl)) rfl rfl ?_
  refine jg_c0 rfl (fun v w hs hm => runoff_in_c hm ) rfl rfl fun v9 => ?_
  refine jg_y (fun w hs => yv_not rfl) rfl rfl ?_
  refine jg_mv rfl rfl rfl ?_
  refine jg_split 23 rfl ?_ ?_
  · refine jg_skip rfl rfl ?_
    refine jg_skip rfl rfl ?_
    refine jg_skip rfl rfl ?_
    refine jg_skip rfl rfl ?_
    refine jg_y (fun w hs => yv_pick_t rfl rfl) rfl rfl ?_
    refine jg_mv rfl rfl rfl ?_
    refine jg_skip rfl rfl ?_
    refine jg_skip rfl rfl ?_
    refine jg_skip rfl rfl ?_
    refine jg_skip rfl rfl ?_
    refine jg_y (fun w hs => yv_pick_t rfl rfl) rfl rfl ?_
    refine jg_mv rfl rfl rfl ?_
    refine jg_skip rfl rfl ?_
    refine jg_skip rfl rfl ?_
    refine jg_skip rfl rfl ?_
    refine jg_skip rfl rfl ?_
    refine jg_y (fun w hs => yv_pick_t rfl rfl) rfl rfl ?_
    refine jg_mv rfl rfl rfl ?_
    refine jg_skip rfl rfl ?_
    refine jg_skip rfl rfl ?_
    refine jg_skip rfl rfl ?_
    refine jg_skip rfl rfl ?_
    refine jg_y (fun w hs => yv_pick_t rfl rfl) rfl rfl ?_
    refine jg_nils [(13, _), (14, _), (15, _), (46, _)] ⟨rfl, rfl, rfl, rfl, trivial⟩ ?_
    refine jk_sn ?_
    refine jn_ct rfl ?_
    refine jn_seq ?_
    refine jn_reg 7 ?_
    refine jg_as rfl rfl rfl ?_
    refine jg_nils [(2, _)] ⟨rfl, trivial⟩ ?_
    refine jk_sn ?_
    refine jn_ret ?_
    refine jk_br (jk_sr (jk_lr (jk_br (jk_sr ?_))))
    exact jk_ret1 rfl (fun w hs => .tmp rfl) (fun w hs => ⟨rfl, hs.drop⟩)
  refine jg_y (fun w hs => yv_fieldAddr rfl) rfl rfl ?_
  refine jg_y (fun w hs => yv_load rfl (ld1B (hs.blkL (i := 0) rfl) rfl)) rfl rfl ?_
  refine jg_c0 rfl (fun v w hs hm => runoff_in_c hm ) rfl rfl fun v10 => ?_
  refine jg_y (fun w hs => yv_not rfl) rfl rfl ?_
  refine jg_y (fun w hs => yv_pick_f rfl rfl) rfl rfl ?_
  refine jg_mv rfl rfl rfl ?_
  refine jg_split 29 rfl ?_ ?_
  · refine jg_skip rfl rfl ?_
    refine jg_skip rfl rfl ?_
    refine jg_skip rfl rfl ?_
    refine jg_skip rfl rfl ?_
    refine jg_y (fun w hs => yv_pick_t rfl rfl) rfl rfl ?_
    refine jg_mv rfl rfl rfl ?_
    refine jg_skip rfl rfl ?_
    refine jg_skip rfl rfl ?_
    refine jg_skip rfl rfl ?_
    refine jg_skip rfl rfl ?_
    refine jg_y (fun w hs => yv_pick_t rfl rfl) rfl rfl ?_
    refine jg_mv rfl rfl rfl ?_
    refine jg_skip rfl rfl ?_
    refine jg_skip rfl rfl ?_
    refine jg_skip rfl rfl ?_
    refine jg_skip rfl rfl ?_
    refine jg_y (fun w hs => yv_pick_t rfl rfl) rfl rfl ?_
    refine jg_nils [(13, _), (14, _), (15, _), (46, _)] ⟨rfl, rfl, rfl, rfl, trivial⟩ ?_
    refine jk_sn ?_
    refine jn_ct rfl ?_
    refine jn_seq ?_
    refine jn_reg 7 ?_
    refine jg_as rfl rfl rfl ?_
    refine jg_nils [(2, _)] ⟨rfl, trivial⟩ ?_
    refine jk_sn ?_
    refine jn_ret ?_
    refine jk_br (jk_sr (jk_lr (jk_br (jk_sr ?_))))
    exact jk_ret1 rfl (fun w hs => .tmp rfl) (fun w hs => ⟨rfl, hs.drop⟩)
  refine jg_y (fun w hs => yv_fieldAddr rfl) rfl rfl ?_
  refine jg_y (fun w hs => yv_load rfl (ld1B (hs.blkL (i := 0) rfl) rfl)) rfl rfl ?_
  refine jg_c0 rfl (fun v w hs hm => runoff_in_c hm ) rfl rfl fun v11 => ?_
  refine jg_y (fun w hs => yv_not rfl) rfl rfl ?_
  refine jg_y (fun w hs => yv_pick_f rfl rfl) rfl rfl ?_
  refine jg_mv rfl rfl rfl ?_
  refine jg_split 35 rfl ?_ ?_
  · refine jg_skip rfl rfl ?_
    refine jg_skip rfl rfl ?_
    refine jg_skip rfl rfl ?_
    refine jg_skip rfl rfl ?_
    refine jg_y (fun w hs => yv_pick_t rfl rfl) rfl rfl ?_
    refine jg_mv rfl rfl rfl ?_
    refine jg_skip rfl rfl ?_
    refine jg_skip rfl rfl ?_
    refine jg_skip rfl rfl ?_
    refine jg_skip rfl rfl ?_
    refine jg_y (fun w hs => yv_pick_t rfl rfl) rfl rfl ?_
    refine jg_nils [(13, _), (14, _), (15, _), (46, _)] ⟨rfl, rfl, rfl, rfl, trivial⟩ ?_
    refine jk_sn ?_
    refine jn_ct rfl ?_
    refine jn_seq ?_
    refine jn_reg 7 ?_
    refine jg_as rfl rfl rfl ?_
    refine jg_nils [(2, _)] ⟨rfl, trivial⟩ ?_
    refine jk_sn ?_
    refine jn_ret ?_
    refine jk_br (jk_sr (jk_lr (jk_br (jk_sr ?_))))
    exact jk_ret1 rfl (fun w hs => .tmp rfl) (fun w hs => ⟨rfl, hs.drop⟩)
  refine jg_y (fun w hs => yv_fieldAddr rfl) rfl rfl ?_
  refine jg_y (fun w hs => yv_load rfl (ld1B (hs.blkL (i := 0) rfl) rfl)) rfl rfl ?_
  refine jg_c0 rfl (fun v w hs hm => runoff_in_c hm ) rfl rfl fun v12 => ?_
  refine jg_y (fun w hs => yv_not rfl) rfl rfl ?_
  refine jg_y (fun w hs => yv_pick_f rfl rfl) rfl rfl ?_
  refine jg_mv rfl rfl rfl ?_
  refine jg_split 41 rfl ?_ ?_
  · refine jg_skip rfl rfl ?_
    refine jg_skip rfl rfl ?_
    refine jg_skip rfl rfl ?_
    refine jg_skip rfl rfl ?_
    refine jg_y (fun w hs => yv_pick_t rfl rfl) rfl rfl ?_
    refine jg_nils [(13, _), (14, _), (15, _), (46, _)] ⟨rfl, rfl, rfl, rfl, trivial⟩ ?_
    refine jk_sn ?_
    refine jn_ct rfl ?_
    refine jn_seq ?_
    refine jn_reg 7 ?_
    refine jg_as rfl rfl rfl ?_
    refine jg_nils [(2, _)] ⟨rfl, trivial⟩ ?_
    refine jk_sn ?_
    refine jn_ret ?_
    refine jk_br (jk_sr (jk_lr (jk_br (jk_sr ?_))))
    exact jk_ret1 rfl (fun w hs => .tmp rfl) (fun w hs => ⟨rfl, hs.drop⟩)
  refine jg_y (fun w hs => yv_fieldAddr rfl) rfl rfl ?_
  refine jg_y (fun w hs => yv_load rfl (ld1B (hs.blkL (i := 0) rfl) rfl)) rfl rfl ?_
  refine jg_c0 rfl (fun v w hs hm => runoff_in_c hm ) rfl rfl fun v13 => ?_
  refine jg_y (fun w hs => yv_not rfl) rfl rfl ?_
  refine jg_y (fun w hs => yv_pick_f rfl rfl) rfl rfl ?_
  refine jg_nils [(13, _), (14, _), (15, _), (46, _)] ⟨rfl, rfl, rfl, rfl, trivial⟩ ?_
  refine jk_sn ?_
  refine jn_cond rfl ?_ ?_
  rotate_left
  · refine jn_skip ?_
    refine jk_bn (jk_sn ?_)
    refine jn_reg 8 ?_
    refine jg_y (fun w hs => yv_add_w rfl rfl) rfl rfl ?_
    refine jg_mv rfl rfl rfl ?_
    refine jg_nils [(13, _), (14, _), (15, _)] ⟨rfl, rfl, rfl, trivial⟩ ?_
    exact jk_use H4 (w64 (z1 + 1)) () [] ⟨rfl, rfl, rfl, trivial⟩ rfl rfl rfl
  refine jn_seq ?_
  refine jn_reg 7 ?_
  refine jg_as rfl rfl rfl ?_
  refine jg_nils [(2, _)] ⟨rfl, trivial⟩ ?_
  refine jk_sn ?_
  refine jn_ret ?_
  refine jk_br (jk_sr (jk_lr (jk_br (jk_sr ?_))))
  exact jk_ret1 rfl (fun w hs => .tmp rfl) (fun w hs => ⟨rfl, hs.drop⟩)
theorem slices_Clone_api_Piece_api_Piece__c {w : World} {a0 : (List Piece)} {ha0 : Hd} {v : (List Piece)} (hm : slices_Clone_api_Piece_api_Piece_ a0 = some v) (Rha0 : Sl w ha0 Piece.enc a0) : Calls Try.prog 48 ([ha0.v] : List Value).toArray w (fun e w' => ∃ g : Hd, e = .returned (g.v) ∧ St w w' [] [(rowH g 43 5 Piece.enc v)]) := by
  refine j_enter (vs := [ha0.v]) (R := fun (v : (List Piece)) (e : Ending) (w' : World) => ∃ g : Hd, e = .returned (g.v) ∧ St w w' [] [(rowH g 43 5 Piece.enc v)]) Try.func48 rfl Try.ntmps48 rfl rfl (St.refl w) hm ?_
  unfold slices_Clone_api_Piece_api_Piece_
  clear hm
  refine jn_seq ?_
  refine jn_reg 0 ?_
  refine jg_as rfl rfl rfl ?_
  refine jg_nils [(0, _)] ⟨rfl, trivial⟩ ?_
  refine jk_sn ?_
  refine jn_seq ?_
  refine jn_seq ?_
  refine jn_reg 1 ?_
  refine jg_mv rfl rfl rfl ?_
  refine jg_y (fun w hs => yv_eqnil rfl rfl) rfl rfl ?_
  refine jg_nils [(0, _), (4, _)] ⟨rfl, rfl, trivial⟩ ?_
  refine jk_sn ?_
  refine jn_nilq (m1 := some ([] : List Piece)) rfl (fun w hs => (hs.arg Rha0)) (fun h e => by subst h; simpa [ck, vl] using e) (fun _ => ?_) ?_
  · refine jn_seq ?_
    refine jn_reg 2 ?_
    refine jg_as rfl rfl rfl ?_
    refine jg_nils [(2, _)] ⟨rfl, trivial⟩ ?_
    refine jk_sn ?_
    refine jn_ret ?_
    refine jk_sr ?_
    refine jk_addnil 43 5 Piece.enc ?_
    exact jk_ret1 rfl (fun w hs => .tmp rfl) (fun w hs => ⟨(Hd.mk none 0 0), rfl, hs.sel (is := [0]) rfl rfl⟩)
  refine jn_skip ?_
  refine jk_sn ?_
  refine jn_seq ?_
  refine jn_reg 3 ?_
  refine jg_lit0 (enc := Piece.enc) rfl rfl fun hd1 => ?_
  refine jg_mv rfl rfl rfl ?_
  refine jg_append 0 rfl rfl rfl (fun w hs => (hs.arg Rha0)) rfl rfl rfl fun y2 hd3 => ?_
  refine jg_L (r1 rfl) ?_
  refine jg_as rfl rfl rfl ?_
  refine jg_nils [(2, _)] ⟨rfl, trivial⟩ ?_
  refine jk_sn ?_
  refine jn_ret ?_
  exact jk_ret1 rfl (fun w hs => .tmp rfl) (fun w hs => ⟨hd3, rfl, hs.sel (is := [0]) rfl rfl⟩)
theorem bowl_Shorten_c {w : World} {a0 : (List Piece)} {a1 : Int} {ha0 : Hd} {v : ((List Piece) × Int)} (hm : bowl_Shorten a0 a1 = some v) (Rha0 : Sl w ha0 Piece.enc a0) : Calls Try.prog 25 ([ha0.v, .int .i64 a1] : List Value).toArray w (fun e w' => ∃ g : Hd, e = .returned (.tuple #[g.v, .int .i64 v.2]) ∧ St w w' [] [(rowH g 43 5 Piece.enc v.1)]) := by
  refine j_enter (vs := [ha0.v, .int .i64 a1]) (R := fun (v : ((List Piece) × Int)) (e : Ending) (w' : World) => ∃ g : Hd, e = .returned (.tuple #[g.v, .int .i64 v.2]) ∧ St w w' [] [(rowH g 43 5 Piece.enc v.1)]) Try.func25 rfl Try.ntmps25 rfl rfl (St.refl w) hm ?_
  unfold bowl_Shorten
  clear hm
  refine jn_seq ?_
  refine jn_reg 0 ?_
  refine jg_as rfl rfl rfl ?_
  refine jg_as rfl rfl rfl ?_
  refine jg_nils [(0, _), (1, _)] ⟨rfl, rfl, trivial⟩ ?_
  refine jk_sn ?_
  refine jn_seq ?_
  refine jn_seq ?_
  refine jn_reg 1 ?_
  refine jg_mv rfl rfl rfl ?_
  refine jg_c0 rfl (fun v w hs hm => runoff_Valid_c hm (hs.arg Rha0)) rfl rfl fun v1 => ?_
  refine jg_as rfl rfl rfl ?_
  refine jg_nils [(0, _), (1, _), (6, _)] ⟨rfl, rfl, rfl, trivial⟩ ?_
  refine jk_sn ?_
  refine jn_seq ?_
  refine jn_reg 2 ?_
  refine jg_mv rfl rfl rfl ?_
  refine jg_y (fun w hs => yv_neq rfl rfl) rfl rfl ?_
  refine jg_nils [(0, _), (1, _), (6, _), (12, _)] ⟨rfl, rfl, rfl, rfl, trivial⟩ ?_
  refine jk_sn ?_
  refine jn_cond rfl ?_ ?_
  · refine jn_seq ?_
    refine jn_reg 3 ?_
    refine jg_mv rfl rfl rfl ?_
    refine jg_as rfl rfl rfl ?_
    refine jg_as rfl rfl rfl ?_
    refine jg_nils [(4, _), (5, _)] ⟨rfl, rfl, trivial⟩ ?_
    refine jk_sn ?_
    refine jn_ret ?_
    refine jk_sr ?_
    refine jk_addnil 43 5 Piece.enc ?_
    exact jk_ret2 rfl (fun w hs => .tmp rfl) (fun w hs => .tmp rfl) (fun w hs => ⟨(Hd.mk none 0 0), rfl, hs.sel (is := [0]) rfl rfl⟩)
  refine jn_skip ?_
  refine jk_sn ?_
  refine jn_seq ?_
  refine jn_reg 4 ?_
  refine jg_mv rfl rfl rfl ?_
  refine jg_c rfl (fun v w hs hm => slices_Clone_api_Piece_api_Piece__c hm (hs.arg Rha0)) rfl rfl fun v2 q3 => ?_
  refine jg_L (r1 rfl) ?_
  refine jg_as rfl rfl rfl ?_
  refine jg_nils [(1, _), (7, _)] ⟨rfl, rfl, trivial⟩ ?_
  refine jk_sn ?_
  refine jn_seq ?_
  refine jn_reg 5 ?_
  refine jg_mv rfl rfl rfl ?_
  refine jg_mv rfl rfl rfl ?_
  refine jg_y (fun w hs => yv_ln rfl (hs.row 0 rfl)) rfl rfl ?_
  refine jg_y (fun w hs => yv_sub_w rfl rfl) rfl rfl ?_
  refine jg_ix fun x4 h5 => ?_
  refine jg_y (fun w hs => yv_ix rfl rfl (hs.row 0 rfl) h5) rfl rfl ?_
  refine jg_as rfl rfl rfl ?_
  refine jg_nils [(1, _), (7, _), (8, _)] ⟨rfl, rfl, rfl, trivial⟩ ?_
  refine jk_sn ?_
  refine jn_seq ?_
  refine jn_seq ?_
  refine jn_reg 6 ?_
  refine jg_mv rfl rfl rfl ?_
  refine jg_y (fun w hs => yv_lss rfl rfl) rfl rfl ?_
  refine jg_mv rfl rfl rfl ?_
  refine jg_split 23 rfl ?_ ?_
  · refine jg_skip rfl rfl ?_
    refine jg_skip rfl rfl ?_
    refine jg_skip rfl rfl ?_
    refine jg_skip rfl rfl ?_
    refine jg_skip rfl rfl ?_
    refine jg_skip rfl rfl ?_
    refine jg_y (fun w hs => yv_pick_t rfl rfl) rfl rfl ?_
    refine jg_nils [(1, _), (7, _), (8, _), (30, _)] ⟨rfl, rfl, rfl, rfl, trivial⟩ ?_
    refine jk_sn ?_
    refine jn_ct rfl ?_
    refine jn_seq ?_
    refine jn_reg 7 ?_
    refine jg_as rfl rfl rfl ?_
    refine jg_as rfl rfl rfl ?_
    refine jg_nils [(4, _), (5, _)] ⟨rfl, rfl, trivial⟩ ?_
    refine jk_sn ?_
    refine jn_ret ?_
    refine jk_sr ?_
    refine jk_addnil 43 5 Piece.enc ?_
    exact jk_ret2 rfl (fun w hs => .tmp rfl) (fun w hs => .tmp rfl) (fun w hs => ⟨(Hd.mk none 0 0), rfl, hs.sel (is := [0]) rfl rfl⟩)
  refine jg_mv rfl rfl rfl ?_
  refine jg_mv rfl rfl rfl ?_
  refine jg_y (fun w hs => yv_nilE rfl (hs.row 0 rfl) h5.1) rfl rfl ?_
  refine jg_y (fun w hs => yv_ef rfl (hs.row 0 rfl) h5.1) rfl rfl ?_
  refine jg_y (fun w hs => yv_e1 rfl (hs.row 0 rfl) h5.1 rfl) rfl rfl ?_
  refine jg_y (fun w hs => yv_gtr rfl rfl) rfl rfl ?_
  refine jg_y (fun w hs => yv_pick_f rfl rfl) rfl rfl ?_
  refine jg_nils [(1, _), (7, _), (8, _), (30, _)] ⟨rfl, rfl, rfl, rfl, trivial⟩ ?_
  refine jk_sn ?_
  refine jn_cond rfl ?_ ?_
  · refine jn_seq ?_
    refine jn_reg 7 ?_
    refine jg_as rfl rfl rfl ?_
    refine jg_as rfl rfl rfl ?_
    refine jg_nils [(4, _), (5, _)] ⟨rfl, rfl, trivial⟩ ?_
    refine jk_sn ?_
    refine jn_ret ?_
    refine jk_sr ?_
    refine jk_addnil 43 5 Piece.enc ?_
    exact jk_ret2 rfl (fun w hs => .tmp rfl) (fun w hs => .tmp rfl) (fun w hs => ⟨(Hd.mk none 0 0), rfl, hs.sel (is := [0]) rfl rfl⟩)
  refine jn_skip ?_
  refine jk_sn ?_
  refine jn_seq ?_
  refine jn_reg 8 ?_
  refine jg_mv rfl rfl rfl ?_
  refine jg_mv rfl rfl rfl ?_
  refine jg_y (fun w hs => yv_nilE rfl (hs.row 0 rfl) h5.1) rfl rfl ?_
  refine jg_y (fun w hs => yv_ef rfl (hs.row 0 rfl) h5.1) rfl rfl ?_
  refine jg_storeE 0 (a' := (Piece.mk x4.Element a1 x4.Grade x4.Curve x4.Power)) rfl rfl h5.1 rfl (l1 rfl) rfl rfl rfl rfl fun y6 => ?_
  refine jg_L (r1 rfl) ?_
  refine jg_nils [(7, _)] ⟨rfl, trivial⟩ ?_
  refine jk_sn ?_
  refine jn_seq ?_
  refine jn_reg 9 ?_
  refine jg_mv rfl rfl rfl ?_
  refine jg_as rfl rfl rfl ?_
  refine jg_as rfl rfl rfl ?_
  refine jg_nils [(4, _), (5, _)] ⟨rfl, rfl, trivial⟩ ?_
  refine jk_sn ?_
  refine jn_ret ?_
  exact jk_ret2 rfl (fun w hs => .tmp rfl) (fun w hs => .tmp rfl) (fun w hs => ⟨q3, rfl, hs.sel (is := [0]) rfl rfl⟩)
theorem r20_Valid_c {w : World} {a0 : (List Piece)} {ha0 : Hd} {v : Int} (hm : r20_Valid a0 = some v) (Rha0 : Sl w ha0 Piece.enc a0) : Gives Try.prog 49 [ha0.v] w (.int .i64 v) := by
  refine j_gives (vs := [ha0.v]) (U := fun (v : Int) => .int .i64 v) Try.func49 rfl Try.ntmps49 rfl rfl hm ?_
  unfold r20_Valid
  clear hm
  refine jn_seq ?_
  refine jn_reg 0 ?_
  refine jg_as rfl rfl rfl ?_
  refine jg_nils [(0, _)] ⟨rfl, trivial⟩ ?_
  refine jk_sn ?_
  refine jn_seq ?_
  refine jn_seq ?_
  refine jn_reg 1 ?_
  refine jg_mv rfl rfl rfl ?_
  refine jg_y (fun w hs => yv_ln rfl (hs.arg Rha0)) rfl rfl ?_
  refine jg_y (fun w hs => yv_lss rfl rfl) rfl rfl ?_
  refine jg_mv rfl rfl rfl ?_
  refine jg_split 8 rfl ?_ ?_
  · refine jg_skip rfl rfl ?_
    refine jg_skip rfl rfl ?_
    refine jg_skip rfl rfl ?_
    refine jg_y (fun w hs => yv_pick_t rfl rfl) rfl rfl ?_
    refine jg_nils [(0, _), (12, _)] ⟨rfl, rfl, trivial⟩ ?_
    refine jk_sn ?_
    refine jn_ct rfl ?_
    refine jn_seq ?_
    refine jn_reg 2 ?_
    refine jg_as rfl rfl rfl ?_
    refine jg_nils [(2, _)] ⟨rfl, trivial⟩ ?_
    refine jk_sn ?_
    refine jn_ret ?_
    refine jk_sr ?_
    exact jk_ret1 rfl (fun w hs => .tmp rfl) (fun w hs => ⟨rfl, hs.drop⟩)
  refine jg_mv rfl rfl rfl ?_
  refine jg_y (fun w hs => yv_ln rfl (hs.arg Rha0)) rfl rfl ?_
  refine jg_y (fun w hs => yv_gtr rfl rfl) rfl rfl ?_
  refine jg_y (fun w hs => yv_pick_f rfl rfl) rfl rfl ?_
  refine jg_nils [(0, _), (12, _)] ⟨rfl, rfl, trivial⟩ ?_
  refine jk_sn ?_
  refine jn_cond rfl ?_ ?_
  · refine jn_seq ?_
    refine jn_reg 2 ?_
    refine jg_as rfl rfl rfl ?_
    refine jg_nils [(2, _)] ⟨rfl, trivial⟩ ?_
    refine jk_sn ?_
    refine jn_ret ?_
    refine jk_sr ?_
    exact jk_ret1 rfl (fun w hs => .tmp rfl) (fun w hs => ⟨rfl, hs.drop⟩)
  refine jn_skip ?_
  refine jk_sn ?_
  refine jn_seq ?_
  refine jn_seq ?_
  refine jn_reg 3 ?_
  refine jg_as rfl rfl rfl ?_
  refine jg_nils [(0, _), (3, _)] ⟨rfl, rfl, trivial⟩ ?_
  refine jk_sn ?_
  refine jn_block ?_
  refine jn_lp (n := big) (fun (s : Int) (g : Unit) => [(0, ha0.v), (3, .int .i64 s)]) (fun (s : Int) (g : Unit) => []) (fun (s : Int) (g : Unit) => []) 0 () [] ⟨rfl, rfl, trivial⟩ rfl rfl rfl ?_
  intro z1 q2 n5 k3 H4
  refine jn_seq ?_
  refine jn_seq ?_
  refine jn_reg 4 ?_
  refine jg_mv rfl rfl rfl ?_
  refine jg_mv rfl rfl rfl ?_
  refine jg_y (fun w hs => yv_ln rfl (hs.arg Rha0)) rfl rfl ?_
  refine jg_y (fun w hs => yv_lss rfl rfl) rfl rfl ?_
  refine jg_nils [(0, _), (3, _), (16, _)] ⟨rfl, rfl, rfl, trivial⟩ ?_
  refine jk_sn ?_
  refine jn_cond rfl ?_ ?_
  rotate_left
  · refine jn_exit ?_
    refine jk_se (jk_le (jk_bh (jk_sn ?_)))
    refine jn_seq ?_
    refine jn_reg 9 ?_
    refine jg_as rfl rfl rfl ?_
    refine jg_nils [(2, _)] ⟨rfl, trivial⟩ ?_
    refine jk_sn ?_
    refine jn_ret ?_
    exact jk_ret1 rfl (fun w hs => .tmp rfl) (fun w hs => ⟨rfl, hs.drop⟩)
  refine jn_skip ?_
  refine jk_sn ?_
  refine jn_seq ?_
  refine jn_block ?_
  refine jn_seq ?_
  refine jn_reg 6 ?_
  refine jg_mv rfl rfl rfl ?_
  refine jg_mv rfl rfl rfl ?_
  refine jg_ix fun x6 h7 => ?_
  refine jg_y (fun w hs => yv_ix rfl rfl (hs.arg Rha0) h7) rfl rfl ?_
  refine jg_y (fun w hs => yv_eS rfl (hs.arg Rha0) h7.1 (l5 rfl) rfl) rfl rfl ?_
  refine jg_alloc (l5 rfl) rfl rfl fun g8 => ?_
  refine jg_store 0 rfl rfl rfl (l5 rfl) rfl rfl rfl rfl (l5 rfl) (r1 rfl) ?_
  refine jg_nils [(0, _), (3, _), (4, _)] ⟨rfl, rfl, rfl, trivial⟩ ?_
  refine jk_sn ?_
  refine jn_seq ?_
  refine jn_reg 7 ?_
  refine jg_y (fun w hs => yv_fieldAddr rfl) rfl rfl ?_
  refine jg_y (fun w hs => yv_load rfl (ld1B (hs.blkL (i := 0) rfl) rfl)) rfl rfl ?_
  refine jg_y (fun w hs => yv_lss rfl rfl) rfl rfl ?_
  refine jg_mv rfl rfl rfl ?_
  refine jg_split 26 rfl ?_ ?_
  · refine jg_skip rfl rfl ?_
    refine jg_skip rfl rfl ?_
    refine jg_skip rfl rfl ?_
    refine jg_y (fun w hs => yv_pick_t rfl rfl) rfl rfl ?_
    refine jg_mv rfl rfl rfl ?_
    refine jg_skip rfl rfl ?_
    refine jg_skip rfl rfl ?_
    refine jg_skip rfl rfl ?_
    refine jg_y (fun w hs => yv_pick_t rfl rfl) rfl rfl ?_
    refine jg_mv rfl rfl rfl ?_
    refine jg_skip rfl rfl ?_
    refine jg_skip rfl rfl ?_
    refine jg_skip rfl rfl ?_
    refine jg_y (fun w hs => yv_pick_t rfl rfl) rfl rfl ?_
    refine jg_mv rfl rfl rfl ?_
    refine jg_skip rfl rfl ?_
    refine jg_skip rfl rfl ?_
    refine jg_skip rfl rfl ?_
    refine jg_y (fun w hs => yv_pick_t rfl rfl) rfl rfl ?_
    refine jg_mv rfl rfl rfl ?_
    refine jg_skip rfl rfl ?_
    refine jg_skip rfl rfl ?_
    refine jg_skip rfl rfl ?_
    refine jg_y (fun w hs => yv_pick_t rfl rfl) rfl rfl ?_
    refine jg_mv rfl rfl rfl ?_
    refine jg_skip rfl rfl ?_
    refine jg_skip rfl rfl ?_
    refine jg_skip rfl rfl ?_
    refine jg_y (fun w hs => yv_pick_t rfl rfl) rfl rfl ?_
    refine jg_mv rfl rfl rfl ?_
    refine jg_skip rfl rfl ?_
    refine jg_skip rfl rfl ?_
    refine jg_skip rfl rfl ?_
    refine jg_y (fun w hs => yv_pick_t rfl rfl) rfl rfl ?_
    refine jg_mv rfl rfl rfl ?_
    refine jg_skip rfl rfl ?_
    refine jg_skip rfl rfl ?_
    refine jg_skip rfl rfl ?_
    refine jg_y (fun w hs => yv_pick_t rfl rfl) rfl rfl ?_
    refine jg_mv rfl rfl rfl ?_
    refine jg_skip rfl rfl ?_
    refine jg_skip rfl rfl ?_
    refine jg_skip rfl rfl ?_
    refine jg_y (fun w hs => yv_pick_t rfl rfl) rfl rfl ?_
    refine jg_nils [(0, _), (3, _), (70, _)] ⟨rfl, rfl, rfl, trivial⟩ ?_
    refine jk_sn ?_
    refine jn_ct rfl ?_
    refine jn_seq ?_
    refine jn_reg 8 ?_
    refine jg_as rfl rfl rfl ?_
    refine jg_nils [(2, _)] ⟨rfl, trivial⟩ ?_
    refine jk_sn ?_
    refine jn_ret ?_
    refine jk_br (jk_sr (jk_lr (jk_br (jk_sr ?_))))
    exact jk_ret1 rfl (fun w hs => .tmp rfl) (fun w hs => ⟨rfl, hs.drop⟩)
  refine jg_y (fun w hs => yv_fieldAddr rfl) rfl rfl ?_
  refine jg_y (fun w hs => yv_load rfl (ld1B (hs.blkL (i := 0) rfl) rfl)) rfl rfl ?_
  refine jg_y (fun w hs => yv_geq rfl rfl) rfl rfl ?_
  refine jg_y (fun w hs => yv_pick_f rfl rfl) rfl rfl ?_
  refine jg_mv rfl rfl rfl ?_
  refine jg_split 31 rfl ?_ ?_
  · refine jg_skip rfl rfl ?_
    refine jg_skip rfl rfl ?_
    refine jg_skip rfl rfl ?_
    refine jg_y (fun w hs => yv_pick_t rfl rfl) rfl rfl ?_
    refine jg_mv rfl rfl rfl ?_
    refine jg_skip rfl rfl ?_
    refine jg_skip rfl rfl ?_
    refine jg_skip rfl rfl ?_
    refine jg_y (fun w hs => yv_pick_t rfl rfl) rfl rfl ?_
    refine jg_mv rfl rfl rfl ?_
    refine jg_skip rfl rfl ?_
    refine jg_skip rfl rfl ?_
    refine jg_skip rfl rfl ?_
    refine jg_y (fun w hs => yv_pick_t rfl rfl) rfl rfl ?_
    refine jg_mv rfl rfl rfl ?_
    refine jg_skip rfl rfl ?_
    refine jg_skip rfl rfl ?_
    refine jg_skip rfl rfl ?_
    refine jg_y (fun w hs => yv_pick_t rfl rfl) rfl rfl ?_
    refine jg_mv rfl rfl rfl ?_
    refine jg_skip rfl rfl ?_
    refine jg_skip rfl rfl ?_
    refine jg_skip rfl rfl ?_
    refine jg_y (fun w hs => yv_pick_t rfl rfl) rfl rfl ?_
    refine jg_mv rfl rfl rfl ?_
    refine jg_skip rfl rfl ?_
    refine jg_skip rfl rfl ?_
    refine jg_skip rfl rfl ?_
    refine jg_y (fun w hs => yv_pick_t rfl rfl) rfl rfl ?_
    refine jg_mv rfl rfl rfl ?_
    refine jg_skip rfl rfl ?_
    refine jg_skip rfl rfl ?_
    refine jg_skip rfl rfl ?_
    refine jg_y (fun w hs => yv_pick_t rfl rfl) rfl rfl ?_
    refine jg_mv rfl rfl rfl ?_
    refine jg_skip rfl rfl ?_
    refine jg_skip rfl rfl ?_
    refine jg_skip rfl rfl ?_
    refine jg_y (fun w hs => yv_pick_t rfl rfl) rfl rfl ?_
    refine jg_nils [(0, _), (3, _), (70, _)] ⟨rfl, rfl, rfl, trivial⟩ ?_
    refine jk_sn ?_
    refine jn_ct rfl ?_
    refine jn_seq ?_
    refine jn_reg 8 ?_
    refine jg_as rfl rfl rfl ?_
    refine jg_nils [(2, _)] ⟨rfl, trivial⟩ ?_
    refine jk_sn ?_
    refine jn_ret ?_
    refine jk_br (jk_sr (jk_lr (jk_br (jk_sr ?_))))
    exact jk_ret1 rfl (fun w hs => .tmp rfl) (fun w hs => ⟨rfl, hs.drop⟩)
  refine jg_y (fun w hs => yv_fieldAddr rfl) rfl rfl ?_
  refine jg_y (fun w hs => yv_load rfl (ld1B (hs.blkL (i := 0) rfl) rfl)) rfl rfl ?_
  refine jg_y (fun w hs => yv_lss rfl rfl) rfl rfl ?_
  refine jg_y (fun w hs => yv_pick_f rfl rfl) rfl rfl ?_
  refine jg_mv rfl rfl rfl ?_
  refine jg_split 36 rfl ?_ ?_
  · refine jg_skip rfl rfl ?_
    refine jg_skip rfl rfl ?_
    refine jg_skip rfl rfl ?_
    refine jg_y (fun w hs => yv_pick_t rfl rfl) rfl rfl ?_
    refine jg_mv rfl rfl rfl ?_
    refine jg_skip rfl rfl ?_
    refine jg_skip rfl rfl ?_
    refine jg_skip rfl rfl ?_
    refine jg_y (fun w hs => yv_pick_t rfl rfl) rfl rfl ?_
    refine jg_mv rfl rfl rfl ?_
    refine jg_skip rfl rfl ?_
    refine jg_skip rfl rfl ?_
    refine jg_skip rfl rfl ?_
    refine jg_y (fun w hs => yv_pick_t rfl rfl) rfl rfl ?_
    refine jg_mv rfl rfl rfl ?_
    refine jg_skip rfl rfl ?_
    refine jg_skip rfl rfl ?_
    refine jg_skip rfl rfl ?_
    refine jg_y (fun w hs => yv_pick_t rfl rfl) rfl rfl ?_
    refine jg_mv rfl rfl rfl ?_
    refine jg_skip rfl rfl ?_
    refine jg_skip rfl rfl ?_
    refine jg_skip rfl rfl ?_
    refine jg_y (fun w hs => yv_pick_t rfl rfl) rfl rfl ?_
    refine jg_mv rfl rfl rfl ?_
    refine jg_skip rfl rfl ?_
    refine jg_skip rfl rfl ?_
    refine jg_skip rfl rfl ?_
    refine jg_y (fun w hs => yv_pick_t rfl rfl) rfl rfl ?_
    refine jg_mv rfl rfl rfl ?_
    refine jg_skip rfl rfl ?_
    refine jg_skip rfl rfl ?_
    refine jg_skip rfl rfl ?_
    refine jg_y (fun w hs => yv_pick_t rfl rfl) rfl rfl ?_
    refine jg_nils [(0, _), (3, _), (70, _)] ⟨rfl, rfl, rfl, trivial⟩ ?_
    refine jk_sn ?_
    refine jn_ct rfl ?_
    refine jn_seq ?_
    refine jn_reg 8 ?_
    refine jg_as rfl rfl rfl ?_
    refine jg_nils [(2, _)] ⟨rfl, trivial⟩ ?_
    refine jk_sn ?_
    refine jn_ret ?_
    refine jk_br (jk_sr (jk_lr (jk_br (jk_sr ?_))))
    exact jk_ret1 rfl (fun w hs => .tmp rfl) (fun w hs => ⟨rfl, hs.drop⟩)
  refine jg_y (fun w hs => yv_fieldAddr rfl) rfl rfl ?_
  refine jg_y (fun w hs => yv_load rfl (ld1B (hs.blkL (i := 0) rfl) rfl)) rfl rfl ?_
  refine jg_y (fun w hs => yv_gtr rfl rfl) rfl rfl ?_
  refine jg_y (fun w hs => yv_pick_f rfl rfl) rfl rfl ?_
  refine jg_mv rfl rfl rfl ?_
  refine jg_split 41 rfl ?_ ?_
  · refine jg_skip rfl rfl ?_
    refine jg_skip rfl rfl ?_
    refine jg_skip rfl rfl ?_
    refine jg_y (fun w hs => yv_pick_t rfl rfl) rfl rfl ?_
    refine jg_mv rfl rfl rfl ?_
    refine jg_skip rfl rfl ?_
    refine jg_skip rfl rfl ?_
    refine jg_skip rfl rfl ?_
    refine jg_y (fun w hs => yv_pick_t rfl rfl) rfl rfl ?_
    refine jg_mv rfl rfl rfl ?_
    refine jg_skip rfl rfl ?_
    refine jg_skip rfl rfl ?_
    refine jg_skip rfl rfl ?_
    refine jg_y (fun w hs => yv_pick_t rfl rfl) rfl rfl ?_
    refine jg_mv rfl rfl rfl ?_
    refine jg_skip rfl rfl ?_
    refine jg_skip rfl rfl ?_
    refine jg_skip rfl rfl ?_
    refine jg_y (fun w hs => yv_pick_t rfl rfl) rfl rfl ?_
    refine jg_mv rfl rfl rfl ?_
    refine jg_skip rfl rfl ?_
    refine jg_skip rfl rfl ?_
    refine jg_skip rfl rfl ?_
    refine jg_y (fun w hs => yv_pick_t rfl rfl) rfl rfl ?_
    refine jg_mv rfl rfl rfl ?_
    refine jg_skip rfl rfl ?_
    refine jg_skip rfl rfl ?_
    refine jg_skip rfl rfl ?_
    refine jg_y (fun w hs => yv_pick_t rfl rfl) rfl rfl ?_
    refine jg_nils [(0, _), (3, _), (70, _)] ⟨rfl, rfl, rfl, trivial⟩ ?_
    refine jk_sn ?_
    refine jn_ct rfl ?_
    refine jn_seq ?_
    refine jn_reg 8 ?_
    refine jg_as rfl rfl rfl ?_
    refine jg_nils [(2, _)] ⟨rfl, trivial⟩ ?_
    refine jk_sn ?_
    refine jn_ret ?_
    refine jk_br (jk_sr (jk_lr (jk_br (jk_sr ?_))))
    exact jk_ret1 rfl (fun w hs => .tmp rfl) (fun w hs => ⟨rfl, hs.drop⟩)
  refine jg_y (fun w hs => yv_fieldAddr rfl) rfl rfl ?_
  refine jg_y (fun w hs => yv_load rfl (ld1B (hs.blkL (i := 0) rfl) rfl)) rfl rfl ?_
  refine jg_y (fun w hs => yv_lss rfl rfl) rfl rfl ?_
  refine jg_y (fun w hs => yv_pick_f rfl rfl) rfl rfl ?_
  refine jg_mv rfl rfl rfl ?_
  refine jg_split 46 rfl ?_ ?_
  · refine jg_skip rfl rfl ?_
    refine jg_skip rfl rfl ?_
    refine jg_skip rfl rfl ?_
    refine jg_y (fun w hs => yv_pick_t rfl rfl) rfl rfl ?_
    refine jg_mv rfl rfl rfl ?_
    refine jg_skip rfl rfl ?_
    refine jg_skip rfl rfl ?_
    refine jg_skip rfl rfl ?_
    refine jg_y (fun w hs => yv_pick_t rfl rfl) rfl rfl ?_
    refine jg_mv rfl rfl rfl ?_
    refine jg_skip rfl rfl ?_
    refine jg_skip rfl rfl ?_
    refine jg_skip rfl rfl ?_
    refine jg_y (fun w hs => yv_pick_t rfl rfl) rfl rfl ?_
    refine jg_mv rfl rfl rfl ?_
    refine jg_skip rfl rfl ?_
    refine jg_skip rfl rfl ?_
    refine jg_skip rfl rfl ?_
    refine jg_y (fun w hs => yv_pick_t rfl rfl) rfl rfl ?_
    refine jg_mv rfl rfl rfl ?_
    refine jg_skip rfl rfl ?_
    refine jg_skip rfl rfl ?_
    refine jg_skip rfl rfl ?_
    refine jg_y (fun w hs => yv_pick_t rfl rfl) rfl rfl ?_
    refine jg_nils [(0, _), (3, _), (70, _)] ⟨rfl, rfl, rfl, trivial⟩ ?_
    refine jk_sn ?_
    refine jn_ct rfl ?_
    refine jn_seq ?_
    refine jn_reg 8 ?_
    refine jg_as rfl rfl rfl ?_
    refine jg_nils [(2, _)] ⟨rfl, trivial⟩ ?_
    refine jk_sn ?_
    refine jn_ret ?_
    refine jk_br (jk_sr (jk_lr (jk_br (jk_sr ?_))))
    exact jk_ret1 rfl (fun w hs => .tmp rfl) (fun w hs => ⟨rfl, hs.drop⟩)
  refine jg_y (fun w hs => yv_fieldAddr rfl) rfl rfl ?_
  refine jg_y (fun w hs => yv_load rfl (ld1B (hs.blkL (i := 0) rfl) rfl)) rfl rfl ?_
  refine jg_y (fun w hs => yv_gtr rfl rfl) rfl rfl ?_
  refine jg_y (fun w hs => yv_pick_f rfl rfl) rfl rfl ?_
  refine jg_mv rfl rfl rfl ?_
  refine jg_split 51 rfl ?_ ?_
  · refine jg_skip rfl rfl ?_
    refine jg_skip rfl rfl ?_
    refine jg_skip rfl rfl ?_
    refine jg_y (fun w hs => yv_pick_t rfl rfl) rfl rfl ?_
    refine jg_mv rfl rfl rfl ?_
    refine jg_skip rfl rfl ?_
    refine jg_skip rfl rfl ?_
    refine jg_skip rfl rfl ?_
    refine jg_y (fun w hs => yv_pick_t rfl rfl) rfl rfl ?_
    refine jg_mv rfl rfl rfl ?_
    refine jg_skip rfl rfl ?_
    refine jg_skip rfl rfl ?_
    refine jg_skip rfl rfl ?_
    refine jg_y (fun w hs => yv_pick_t rfl rfl) rfl rfl ?_
    refine jg_mv rfl rfl rfl ?_
    refine jg_skip rfl rfl ?_
    refine jg_skip rfl rfl ?_
    refine jg_skip rfl rfl ?_
    refine jg_y (fun w hs => yv_pick_t rfl rfl) rfl rfl ?_
    refine jg_nils [(0, _), (3, _), (70, _)] ⟨rfl, rfl, rfl, trivial⟩ ?_
    refine jk_sn ?_
    refine jn_ct rfl ?_
    refine jn_seq ?_
    refine jn_reg 8 ?_
    refine jg_as rfl rfl rfl ?_
    refine jg_nils [(2, _)] ⟨rfl, trivial⟩ ?_
    refine jk_sn ?_
    refine jn_ret ?_
    refine jk_br (jk_sr (jk_lr (jk_br (jk_sr ?_))))
    exact jk_ret1 rfl (fun w hs => .tmp rfl) (fun w hs => ⟨rfl, hs.drop⟩)
  refine jg_y (fun w hs => yv_fieldAddr rfl) rfl rfl ?_
  refine jg_y (fun w hs => yv_load rfl (ld1B (hs.blkL (i := 0) rfl) rfl)) rfl rfl ?_
  refine jg_y (fun w hs => yv_lss rfl rfl) rfl rfl ?_
  refine jg_y (fun w hs => yv_pick_f rfl rfl) rfl rfl ?_
  refine jg_mv rfl rfl rfl ?_
  refine jg_split 56 rfl ?_ ?_
  · refine jg_skip rfl rfl ?_
    refine jg_skip rfl rfl ?_
    refine jg_skip rfl rfl ?_
    refine jg_y (fun w hs => yv_pick_t rfl rfl) rfl rfl ?_
    refine jg_mv rfl rfl rfl ?_
    refine jg_skip rfl rfl ?_
    refine jg_skip rfl rfl ?_
    refine jg_skip rfl rfl ?_
    refine jg_y (fun w hs => yv_pick_t rfl rfl) rfl rfl ?_
    refine jg_mv rfl rfl rfl ?_
    refine jg_skip rfl rfl ?_
    refine jg_skip rfl rfl ?_
    refine jg_skip rfl rfl ?_
    refine jg_y (fun w hs => yv_pick_t rfl rfl) rfl rfl ?_
    refine jg_nils [(0, _), (3, _), (70, _)] ⟨rfl, rfl, rfl, trivial⟩ ?_
    refine jk_sn ?_
    refine jn_ct rfl ?_
    refine jn_seq ?_
    refine jn_reg 8 ?_
    refine jg_as rfl rfl rfl ?_
    refine jg_nils [(2, _)] ⟨rfl, trivial⟩ ?_
    refine jk_sn ?_
    refine jn_ret ?_
    refine jk_br (jk_sr (jk_lr (jk_br (jk_sr ?_))))
    exact jk_ret1 rfl (fun w hs => .tmp rfl) (fun w hs => ⟨rfl, hs.drop⟩)
  refine jg_y (fun w hs => yv_fieldAddr rfl) rfl rfl ?_
  refine jg_y (fun w hs => yv_load rfl (ld1B (hs.blkL (i := 0) rfl) rfl)) rfl rfl ?_
  refine jg_y (fun w hs => yv_gtr rfl rfl) rfl rfl ?_
  refine jg_y (fun w hs => yv_pick_f rfl rfl) rfl rfl ?_
  refine jg_mv rfl rfl rfl ?_
  refine jg_split 61 rfl ?_ ?_
  · refine jg_skip rfl rfl ?_
    refine jg_skip rfl rfl ?_
    refine jg_skip rfl rfl ?_
    refine jg_y (fun w hs => yv_pick_t rfl rfl) rfl rfl ?_
    refine jg_mv rfl rfl rfl ?_
    refine jg_skip rfl rfl ?_
    refine jg_skip rfl rfl ?_
    refine jg_skip rfl rfl ?_
    refine jg_y (fun w hs => yv_pick_t rfl rfl) rfl rfl ?_
    refine jg_nils [(0, _), (3, _), (70, _)] ⟨rfl, rfl, rfl, trivial⟩ ?_
    refine jk_sn ?_
    refine jn_ct rfl ?_
    refine jn_seq ?_
    refine jn_reg 8 ?_
    refine jg_as rfl rfl rfl ?_
    refine jg_nils [(2, _)] ⟨rfl, trivial⟩ ?_
    refine jk_sn ?_
    refine jn_ret ?_
    refine jk_br (jk_sr (jk_lr (jk_br (jk_sr ?_))))
    exact jk_ret1 rfl (fun w hs => .tmp rfl) (fun w hs => ⟨rfl, hs.drop⟩)
  refine jg_y (fun w hs => yv_fieldAddr rfl) rfl rfl ?_
  refine jg_y (fun w hs => yv_load rfl (ld1B (hs.blkL (i := 0) rfl) rfl)) rfl rfl ?_
  refine jg_y (fun w hs => yv_lss rfl rfl) rfl rfl ?_
  refine jg_y (fun w hs => yv_pick_f rfl rfl) rfl rfl ?_
  refine jg_mv rfl rfl rfl ?_
  refine jg_split 66 rfl ?_ ?_
  · refine jg_skip rfl rfl ?_
    refine jg_skip rfl rfl ?_
    refine jg_skip rfl rfl ?_
    refine jg_y (fun w hs => yv_pick_t rfl rfl) rfl rfl ?_
    refine jg_nils [(0, _), (3, _), (70, _)] ⟨rfl, rfl, rfl, trivial⟩ ?_
    refine jk_sn ?_
    refine jn_ct rfl ?_
    refine jn_seq ?_
    refine jn_reg 8 ?_
    refine jg_as rfl rfl rfl ?_
    refine jg_nils [(2, _)] ⟨rfl, trivial⟩ ?_
    refine jk_sn ?_
    refine jn_ret ?_
    refine jk_br (jk_sr (jk_lr (jk_br (jk_sr ?_))))
    exact jk_ret1 rfl (fun w hs => .tmp rfl) (fun w hs => ⟨rfl, hs.drop⟩)
  refine jg_y (fun w hs => yv_fieldAddr rfl) rfl rfl ?_
  refine jg_y (fun w hs => yv_load rfl (ld1B (hs.blkL (i := 0) rfl) rfl)) rfl rfl ?_
  refine jg_y (fun w hs => yv_gtr rfl rfl) rfl rfl ?_
  refine jg_y (fun w hs => yv_pick_f rfl rfl) rfl rfl ?_
  refine jg_nils [(0, _), (3, _), (70, _)] ⟨rfl, rfl, rfl, trivial⟩ ?_
  refine jk_sn ?_
  refine jn_cond rfl ?_ ?_
  · refine jn_seq ?_
    refine jn_reg 8 ?_
    refine jg_as rfl rfl rfl ?_
    refine jg_nils [(2, _)] ⟨rfl, trivial⟩ ?_
    refine jk_sn ?_
    refine jn_ret ?_
    refine jk_br (jk_sr (jk_lr (jk_br (jk_sr ?_))))
    exact jk_ret1 rfl (fun w hs => .tmp rfl) (fun w hs => ⟨rfl, hs.drop⟩)
  refine jn_skip ?_
  refine jk_bn (jk_sn ?_)
  refine jn_reg 5 ?_
  refine jg_mv rfl rfl rfl ?_
  refine jg_y (fun w hs => yv_add_w rfl rfl) rfl rfl ?_
  refine jg_as rfl rfl rfl ?_
  refine jg_nils [(0, _), (3, _)] ⟨rfl, rfl, trivial⟩ ?_
  exact jk_use H4 (w64 (z1 + 1)) () [] ⟨rfl, rfl, trivial⟩ rfl rfl rfl
theorem r32_Shorten_c {w : World} {a0 : (List Piece)} {a1 : Int} {ha0 : Hd} {v : ((List Piece) × Int)} (hm : r32_Shorten a0 a1 = some v) (Rha0 : Sl w ha0 Piece.enc a0) : Calls Try.prog 39 ([ha0.v, .int .i64 a1] : List Value).toArray w (fun e w' => ∃ g : Hd, e = .returned (.tuple #[g.v, .int .i64 v.2]) ∧ St w w' [] [(rowH g 43 5 Piece.enc v.1)]) := by
  refine j_enter (vs := [ha0.v, .int .i64 a1]) (R := fun (v : ((List Piece) × Int)) (e : Ending) (w' : World) => ∃ g : Hd, e = .returned (.tuple #[g.v, .int .i64 v.2]) ∧ St w w' [] [(rowH g 43 5 Piece.enc v.1)]) Try.func39 rfl Try.ntmps39 rfl rfl (St.refl w) hm ?_
  unfold r32_Shorten
  clear hm
  refine jn_seq ?_
  refine jn_reg 0 ?_
  refine jg_as rfl rfl rfl ?_
  refine jg_as rfl rfl rfl ?_
  refine jg_nils [(0, _), (1, _)] ⟨rfl, rfl, trivial⟩ ?_
  refine jk_sn ?_
  refine jn_seq ?_
  refine jn_seq ?_
  refine jn_reg 1 ?_
  refine jg_mv rfl rfl rfl ?_
  refine jg_c0 rfl (fun v w hs hm => r20_Valid_c hm (hs.arg Rha0)) rfl rfl fun v1 => ?_
  refine jg_as rfl rfl rfl ?_
  refine jg_nils [(0, _), (1, _), (6, _)] ⟨rfl, rfl, rfl, trivial⟩ ?_
  refine jk_sn ?_
  refine jn_seq ?_
  refine jn_reg 2 ?_
  refine jg_mv rfl rfl rfl ?_
  refine jg_y (fun w hs => yv_neq rfl rfl) rfl rfl ?_
  refine jg_nils [(0, _), (1, _), (6, _), (12, _)] ⟨rfl, rfl, rfl, rfl, trivial⟩ ?_
  refine jk_sn ?_
  refine jn_cond rfl ?_ ?_
  · refine jn_seq ?_
    refine jn_reg 3 ?_
    refine jg_mv rfl rfl rfl ?_
    refine jg_as rfl rfl rfl ?_
    refine jg_as rfl rfl rfl ?_
    refine jg_nils [(4, _), (5, _)] ⟨rfl, rfl, trivial⟩ ?_
    refine jk_sn ?_
    refine jn_ret ?_
    refine jk_sr ?_
    refine jk_addnil 43 5 Piece.enc ?_
    exact jk_ret2 rfl (fun w hs => .tmp rfl) (fun w hs => .tmp rfl) (fun w hs => ⟨(Hd.mk none 0 0), rfl, hs.sel (is := [0]) rfl rfl⟩)
  refine jn_skip ?_
  refine jk_sn ?_
  refine jn_seq ?_
  refine jn_reg 4 ?_
  refine jg_mv rfl rfl rfl ?_
  refine jg_y (fun w hs => yv_ln rfl (hs.arg Rha0)) rfl rfl ?_
  refine jg_y (fun w hs => yv_sub_w rfl rfl) rfl rfl ?_
  refine jg_as rfl rfl rfl ?_
  refine jg_nils [(0, _), (1, _), (7, _)] ⟨rfl, rfl, rfl, trivial⟩ ?_
  refine jk_sn ?_
  refine jn_seq ?_
  refine jn_seq ?_
  refine jn_reg 5 ?_
  refine jg_mv rfl rfl rfl ?_
  refine jg_y (fun w hs => yv_lss rfl rfl) rfl rfl ?_
  refine jg_mv rfl rfl rfl ?_
  refine jg_split 19 rfl ?_ ?_
  · refine jg_skip rfl rfl ?_
    refine jg_skip rfl rfl ?_
    refine jg_skip rfl rfl ?_
    refine jg_skip rfl rfl ?_
    refine jg_skip rfl rfl ?_
    refine jg_skip rfl rfl ?_
    refine jg_skip rfl rfl ?_
    refine jg_y (fun w hs => yv_pick_t rfl rfl) rfl rfl ?_
    refine jg_nils [(0, _), (1, _), (7, _), (27, _)] ⟨rfl, rfl, rfl, rfl, trivial⟩ ?_
    refine jk_sn ?_
    refine jn_ct rfl ?_
    refine jn_seq ?_
    refine jn_reg 6 ?_
    refine jg_as rfl rfl rfl ?_
    refine jg_as rfl rfl rfl ?_
    refine jg_nils [(4, _), (5, _)] ⟨rfl, rfl, trivial⟩ ?_
    refine jk_sn ?_
    refine jn_ret ?_
    refine jk_sr ?_
    refine jk_addnil 43 5 Piece.enc ?_
    exact jk_ret2 rfl (fun w hs => .tmp rfl) (fun w hs => .tmp rfl) (fun w hs => ⟨(Hd.mk none 0 0), rfl, hs.sel (is := [0]) rfl rfl⟩)
  refine jg_mv rfl rfl rfl ?_
  refine jg_mv rfl rfl rfl ?_
  refine jg_mv rfl rfl rfl ?_
  refine jg_ix fun x2 h3 => ?_
  refine jg_y (fun w hs => yv_ix rfl rfl (hs.arg Rha0) h3) rfl rfl ?_
  refine jg_y (fun w hs => yv_ef rfl (hs.arg Rha0) h3.1) rfl rfl ?_
  refine jg_y (fun w hs => yv_e1 rfl (hs.arg Rha0) h3.1 rfl) rfl rfl ?_
  refine jg_y (fun w hs => yv_gtr rfl rfl) rfl rfl ?_
  refine jg_y (fun w hs => yv_pick_f rfl rfl) rfl rfl ?_
  refine jg_nils [(0, _), (1, _), (7, _), (27, _)] ⟨rfl, rfl, rfl, rfl, trivial⟩ ?_
  refine jk_sn ?_
  refine jn_cond rfl ?_ ?_
  · refine jn_seq ?_
    refine jn_reg 6 ?_
    refine jg_as rfl rfl rfl ?_
    refine jg_as rfl rfl rfl ?_
    refine jg_nils [(4, _), (5, _)] ⟨rfl, rfl, trivial⟩ ?_
    refine jk_sn ?_
    refine jn_ret ?_
    refine jk_sr ?_
    refine jk_addnil 43 5 Piece.enc ?_
    exact jk_ret2 rfl (fun w hs => .tmp rfl) (fun w hs => .tmp rfl) (fun w hs => ⟨(Hd.mk none 0 0), rfl, hs.sel (is := [0]) rfl rfl⟩)
  refine jn_skip ?_
  refine jk_sn ?_
  refine jn_seq ?_
  refine jn_reg 7 ?_
  refine jg_lit0 (enc := Piece.enc) rfl rfl fun hd4 => ?_
  refine jg_mv rfl rfl rfl ?_
  refine jg_append 0 rfl rfl rfl (fun w hs => (hs.arg Rha0)) rfl rfl rfl fun y5 hd6 => ?_
  refine jg_L (r1 rfl) ?_
  refine jg_as rfl rfl rfl ?_
  refine jg_nils [(1, _), (7, _), (8, _)] ⟨rfl, rfl, rfl, trivial⟩ ?_
  refine jk_sn ?_
  refine jn_seq ?_
  refine jn_reg 8 ?_
  refine jg_mv rfl rfl rfl ?_
  refine jg_mv rfl rfl rfl ?_
  refine jg_mv rfl rfl rfl ?_
  refine jg_ix fun x7 h8 => ?_
  refine jg_y (fun w hs => yv_ix rfl rfl (hs.row 0 rfl) h8) rfl rfl ?_
  refine jg_y (fun w hs => yv_ef rfl (hs.row 0 rfl) h8.1) rfl rfl ?_
  refine jg_storeE 0 (a' := (Piece.mk x7.Element a1 x7.Grade x7.Curve x7.Power)) rfl rfl h8.1 rfl (l1 rfl) rfl rfl rfl rfl fun y9 => ?_
  refine jg_L (r1 rfl) ?_
  refine jg_nils [(8, _)] ⟨rfl, trivial⟩ ?_
  refine jk_sn ?_
  refine jn_seq ?_
  refine jn_reg 9 ?_
  refine jg_mv rfl rfl rfl ?_
  refine jg_as rfl rfl rfl ?_
  refine jg_as rfl rfl rfl ?_
  refine jg_nils [(4, _), (5, _)] ⟨rfl, rfl, trivial⟩ ?_
  refine jk_sn ?_
  refine jn_ret ?_
  exact jk_ret2 rfl (fun w hs => .tmp rfl) (fun w hs => .tmp rfl) (fun w hs => ⟨hd6, rfl, hs.sel (is := [0]) rfl rfl⟩)
theorem interval_inside_c {w : World} {a0 : Int}  {v : Bool} (hm : interval_inside a0 = some v) : Gives Try.prog 77 [.int .i64 a0] w (.bool v) := by
  refine j_gives (vs := [.int .i64 a0]) (U := fun (v : Bool) => .bool v) Try.func77 rfl Try.ntmps77 rfl rfl hm ?_
  unfold interval_inside
  clear hm
  refine jn_seq ?_
  refine jn_reg 0 ?_
  refine jg_as rfl rfl rfl ?_
  refine jg_nils [(0, _)] ⟨rfl, trivial⟩ ?_
  refine jk_sn ?_
  refine jn_seq ?_
  refine jn_reg 1 ?_
  refine jg_mv rfl rfl rfl ?_
  refine jg_y (fun w hs => yv_geq rfl rfl) rfl rfl ?_
  refine jg_mv rfl rfl rfl ?_
  refine jg_split 5 rfl ?_ ?_
  · refine jg_mv rfl rfl rfl ?_
    refine jg_y (fun w hs => yv_leq rfl rfl) rfl rfl ?_
    refine jg_y (fun w hs => yv_pick_t rfl rfl) rfl rfl ?_
    refine jg_as rfl rfl rfl ?_
    refine jg_nils [(2, _)] ⟨rfl, trivial⟩ ?_
    refine jk_sn ?_
    refine jn_ret ?_
    exact jk_ret1 rfl (fun w hs => .tmp rfl) (fun w hs => ⟨rfl, hs.drop⟩)
  refine jg_skip rfl rfl ?_
  refine jg_skip rfl rfl ?_
  refine jg_y (fun w hs => yv_pick_f rfl rfl) rfl rfl ?_
  refine jg_as rfl rfl rfl ?_
  refine jg_nils [(2, _)] ⟨rfl, trivial⟩ ?_
  refine jk_sn ?_
  refine jn_ret ?_
  exact jk_ret1 rfl (fun w hs => .tmp rfl) (fun w hs => ⟨rfl, hs.drop⟩)
theorem interval_Valid_c {w : World} {a0 : Interval}  {v : Bool} (hm : interval_Valid a0 = some v) : Gives Try.prog 71 [.agg #[.int .i64 a0.Lo, .int .i64 a0.Hi]] w (.bool v) := by
  refine j_gives (vs := [.agg #[.int .i64 a0.Lo, .int .i64 a0.Hi]]) (U := fun (v : Bool) => .bool v) Try.func71 rfl Try.ntmps71 rfl rfl hm ?_
  unfold interval_Valid
  clear hm
  refine jn_seq ?_
  refine jn_reg 0 ?_
  refine jg_box rfl (l2 rfl) rfl rfl fun g1 => ?_
  refine jg_as rfl rfl rfl ?_
  refine jg_nils [(1, _)] ⟨rfl, trivial⟩ ?_
  refine jk_sn ?_
  refine jn_seq ?_
  refine jn_reg 1 ?_
  refine jg_y (fun w hs => yv_fieldAddr rfl) rfl rfl ?_
  refine jg_y (fun w hs => yv_load rfl (ld1B (hs.blkL (i := 0) rfl) rfl)) rfl rfl ?_
  refine jg_y (fun w hs => yv_fieldAddr rfl) rfl rfl ?_
  refine jg_y (fun w hs => yv_load rfl (ld1B (hs.blkL (i := 0) rfl) rfl)) rfl rfl ?_
  refine jg_y (fun w hs => yv_leq rfl rfl) rfl rfl ?_
  refine jg_mv rfl rfl rfl ?_
  refine jg_split 8 rfl ?_ ?_
  rotate_left
  · refine jg_skip rfl rfl ?_
    refine jg_skip rfl rfl ?_
    refine jg_skip rfl rfl ?_
    refine jg_y (fun w hs => yv_pick_f rfl rfl) rfl rfl ?_
    refine jg_mv rfl rfl rfl ?_
    refine jg_skip rfl rfl ?_
    refine jg_skip rfl rfl ?_
    refine jg_skip rfl rfl ?_
    refine jg_y (fun w hs => yv_pick_f rfl rfl) rfl rfl ?_
    refine jg_as rfl rfl rfl ?_
    refine jg_nils [(2, _)] ⟨rfl, trivial⟩ ?_
    refine jk_sn ?_
    refine jn_ret ?_
    exact jk_ret1 rfl (fun w hs => .tmp rfl) (fun w hs => ⟨rfl, hs.drop⟩)
  refine jg_y (fun w hs => yv_fieldAddr rfl) rfl rfl ?_
  refine jg_y (fun w hs => yv_load rfl (ld1B (hs.blkL (i := 0) rfl) rfl)) rfl rfl ?_
  refine jg_c0 rfl (fun v w hs hm => interval_inside_c hm ) rfl rfl fun v2 => ?_
  refine jg_y (fun w hs => yv_pick_t rfl rfl) rfl rfl ?_
  refine jg_mv rfl rfl rfl ?_
  refine jg_split 13 rfl ?_ ?_
  · refine jg_y (fun w hs => yv_fieldAddr rfl) rfl rfl ?_
    refine jg_y (fun w hs => yv_load rfl (ld1B (hs.blkL (i := 0) rfl) rfl)) rfl rfl ?_
    refine jg_c0 rfl (fun v w hs hm => interval_inside_c hm ) rfl rfl fun v3 => ?_
    refine jg_y (fun w hs => yv_pick_t rfl rfl) rfl rfl ?_
    refine jg_as rfl rfl rfl ?_
    refine jg_nils [(2, _)] ⟨rfl, trivial⟩ ?_
    refine jk_sn ?_
    refine jn_ret ?_
    exact jk_ret1 rfl (fun w hs => .tmp rfl) (fun w hs => ⟨rfl, hs.drop⟩)
  refine jg_skip rfl rfl ?_
  refine jg_skip rfl rfl ?_
  refine jg_skip rfl rfl ?_
  refine jg_y (fun w hs => yv_pick_f rfl rfl) rfl rfl ?_
  refine jg_as rfl rfl rfl ?_
  refine jg_nils [(2, _)] ⟨rfl, trivial⟩ ?_
  refine jk_sn ?_
  refine jn_ret ?_
  exact jk_ret1 rfl (fun w hs => .tmp rfl) (fun w hs => ⟨rfl, hs.drop⟩)
theorem runoff_retarders_c {w : World} {a0 : (List Piece)} {ha0 : Hd} {v : Int} (hm : runoff_retarders a0 = some v) (Rha0 : Sl w ha0 Piece.enc a0) : Gives Try.prog 72 [ha0.v] w (.int .i64 v) := by
  refine j_gives (vs := [ha0.v]) (U := fun (v : Int) => .int .i64 v) Try.func72 rfl Try.ntmps72 rfl rfl hm ?_
  unfold runoff_retarders
  clear hm
  refine jn_seq ?_
  refine jn_reg 0 ?_
  refine jg_as rfl rfl rfl ?_
  refine jg_nils [(0, _)] ⟨rfl, trivial⟩ ?_
  refine jk_sn ?_
  refine jn_seq ?_
  refine jn_reg 1 ?_
  refine jg_as rfl rfl rfl ?_
  refine jg_nils [(0, _), (3, _)] ⟨rfl, rfl, trivial⟩ ?_
  refine jk_sn ?_
  refine jn_seq ?_
  refine jn_seq ?_
  refine jn_reg 2 ?_
  refine jg_mv rfl rfl rfl ?_
  refine jg_y (fun w hs => yv_ln rfl (hs.arg Rha0)) rfl rfl ?_
  refine jg_mv rfl rfl rfl ?_
  refine jg_nils [(3, _), (6, _), (7, _), (8, _)] ⟨rfl, rfl, rfl, rfl, trivial⟩ ?_
  refine jk_sn ?_
  refine jn_block ?_
  refine jn_lp (n := big) (fun (s : (Int × Int)) (g : Unit) => [(3, .int .i64 s.1), (6, ha0.v), (7, .int .i64 (a0.length : Int)), (8, .int .i64 s.2)]) (fun (s : (Int × Int)) (g : Unit) => []) (fun (s : (Int × Int)) (g : Unit) => []) (0, 0) () [] ⟨rfl, rfl, rfl, rfl, trivial⟩ rfl rfl rfl ?_
  intro z1 q2 n5 k3 H4
  refine jn_seq ?_
  refine jn_reg 3 ?_
  refine jg_y (fun w hs => yv_lss rfl rfl) rfl rfl ?_
  refine jg_nils [(3, _), (6, _), (7, _), (8, _), (9, _)] ⟨rfl, rfl, rfl, rfl, rfl, trivial⟩ ?_
  refine jk_sn ?_
  refine jn_seq ?_
  refine jn_cond rfl ?_ ?_
  rotate_left
  · refine jn_exit ?_
    refine jk_se (jk_le (jk_bh (jk_sn ?_)))
    refine jn_seq ?_
    refine jn_reg 8 ?_
    refine jg_mv rfl rfl rfl ?_
    refine jg_as rfl rfl rfl ?_
    refine jg_nils [(2, _)] ⟨rfl, trivial⟩ ?_
    refine jk_sn ?_
    refine jn_ret ?_
    exact jk_ret1 rfl (fun w hs => .tmp rfl) (fun w hs => ⟨rfl, hs.drop⟩)
  refine jn_skip ?_
  refine jk_sn ?_
  refine jn_seq ?_
  refine jn_block ?_
  refine jn_seq ?_
  refine jn_reg 4 ?_
  refine jg_ix fun x6 h7 => ?_
  refine jg_y (fun w hs => yv_ix rfl rfl (hs.arg Rha0) h7) rfl rfl ?_
  refine jg_y (fun w hs => yv_eS rfl (hs.arg Rha0) h7.1 (l5 rfl) rfl) rfl rfl ?_
  refine jg_alloc (l5 rfl) rfl rfl fun g8 => ?_
  refine jg_store 0 rfl rfl rfl (l5 rfl) rfl rfl rfl rfl (l5 rfl) (r1 rfl) ?_
  refine jg_nils [(3, _), (5, _), (6, _), (7, _), (8, _)] ⟨rfl, rfl, rfl, rfl, rfl, trivial⟩ ?_
  refine jk_sn ?_
  refine jn_seq ?_
  refine jn_reg 5 ?_
  refine jg_y (fun w hs => yv_fieldAddr rfl) rfl rfl ?_
  refine jg_y (fun w hs => yv_load rfl (ld1B (hs.blkL (i := 0) rfl) rfl)) rfl rfl ?_
  refine jg_y (fun w hs => yv_gtr rfl rfl) rfl rfl ?_
  refine jg_nils [(3, _), (6, _), (7, _), (8, _), (14, _)] ⟨rfl, rfl, rfl, rfl, rfl, trivial⟩ ?_
  refine jk_sn ?_
  refine jn_cond rfl ?_ ?_
  rotate_left
  · refine jn_skip ?_
    refine jk_bn (jk_sn ?_)
    refine jn_reg 7 ?_
    refine jg_y (fun w hs => yv_add_w rfl rfl) rfl rfl ?_
    refine jg_mv rfl rfl rfl ?_
    refine jg_nils [(3, _), (6, _), (7, _), (8, _)] ⟨rfl, rfl, rfl, rfl, trivial⟩ ?_
    exact jk_use H4 (z1.1, w64 (z1.2 + 1)) () [] ⟨rfl, rfl, rfl, rfl, trivial⟩ rfl rfl rfl
  refine jn_reg 6 ?_
  refine jg_mv rfl rfl rfl ?_
  refine jg_y (fun w hs => yv_add_w rfl rfl) rfl rfl ?_
  refine jg_as rfl rfl rfl ?_
  refine jg_nils [(3, _), (6, _), (7, _), (8, _)] ⟨rfl, rfl, rfl, rfl, trivial⟩ ?_
  refine jk_bn (jk_sn ?_)
  refine jn_reg 7 ?_
  refine jg_y (fun w hs => yv_add_w rfl rfl) rfl rfl ?_
  refine jg_mv rfl rfl rfl ?_
  refine jg_nils [(3, _), (6, _), (7, _), (8, _)] ⟨rfl, rfl, rfl, rfl, trivial⟩ ?_
  exact jk_use H4 (w64 (z1.1 + 1), w64 (z1.2 + 1)) () [] ⟨rfl, rfl, rfl, rfl, trivial⟩ rfl rfl rfl
theorem runoff_targets_c {w : World} {a0 : (List Int)} {ha0 : Hd} {v : Bool} (hm : runoff_targets a0 = some v) (Rha0 : Sl w ha0 encI a0) : Gives Try.prog 73 [ha0.v] w (.bool v) := by
  refine j_gives (vs := [ha0.v]) (U := fun (v : Bool) => .bool v) Try.func73 rfl Try.ntmps73 rfl rfl hm ?_
  unfold runoff_targets
  clear hm
  refine jn_seq ?_
  refine jn_reg 0 ?_
  refine jg_as rfl rfl rfl ?_
  refine jg_nils [(0, _)] ⟨rfl, trivial⟩ ?_
  refine jk_sn ?_
  refine jn_seq ?_
  refine jn_seq ?_
  refine jn_reg 1 ?_
  refine jg_mv rfl rfl rfl ?_
  refine jg_y (fun w hs => yv_ln rfl (hs.arg Rha0)) rfl rfl ?_
  refine jg_mv rfl rfl rfl ?_
  refine jg_nils [(5, _), (6, _), (7, _)] ⟨rfl, rfl, rfl, trivial⟩ ?_
  refine jk_sn ?_
  refine jn_block ?_
  refine jn_lp (n := big) (fun (s : Int) (g : Unit) => [(5, ha0.v), (6, .int .i64 (a0.length : Int)), (7, .int .i64 s)]) (fun (s : Int) (g : Unit) => []) (fun (s : Int) (g : Unit) => []) 0 () [] ⟨rfl, rfl, rfl, trivial⟩ rfl rfl rfl ?_
  intro z1 q2 n5 k3 H4
  refine jn_seq ?_
  refine jn_reg 2 ?_
  refine jg_y (fun w hs => yv_lss rfl rfl) rfl rfl ?_
  refine jg_nils [(5, _), (6, _), (7, _), (8, _)] ⟨rfl, rfl, rfl, rfl, trivial⟩ ?_
  refine jk_sn ?_
  refine jn_seq ?_
  refine jn_cond rfl ?_ ?_
  rotate_left
  · refine jn_exit ?_
    refine jk_se (jk_le (jk_bh (jk_sn ?_)))
    refine jn_seq ?_
    refine jn_reg 7 ?_
    refine jg_as rfl rfl rfl ?_
    refine jg_nils [(2, _)] ⟨rfl, trivial⟩ ?_
    refine jk_sn ?_
    refine jn_ret ?_
    exact jk_ret1 rfl (fun w hs => .tmp rfl) (fun w hs => ⟨rfl, hs.drop⟩)
  refine jn_skip ?_
  refine jk_sn ?_
  refine jn_seq ?_
  refine jn_block ?_
  refine jn_seq ?_
  refine jn_reg 3 ?_
  refine jg_ix fun x6 h7 => ?_
  refine jg_y (fun w hs => yv_ix rfl rfl (hs.arg Rha0) h7) rfl rfl ?_
  refine jg_y (fun w hs => yv_e1 rfl (hs.arg Rha0) h7.1 rfl) rfl rfl ?_
  refine jg_as rfl rfl rfl ?_
  refine jg_nils [(4, _), (5, _), (6, _), (7, _)] ⟨rfl, rfl, rfl, rfl, trivial⟩ ?_
  refine jk_sn ?_
  refine jn_seq ?_
  refine jn_reg 4 ?_
  refine jg_mv rfl rfl rfl ?_
  refine jg_c0 rfl (fun v w hs hm => runoff_in_c hm ) rfl rfl fun v8 => ?_
  refine jg_y (fun w hs => yv_not rfl) rfl rfl ?_
  refine jg_nils [(5, _), (6, _), (7, _), (13, _)] ⟨rfl, rfl, rfl, rfl, trivial⟩ ?_
  refine jk_sn ?_
  refine jn_cond rfl ?_ ?_
  rotate_left
  · refine jn_skip ?_
    refine jk_bn (jk_sn ?_)
    refine jn_reg 6 ?_
    refine jg_y (fun w hs => yv_add_w rfl rfl) rfl rfl ?_
    refine jg_mv rfl rfl rfl ?_
    refine jg_nils [(5, _), (6, _), (7, _)] ⟨rfl, rfl, rfl, trivial⟩ ?_
    exact jk_use H4 (w64 (z1 + 1)) () [] ⟨rfl, rfl, rfl, trivial⟩ rfl rfl rfl
  refine jn_seq ?_
  refine jn_reg 5 ?_
  refine jg_as rfl rfl rfl ?_
  refine jg_nils [(2, _)] ⟨rfl, trivial⟩ ?_
  refine jk_sn ?_
  refine jn_ret ?_
  refine jk_br (jk_sr (jk_lr (jk_br (jk_sr ?_))))
  exact jk_ret1 rfl (fun w hs => .tmp rfl) (fun w hs => ⟨rfl, hs.drop⟩)
theorem runoff_check_c {w : World} {a0 : (List Piece)} {a1 : Motion} {ha0 : Hd} {ha1_Class : Hd} {ha1_Targets : Hd} {v : Int} (hm : runoff_check a0 a1 = some v) (Rha0 : Sl w ha0 Piece.enc a0) (Rha1_Class : Sl w ha1_Class Interval.enc a1.Class) (Rha1_Targets : Sl w ha1_Targets encI a1.Targets) : Gives Try.prog 64 [ha0.v, .agg #[.int .i64 a1.Speed.Lo, .int .i64 a1.Speed.Hi, ha1_Class.v, .int .i64 a1.Error, ha1_Targets.v]] w (.int .i64 v) := by
  refine j_gives (vs := [ha0.v, .agg #[.int .i64 a1.Speed.Lo, .int .i64 a1.Speed.Hi, ha1_Class.v, .int .i64 a1.Error, ha1_Targets.v]]) (U := fun (v : Int) => .int .i64 v) Try.func64 rfl Try.ntmps64 rfl rfl hm ?_
  unfold runoff_check
  clear hm
  refine jn_seq ?_
  refine jn_reg 0 ?_
  refine jg_box rfl (l5 rfl) rfl rfl fun g1 => ?_
  refine jg_as rfl rfl rfl ?_
  refine jg_nils [(0, _), (3, _)] ⟨rfl, rfl, trivial⟩ ?_
  refine jk_sn ?_
  refine jn_seq ?_
  refine jn_seq ?_
  refine jn_reg 1 ?_
  refine jg_mv rfl rfl rfl ?_
  refine jg_c0 rfl (fun v w hs hm => runoff_Valid_c hm (hs.arg Rha0)) rfl rfl fun v2 => ?_
  refine jg_as rfl rfl rfl ?_
  refine jg_nils [(0, _), (3, _), (5, _)] ⟨rfl, rfl, rfl, trivial⟩ ?_
  refine jk_sn ?_
  refine jn_seq ?_
  refine jn_reg 2 ?_
  refine jg_mv rfl rfl rfl ?_
  refine jg_y (fun w hs => yv_neq rfl rfl) rfl rfl ?_
  refine jg_nils [(0, _), (3, _), (5, _), (13, _)] ⟨rfl, rfl, rfl, rfl, trivial⟩ ?_
  refine jk_sn ?_
  refine jn_cond rfl ?_ ?_
  · refine jn_seq ?_
    refine jn_reg 3 ?_
    refine jg_mv rfl rfl rfl ?_
    refine jg_as rfl rfl rfl ?_
    refine jg_nils [(4, _)] ⟨rfl, trivial⟩ ?_
    refine jk_sn ?_
    refine jn_ret ?_
    refine jk_sr ?_
    exact jk_ret1 rfl (fun w hs => .tmp rfl) (fun w hs => ⟨rfl, hs.drop⟩)
  refine jn_skip ?_
  refine jk_sn ?_
  refine jn_seq ?_
  refine jn_seq ?_
  refine jn_draw (L' := [_]) 4 [0] [0, 1, 2, 3, 4, 5, 6, 7, 8, 9, 10, 11, 12, 13, 14, 15, 16, 17, 18, 19] 1048575 1048575 [0, 1, 2, 4, 12, 16, 48, 80, 16, 272, 656, 1040, 2064, 4096, 12288, 20480, 4096, 69632, 167936, 266240] [0, 1, 3, 7, 15, 31, 63, 127, 31, 287, 1023, 2047, 4095, 8191, 16383, 32767, 8191, 73727, 262143, 524287] [(0, true), (1, true), (2, true), (3, true), (4, true), (5, true), (6, true), (7, true), (8, true), (9, true), (10, true), (11, true), (12, true), (13, true), (14, true), (15, true), (16, true), (17, true), (18, true), (19, true)] rfl (np_seq (np_seq np_rt)) (by kernel_rfl) (by kernel_rfl) (by kernel_rfl) (by kernel_rfl) (by kernel_rfl) (by kernel_rfl) (by kernel_rfl) (by kernel_rfl) ?_
  refine jd_y rfl (fun w hs => yv_fieldAddr rfl) rfl rfl ?_
  refine jd_y rfl (fun w hs => yv_load rfl (ldPB (hs.blk (i := 0) rfl) (l2 rfl) rfl)) rfl rfl ?_
  refine jd_c0 rfl rfl (fun v w hs hm => interval_Valid_c (a0 := a1.Speed) hm ) rfl rfl fun v3 => ?_
  refine jd_y rfl (fun w hs => yv_not rfl) rfl rfl ?_
  refine jd_mv rfl rfl rfl rfl ?_
  refine jd_split 19 rfl ?_ ?_
  · refine jd_skip rfl rfl rfl ?_
    refine jd_skip rfl rfl rfl ?_
    refine jd_skip rfl rfl rfl ?_
    refine jd_skip rfl rfl rfl ?_
    refine jd_skip rfl rfl rfl ?_
    refine jd_skip rfl rfl rfl ?_
    refine jd_y rfl (fun w hs => yv_pick_t rfl rfl) rfl rfl ?_
    refine jd_mv rfl rfl rfl rfl ?_
    refine jd_skip rfl rfl rfl ?_
    refine jd_skip rfl rfl rfl ?_
    refine jd_skip rfl rfl rfl ?_
    refine jd_skip rfl rfl rfl ?_
    refine jd_skip rfl rfl rfl ?_
    refine jd_skip rfl rfl rfl ?_
    refine jd_y rfl (fun w hs => yv_pick_t rfl rfl) rfl rfl ?_
    refine jd_nils [(3, _), (34, _)] ⟨rfl, rfl, trivial⟩ ?_
    refine jk_sn ?_
    refine jn_ct rfl ?_
    refine jn_seq ?_
    refine jn_reg 5 ?_
    refine jg_as rfl rfl rfl ?_
    refine jg_nils [(4, _)] ⟨rfl, trivial⟩ ?_
    refine jk_sn ?_
    refine jn_ret ?_
    refine jk_sr ?_
    exact jk_ret1 rfl (fun w hs => .tmp rfl) (fun w hs => ⟨rfl, hs.drop⟩)
  refine jd_y rfl (fun w hs => yv_fieldAddr rfl) rfl rfl ?_
  refine jd_y rfl (fun w hs => yv_load rfl (ld1B (hs.blk (i := 0) rfl) rfl)) rfl rfl ?_
  refine jd_y rfl (fun w hs => yv_ln rfl (hs.arg Rha1_Class)) rfl rfl ?_
  refine jd_mv rfl rfl rfl rfl ?_
  refine jd_y rfl (fun w hs => yv_ln rfl (hs.arg Rha0)) rfl rfl ?_
  refine jd_y rfl (fun w hs => yv_neq rfl rfl) rfl rfl ?_
  refine jd_y rfl (fun w hs => yv_pick_f rfl rfl) rfl rfl ?_
  refine jd_mv rfl rfl rfl rfl ?_
  refine jd_split 27 rfl ?_ ?_
  · refine jd_skip rfl rfl rfl ?_
    refine jd_skip rfl rfl rfl ?_
    refine jd_skip rfl rfl rfl ?_
    refine jd_skip rfl rfl rfl ?_
    refine jd_skip rfl rfl rfl ?_
    refine jd_skip rfl rfl rfl ?_
    refine jd_y rfl (fun w hs => yv_pick_t rfl rfl) rfl rfl ?_
    refine jd_nils [(3, _), (34, _)] ⟨rfl, rfl, trivial⟩ ?_
    refine jk_sn ?_
    refine jn_ct rfl ?_
    refine jn_seq ?_
    refine jn_reg 5 ?_
    refine jg_as rfl rfl rfl ?_
    refine jg_nils [(4, _)] ⟨rfl, trivial⟩ ?_
    refine jk_sn ?_
    refine jn_ret ?_
    refine jk_sr ?_
    exact jk_ret1 rfl (fun w hs => .tmp rfl) (fun w hs => ⟨rfl, hs.drop⟩)
  refine jd_y rfl (fun w hs => yv_fieldAddr rfl) rfl rfl ?_
  refine jd_y rfl (fun w hs => yv_load rfl (ld1B (hs.blk (i := 0) rfl) rfl)) rfl rfl ?_
  refine jd_y rfl (fun w hs => yv_ln rfl (hs.arg Rha1_Targets)) rfl rfl ?_
  refine jd_mv rfl rfl rfl rfl ?_
  refine jd_c0 rfl rfl (fun v w hs hm => runoff_retarders_c hm (hs.arg Rha0)) rfl rfl fun v4 => ?_
  refine jd_y rfl (fun w hs => yv_neq rfl rfl) rfl rfl ?_
  refine jd_y rfl (fun w hs => yv_pick_f rfl rfl) rfl rfl ?_
  refine jd_nils [(3, _), (34, _)] ⟨rfl, rfl, trivial⟩ ?_
  refine jk_sn ?_
  refine jn_cond rfl ?_ ?_
  · refine jn_seq ?_
    refine jn_reg 5 ?_
    refine jg_as rfl rfl rfl ?_
    refine jg_nils [(4, _)] ⟨rfl, trivial⟩ ?_
    refine jk_sn ?_
    refine jn_ret ?_
    refine jk_sr ?_
    exact jk_ret1 rfl (fun w hs => .tmp rfl) (fun w hs => ⟨rfl, hs.drop⟩)
  refine jn_skip ?_
  refine jk_sn ?_
  refine jn_join (fun (s : Unit) (g : Unit) => [(3, .pointer (some ⟨g1, 0, none⟩))]) (fun (s : Unit) (g : Unit) => []) (fun (s : Unit) (g : Unit) => [(Res.blk g1 37 [.int .i64 a1.Speed.Lo, .int .i64 a1.Speed.Hi, ha1_Class.v, .int .i64 a1.Error, ha1_Targets.v])]) ?_ ?_
  rotate_left
  · intro k7 H8
    refine jn_seq ?_
    refine jn_reg 6 ?_
    refine jg_y (fun w hs => yv_fieldAddr rfl) rfl rfl ?_
    refine jg_y (fun w hs => yv_load rfl (ld1B (hs.blkL (i := 0) rfl) rfl)) rfl rfl ?_
    refine jg_y (fun w hs => yv_ln rfl (hs.arg Rha1_Class)) rfl rfl ?_
    refine jg_mv rfl rfl rfl ?_
    refine jg_nils [(3, _), (36, _), (37, _), (38, _)] ⟨rfl, rfl, rfl, rfl, trivial⟩ ?_
    refine jk_sn ?_
    refine jn_block ?_
    refine jn_lp (n := big) (fun (s : Int) (g : Unit) => [(3, .pointer (some ⟨g1, 0, none⟩)), (36, ha1_Class.v), (37, .int .i64 (a1.Class.length : Int)), (38, .int .i64 s)]) (fun (s : Int) (g : Unit) => []) (fun (s : Int) (g : Unit) => [(Res.blk g1 37 [.int .i64 a1.Speed.Lo, .int .i64 a1.Speed.Hi, ha1_Class.v, .int .i64 a1.Error, ha1_Targets.v])]) 0 () [0] ⟨rfl, rfl, rfl, rfl, trivial⟩ rfl rfl rfl ?_
    intro z23 q24 n27 k25 H26
    refine jn_seq ?_
    refine jn_reg 7 ?_
    refine jg_y (fun w hs => yv_lss rfl rfl) rfl rfl ?_
    refine jg_nils [(3, _), (36, _), (37, _), (38, _), (39, _)] ⟨rfl, rfl, rfl, rfl, rfl, trivial⟩ ?_
    refine jk_sn ?_
    refine jn_seq ?_
    refine jn_cond rfl ?_ ?_
    rotate_left
    · refine jn_exit ?_
      refine jk_se (jk_le (jk_bh ?_))
      exact jk_use H8 () () [0] ⟨rfl, trivial⟩ rfl rfl rfl
    refine jn_skip ?_
    refine jk_sn ?_
    refine jn_seq ?_
    refine jn_block ?_
    refine jn_seq ?_
    refine jn_reg 8 ?_
    refine jg_ix fun x28 h29 => ?_
    refine jg_y (fun w hs => yv_ix rfl rfl (hs.arg Rha1_Class) h29) rfl rfl ?_
    refine jg_y (fun w hs => yv_eS rfl (hs.arg Rha1_Class) h29.1 (l2 rfl) rfl) rfl rfl ?_
    refine jg_alloc (l2 rfl) rfl rfl fun g30 => ?_
    refine jg_store 0 rfl rfl rfl (l2 rfl) rfl rfl rfl rfl (l2 rfl) (r2 rfl) ?_
    refine jg_nils [(3, _), (7, _), (36, _), (37, _), (38, _)] ⟨rfl, rfl, rfl, rfl, rfl, trivial⟩ ?_
    refine jk_sn ?_
    refine jn_seq ?_
    refine jn_reg 9 ?_
    refine jg_y (fun w hs => yv_load rfl (ldBB (hs.blkL (i := 0) rfl) rfl)) rfl rfl ?_
    refine jg_c0 rfl (fun v w hs hm => interval_Valid_c (a0 := x28) hm ) rfl rfl fun v31 => ?_
    refine jg_y (fun w hs => yv_not rfl) rfl rfl ?_
    refine jg_nils [(3, _), (36, _), (37, _), (38, _), (44, _)] ⟨rfl, rfl, rfl, rfl, rfl, trivial⟩ ?_
    refine jk_sn ?_
    refine jn_cond rfl ?_ ?_
    rotate_left
    · refine jn_skip ?_
      refine jk_bn (jk_sn ?_)
      refine jn_reg 11 ?_
      refine jg_y (fun w hs => yv_add_w rfl rfl) rfl rfl ?_
      refine jg_mv rfl rfl rfl ?_
      refine jg_nils [(3, _), (36, _), (37, _), (38, _)] ⟨rfl, rfl, rfl, rfl, trivial⟩ ?_
      exact jk_use H26 (w64 (z23 + 1)) () [1] ⟨rfl, rfl, rfl, rfl, trivial⟩ rfl rfl rfl
    refine jn_seq ?_
    refine jn_reg 10 ?_
    refine jg_as rfl rfl rfl ?_
    refine jg_nils [(4, _)] ⟨rfl, trivial⟩ ?_
    refine jk_sel (is := []) (s0 rfl) rfl ?_
    refine jk_sn ?_
    refine jn_ret ?_
    refine jk_br (jk_sr (jk_lr (jk_br (jk_sr ?_))))
    exact jk_ret1 rfl (fun w hs => .tmp rfl) (fun w hs => ⟨rfl, hs.drop⟩)
  intro z5 q6
  refine jn_join (fun (s : Unit) (g : Unit) => [(3, .pointer (some ⟨g1, 0, none⟩))]) (fun (s : Unit) (g : Unit) => []) (fun (s : Unit) (g : Unit) => [(Res.blk g1 37 [.int .i64 a1.Speed.Lo, .int .i64 a1.Speed.Hi, ha1_Class.v, .int .i64 a1.Error, ha1_Targets.v])]) ?_ ?_
  rotate_left
  · intro k11 H12
    refine jn_seq ?_
    refine jn_reg 12 ?_
    refine jg_y (fun w hs => yv_fieldAddr rfl) rfl rfl ?_
    refine jg_y (fun w hs => yv_load rfl (ld1B (hs.blkL (i := 0) rfl) rfl)) rfl rfl ?_
    refine jg_y (fun w hs => yv_ln rfl (hs.arg Rha1_Class)) rfl rfl ?_
    refine jg_mv rfl rfl rfl ?_
    refine jg_nils [(3, _), (47, _), (48, _), (49, _)] ⟨rfl, rfl, rfl, rfl, trivial⟩ ?_
    refine jk_sn ?_
    refine jn_block ?_
    refine jn_lp (n := big) (fun (s : Int) (g : Unit) => [(3, .pointer (some ⟨g1, 0, none⟩)), (47, ha1_Class.v), (48, .int .i64 (a1.Class.length : Int)), (49, .int .i64 s)]) (fun (s : Int) (g : Unit) => []) (fun (s : Int) (g : Unit) => [(Res.blk g1 37 [.int .i64 a1.Speed.Lo, .int .i64 a1.Speed.Hi, ha1_Class.v, .int .i64 a1.Error, ha1_Targets.v])]) 0 () [0] ⟨rfl, rfl, rfl, rfl, trivial⟩ rfl rfl rfl ?_
    intro z15 q16 n19 k17 H18
    refine jn_seq ?_
    refine jn_reg 13 ?_
    refine jg_y (fun w hs => yv_lss rfl rfl) rfl rfl ?_
    refine jg_nils [(3, _), (47, _), (48, _), (49, _), (50, _)] ⟨rfl, rfl, rfl, rfl, rfl, trivial⟩ ?_
    refine jk_sn ?_
    refine jn_seq ?_
    refine jn_cond rfl ?_ ?_
    rotate_left
    · refine jn_exit ?_
      refine jk_se (jk_le (jk_bh ?_))
      exact jk_use H12 () () [0] ⟨rfl, trivial⟩ rfl rfl rfl
    refine jn_skip ?_
    refine jk_sn ?_
    refine jn_seq ?_
    refine jn_block ?_
    refine jn_seq ?_
    refine jn_reg 14 ?_
    refine jg_ix fun x20 h21 => ?_
    refine jg_y (fun w hs => yv_ix rfl rfl (hs.arg Rha1_Class) h21) rfl rfl ?_
    refine jg_y (fun w hs => yv_eS rfl (hs.arg Rha1_Class) h21.1 (l2 rfl) rfl) rfl rfl ?_
    refine jg_alloc (l2 rfl) rfl rfl fun g22 => ?_
    refine jg_store 0 rfl rfl rfl (l2 rfl) rfl rfl rfl rfl (l2 rfl) (r2 rfl) ?_
    refine jg_nils [(3, _), (9, _), (47, _), (48, _), (49, _)] ⟨rfl, rfl, rfl, rfl, rfl, trivial⟩ ?_
    refine jk_sn ?_
    refine jn_seq ?_
    refine jn_reg 15 ?_
    refine jg_y (fun w hs => yv_fieldAddr rfl) rfl rfl ?_
    refine jg_y (fun w hs => yv_load rfl (ld1B (hs.blkL (i := 0) rfl) rfl)) rfl rfl ?_
    refine jg_y (fun w hs => yv_lss rfl rfl) rfl rfl ?_
    refine jg_mv rfl rfl rfl ?_
    refine jg_split 56 rfl ?_ ?_
    · refine jg_skip rfl rfl ?_
      refine jg_skip rfl rfl ?_
      refine jg_skip rfl rfl ?_
      refine jg_y (fun w hs => yv_pick_t rfl rfl) rfl rfl ?_
      refine jg_nils [(3, _), (47, _), (48, _), (49, _), (60, _)] ⟨rfl, rfl, rfl, rfl, rfl, trivial⟩ ?_
      refine jk_sn ?_
      refine jn_ct rfl ?_
      refine jn_seq ?_
      refine jn_reg 16 ?_
      refine jg_as rfl rfl rfl ?_
      refine jg_nils [(4, _)] ⟨rfl, trivial⟩ ?_
      refine jk_sel (is := []) (s0 rfl) rfl ?_
      refine jk_sn ?_
      refine jn_ret ?_
      refine jk_br (jk_sr (jk_lr (jk_br (jk_sr ?_))))
      exact jk_ret1 rfl (fun w hs => .tmp rfl) (fun w hs => ⟨rfl, hs.drop⟩)
    refine jg_y (fun w hs => yv_fieldAddr rfl) rfl rfl ?_
    refine jg_y (fun w hs => yv_load rfl (ld1B (hs.blkL (i := 0) rfl) rfl)) rfl rfl ?_
    refine jg_y (fun w hs => yv_gtr rfl rfl) rfl rfl ?_
    refine jg_y (fun w hs => yv_pick_f rfl rfl) rfl rfl ?_
    refine jg_nils [(3, _), (47, _), (48, _), (49, _), (60, _)] ⟨rfl, rfl, rfl, rfl, rfl, trivial⟩ ?_
    refine jk_sn ?_
    refine jn_cond rfl ?_ ?_
    rotate_left
    · refine jn_skip ?_
      refine jk_bn (jk_sn ?_)
      refine jn_reg 17 ?_
      refine jg_y (fun w hs => yv_add_w rfl rfl) rfl rfl ?_
      refine jg_mv rfl rfl rfl ?_
      refine jg_nils [(3, _), (47, _), (48, _), (49, _)] ⟨rfl, rfl, rfl, rfl, trivial⟩ ?_
      exact jk_use H18 (w64 (z15 + 1)) () [1] ⟨rfl, rfl, rfl, rfl, trivial⟩ rfl rfl rfl
    refine jn_seq ?_
    refine jn_reg 16 ?_
    refine jg_as rfl rfl rfl ?_
    refine jg_nils [(4, _)] ⟨rfl, trivial⟩ ?_
    refine jk_sel (is := []) (s0 rfl) rfl ?_
    refine jk_sn ?_
    refine jn_ret ?_
    refine jk_br (jk_sr (jk_lr (jk_br (jk_sr ?_))))
    exact jk_ret1 rfl (fun w hs => .tmp rfl) (fun w hs => ⟨rfl, hs.drop⟩)
  intro z9 q10
  refine jn_seq ?_
  refine jn_seq ?_
  refine jn_reg 18 ?_
  refine jg_y (fun w hs => yv_fieldAddr rfl) rfl rfl ?_
  refine jg_y (fun w hs => yv_fieldAddr rfl) rfl rfl ?_
  refine jg_y (fun w hs => yv_load rfl (ld1B (hs.blkL (i := 0) rfl) rfl)) rfl rfl ?_
  refine jg_y (fun w hs => yv_lss rfl rfl) rfl rfl ?_
  refine jg_mv rfl rfl rfl ?_
  refine jg_split 66 rfl ?_ ?_
  · refine jg_skip rfl rfl ?_
    refine jg_skip rfl rfl ?_
    refine jg_skip rfl rfl ?_
    refine jg_skip rfl rfl ?_
    refine jg_y (fun w hs => yv_pick_t rfl rfl) rfl rfl ?_
    refine jg_mv rfl rfl rfl ?_
    refine jg_skip rfl rfl ?_
    refine jg_skip rfl rfl ?_
    refine jg_skip rfl rfl ?_
    refine jg_skip rfl rfl ?_
    refine jg_y (fun w hs => yv_pick_t rfl rfl) rfl rfl ?_
    refine jg_mv rfl rfl rfl ?_
    refine jg_skip rfl rfl ?_
    refine jg_skip rfl rfl ?_
    refine jg_skip rfl rfl ?_
    refine jg_skip rfl rfl ?_
    refine jg_y (fun w hs => yv_pick_t rfl rfl) rfl rfl ?_
    refine jg_nils [(83, _)] ⟨rfl, trivial⟩ ?_
    refine jk_sn ?_
    refine jn_ct rfl ?_
    refine jn_seq ?_
    refine jn_reg 19 ?_
    refine jg_as rfl rfl rfl ?_
    refine jg_nils [(4, _)] ⟨rfl, trivial⟩ ?_
    refine jk_sn ?_
    refine jn_ret ?_
    refine jk_sr ?_
    exact jk_ret1 rfl (fun w hs => .tmp rfl) (fun w hs => ⟨rfl, hs.drop⟩)
  refine jg_y (fun w hs => yv_fieldAddr rfl) rfl rfl ?_
  refine jg_y (fun w hs => yv_fieldAddr rfl) rfl rfl ?_
  refine jg_y (fun w hs => yv_load rfl (ld1B (hs.blkL (i := 0) rfl) rfl)) rfl rfl ?_
  refine jg_y (fun w hs => yv_gtr rfl rfl) rfl rfl ?_
  refine jg_y (fun w hs => yv_pick_f rfl rfl) rfl rfl ?_
  refine jg_mv rfl rfl rfl ?_
  refine jg_split 72 rfl ?_ ?_
  · refine jg_skip rfl rfl ?_
    refine jg_skip rfl rfl ?_
    refine jg_skip rfl rfl ?_
    refine jg_skip rfl rfl ?_
    refine jg_y (fun w hs => yv_pick_t rfl rfl) rfl rfl ?_
    refine jg_mv rfl rfl rfl ?_
    refine jg_skip rfl rfl ?_
    refine jg_skip rfl rfl ?_
    refine jg_skip rfl rfl ?_
    refine jg_skip rfl rfl ?_
    refine jg_y (fun w hs => yv_pick_t rfl rfl) rfl rfl ?_
    refine jg_nils [(83, _)] ⟨rfl, trivial⟩ ?_
    refine jk_sn ?_
    refine jn_ct rfl ?_
    refine jn_seq ?_
    refine jn_reg 19 ?_
    refine jg_as rfl rfl rfl ?_
    refine jg_nils [(4, _)] ⟨rfl, trivial⟩ ?_
    refine jk_sn ?_
    refine jn_ret ?_
    refine jk_sr ?_
    exact jk_ret1 rfl (fun w hs => .tmp rfl) (fun w hs => ⟨rfl, hs.drop⟩)
  refine jg_y (fun w hs => yv_fieldAddr rfl) rfl rfl ?_
  refine jg_y (fun w hs => yv_load rfl (ld1B (hs.blkL (i := 0) rfl) rfl)) rfl rfl ?_
  refine jg_c0 rfl (fun v w hs hm => runoff_in_c hm ) rfl rfl fun v13 => ?_
  refine jg_y (fun w hs => yv_not rfl) rfl rfl ?_
  refine jg_y (fun w hs => yv_pick_f rfl rfl) rfl rfl ?_
  refine jg_mv rfl rfl rfl ?_
  refine jg_split 78 rfl ?_ ?_
  · refine jg_skip rfl rfl ?_
    refine jg_skip rfl rfl ?_
    refine jg_skip rfl rfl ?_
    refine jg_skip rfl rfl ?_
    refine jg_y (fun w hs => yv_pick_t rfl rfl) rfl rfl ?_
    refine jg_nils [(83, _)] ⟨rfl, trivial⟩ ?_
    refine jk_sn ?_
    refine jn_ct rfl ?_
    refine jn_seq ?_
    refine jn_reg 19 ?_
    refine jg_as rfl rfl rfl ?_
    refine jg_nils [(4, _)] ⟨rfl, trivial⟩ ?_
    refine jk_sn ?_
    refine jn_ret ?_
    refine jk_sr ?_
    exact jk_ret1 rfl (fun w hs => .tmp rfl) (fun w hs => ⟨rfl, hs.drop⟩)
  refine jg_y (fun w hs => yv_fieldAddr rfl) rfl rfl ?_
  refine jg_y (fun w hs => yv_load rfl (ld1B (hs.blkL (i := 0) rfl) rfl)) rfl rfl ?_
  refine jg_c0 rfl (fun v w hs hm => runoff_targets_c hm (hs.arg Rha1_Targets)) rfl rfl fun v14 => ?_
  refine jg_y (fun w hs => yv_not rfl) rfl rfl ?_
  refine jg_y (fun w hs => yv_pick_f rfl rfl) rfl rfl ?_
  refine jg_nils [(83, _)] ⟨rfl, trivial⟩ ?_
  refine jk_sn ?_
  refine jn_cond rfl ?_ ?_
  · refine jn_seq ?_
    refine jn_reg 19 ?_
    refine jg_as rfl rfl rfl ?_
    refine jg_nils [(4, _)] ⟨rfl, trivial⟩ ?_
    refine jk_sn ?_
    refine jn_ret ?_
    refine jk_sr ?_
    exact jk_ret1 rfl (fun w hs => .tmp rfl) (fun w hs => ⟨rfl, hs.drop⟩)
  refine jn_skip ?_
  refine jk_sn ?_
  refine jn_seq ?_
  refine jn_reg 20 ?_
  refine jg_as rfl rfl rfl ?_
  refine jg_nils [(4, _)] ⟨rfl, trivial⟩ ?_
  refine jk_sn ?_
  refine jn_ret ?_
  exact jk_ret1 rfl (fun w hs => .tmp rfl) (fun w hs => ⟨rfl, hs.drop⟩)
end Go.Proofs.Ytdabnfhkojapjaa
