/-
  The functions give what their models give. Printed by a program.
-/
import Derived.Test.YtncgacgkeonfnaaFacts
import Derived.Test.YtncgacgkeonfnaaMod
import Derived.Test.YtncgacgkeonfnaaW0
import Derived.Test.YtncgacgkeonfnaaW1
import Derived.Test.YtncgacgkeonfnaaW2
namespace Go.Proofs.Ytncgacgkeonfnaa
open Go.Hy
set_option linter.unusedVariables false
set_option linter.unusedSimpArgs false
set_option maxHeartbeats 2000000
set_option maxRecDepth 100000
theorem law19_ResistanceExact_c {w : World} {a0 : (List Int)} {a1 : (List Resistance)} {a2 : Int} {a3 : Int} {a4 : Weather} {ha0 : Hd} {ha1 : Hd} {v : Bool} (hm : law19_ResistanceExact a0 a1 a2 a3 a4 = some v) (Rha0 : Sl w ha0 encI a0) (Rha1 : Sl w ha1 Resistance.enc a1) : Gives Try.prog 9 [ha0.v, ha1.v, .int .i64 a2, .int .i64 a3, .agg #[.int .i64 a4.Wind.Lo, .int .i64 a4.Wind.Hi, .int .i64 a4.Cold.Lo, .int .i64 a4.Cold.Hi]] w (.bool v) := by
  refine j_gives (vs := [ha0.v, ha1.v, .int .i64 a2, .int .i64 a3, .agg #[.int .i64 a4.Wind.Lo, .int .i64 a4.Wind.Hi, .int .i64 a4.Cold.Lo, .int .i64 a4.Cold.Hi]]) (U := fun (v : Bool) => .bool v) Try.func9 rfl Try.ntmps9 rfl rfl hm ?_
  unfold law19_ResistanceExact
  clear hm
  refine jn_seq ?_
  refine jn_reg 0 ?_
  refine jg_box rfl (l4 rfl) rfl rfl fun g1 => ?_
  refine jg_as rfl rfl rfl ?_
  refine jg_nils [(0, _), (1, _), (2, _), (3, _), (9, _)] ⟨rfl, rfl, rfl, rfl, rfl, trivial⟩ ?_
  refine jk_sn ?_
  refine jn_seq ?_
  refine jn_reg 1 ?_
  refine jg_mv rfl rfl rfl ?_
  refine jg_c rfl (fun v w hs hm => gen_New_c hm (hs.arg Rha0)) rfl rfl fun v2 q3 => ?_
  refine jg_L (r2 rfl) ?_
  refine jg_as rfl rfl rfl ?_
  refine jg_nils [(1, _), (2, _), (3, _), (9, _), (11, _)] ⟨rfl, rfl, rfl, rfl, rfl, trivial⟩ ?_
  refine jk_sn ?_
  refine jn_join (fun (s : Unit) (g : Unit) => [(1, ha1.v), (2, .int .i64 a2), (3, .int .i64 a3), (9, .pointer (some ⟨g1, 0, none⟩))]) (fun (s : Unit) (g : Unit) => []) (fun (s : Unit) (g : Unit) => [(Res.blk g1 62 [.int .i64 a4.Wind.Lo, .int .i64 a4.Wind.Hi, .int .i64 a4.Cold.Lo, .int .i64 a4.Cold.Hi])]) ?_ ?_
  · intro z4 q5
    refine jn_seq ?_
    refine jn_reg 16 ?_
    refine jg_mv rfl rfl rfl ?_
    refine jg_y (fun w hs => yv_ln rfl (hs.arg Rha1)) rfl rfl ?_
    refine jg_y (fun w hs => yv_gtr rfl rfl) rfl rfl ?_
    refine jg_mv rfl rfl rfl ?_
    refine jg_split 108 rfl ?_ ?_
    · refine jg_skip rfl rfl ?_
      refine jg_skip rfl rfl ?_
      refine jg_skip rfl rfl ?_
      refine jg_skip rfl rfl ?_
      refine jg_skip rfl rfl ?_
      refine jg_skip rfl rfl ?_
      refine jg_skip rfl rfl ?_
      refine jg_skip rfl rfl ?_
      refine jg_skip rfl rfl ?_
      refine jg_skip rfl rfl ?_
      refine jg_skip rfl rfl ?_
      refine jg_skip rfl rfl ?_
      refine jg_skip rfl rfl ?_
      refine jg_y (fun w hs => yv_pick_t rfl rfl) rfl rfl ?_
      refine jg_as rfl rfl rfl ?_
      refine jg_nils [(10, _)] ⟨rfl, trivial⟩ ?_
      refine jk_sn ?_
      refine jn_ret ?_
      exact jk_ret1 rfl (fun w hs => .tmp rfl) (fun w hs => ⟨rfl, hs.drop⟩)
    refine jg_mv rfl rfl rfl ?_
    refine jg_mv rfl rfl rfl ?_
    refine jg_mv rfl rfl rfl ?_
    refine jg_y (fun w hs => yv_load rfl (ldBB (hs.blkL (i := 0) rfl) rfl)) rfl rfl ?_
    refine jg_c0 rfl (fun v w hs hm => law19_exact_c (a3 := a4) hm (hs.arg Rha1)) rfl rfl fun v8 => ?_
    refine jg_mv rfl rfl rfl ?_
    refine jg_split 114 rfl ?_ ?_
    rotate_left
    · refine jg_skip rfl rfl ?_
      refine jg_skip rfl rfl ?_
      refine jg_skip rfl rfl ?_
      refine jg_y (fun w hs => yv_pick_f rfl rfl) rfl rfl ?_
      refine jg_mv rfl rfl rfl ?_
      refine jg_skip rfl rfl ?_
      refine jg_y (fun w hs => yv_pick_f rfl rfl) rfl rfl ?_
      refine jg_y (fun w hs => yv_pick_f rfl rfl) rfl rfl ?_
      refine jg_as rfl rfl rfl ?_
      refine jg_nils [(10, _)] ⟨rfl, trivial⟩ ?_
      refine jk_sn ?_
      refine jn_ret ?_
      exact jk_ret1 rfl (fun w hs => .tmp rfl) (fun w hs => ⟨rfl, hs.drop⟩)
    refine jg_mv rfl rfl rfl ?_
    refine jg_y (fun w hs => yv_build rfl (o4 rfl)) rfl rfl ?_
    refine jg_c0 rfl (fun v w hs hm => law19_exact_c (a3 := (Weather.mk (Interval.mk 0 0) (Interval.mk 0 0))) hm (hs.arg Rha1)) rfl rfl fun v9 => ?_
    refine jg_y (fun w hs => yv_pick_t rfl rfl) rfl rfl ?_
    refine jg_mv rfl rfl rfl ?_
    refine jg_split 119 rfl ?_ ?_
    · refine jg_c0 rfl (fun v w hs hm => law19_sane_c hm ) rfl rfl fun v10 => ?_
      refine jg_y (fun w hs => yv_pick_t rfl rfl) rfl rfl ?_
      refine jg_y (fun w hs => yv_pick_f rfl rfl) rfl rfl ?_
      refine jg_as rfl rfl rfl ?_
      refine jg_nils [(10, _)] ⟨rfl, trivial⟩ ?_
      refine jk_sn ?_
      refine jn_ret ?_
      exact jk_ret1 rfl (fun w hs => .tmp rfl) (fun w hs => ⟨rfl, hs.drop⟩)
    refine jg_skip rfl rfl ?_
    refine jg_y (fun w hs => yv_pick_f rfl rfl) rfl rfl ?_
    refine jg_y (fun w hs => yv_pick_f rfl rfl) rfl rfl ?_
    refine jg_as rfl rfl rfl ?_
    refine jg_nils [(10, _)] ⟨rfl, trivial⟩ ?_
    refine jk_sn ?_
    refine jn_ret ?_
    exact jk_ret1 rfl (fun w hs => .tmp rfl) (fun w hs => ⟨rfl, hs.drop⟩)
  intro k6 H7
  refine jn_seq ?_
  refine jn_reg 2 ?_
  refine jg_as rfl rfl rfl ?_
  refine jg_nils [(1, _), (2, _), (3, _), (9, _), (11, _), (12, _)] ⟨rfl, rfl, rfl, rfl, rfl, rfl, trivial⟩ ?_
  refine jk_sn ?_
  refine jn_block ?_
  refine jn_lp (n := big) (fun (s : (Int × Int)) (g : Unit) => [(1, ha1.v), (2, .int .i64 a2), (3, .int .i64 a3), (9, .pointer (some ⟨g1, 0, none⟩)), (11, .pointer (some ⟨q3, 0, none⟩)), (12, .int .i64 s.2)]) (fun (s : (Int × Int)) (g : Unit) => []) (fun (s : (Int × Int)) (g : Unit) => [(Res.blk g1 62 [.int .i64 a4.Wind.Lo, .int .i64 a4.Wind.Hi, .int .i64 a4.Cold.Lo, .int .i64 a4.Cold.Hi]), (Res.blk q3 84 [ha0.v, .int .i64 s.1])]) (v2.fn, 0) () [1, 0] ⟨rfl, rfl, rfl, rfl, rfl, rfl, trivial⟩ rfl rfl rfl ?_
  intro z11 q12 n15 k13 H14
  refine jn_seq ?_
  refine jn_seq ?_
  refine jn_reg 3 ?_
  refine jg_mv rfl rfl rfl ?_
  refine jg_y (fun w hs => yv_lss rfl rfl) rfl rfl ?_
  refine jg_nils [(1, _), (2, _), (3, _), (9, _), (11, _), (12, _), (19, _)] ⟨rfl, rfl, rfl, rfl, rfl, rfl, rfl, trivial⟩ ?_
  refine jk_sn ?_
  refine jn_cond rfl ?_ ?_
  rotate_left
  · refine jn_exit ?_
    refine jk_se (jk_le (jk_bh ?_))
    exact jk_use H7 () () [0] ⟨rfl, rfl, rfl, rfl, trivial⟩ rfl rfl rfl
  refine jn_skip ?_
  refine jk_sn ?_
  refine jn_seq ?_
  refine jn_block ?_
  refine jn_seq ?_
  refine jn_reg 5 ?_
  refine jg_mv rfl rfl rfl ?_
  refine jl_c 1 rfl rfl (fun v w hs hm => gen_Maker_Table_c hm (hs.blkL (i := 1) rfl) (hs.arg Rha0) (hs.offAL 1 Rha0 rfl)) (fun _ => rfl) rfl rfl fun v16 q17 => ?_
  refine jg_L (r3 rfl) ?_
  refine jg_mv rfl rfl rfl ?_
  refine jl_c 2 rfl rfl (fun v w hs hm => gen_Maker_Weather_c hm (hs.blkL (i := 2) rfl) (hs.arg Rha0) (hs.offAL 2 Rha0 rfl)) (fun _ => rfl) rfl rfl fun v18 q19 => ?_
  refine jg_L (r3 rfl) ?_
  refine jg_alloc (l4 rfl) rfl rfl fun g20 => ?_
  refine jg_as rfl rfl rfl ?_
  refine jg_store 0 rfl rfl rfl (l4 rfl) rfl rfl rfl rfl (l4 rfl) (r4 rfl) ?_
  refine jg_nils [(1, _), (2, _), (3, _), (9, _), (11, _), (12, _), (13, _), (14, _)] ⟨rfl, rfl, rfl, rfl, rfl, rfl, rfl, rfl, trivial⟩ ?_
  refine jk_sn ?_
  refine jn_join (fun (s : (Int × (List Resistance) × Int × Int)) (g : Unit) => [(1, ha1.v), (2, .int .i64 a2), (3, .int .i64 a3), (9, .pointer (some ⟨g1, 0, none⟩)), (11, .pointer (some ⟨q3, 0, none⟩)), (12, .int .i64 z11.2), (13, q17.v), (14, .pointer (some ⟨g20, 0, none⟩))]) (fun (s : (Int × (List Resistance) × Int × Int)) (g : Unit) => []) (fun (s : (Int × (List Resistance) × Int × Int)) (g : Unit) => [(Res.blk g1 62 [.int .i64 a4.Wind.Lo, .int .i64 a4.Wind.Hi, .int .i64 a4.Cold.Lo, .int .i64 a4.Cold.Hi]), (Res.blk q3 84 [ha0.v, .int .i64 s.1]), (rowH q17 50 3 Resistance.enc s.2.1), (Res.blk g20 62 [.int .i64 s.2.2.1, .int .i64 v18.1.Wind.Hi, .int .i64 v18.1.Cold.Lo, .int .i64 s.2.2.2])]) ?_ ?_
  · intro z21 q22
    refine jn_seq ?_
    refine jn_drawA 14 [0, 1, 2, 3, 4, 5, 6, 7, 8, 9] 1023 19 7 [0, 0, 0, 6, 0, 0, 56, 0, 201, 256] [0, 0, 0, 6, 0, 0, 62, 0, 255, 511] [(0, true), (1, true), (4, true)] (np_seq (np_blk (np_seq (np_rnd (np_blk (np_seq np_rt)))))) (by kernel_rfl) (by kernel_rfl) (by kernel_rfl) (by kernel_rfl) (by kernel_rfl) (by kernel_rfl) (by kernel_rfl) (by kernel_rfl) ?_
    refine jt_mv rfl rfl rfl ?_
    refine jt_mv rfl rfl rfl ?_
    refine jt_mv rfl rfl rfl ?_
    refine jd_x ?_
    refine jx_to (L' := [_, _, _]) [2, 3, 5, 6, 7, 8, 9] [] [0, 2, 3] rfl ?_
    refine jx_lin [0, 2, 3] 1004 147 6 [0, 0, 0, 6, 0, 0, 62, 0, 255, 511] [(7, true)] rfl (np_seq (np_blk (np_seq (np_rnd (np_blk (np_seq np_rt)))))) (by kernel_rfl) (by kernel_rfl) (by kernel_rfl) (by kernel_rfl) (by kernel_rfl) (by kernel_rfl) (by kernel_rfl) (by kernel_rfl) (by kernel_rfl) ?_
    refine jd_y rfl (fun w hs => yv_load rfl (ldBB (hs.blk (i := 2) rfl) rfl)) rfl rfl ?_
    refine jd_x ?_
    refine jx2 (i := 2) (i2 := 5) (by kernel_rfl) (by kernel_rfl) rfl rfl ?_ ?_
    · refine jg_lit (enc := encI) [1, 50, 100, 101, 777, 3000, 0, 192001] rfl rfl rfl rfl rfl rfl rfl rfl fun hd65 => ?_
      refine jg_nil ?_
      refine jk_xn [1, 3, 4] rfl ?_
      refine jx2 (i := 3) (i2 := 5) (by kernel_rfl) (by kernel_rfl) rfl rfl ?_ ?_
      · refine jl_c 2 rfl rfl (fun v w hs hm => gen_Maker_Pick_c hm (hs.blkL (i := 2) rfl) (hs.arg Rha0) (hs.offAL 2 Rha0 rfl) (hs.row 0 rfl) (hs.offLL 0 2 rfl rfl)) (fun _ => rfl) rfl rfl fun v85 q86 => ?_
        refine jg_L (r5 rfl) ?_
        refine jg_nil ?_
        refine jk_xn [1, 3, 4] rfl ?_
        refine jx1 (i := 5) (by kernel_rfl) (by kernel_rfl) rfl ?_
        refine jg_lit (enc := encI) [1, 2, 4, 7, 0, 769] rfl rfl rfl rfl rfl rfl rfl rfl fun hd125 => ?_
        refine jg_nil ?_
        refine jk_xn [2, 4, 5] rfl ?_
        refine jx1 (i := 6) (by kernel_rfl) (by kernel_rfl) rfl ?_
        refine jl_c 3 rfl rfl (fun v w hs hm => gen_Maker_Pick_c hm (hs.blkL (i := 3) rfl) (hs.arg Rha0) (hs.offAL 3 Rha0 rfl) (hs.row 0 rfl) (hs.offLL 0 3 rfl rfl)) (fun _ => rfl) rfl rfl fun v145 q146 => ?_
        refine jg_L (r6 rfl) ?_
        refine jg_nil ?_
        refine jk_xn [2, 4, 5] rfl ?_
        refine jx_lin [2, 4, 5] 1004 1023 0 [0, 0, 0, 6, 0, 0, 62, 0, 255, 511] [(8, true), (9, true)] rfl (np_seq (np_blk (np_seq (np_rnd (np_blk (np_seq np_rt)))))) (by kernel_rfl) (by kernel_rfl) (by kernel_rfl) (by kernel_rfl) (by kernel_rfl) (by kernel_rfl) (by kernel_rfl) (by kernel_rfl) (by kernel_rfl) ?_
        refine jd_c0 rfl rfl (fun v w hs hm => law19_exact_c (a3 := (Weather.mk (Interval.mk z21.2.2.1 v18.1.Wind.Hi) (Interval.mk v18.1.Cold.Lo z21.2.2.2))) hm (hs.row 1 rfl)) rfl rfl fun v185 => ?_
        refine jd_y rfl (fun w hs => yv_not rfl) rfl rfl ?_
        refine jd_x ?_
        refine jx0 [(1, _), (2, _), (3, _), (9, _), (11, _), (12, _), (104, _)] ⟨rfl, rfl, rfl, rfl, rfl, rfl, rfl, trivial⟩ (by kernel_rfl) (by kernel_rfl) ?_
        refine jk_sel (is := [2, 3]) (s2 rfl) rfl ?_
        refine jk_sn ?_
        refine jn_cond rfl ?_ ?_
        rotate_left
        · refine jn_skip ?_
          refine jk_bn (jk_sn ?_)
          refine jn_reg 4 ?_
          refine jg_mv rfl rfl rfl ?_
          refine jg_y (fun w hs => yv_add_w rfl rfl) rfl rfl ?_
          refine jg_as rfl rfl rfl ?_
          refine jg_nils [(1, _), (2, _), (3, _), (9, _), (11, _), (12, _)] ⟨rfl, rfl, rfl, rfl, rfl, rfl, trivial⟩ ?_
          exact jk_use H14 (v145.2, w64 (z11.2 + 1)) () [0, 1] ⟨rfl, rfl, rfl, rfl, rfl, rfl, trivial⟩ rfl rfl rfl
        refine jn_seq ?_
        refine jn_reg 15 ?_
        refine jg_as rfl rfl rfl ?_
        refine jg_nils [(10, _)] ⟨rfl, trivial⟩ ?_
        refine jk_sel (is := []) (s0 rfl) rfl ?_
        refine jk_sn ?_
        refine jn_ret ?_
        refine jk_br (jk_sr (jk_lr (jk_br (jk_sr ?_))))
        exact jk_ret1 rfl (fun w hs => .tmp rfl) (fun w hs => ⟨rfl, hs.drop⟩)
      refine jg_lit (enc := encI) [1, 2, 4, 7, 0, 769] rfl rfl rfl rfl rfl rfl rfl rfl fun hd125 => ?_
      refine jg_nil ?_
      refine jk_xn [2, 4, 5] rfl ?_
      refine jx1 (i := 3) (by kernel_rfl) (by kernel_rfl) rfl ?_
      refine jl_c 3 rfl rfl (fun v w hs hm => gen_Maker_Pick_c hm (hs.blkL (i := 3) rfl) (hs.arg Rha0) (hs.offAL 3 Rha0 rfl) (hs.row 1 rfl) (hs.offLL 1 3 rfl rfl)) (fun _ => rfl) rfl rfl fun v85 q86 => ?_
      refine jg_L (r6 rfl) ?_
      refine jg_nil ?_
      refine jk_xn [2, 4, 5] rfl ?_
      refine jx1 (i := 6) (by kernel_rfl) (by kernel_rfl) rfl ?_
      refine jl_c 3 rfl rfl (fun v w hs hm => gen_Maker_Pick_c hm (hs.blkL (i := 3) rfl) (hs.arg Rha0) (hs.offAL 3 Rha0 rfl) (hs.row 0 rfl) (hs.offLL 0 3 rfl rfl)) (fun _ => rfl) rfl rfl fun v145 q146 => ?_
      refine jg_L (r6 rfl) ?_
      refine jg_nil ?_
      refine jk_xn [2, 4, 5] rfl ?_
      refine jx_lin [2, 4, 5] 1004 1023 0 [0, 0, 0, 6, 0, 0, 62, 0, 255, 511] [(8, true), (9, true)] rfl (np_seq (np_blk (np_seq (np_rnd (np_blk (np_seq np_rt)))))) (by kernel_rfl) (by kernel_rfl) (by kernel_rfl) (by kernel_rfl) (by kernel_rfl) (by kernel_rfl) (by kernel_rfl) (by kernel_rfl) (by kernel_rfl) ?_
      refine jd_c0 rfl rfl (fun v w hs hm => law19_exact_c (a3 := (Weather.mk (Interval.mk z21.2.2.1 v18.1.Wind.Hi) (Interval.mk v18.1.Cold.Lo z21.2.2.2))) hm (hs.row 1 rfl)) rfl rfl fun v185 => ?_
      refine jd_y rfl (fun w hs => yv_not rfl) rfl rfl ?_
      refine jd_x ?_
      refine jx0 [(1, _), (2, _), (3, _), (9, _), (11, _), (12, _), (104, _)] ⟨rfl, rfl, rfl, rfl, rfl, rfl, rfl, trivial⟩ (by kernel_rfl) (by kernel_rfl) ?_
      refine jk_sel (is := [2, 3]) (s2 rfl) rfl ?_
      refine jk_sn ?_
      refine jn_cond rfl ?_ ?_
      rotate_left
      · refine jn_skip ?_
        refine jk_bn (jk_sn ?_)
        refine jn_reg 4 ?_
        refine jg_mv rfl rfl rfl ?_
        refine jg_y (fun w hs => yv_add_w rfl rfl) rfl rfl ?_
        refine jg_as rfl rfl rfl ?_
        refine jg_nils [(1, _), (2, _), (3, _), (9, _), (11, _), (12, _)] ⟨rfl, rfl, rfl, rfl, rfl, rfl, trivial⟩ ?_
        exact jk_use H14 (v145.2, w64 (z11.2 + 1)) () [0, 1] ⟨rfl, rfl, rfl, rfl, rfl, rfl, trivial⟩ rfl rfl rfl
      refine jn_seq ?_
      refine jn_reg 15 ?_
      refine jg_as rfl rfl rfl ?_
      refine jg_nils [(10, _)] ⟨rfl, trivial⟩ ?_
      refine jk_sel (is := []) (s0 rfl) rfl ?_
      refine jk_sn ?_
      refine jn_ret ?_
      refine jk_br (jk_sr (jk_lr (jk_br (jk_sr ?_))))
      exact jk_ret1 rfl (fun w hs => .tmp rfl) (fun w hs => ⟨rfl, hs.drop⟩)
    refine jg_lit (enc := encI) [1, 2, 4, 7, 0, 769] rfl rfl rfl rfl rfl rfl rfl rfl fun hd125 => ?_
    refine jg_nil ?_
    refine jk_xn [1, 3, 4] rfl ?_
    refine jx1 (i := 2) (by kernel_rfl) (by kernel_rfl) rfl ?_
    refine jg_lit (enc := encI) [1, 50, 100, 101, 777, 3000, 0, 192001] rfl rfl rfl rfl rfl rfl rfl rfl fun hd65 => ?_
    refine jg_nil ?_
    refine jk_xn [2, 4, 5] rfl ?_
    refine jx1 (i := 3) (by kernel_rfl) (by kernel_rfl) rfl ?_
    refine jl_c 3 rfl rfl (fun v w hs hm => gen_Maker_Pick_c hm (hs.blkL (i := 3) rfl) (hs.arg Rha0) (hs.offAL 3 Rha0 rfl) (hs.row 0 rfl) (hs.offLL 0 3 rfl rfl)) (fun _ => rfl) rfl rfl fun v85 q86 => ?_
    refine jg_L (r6 rfl) ?_
    refine jg_nil ?_
    refine jk_xn [2, 4, 5] rfl ?_
    refine jx1 (i := 6) (by kernel_rfl) (by kernel_rfl) rfl ?_
    refine jl_c 3 rfl rfl (fun v w hs hm => gen_Maker_Pick_c hm (hs.blkL (i := 3) rfl) (hs.arg Rha0) (hs.offAL 3 Rha0 rfl) (hs.row 1 rfl) (hs.offLL 1 3 rfl rfl)) (fun _ => rfl) rfl rfl fun v145 q146 => ?_
    refine jg_L (r6 rfl) ?_
    refine jg_nil ?_
    refine jk_xn [2, 4, 5] rfl ?_
    refine jx_lin [2, 4, 5] 1004 1023 0 [0, 0, 0, 6, 0, 0, 62, 0, 255, 511] [(8, true), (9, true)] rfl (np_seq (np_blk (np_seq (np_rnd (np_blk (np_seq np_rt)))))) (by kernel_rfl) (by kernel_rfl) (by kernel_rfl) (by kernel_rfl) (by kernel_rfl) (by kernel_rfl) (by kernel_rfl) (by kernel_rfl) (by kernel_rfl) ?_
    refine jd_c0 rfl rfl (fun v w hs hm => law19_exact_c (a3 := (Weather.mk (Interval.mk z21.2.2.1 v18.1.Wind.Hi) (Interval.mk v18.1.Cold.Lo z21.2.2.2))) hm (hs.row 1 rfl)) rfl rfl fun v185 => ?_
    refine jd_y rfl (fun w hs => yv_not rfl) rfl rfl ?_
    refine jd_x ?_
    refine jx0 [(1, _), (2, _), (3, _), (9, _), (11, _), (12, _), (104, _)] ⟨rfl, rfl, rfl, rfl, rfl, rfl, rfl, trivial⟩ (by kernel_rfl) (by kernel_rfl) ?_
    refine jk_sel (is := [2, 3]) (s2 rfl) rfl ?_
    refine jk_sn ?_
    refine jn_cond rfl ?_ ?_
    rotate_left
    · refine jn_skip ?_
      refine jk_bn (jk_sn ?_)
      refine jn_reg 4 ?_
      refine jg_mv rfl rfl rfl ?_
      refine jg_y (fun w hs => yv_add_w rfl rfl) rfl rfl ?_
      refine jg_as rfl rfl rfl ?_
      refine jg_nils [(1, _), (2, _), (3, _), (9, _), (11, _), (12, _)] ⟨rfl, rfl, rfl, rfl, rfl, rfl, trivial⟩ ?_
      exact jk_use H14 (v145.2, w64 (z11.2 + 1)) () [0, 1] ⟨rfl, rfl, rfl, rfl, rfl, rfl, trivial⟩ rfl rfl rfl
    refine jn_seq ?_
    refine jn_reg 15 ?_
    refine jg_as rfl rfl rfl ?_
    refine jg_nils [(10, _)] ⟨rfl, trivial⟩ ?_
    refine jk_sel (is := []) (s0 rfl) rfl ?_
    refine jk_sn ?_
    refine jn_ret ?_
    refine jk_br (jk_sr (jk_lr (jk_br (jk_sr ?_))))
    exact jk_ret1 rfl (fun w hs => .tmp rfl) (fun w hs => ⟨rfl, hs.drop⟩)
  intro k23 H24
  refine jn_seq ?_
  refine jn_reg 6 ?_
  refine jg_mv rfl rfl rfl ?_
  refine jg_nils [(1, _), (2, _), (3, _), (9, _), (11, _), (12, _), (13, _), (14, _), (26, _)] ⟨rfl, rfl, rfl, rfl, rfl, rfl, rfl, rfl, rfl, trivial⟩ ?_
  refine jk_sn ?_
  refine jn_block ?_
  refine jn_seq ?_
  refine jn_reg 7 ?_
  refine jg_y (fun w hs => yv_eql rfl rfl) rfl rfl ?_
  refine jg_as rfl rfl rfl ?_
  refine jg_nils [(1, _), (2, _), (3, _), (9, _), (11, _), (12, _), (13, _), (14, _), (26, _), (27, _)] ⟨rfl, rfl, rfl, rfl, rfl, rfl, rfl, rfl, rfl, rfl, trivial⟩ ?_
  refine jk_sn ?_
  refine jn_cond rfl ?_ ?_
  rotate_left
  · refine jn_seq ?_
    refine jn_reg 10 ?_
    refine jg_y (fun w hs => yv_eql rfl rfl) rfl rfl ?_
    refine jg_as rfl rfl rfl ?_
    refine jg_nils [(1, _), (2, _), (3, _), (9, _), (11, _), (12, _), (13, _), (14, _), (26, _), (69, _)] ⟨rfl, rfl, rfl, rfl, rfl, rfl, rfl, rfl, rfl, rfl, trivial⟩ ?_
    refine jk_sn ?_
    refine jn_cond rfl ?_ ?_
    rotate_left
    · refine jn_seq ?_
      refine jn_reg 12 ?_
      refine jg_y (fun w hs => yv_eql rfl rfl) rfl rfl ?_
      refine jg_as rfl rfl rfl ?_
      refine jg_nils [(1, _), (2, _), (3, _), (9, _), (11, _), (12, _), (13, _), (14, _), (87, _)] ⟨rfl, rfl, rfl, rfl, rfl, rfl, rfl, rfl, rfl, trivial⟩ ?_
      refine jk_sn ?_
      refine jn_cond rfl ?_ ?_
      rotate_left
      · refine jn_skip ?_
        refine jk_bn ?_
        exact jk_use H24 (v18.2, v16.1, v18.1.Wind.Lo, v18.1.Cold.Hi) () [2, 3, 1, 0] ⟨rfl, rfl, rfl, rfl, rfl, rfl, rfl, rfl, trivial⟩ rfl rfl rfl
      refine jn_reg 13 ?_
      refine jg_mv rfl rfl rfl ?_
      refine jg_mv rfl rfl rfl ?_
      refine jg_y (fun w hs => yv_ln rfl (hs.row 1 rfl)) rfl rfl ?_
      refine jg_y (fun w hs => yv_sub_w rfl rfl) rfl rfl ?_
      refine jg_ix fun x1367 h1368 => ?_
      refine jg_y (fun w hs => yv_ix rfl rfl (hs.row 1 rfl) h1368) rfl rfl ?_
      refine jg_y (fun w hs => yv_ef rfl (hs.row 1 rfl) h1368.1) rfl rfl ?_
      refine jg_storeE 1 (a' := (Resistance.mk x1367.Mass x1367.Lo 5000)) rfl rfl h1368.1 rfl (l1 rfl) rfl rfl rfl rfl fun y1369 => ?_
      refine jg_L (r4 rfl) ?_
      refine jg_nils [(1, _), (2, _), (3, _), (9, _), (11, _), (12, _), (13, _), (14, _)] ⟨rfl, rfl, rfl, rfl, rfl, rfl, rfl, rfl, trivial⟩ ?_
      refine jk_bn ?_
      exact jk_use H24 (v18.2, y1369, v18.1.Wind.Lo, v18.1.Cold.Hi) () [2, 3, 1, 0] ⟨rfl, rfl, rfl, rfl, rfl, rfl, rfl, rfl, trivial⟩ rfl rfl rfl
    refine jn_drawA 11 [0, 1, 2, 3, 4, 5, 6, 7, 8, 9, 10, 11, 12, 13, 14, 15, 16, 17] 262143 65 16 [0, 0, 2, 4, 8, 17, 0, 0, 128, 256, 512, 1120, 959, 5055, 11199, 32767, 65535, 98303] [0, 0, 2, 6, 14, 31, 0, 0, 128, 384, 896, 2047, 959, 5055, 16383, 32767, 65535, 131071] [(0, true), (6, true)] (np_blk (np_seq (np_blk (np_seq (np_rnd (np_blk (np_seq np_rt))))))) (by kernel_rfl) (by kernel_rfl) (by kernel_rfl) (by kernel_rfl) (by kernel_rfl) (by kernel_rfl) (by kernel_rfl) (by kernel_rfl) ?_
    refine jt_mv rfl rfl rfl ?_
    refine jt_mv rfl rfl rfl ?_
    refine jd_x ?_
    refine jx_to (L' := [_, _, _]) [1, 2, 3, 4, 5, 7, 8, 9, 10, 11, 12, 13] [14, 17] [0, 1, 2] rfl ?_
    refine jx_lin [0, 1, 2] 16318 975 10 [0, 0, 2, 6, 14, 31, 0, 0, 128, 384, 896, 2047, 959, 5055, 16383, 32767, 65535, 131071] [(1, true), (2, true), (3, true), (7, true), (8, true), (9, true)] rfl (np_blk (np_seq (np_blk (np_seq (np_rnd (np_blk (np_seq np_rt))))))) (by kernel_rfl) (by kernel_rfl) (by kernel_rfl) (by kernel_rfl) (by kernel_rfl) (by kernel_rfl) (by kernel_rfl) (by kernel_rfl) (by kernel_rfl) ?_
    refine jd_y rfl (fun w hs => yv_fieldAddr rfl) rfl rfl ?_
    refine jd_y rfl (fun w hs => yv_fieldAddr rfl) rfl rfl ?_
    refine jd_y rfl (fun w hs => yv_load rfl (ld1B (hs.blk (i := 0) rfl) rfl)) rfl rfl ?_
    refine jd_y rfl (fun w hs => yv_fieldAddr rfl) rfl rfl ?_
    refine jd_y rfl (fun w hs => yv_fieldAddr rfl) rfl rfl ?_
    refine jd_y rfl (fun w hs => yv_load rfl (ld1B (hs.blk (i := 0) rfl) rfl)) rfl rfl ?_
    refine jd_x ?_
    refine jx2 (i := 4) (i2 := 10) (by kernel_rfl) (by kernel_rfl) rfl rfl ?_ ?_
    · refine jg_lit (enc := encI) [v18.1.Wind.Lo, (-40000), (-40001), 90000] rfl rfl rfl rfl rfl rfl rfl rfl fun hd1087 => ?_
      refine jg_nil ?_
      refine jk_xn [1, 2, 3] rfl ?_
      refine jx2 (i := 5) (i2 := 10) (by kernel_rfl) (by kernel_rfl) rfl rfl ?_ ?_
      · refine jl_c 4 rfl rfl (fun v w hs hm => gen_Maker_Pick_c hm (hs.blkL (i := 4) rfl) (hs.arg Rha0) (hs.offAL 4 Rha0 rfl) (hs.row 0 rfl) (hs.offLL 0 4 rfl rfl)) (fun _ => rfl) rfl rfl fun v1107 q1108 => ?_
        refine jg_L (r5 rfl) ?_
        refine jg_nil ?_
        refine jk_xn [1, 2, 3] rfl ?_
        refine jx_lin [1, 2, 3] 16318 13311 6 [0, 0, 2, 6, 14, 31, 0, 0, 128, 384, 896, 2047, 959, 5055, 16383, 32767, 65535, 131071] [(12, true), (13, true)] rfl (np_blk (np_seq (np_blk (np_seq (np_rnd (np_blk (np_seq np_rt))))))) (by kernel_rfl) (by kernel_rfl) (by kernel_rfl) (by kernel_rfl) (by kernel_rfl) (by kernel_rfl) (by kernel_rfl) (by kernel_rfl) (by kernel_rfl) ?_
        refine jd_y rfl (fun w hs => yv_fieldAddr rfl) rfl rfl ?_
        refine jd_y rfl (fun w hs => yv_fieldAddr rfl) rfl rfl ?_
        refine jd_x ?_
        refine jx1 (i := 10) (by kernel_rfl) (by kernel_rfl) rfl ?_
        refine jg_lit (enc := encI) [v18.1.Cold.Hi, 1000, 1001, (-1)] rfl rfl rfl rfl rfl rfl rfl rfl fun hd1207 => ?_
        refine jg_nil ?_
        refine jk_xn [2, 3, 4] rfl ?_
        refine jx1 (i := 11) (by kernel_rfl) (by kernel_rfl) rfl ?_
        refine jl_c 5 rfl rfl (fun v w hs hm => gen_Maker_Pick_c hm (hs.blkL (i := 5) rfl) (hs.arg Rha0) (hs.offAL 5 Rha0 rfl) (hs.row 0 rfl) (hs.offLL 0 5 rfl rfl)) (fun _ => rfl) rfl rfl fun v1227 q1228 => ?_
        refine jg_L (r6 rfl) ?_
        refine jg_nil ?_
        refine jk_xn [2, 3, 4] rfl ?_
        refine jx1 (i := 14) (by kernel_rfl) (by kernel_rfl) rfl ?_
        refine jg_store 2 rfl rfl rfl (l1 rfl) rfl rfl rfl rfl (l4 rfl) (r6 rfl) ?_
        refine jg_nil ?_
        refine jk_xf (by kernel_rfl) ?_
        refine jx1 (i := 15) (by kernel_rfl) (by kernel_rfl) rfl ?_
        refine jg_y (fun w hs => yv_fieldAddr rfl) rfl rfl ?_
        refine jg_nil ?_
        refine jk_xf (by kernel_rfl) ?_
        refine jx1 (i := 16) (by kernel_rfl) (by kernel_rfl) rfl ?_
        refine jg_y (fun w hs => yv_fieldAddr rfl) rfl rfl ?_
        refine jg_nil ?_
        refine jk_xf (by kernel_rfl) ?_
        refine jx1 (i := 17) (by kernel_rfl) (by kernel_rfl) rfl ?_
        refine jg_store 2 rfl rfl rfl (l1 rfl) rfl rfl rfl rfl (l4 rfl) (r6 rfl) ?_
        refine jg_nil ?_
        refine jk_xf (by kernel_rfl) ?_
        refine jx0 [(1, _), (2, _), (3, _), (9, _), (11, _), (12, _), (13, _), (14, _)] ⟨rfl, rfl, rfl, rfl, rfl, rfl, rfl, rfl, trivial⟩ (by kernel_rfl) (by kernel_rfl) ?_
        refine jk_sel (is := [2, 3, 4, 5]) (s4 rfl) rfl ?_
        refine jk_bn ?_
        exact jk_use H24 (v1227.2, v16.1, v1107.1, v1227.1) () [2, 3, 1, 0] ⟨rfl, rfl, rfl, rfl, rfl, rfl, rfl, rfl, trivial⟩ rfl rfl rfl
      refine jg_lit (enc := encI) [v18.1.Cold.Hi, 1000, 1001, (-1)] rfl rfl rfl rfl rfl rfl rfl rfl fun hd1207 => ?_
      refine jg_nil ?_
      refine jk_xn [2, 3, 4] rfl ?_
      refine jx1 (i := 5) (by kernel_rfl) (by kernel_rfl) rfl ?_
      refine jl_c 5 rfl rfl (fun v w hs hm => gen_Maker_Pick_c hm (hs.blkL (i := 5) rfl) (hs.arg Rha0) (hs.offAL 5 Rha0 rfl) (hs.row 1 rfl) (hs.offLL 1 5 rfl rfl)) (fun _ => rfl) rfl rfl fun v1107 q1108 => ?_
      refine jg_L (r6 rfl) ?_
      refine jg_nil ?_
      refine jk_xn [2, 3, 4] rfl ?_
      refine jx_lin [2, 3, 4] 16318 14335 5 [0, 0, 2, 6, 14, 31, 0, 0, 128, 384, 896, 2047, 959, 5055, 16383, 32767, 65535, 131071] [(12, true), (13, true)] rfl (np_blk (np_seq (np_blk (np_seq (np_rnd (np_blk (np_seq np_rt))))))) (by kernel_rfl) (by kernel_rfl) (by kernel_rfl) (by kernel_rfl) (by kernel_rfl) (by kernel_rfl) (by kernel_rfl) (by kernel_rfl) (by kernel_rfl) ?_
      refine jd_y rfl (fun w hs => yv_fieldAddr rfl) rfl rfl ?_
      refine jd_y rfl (fun w hs => yv_fieldAddr rfl) rfl rfl ?_
      refine jd_x ?_
      refine jx1 (i := 11) (by kernel_rfl) (by kernel_rfl) rfl ?_
      refine jl_c 5 rfl rfl (fun v w hs hm => gen_Maker_Pick_c hm (hs.blkL (i := 5) rfl) (hs.arg Rha0) (hs.offAL 5 Rha0 rfl) (hs.row 0 rfl) (hs.offLL 0 5 rfl rfl)) (fun _ => rfl) rfl rfl fun v1227 q1228 => ?_
      refine jg_L (r6 rfl) ?_
      refine jg_nil ?_
      refine jk_xn [2, 3, 4] rfl ?_
      refine jx1 (i := 14) (by kernel_rfl) (by kernel_rfl) rfl ?_
      refine jg_store 2 rfl rfl rfl (l1 rfl) rfl rfl rfl rfl (l4 rfl) (r6 rfl) ?_
      refine jg_nil ?_
      refine jk_xf (by kernel_rfl) ?_
      refine jx1 (i := 15) (by kernel_rfl) (by kernel_rfl) rfl ?_
      refine jg_y (fun w hs => yv_fieldAddr rfl) rfl rfl ?_
      refine jg_nil ?_
      refine jk_xf (by kernel_rfl) ?_
      refine jx1 (i := 16) (by kernel_rfl) (by kernel_rfl) rfl ?_
      refine jg_y (fun w hs => yv_fieldAddr rfl) rfl rfl ?_
      refine jg_nil ?_
      refine jk_xf (by kernel_rfl) ?_
      refine jx1 (i := 17) (by kernel_rfl) (by kernel_rfl) rfl ?_
      refine jg_store 2 rfl rfl rfl (l1 rfl) rfl rfl rfl rfl (l4 rfl) (r6 rfl) ?_
      refine jg_nil ?_
      refine jk_xf (by kernel_rfl) ?_
      refine jx0 [(1, _), (2, _), (3, _), (9, _), (11, _), (12, _), (13, _), (14, _)] ⟨rfl, rfl, rfl, rfl, rfl, rfl, rfl, rfl, trivial⟩ (by kernel_rfl) (by kernel_rfl) ?_
      refine jk_sel (is := [2, 3, 4, 5]) (s4 rfl) rfl ?_
      refine jk_bn ?_
      exact jk_use H24 (v1227.2, v16.1, v1107.1, v1227.1) () [2, 3, 1, 0] ⟨rfl, rfl, rfl, rfl, rfl, rfl, rfl, rfl, trivial⟩ rfl rfl rfl
    refine jg_lit (enc := encI) [v18.1.Cold.Hi, 1000, 1001, (-1)] rfl rfl rfl rfl rfl rfl rfl rfl fun hd1207 => ?_
    refine jg_nil ?_
    refine jk_xn [1, 2, 3] rfl ?_
    refine jx1 (i := 4) (by kernel_rfl) (by kernel_rfl) rfl ?_
    refine jg_lit (enc := encI) [v18.1.Wind.Lo, (-40000), (-40001), 90000] rfl rfl rfl rfl rfl rfl rfl rfl fun hd1087 => ?_
    refine jg_nil ?_
    refine jk_xn [2, 3, 4] rfl ?_
    refine jx1 (i := 5) (by kernel_rfl) (by kernel_rfl) rfl ?_
    refine jl_c 5 rfl rfl (fun v w hs hm => gen_Maker_Pick_c hm (hs.blkL (i := 5) rfl) (hs.arg Rha0) (hs.offAL 5 Rha0 rfl) (hs.row 0 rfl) (hs.offLL 0 5 rfl rfl)) (fun _ => rfl) rfl rfl fun v1107 q1108 => ?_
    refine jg_L (r6 rfl) ?_
    refine jg_nil ?_
    refine jk_xn [2, 3, 4] rfl ?_
    refine jx_lin [2, 3, 4] 16318 14335 5 [0, 0, 2, 6, 14, 31, 0, 0, 128, 384, 896, 2047, 959, 5055, 16383, 32767, 65535, 131071] [(12, true), (13, true)] rfl (np_blk (np_seq (np_blk (np_seq (np_rnd (np_blk (np_seq np_rt))))))) (by kernel_rfl) (by kernel_rfl) (by kernel_rfl) (by kernel_rfl) (by kernel_rfl) (by kernel_rfl) (by kernel_rfl) (by kernel_rfl) (by kernel_rfl) ?_
    refine jd_y rfl (fun w hs => yv_fieldAddr rfl) rfl rfl ?_
    refine jd_y rfl (fun w hs => yv_fieldAddr rfl) rfl rfl ?_
    refine jd_x ?_
    refine jx1 (i := 11) (by kernel_rfl) (by kernel_rfl) rfl ?_
    refine jl_c 5 rfl rfl (fun v w hs hm => gen_Maker_Pick_c hm (hs.blkL (i := 5) rfl) (hs.arg Rha0) (hs.offAL 5 Rha0 rfl) (hs.row 1 rfl) (hs.offLL 1 5 rfl rfl)) (fun _ => rfl) rfl rfl fun v1227 q1228 => ?_
    refine jg_L (r6 rfl) ?_
    refine jg_nil ?_
    refine jk_xn [2, 3, 4] rfl ?_
    refine jx1 (i := 14) (by kernel_rfl) (by kernel_rfl) rfl ?_
    refine jg_store 2 rfl rfl rfl (l1 rfl) rfl rfl rfl rfl (l4 rfl) (r6 rfl) ?_
    refine jg_nil ?_
    refine jk_xf (by kernel_rfl) ?_
    refine jx1 (i := 15) (by kernel_rfl) (by kernel_rfl) rfl ?_
    refine jg_y (fun w hs => yv_fieldAddr rfl) rfl rfl ?_
    refine jg_nil ?_
    refine jk_xf (by kernel_rfl) ?_
    refine jx1 (i := 16) (by kernel_rfl) (by kernel_rfl) rfl ?_
    refine jg_y (fun w hs => yv_fieldAddr rfl) rfl rfl ?_
    refine jg_nil ?_
    refine jk_xf (by kernel_rfl) ?_
    refine jx1 (i := 17) (by kernel_rfl) (by kernel_rfl) rfl ?_
    refine jg_store 2 rfl rfl rfl (l1 rfl) rfl rfl rfl rfl (l4 rfl) (r6 rfl) ?_
    refine jg_nil ?_
    refine jk_xf (by kernel_rfl) ?_
    refine jx0 [(1, _), (2, _), (3, _), (9, _), (11, _), (12, _), (13, _), (14, _)] ⟨rfl, rfl, rfl, rfl, rfl, rfl, rfl, rfl, trivial⟩ (by kernel_rfl) (by kernel_rfl) ?_
    refine jk_sel (is := [2, 3, 4, 5]) (s4 rfl) rfl ?_
    refine jk_bn ?_
    exact jk_use H24 (v1227.2, v16.1, v1107.1, v1227.1) () [2, 3, 1, 0] ⟨rfl, rfl, rfl, rfl, rfl, rfl, rfl, rfl, trivial⟩ rfl rfl rfl
  refine jn_seq ?_
  refine jn_reg 8 ?_
  refine jg_mv rfl rfl rfl ?_
  refine jg_mv rfl rfl rfl ?_
  refine jg_y (fun w hs => yv_ln rfl (hs.row 1 rfl)) rfl rfl ?_
  refine jl_c 3 rfl rfl (fun v w hs hm => gen_Maker_Next_c hm (hs.blkL (i := 3) rfl) (hs.arg Rha0) (hs.offAL 3 Rha0 rfl)) (fun _ => rfl) rfl rfl fun v225 q226 => ?_
  refine jg_L (r4 rfl) ?_
  refine jg_as rfl rfl rfl ?_
  refine jg_nils [(1, _), (2, _), (3, _), (9, _), (11, _), (12, _), (13, _), (14, _), (15, _)] ⟨rfl, rfl, rfl, rfl, rfl, rfl, rfl, rfl, rfl, trivial⟩ ?_
  refine jk_sn ?_
  refine jn_drawA 9 [0, 1, 2, 3, 4, 5, 6, 7, 8, 9, 10, 11, 12, 13, 14, 15, 16, 17, 18, 19, 20, 21, 22, 23, 24, 25, 26, 27, 28, 29, 30, 31, 32, 33, 34, 35, 36, 37, 38] 549755813887 29475327 24 [0, 0, 0, 0, 0, 0, 0, 0, 0, 384, 512, 1024, 2048, 4160, 0, 0, 0, 98304, 131072, 262144, 524288, 1073152, 0, 0, 0, 25165824, 33554432, 67108864, 134217728, 274726912, 673726403, 1747468227, 2821210051, 8191475663, 16781410255, 25371344847, 68719476735, 137438953471, 206158430207] [0, 0, 0, 0, 0, 0, 0, 0, 0, 384, 896, 1920, 3968, 8128, 0, 0, 0, 98304, 229376, 491520, 1015808, 2097088, 0, 0, 0, 25165824, 58720256, 125829120, 260046848, 536870848, 1073741763, 2147483587, 4294967235, 8589934543, 17179869135, 34359738319, 68719476735, 137438953471, 274877906943] [(0, true), (1, true), (2, true), (3, true), (4, true), (5, true), (6, true), (7, true), (8, true), (14, true), (15, true), (16, true), (22, true), (23, true), (24, true)] (np_blk (np_seq (np_blk (np_seq (np_rnd (np_blk (np_seq np_rt))))))) (by kernel_rfl) (by kernel_rfl) (by kernel_rfl) (by kernel_rfl) (by kernel_rfl) (by kernel_rfl) (by kernel_rfl) (by kernel_rfl) ?_
  refine jt_mv rfl rfl rfl ?_
  refine jt_mv rfl rfl rfl ?_
  refine jt_mv rfl rfl rfl ?_
  refine jt_mv rfl rfl rfl ?_
  refine jt_mv rfl rfl rfl ?_
  refine jt_mv rfl rfl rfl ?_
  refine jt_mv rfl rfl rfl ?_
  refine jt_mv rfl rfl rfl ?_
  refine jt_mv rfl rfl rfl ?_
  refine jt_mv rfl rfl rfl ?_
  refine jt_mv rfl rfl rfl ?_
  refine jt_mv rfl rfl rfl ?_
  refine jt_mv rfl rfl rfl ?_
  refine jt_mv rfl rfl rfl ?_
  refine jt_mv rfl rfl rfl ?_
  refine jd_x ?_
  refine jx_to (L' := [_, _, _]) [9, 10, 11, 12, 13, 17, 18, 19, 20, 21, 25, 26, 27, 28, 29, 30, 31] [32, 35, 38] [0, 1, 2] rfl ?_
  refine jx_lin [0, 1, 2] 4265491968 265277439 15 [0, 0, 0, 0, 0, 0, 0, 0, 0, 384, 896, 1920, 3968, 8128, 0, 0, 0, 98304, 229376, 491520, 1015808, 2097088, 0, 0, 0, 25165824, 58720256, 125829120, 260046848, 536870848, 1073741763, 2147483587, 4294967235, 8589934543, 17179869135, 34359738319, 68719476735, 137438953471, 274877906943] [(9, true), (10, true), (11, true), (17, true), (18, true), (19, true), (25, true), (26, true), (27, true)] rfl (np_blk (np_seq (np_blk (np_seq (np_rnd (np_blk (np_seq np_rt))))))) (by kernel_rfl) (by kernel_rfl) (by kernel_rfl) (by kernel_rfl) (by kernel_rfl) (by kernel_rfl) (by kernel_rfl) (by kernel_rfl) (by kernel_rfl) ?_
  refine jd_ix fun x407 h408 => ?_
  refine jd_y rfl (fun w hs => yv_ix rfl rfl (hs.row 1 rfl) h408) rfl rfl ?_
  refine jd_y rfl (fun w hs => yv_ef rfl (hs.row 1 rfl) h408.1) rfl rfl ?_
  refine jd_y rfl (fun w hs => yv_e1 rfl (hs.row 1 rfl) h408.1 rfl) rfl rfl ?_
  refine jd_ix fun x567 h568 => ?_
  refine jd_y rfl (fun w hs => yv_ix rfl rfl (hs.row 1 rfl) h568) rfl rfl ?_
  refine jd_y rfl (fun w hs => yv_ef rfl (hs.row 1 rfl) h568.1) rfl rfl ?_
  refine jd_y rfl (fun w hs => yv_e1 rfl (hs.row 1 rfl) h568.1 rfl) rfl rfl ?_
  refine jd_ix fun x727 h728 => ?_
  refine jd_y rfl (fun w hs => yv_ix rfl rfl (hs.row 1 rfl) h728) rfl rfl ?_
  refine jd_y rfl (fun w hs => yv_ef rfl (hs.row 1 rfl) h728.1) rfl rfl ?_
  refine jd_y rfl (fun w hs => yv_e1 rfl (hs.row 1 rfl) h728.1 rfl) rfl rfl ?_
  refine jd_x ?_
  refine jx3 (i := 12) (i2 := 20) (i3 := 28) (by kernel_rfl) (by kernel_rfl) rfl rfl rfl ?_ ?_ ?_
  · refine jg_lit (enc := encI) [x407.Mass, 0, 2001] rfl rfl rfl rfl rfl rfl rfl rfl fun hd467 => ?_
    refine jg_nil ?_
    refine jk_xn [1, 2, 3] rfl ?_
    refine jx3 (i := 13) (i2 := 20) (i3 := 28) (by kernel_rfl) (by kernel_rfl) rfl rfl rfl ?_ ?_ ?_
    · refine jl_c 4 rfl rfl (fun v w hs hm => gen_Maker_Pick_c hm (hs.blkL (i := 4) rfl) (hs.arg Rha0) (hs.offAL 4 Rha0 rfl) (hs.row 0 rfl) (hs.offLL 0 4 rfl rfl)) (fun _ => rfl) rfl rfl fun v487 q488 => ?_
      refine jg_L (r5 rfl) ?_
      refine jg_nil ?_
      refine jk_xn [1, 2, 3] rfl ?_
      refine jx2 (i := 20) (i2 := 28) (by kernel_rfl) (by kernel_rfl) rfl rfl ?_ ?_
      · refine jg_lit (enc := encI) [x567.Lo, (-1), 300] rfl rfl rfl rfl rfl rfl rfl rfl fun hd627 => ?_
        refine jg_nil ?_
        refine jk_xn [2, 3, 4] rfl ?_
        refine jx2 (i := 21) (i2 := 28) (by kernel_rfl) (by kernel_rfl) rfl rfl ?_ ?_
        · refine jl_c 5 rfl rfl (fun v w hs hm => gen_Maker_Pick_c hm (hs.blkL (i := 5) rfl) (hs.arg Rha0) (hs.offAL 5 Rha0 rfl) (hs.row 0 rfl) (hs.offLL 0 5 rfl rfl)) (fun _ => rfl) rfl rfl fun v647 q648 => ?_
          refine jg_L (r6 rfl) ?_
          refine jg_nil ?_
          refine jk_xn [2, 3, 4] rfl ?_
          refine jx1 (i := 28) (by kernel_rfl) (by kernel_rfl) rfl ?_
          refine jg_lit (enc := encI) [x727.Hi, 5000, 5001] rfl rfl rfl rfl rfl rfl rfl rfl fun hd787 => ?_
          refine jg_nil ?_
          refine jk_xn [3, 4, 5] rfl ?_
          refine jx1 (i := 29) (by kernel_rfl) (by kernel_rfl) rfl ?_
          refine jl_c 6 rfl rfl (fun v w hs hm => gen_Maker_Pick_c hm (hs.blkL (i := 6) rfl) (hs.arg Rha0) (hs.offAL 6 Rha0 rfl) (hs.row 0 rfl) (hs.offLL 0 6 rfl rfl)) (fun _ => rfl) rfl rfl fun v807 q808 => ?_
          refine jg_L (r7 rfl) ?_
          refine jg_nil ?_
          refine jk_xn [3, 4, 5] rfl ?_
          refine jx_lin [3, 4, 5] 4265491968 4294967295 7 [0, 0, 0, 0, 0, 0, 0, 0, 0, 384, 896, 1920, 3968, 8128, 0, 0, 0, 98304, 229376, 491520, 1015808, 2097088, 0, 0, 0, 25165824, 58720256, 125829120, 260046848, 536870848, 1073741763, 2147483587, 4294967235, 8589934543, 17179869135, 34359738319, 68719476735, 137438953471, 274877906943] [(30, true), (31, true)] rfl (np_blk (np_seq (np_blk (np_seq (np_rnd (np_blk (np_seq np_rt))))))) (by kernel_rfl) (by kernel_rfl) (by kernel_rfl) (by kernel_rfl) (by kernel_rfl) (by kernel_rfl) (by kernel_rfl) (by kernel_rfl) (by kernel_rfl) ?_
          refine jd_ix fun x827 h828 => ?_
          refine jd_y rfl (fun w hs => yv_ix rfl rfl (hs.row 1 rfl) h828) rfl rfl ?_
          refine jd_y rfl (fun w hs => yv_ef rfl (hs.row 1 rfl) h828.1) rfl rfl ?_
          refine jd_x ?_
          refine jx1 (i := 32) (by kernel_rfl) (by kernel_rfl) rfl ?_
          refine jg_storeE 4 (a' := (Resistance.mk v487.1 x827.Lo x827.Hi)) rfl rfl h828.1 rfl (l1 rfl) rfl rfl rfl rfl fun y867 => ?_
          refine jg_L (r7 rfl) ?_
          refine jg_nil ?_
          refine jk_xf (by kernel_rfl) ?_
          refine jx1 (i := 33) (by kernel_rfl) (by kernel_rfl) rfl ?_
          refine jg_ix fun x887 h888 => ?_
          refine jg_y (fun w hs => yv_ix rfl rfl (hs.row 4 rfl) h888) rfl rfl ?_
          refine jg_nil ?_
          refine jk_xf (by kernel_rfl) ?_
          refine jx1 (i := 34) (by kernel_rfl) (by kernel_rfl) rfl ?_
          refine jg_y (fun w hs => yv_ef rfl (hs.row 4 rfl) h888.1) rfl rfl ?_
          refine jg_nil ?_
          refine jk_xf (by kernel_rfl) ?_
          refine jx1 (i := 35) (by kernel_rfl) (by kernel_rfl) rfl ?_
          refine jg_storeE 4 (a' := (Resistance.mk x887.Mass v647.1 x887.Hi)) rfl rfl h888.1 rfl (l1 rfl) rfl rfl rfl rfl fun y927 => ?_
          refine jg_L (r7 rfl) ?_
          refine jg_nil ?_
          refine jk_xf (by kernel_rfl) ?_
          refine jx1 (i := 36) (by kernel_rfl) (by kernel_rfl) rfl ?_
          refine jg_ix fun x947 h948 => ?_
          refine jg_y (fun w hs => yv_ix rfl rfl (hs.row 4 rfl) h948) rfl rfl ?_
          refine jg_nil ?_
          refine jk_xf (by kernel_rfl) ?_
          refine jx1 (i := 37) (by kernel_rfl) (by kernel_rfl) rfl ?_
          refine jg_y (fun w hs => yv_ef rfl (hs.row 4 rfl) h948.1) rfl rfl ?_
          refine jg_nil ?_
          refine jk_xf (by kernel_rfl) ?_
          refine jx1 (i := 38) (by kernel_rfl) (by kernel_rfl) rfl ?_
          refine jg_storeE 4 (a' := (Resistance.mk x947.Mass x947.Lo v807.1)) rfl rfl h948.1 rfl (l1 rfl) rfl rfl rfl rfl fun y987 => ?_
          refine jg_L (r7 rfl) ?_
          refine jg_nil ?_
          refine jk_xf (by kernel_rfl) ?_
          refine jx0 [(1, _), (2, _), (3, _), (9, _), (11, _), (12, _), (13, _), (14, _)] ⟨rfl, rfl, rfl, rfl, rfl, rfl, rfl, rfl, trivial⟩ (by kernel_rfl) (by kernel_rfl) ?_
          refine jk_sel (is := [3, 4, 5, 6]) (s4 rfl) rfl ?_
          refine jk_bn ?_
          exact jk_use H24 (v807.2, y987, v18.1.Wind.Lo, v18.1.Cold.Hi) () [2, 3, 1, 0] ⟨rfl, rfl, rfl, rfl, rfl, rfl, rfl, rfl, trivial⟩ rfl rfl rfl
        refine jg_lit (enc := encI) [x727.Hi, 5000, 5001] rfl rfl rfl rfl rfl rfl rfl rfl fun hd787 => ?_
        refine jg_nil ?_
        refine jk_xn [3, 4, 5] rfl ?_
        refine jx1 (i := 21) (by kernel_rfl) (by kernel_rfl) rfl ?_
        refine jl_c 6 rfl rfl (fun v w hs hm => gen_Maker_Pick_c hm (hs.blkL (i := 6) rfl) (hs.arg Rha0) (hs.offAL 6 Rha0 rfl) (hs.row 1 rfl) (hs.offLL 1 6 rfl rfl)) (fun _ => rfl) rfl rfl fun v647 q648 => ?_
        refine jg_L (r7 rfl) ?_
        refine jg_nil ?_
        refine jk_xn [3, 4, 5] rfl ?_
        refine jx1 (i := 29) (by kernel_rfl) (by kernel_rfl) rfl ?_
        refine jl_c 6 rfl rfl (fun v w hs hm => gen_Maker_Pick_c hm (hs.blkL (i := 6) rfl) (hs.arg Rha0) (hs.offAL 6 Rha0 rfl) (hs.row 0 rfl) (hs.offLL 0 6 rfl rfl)) (fun _ => rfl) rfl rfl fun v807 q808 => ?_
        refine jg_L (r7 rfl) ?_
        refine jg_nil ?_
        refine jk_xn [3, 4, 5] rfl ?_
        refine jx_lin [3, 4, 5] 4265491968 4294967295 7 [0, 0, 0, 0, 0, 0, 0, 0, 0, 384, 896, 1920, 3968, 8128, 0, 0, 0, 98304, 229376, 491520, 1015808, 2097088, 0, 0, 0, 25165824, 58720256, 125829120, 260046848, 536870848, 1073741763, 2147483587, 4294967235, 8589934543, 17179869135, 34359738319, 68719476735, 137438953471, 274877906943] [(30, true), (31, true)] rfl (np_blk (np_seq (np_blk (np_seq (np_rnd (np_blk (np_seq np_rt))))))) (by kernel_rfl) (by kernel_rfl) (by kernel_rfl) (by kernel_rfl) (by kernel_rfl) (by kernel_rfl) (by kernel_rfl) (by kernel_rfl) (by kernel_rfl) ?_
        refine jd_ix fun x827 h828 => ?_
        refine jd_y rfl (fun w hs => yv_ix rfl rfl (hs.row 1 rfl) h828) rfl rfl ?_
        refine jd_y rfl (fun w hs => yv_ef rfl (hs.row 1 rfl) h828.1) rfl rfl ?_
        refine jd_x ?_
        refine jx1 (i := 32) (by kernel_rfl) (by kernel_rfl) rfl ?_
        refine jg_storeE 4 (a' := (Resistance.mk v487.1 x827.Lo x827.Hi)) rfl rfl h828.1 rfl (l1 rfl) rfl rfl rfl rfl fun y867 => ?_
        refine jg_L (r7 rfl) ?_
        refine jg_nil ?_
        refine jk_xf (by kernel_rfl) ?_
        refine jx1 (i := 33) (by kernel_rfl) (by kernel_rfl) rfl ?_
        refine jg_ix fun x887 h888 => ?_
        refine jg_y (fun w hs => yv_ix rfl rfl (hs.row 4 rfl) h888) rfl rfl ?_
        refine jg_nil ?_
        refine jk_xf (by kernel_rfl) ?_
        refine jx1 (i := 34) (by kernel_rfl) (by kernel_rfl) rfl ?_
        refine jg_y (fun w hs => yv_ef rfl (hs.row 4 rfl) h888.1) rfl rfl ?_
        refine jg_nil ?_
        refine jk_xf (by kernel_rfl) ?_
        refine jx1 (i := 35) (by kernel_rfl) (by kernel_rfl) rfl ?_
        refine jg_storeE 4 (a' := (Resistance.mk x887.Mass v647.1 x887.Hi)) rfl rfl h888.1 rfl (l1 rfl) rfl rfl rfl rfl fun y927 => ?_
        refine jg_L (r7 rfl) ?_
        refine jg_nil ?_
        refine jk_xf (by kernel_rfl) ?_
        refine jx1 (i := 36) (by kernel_rfl) (by kernel_rfl) rfl ?_
        refine jg_ix fun x947 h948 => ?_
        refine jg_y (fun w hs => yv_ix rfl rfl (hs.row 4 rfl) h948) rfl rfl ?_
        refine jg_nil ?_
        refine jk_xf (by kernel_rfl) ?_
        refine jx1 (i := 37) (by kernel_rfl) (by kernel_rfl) rfl ?_
        refine jg_y (fun w hs => yv_ef rfl (hs.row 4 rfl) h948.1) rfl rfl ?_
        refine jg_nil ?_
        refine jk_xf (by kernel_rfl) ?_
        refine jx1 (i := 38) (by kernel_rfl) (by kernel_rfl) rfl ?_
        refine jg_storeE 4 (a' := (Resistance.mk x947.Mass x947.Lo v807.1)) rfl rfl h948.1 rfl (l1 rfl) rfl rfl rfl rfl fun y987 => ?_
        refine jg_L (r7 rfl) ?_
        refine jg_nil ?_
        refine jk_xf (by kernel_rfl) ?_
        refine jx0 [(1, _), (2, _), (3, _), (9, _), (11, _), (12, _), (13, _), (14, _)] ⟨rfl, rfl, rfl, rfl, rfl, rfl, rfl, rfl, trivial⟩ (by kernel_rfl) (by kernel_rfl) ?_
        refine jk_sel (is := [3, 4, 5, 6]) (s4 rfl) rfl ?_
        refine jk_bn ?_
        exact jk_use H24 (v807.2, y987, v18.1.Wind.Lo, v18.1.Cold.Hi) () [2, 3, 1, 0] ⟨rfl, rfl, rfl, rfl, rfl, rfl, rfl, rfl, trivial⟩ rfl rfl rfl
      refine jg_lit (enc := encI) [x727.Hi, 5000, 5001] rfl rfl rfl rfl rfl rfl rfl rfl fun hd787 => ?_
      refine jg_nil ?_
      refine jk_xn [2, 3, 4] rfl ?_
      refine jx1 (i := 20) (by kernel_rfl) (by kernel_rfl) rfl ?_
      refine jg_lit (enc := encI) [x567.Lo, (-1), 300] rfl rfl rfl rfl rfl rfl rfl rfl fun hd627 => ?_
      refine jg_nil ?_
      refine jk_xn [3, 4, 5] rfl ?_
      refine jx1 (i := 21) (by kernel_rfl) (by kernel_rfl) rfl ?_
      refine jl_c 6 rfl rfl (fun v w hs hm => gen_Maker_Pick_c hm (hs.blkL (i := 6) rfl) (hs.arg Rha0) (hs.offAL 6 Rha0 rfl) (hs.row 0 rfl) (hs.offLL 0 6 rfl rfl)) (fun _ => rfl) rfl rfl fun v647 q648 => ?_
      refine jg_L (r7 rfl) ?_
      refine jg_nil ?_
      refine jk_xn [3, 4, 5] rfl ?_
      refine jx1 (i := 29) (by kernel_rfl) (by kernel_rfl) rfl ?_
      refine jl_c 6 rfl rfl (fun v w hs hm => gen_Maker_Pick_c hm (hs.blkL (i := 6) rfl) (hs.arg Rha0) (hs.offAL 6 Rha0 rfl) (hs.row 1 rfl) (hs.offLL 1 6 rfl rfl)) (fun _ => rfl) rfl rfl fun v807 q808 => ?_
      refine jg_L (r7 rfl) ?_
      refine jg_nil ?_
      refine jk_xn [3, 4, 5] rfl ?_
      refine jx_lin [3, 4, 5] 4265491968 4294967295 7 [0, 0, 0, 0, 0, 0, 0, 0, 0, 384, 896, 1920, 3968, 8128, 0, 0, 0, 98304, 229376, 491520, 1015808, 2097088, 0, 0, 0, 25165824, 58720256, 125829120, 260046848, 536870848, 1073741763, 2147483587, 4294967235, 8589934543, 17179869135, 34359738319, 68719476735, 137438953471, 274877906943] [(30, true), (31, true)] rfl (np_blk (np_seq (np_blk (np_seq (np_rnd (np_blk (np_seq np_rt))))))) (by kernel_rfl) (by kernel_rfl) (by kernel_rfl) (by kernel_rfl) (by kernel_rfl) (by kernel_rfl) (by kernel_rfl) (by kernel_rfl) (by kernel_rfl) ?_
      refine jd_ix fun x827 h828 => ?_
      refine jd_y rfl (fun w hs => yv_ix rfl rfl (hs.row 1 rfl) h828) rfl rfl ?_
      refine jd_y rfl (fun w hs => yv_ef rfl (hs.row 1 rfl) h828.1) rfl rfl ?_
      refine jd_x ?_
      refine jx1 (i := 32) (by kernel_rfl) (by kernel_rfl) rfl ?_
      refine jg_storeE 4 (a' := (Resistance.mk v487.1 x827.Lo x827.Hi)) rfl rfl h828.1 rfl (l1 rfl) rfl rfl rfl rfl fun y867 => ?_
      refine jg_L (r7 rfl) ?_
      refine jg_nil ?_
      refine jk_xf (by kernel_rfl) ?_
      refine jx1 (i := 33) (by kernel_rfl) (by kernel_rfl) rfl ?_
      refine jg_ix fun x887 h888 => ?_
      refine jg_y (fun w hs => yv_ix rfl rfl (hs.row 4 rfl) h888) rfl rfl ?_
      refine jg_nil ?_
      refine jk_xf (by kernel_rfl) ?_
      refine jx1 (i := 34) (by kernel_rfl) (by kernel_rfl) rfl ?_
      refine jg_y (fun w hs => yv_ef rfl (hs.row 4 rfl) h888.1) rfl rfl ?_
      refine jg_nil ?_
      refine jk_xf (by kernel_rfl) ?_
      refine jx1 (i := 35) (by kernel_rfl) (by kernel_rfl) rfl ?_
      refine jg_storeE 4 (a' := (Resistance.mk x887.Mass v647.1 x887.Hi)) rfl rfl h888.1 rfl (l1 rfl) rfl rfl rfl rfl fun y927 => ?_
      refine jg_L (r7 rfl) ?_
      refine jg_nil ?_
      refine jk_xf (by kernel_rfl) ?_
      refine jx1 (i := 36) (by kernel_rfl) (by kernel_rfl) rfl ?_
      refine jg_ix fun x947 h948 => ?_
      refine jg_y (fun w hs => yv_ix rfl rfl (hs.row 4 rfl) h948) rfl rfl ?_
      refine jg_nil ?_
      refine jk_xf (by kernel_rfl) ?_
      refine jx1 (i := 37) (by kernel_rfl) (by kernel_rfl) rfl ?_
      refine jg_y (fun w hs => yv_ef rfl (hs.row 4 rfl) h948.1) rfl rfl ?_
      refine jg_nil ?_
      refine jk_xf (by kernel_rfl) ?_
      refine jx1 (i := 38) (by kernel_rfl) (by kernel_rfl) rfl ?_
      refine jg_storeE 4 (a' := (Resistance.mk x947.Mass x947.Lo v807.1)) rfl rfl h948.1 rfl (l1 rfl) rfl rfl rfl rfl fun y987 => ?_
      refine jg_L (r7 rfl) ?_
      refine jg_nil ?_
      refine jk_xf (by kernel_rfl) ?_
      refine jx0 [(1, _), (2, _), (3, _), (9, _), (11, _), (12, _), (13, _), (14, _)] ⟨rfl, rfl, rfl, rfl, rfl, rfl, rfl, rfl, trivial⟩ (by kernel_rfl) (by kernel_rfl) ?_
      refine jk_sel (is := [3, 4, 5, 6]) (s4 rfl) rfl ?_
      refine jk_bn ?_
      exact jk_use H24 (v807.2, y987, v18.1.Wind.Lo, v18.1.Cold.Hi) () [2, 3, 1, 0] ⟨rfl, rfl, rfl, rfl, rfl, rfl, rfl, rfl, trivial⟩ rfl rfl rfl
    · refine jg_lit (enc := encI) [x567.Lo, (-1), 300] rfl rfl rfl rfl rfl rfl rfl rfl fun hd627 => ?_
      refine jg_nil ?_
      refine jk_xn [2, 3, 4] rfl ?_
      refine jx2 (i := 13) (i2 := 28) (by kernel_rfl) (by kernel_rfl) rfl rfl ?_ ?_
      · refine jl_c 5 rfl rfl (fun v w hs hm => gen_Maker_Pick_c hm (hs.blkL (i := 5) rfl) (hs.arg Rha0) (hs.offAL 5 Rha0 rfl) (hs.row 1 rfl) (hs.offLL 1 5 rfl rfl)) (fun _ => rfl) rfl rfl fun v487 q488 => ?_
        refine jg_L (r6 rfl) ?_
        refine jg_nil ?_
        refine jk_xn [2, 3, 4] rfl ?_
        refine jx2 (i := 21) (i2 := 28) (by kernel_rfl) (by kernel_rfl) rfl rfl ?_ ?_
        · refine jl_c 5 rfl rfl (fun v w hs hm => gen_Maker_Pick_c hm (hs.blkL (i := 5) rfl) (hs.arg Rha0) (hs.offAL 5 Rha0 rfl) (hs.row 0 rfl) (hs.offLL 0 5 rfl rfl)) (fun _ => rfl) rfl rfl fun v647 q648 => ?_
          refine jg_L (r6 rfl) ?_
          refine jg_nil ?_
          refine jk_xn [2, 3, 4] rfl ?_
          refine jx1 (i := 28) (by kernel_rfl) (by kernel_rfl) rfl ?_
          refine jg_lit (enc := encI) [x727.Hi, 5000, 5001] rfl rfl rfl rfl rfl rfl rfl rfl fun hd787 => ?_
          refine jg_nil ?_
          refine jk_xn [3, 4, 5] rfl ?_
          refine jx1 (i := 29) (by kernel_rfl) (by kernel_rfl) rfl ?_
          refine jl_c 6 rfl rfl (fun v w hs hm => gen_Maker_Pick_c hm (hs.blkL (i := 6) rfl) (hs.arg Rha0) (hs.offAL 6 Rha0 rfl) (hs.row 0 rfl) (hs.offLL 0 6 rfl rfl)) (fun _ => rfl) rfl rfl fun v807 q808 => ?_
          refine jg_L (r7 rfl) ?_
          refine jg_nil ?_
          refine jk_xn [3, 4, 5] rfl ?_
          refine jx_lin [3, 4, 5] 4265491968 4294967295 7 [0, 0, 0, 0, 0, 0, 0, 0, 0, 384, 896, 1920, 3968, 8128, 0, 0, 0, 98304, 229376, 491520, 1015808, 2097088, 0, 0, 0, 25165824, 58720256, 125829120, 260046848, 536870848, 1073741763, 2147483587, 4294967235, 8589934543, 17179869135, 34359738319, 68719476735, 137438953471, 274877906943] [(30, true), (31, true)] rfl (np_blk (np_seq (np_blk (np_seq (np_rnd (np_blk (np_seq np_rt))))))) (by kernel_rfl) (by kernel_rfl) (by kernel_rfl) (by kernel_rfl) (by kernel_rfl) (by kernel_rfl) (by kernel_rfl) (by kernel_rfl) (by kernel_rfl) ?_
          refine jd_ix fun x827 h828 => ?_
          refine jd_y rfl (fun w hs => yv_ix rfl rfl (hs.row 1 rfl) h828) rfl rfl ?_
          refine jd_y rfl (fun w hs => yv_ef rfl (hs.row 1 rfl) h828.1) rfl rfl ?_
          refine jd_x ?_
          refine jx1 (i := 32) (by kernel_rfl) (by kernel_rfl) rfl ?_
          refine jg_storeE 4 (a' := (Resistance.mk v487.1 x827.Lo x827.Hi)) rfl rfl h828.1 rfl (l1 rfl) rfl rfl rfl rfl fun y867 => ?_
          refine jg_L (r7 rfl) ?_
          refine jg_nil ?_
          refine jk_xf (by kernel_rfl) ?_
          refine jx1 (i := 33) (by kernel_rfl) (by kernel_rfl) rfl ?_
          refine jg_ix fun x887 h888 => ?_
          refine jg_y (fun w hs => yv_ix rfl rfl (hs.row 4 rfl) h888) rfl rfl ?_
          refine jg_nil ?_
          refine jk_xf (by kernel_rfl) ?_
          refine jx1 (i := 34) (by kernel_rfl) (by kernel_rfl) rfl ?_
          refine jg_y (fun w hs => yv_ef rfl (hs.row 4 rfl) h888.1) rfl rfl ?_
          refine jg_nil ?_
          refine jk_xf (by kernel_rfl) ?_
          refine jx1 (i := 35) (by kernel_rfl) (by kernel_rfl) rfl ?_
          refine jg_storeE 4 (a' := (Resistance.mk x887.Mass v647.1 x887.Hi)) rfl rfl h888.1 rfl (l1 rfl) rfl rfl rfl rfl fun y927 => ?_
          refine jg_L (r7 rfl) ?_
          refine jg_nil ?_
          refine jk_xf (by kernel_rfl) ?_
          refine jx1 (i := 36) (by kernel_rfl) (by kernel_rfl) rfl ?_
          refine jg_ix fun x947 h948 => ?_
          refine jg_y (fun w hs => yv_ix rfl rfl (hs.row 4 rfl) h948) rfl rfl ?_
          refine jg_nil ?_
          refine jk_xf (by kernel_rfl) ?_
          refine jx1 (i := 37) (by kernel_rfl) (by kernel_rfl) rfl ?_
          refine jg_y (fun w hs => yv_ef rfl (hs.row 4 rfl) h948.1) rfl rfl ?_
          refine jg_nil ?_
          refine jk_xf (by kernel_rfl) ?_
          refine jx1 (i := 38) (by kernel_rfl) (by kernel_rfl) rfl ?_
          refine jg_storeE 4 (a' := (Resistance.mk x947.Mass x947.Lo v807.1)) rfl rfl h948.1 rfl (l1 rfl) rfl rfl rfl rfl fun y987 => ?_
          refine jg_L (r7 rfl) ?_
          refine jg_nil ?_
          refine jk_xf (by kernel_rfl) ?_
          refine jx0 [(1, _), (2, _), (3, _), (9, _), (11, _), (12, _), (13, _), (14, _)] ⟨rfl, rfl, rfl, rfl, rfl, rfl, rfl, rfl, trivial⟩ (by kernel_rfl) (by kernel_rfl) ?_
          refine jk_sel (is := [3, 4, 5, 6]) (s4 rfl) rfl ?_
          refine jk_bn ?_
          exact jk_use H24 (v807.2, y987, v18.1.Wind.Lo, v18.1.Cold.Hi) () [2, 3, 1, 0] ⟨rfl, rfl, rfl, rfl, rfl, rfl, rfl, rfl, trivial⟩ rfl rfl rfl
        refine jg_lit (enc := encI) [x727.Hi, 5000, 5001] rfl rfl rfl rfl rfl rfl rfl rfl fun hd787 => ?_
        refine jg_nil ?_
        refine jk_xn [3, 4, 5] rfl ?_
        refine jx1 (i := 21) (by kernel_rfl) (by kernel_rfl) rfl ?_
        refine jl_c 6 rfl rfl (fun v w hs hm => gen_Maker_Pick_c hm (hs.blkL (i := 6) rfl) (hs.arg Rha0) (hs.offAL 6 Rha0 rfl) (hs.row 1 rfl) (hs.offLL 1 6 rfl rfl)) (fun _ => rfl) rfl rfl fun v647 q648 => ?_
        refine jg_L (r7 rfl) ?_
        refine jg_nil ?_
        refine jk_xn [3, 4, 5] rfl ?_
        refine jx1 (i := 29) (by kernel_rfl) (by kernel_rfl) rfl ?_
        refine jl_c 6 rfl rfl (fun v w hs hm => gen_Maker_Pick_c hm (hs.blkL (i := 6) rfl) (hs.arg Rha0) (hs.offAL 6 Rha0 rfl) (hs.row 0 rfl) (hs.offLL 0 6 rfl rfl)) (fun _ => rfl) rfl rfl fun v807 q808 => ?_
        refine jg_L (r7 rfl) ?_
        refine jg_nil ?_
        refine jk_xn [3, 4, 5] rfl ?_
        refine jx_lin [3, 4, 5] 4265491968 4294967295 7 [0, 0, 0, 0, 0, 0, 0, 0, 0, 384, 896, 1920, 3968, 8128, 0, 0, 0, 98304, 229376, 491520, 1015808, 2097088, 0, 0, 0, 25165824, 58720256, 125829120, 260046848, 536870848, 1073741763, 2147483587, 4294967235, 8589934543, 17179869135, 34359738319, 68719476735, 137438953471, 274877906943] [(30, true), (31, true)] rfl (np_blk (np_seq (np_blk (np_seq (np_rnd (np_blk (np_seq np_rt))))))) (by kernel_rfl) (by kernel_rfl) (by kernel_rfl) (by kernel_rfl) (by kernel_rfl) (by kernel_rfl) (by kernel_rfl) (by kernel_rfl) (by kernel_rfl) ?_
        refine jd_ix fun x827 h828 => ?_
        refine jd_y rfl (fun w hs => yv_ix rfl rfl (hs.row 1 rfl) h828) rfl rfl ?_
        refine jd_y rfl (fun w hs => yv_ef rfl (hs.row 1 rfl) h828.1) rfl rfl ?_
        refine jd_x ?_
        refine jx1 (i := 32) (by kernel_rfl) (by kernel_rfl) rfl ?_
        refine jg_storeE 4 (a' := (Resistance.mk v487.1 x827.Lo x827.Hi)) rfl rfl h828.1 rfl (l1 rfl) rfl rfl rfl rfl fun y867 => ?_
        refine jg_L (r7 rfl) ?_
        refine jg_nil ?_
        refine jk_xf (by kernel_rfl) ?_
        refine jx1 (i := 33) (by kernel_rfl) (by kernel_rfl) rfl ?_
        refine jg_ix fun x887 h888 => ?_
        refine jg_y (fun w hs => yv_ix rfl rfl (hs.row 4 rfl) h888) rfl rfl ?_
        refine jg_nil ?_
        refine jk_xf (by kernel_rfl) ?_
        refine jx1 (i := 34) (by kernel_rfl) (by kernel_rfl) rfl ?_
        refine jg_y (fun w hs => yv_ef rfl (hs.row 4 rfl) h888.1) rfl rfl ?_
        refine jg_nil ?_
        refine jk_xf (by kernel_rfl) ?_
        refine jx1 (i := 35) (by kernel_rfl) (by kernel_rfl) rfl ?_
        refine jg_storeE 4 (a' := (Resistance.mk x887.Mass v647.1 x887.Hi)) rfl rfl h888.1 rfl (l1 rfl) rfl rfl rfl rfl fun y927 => ?_
        refine jg_L (r7 rfl) ?_
        refine jg_nil ?_
        refine jk_xf (by kernel_rfl) ?_
        refine jx1 (i := 36) (by kernel_rfl) (by kernel_rfl) rfl ?_
        refine jg_ix fun x947 h948 => ?_
        refine jg_y (fun w hs => yv_ix rfl rfl (hs.row 4 rfl) h948) rfl rfl ?_
        refine jg_nil ?_
        refine jk_xf (by kernel_rfl) ?_
        refine jx1 (i := 37) (by kernel_rfl) (by kernel_rfl) rfl ?_
        refine jg_y (fun w hs => yv_ef rfl (hs.row 4 rfl) h948.1) rfl rfl ?_
        refine jg_nil ?_
        refine jk_xf (by kernel_rfl) ?_
        refine jx1 (i := 38) (by kernel_rfl) (by kernel_rfl) rfl ?_
        refine jg_storeE 4 (a' := (Resistance.mk x947.Mass x947.Lo v807.1)) rfl rfl h948.1 rfl (l1 rfl) rfl rfl rfl rfl fun y987 => ?_
        refine jg_L (r7 rfl) ?_
        refine jg_nil ?_
        refine jk_xf (by kernel_rfl) ?_
        refine jx0 [(1, _), (2, _), (3, _), (9, _), (11, _), (12, _), (13, _), (14, _)] ⟨rfl, rfl, rfl, rfl, rfl, rfl, rfl, rfl, trivial⟩ (by kernel_rfl) (by kernel_rfl) ?_
        refine jk_sel (is := [3, 4, 5, 6]) (s4 rfl) rfl ?_
        refine jk_bn ?_
        exact jk_use H24 (v807.2, y987, v18.1.Wind.Lo, v18.1.Cold.Hi) () [2, 3, 1, 0] ⟨rfl, rfl, rfl, rfl, rfl, rfl, rfl, rfl, trivial⟩ rfl rfl rfl
      refine jg_lit (enc := encI) [x727.Hi, 5000, 5001] rfl rfl rfl rfl rfl rfl rfl rfl fun hd787 => ?_
      refine jg_nil ?_
      refine jk_xn [3, 4, 5] rfl ?_
      refine jx1 (i := 13) (by kernel_rfl) (by kernel_rfl) rfl ?_
      refine jl_c 6 rfl rfl (fun v w hs hm => gen_Maker_Pick_c hm (hs.blkL (i := 6) rfl) (hs.arg Rha0) (hs.offAL 6 Rha0 rfl) (hs.row 2 rfl) (hs.offLL 2 6 rfl rfl)) (fun _ => rfl) rfl rfl fun v487 q488 => ?_
      refine jg_L (r7 rfl) ?_
      refine jg_nil ?_
      refine jk_xn [3, 4, 5] rfl ?_
      refine jx1 (i := 21) (by kernel_rfl) (by kernel_rfl) rfl ?_
      refine jl_c 6 rfl rfl (fun v w hs hm => gen_Maker_Pick_c hm (hs.blkL (i := 6) rfl) (hs.arg Rha0) (hs.offAL 6 Rha0 rfl) (hs.row 1 rfl) (hs.offLL 1 6 rfl rfl)) (fun _ => rfl) rfl rfl fun v647 q648 => ?_
      refine jg_L (r7 rfl) ?_
      refine jg_nil ?_
      refine jk_xn [3, 4, 5] rfl ?_
      refine jx1 (i := 29) (by kernel_rfl) (by kernel_rfl) rfl ?_
      refine jl_c 6 rfl rfl (fun v w hs hm => gen_Maker_Pick_c hm (hs.blkL (i := 6) rfl) (hs.arg Rha0) (hs.offAL 6 Rha0 rfl) (hs.row 0 rfl) (hs.offLL 0 6 rfl rfl)) (fun _ => rfl) rfl rfl fun v807 q808 => ?_
      refine jg_L (r7 rfl) ?_
      refine jg_nil ?_
      refine jk_xn [3, 4, 5] rfl ?_
      refine jx_lin [3, 4, 5] 4265491968 4294967295 7 [0, 0, 0, 0, 0, 0, 0, 0, 0, 384, 896, 1920, 3968, 8128, 0, 0, 0, 98304, 229376, 491520, 1015808, 2097088, 0, 0, 0, 25165824, 58720256, 125829120, 260046848, 536870848, 1073741763, 2147483587, 4294967235, 8589934543, 17179869135, 34359738319, 68719476735, 137438953471, 274877906943] [(30, true), (31, true)] rfl (np_blk (np_seq (np_blk (np_seq (np_rnd (np_blk (np_seq np_rt))))))) (by kernel_rfl) (by kernel_rfl) (by kernel_rfl) (by kernel_rfl) (by kernel_rfl) (by kernel_rfl) (by kernel_rfl) (by kernel_rfl) (by kernel_rfl) ?_
      refine jd_ix fun x827 h828 => ?_
      refine jd_y rfl (fun w hs => yv_ix rfl rfl (hs.row 1 rfl) h828) rfl rfl ?_
      refine jd_y rfl (fun w hs => yv_ef rfl (hs.row 1 rfl) h828.1) rfl rfl ?_
      refine jd_x ?_
      refine jx1 (i := 32) (by kernel_rfl) (by kernel_rfl) rfl ?_
      refine jg_storeE 4 (a' := (Resistance.mk v487.1 x827.Lo x827.Hi)) rfl rfl h828.1 rfl (l1 rfl) rfl rfl rfl rfl fun y867 => ?_
      refine jg_L (r7 rfl) ?_
      refine jg_nil ?_
      refine jk_xf (by kernel_rfl) ?_
      refine jx1 (i := 33) (by kernel_rfl) (by kernel_rfl) rfl ?_
      refine jg_ix fun x887 h888 => ?_
      refine jg_y (fun w hs => yv_ix rfl rfl (hs.row 4 rfl) h888) rfl rfl ?_
      refine jg_nil ?_
      refine jk_xf (by kernel_rfl) ?_
      refine jx1 (i := 34) (by kernel_rfl) (by kernel_rfl) rfl ?_
      refine jg_y (fun w hs => yv_ef rfl (hs.row 4 rfl) h888.1) rfl rfl ?_
      refine jg_nil ?_
      refine jk_xf (by kernel_rfl) ?_
      refine jx1 (i := 35) (by kernel_rfl) (by kernel_rfl) rfl ?_
      refine jg_storeE 4 (a' := (Resistance.mk x887.Mass v647.1 x887.Hi)) rfl rfl h888.1 rfl (l1 rfl) rfl rfl rfl rfl fun y927 => ?_
      refine jg_L (r7 rfl) ?_
      refine jg_nil ?_
      refine jk_xf (by kernel_rfl) ?_
      refine jx1 (i := 36) (by kernel_rfl) (by kernel_rfl) rfl ?_
      refine jg_ix fun x947 h948 => ?_
      refine jg_y (fun w hs => yv_ix rfl rfl (hs.row 4 rfl) h948) rfl rfl ?_
      refine jg_nil ?_
      refine jk_xf (by kernel_rfl) ?_
      refine jx1 (i := 37) (by kernel_rfl) (by kernel_rfl) rfl ?_
      refine jg_y (fun w hs => yv_ef rfl (hs.row 4 rfl) h948.1) rfl rfl ?_
      refine jg_nil ?_
      refine jk_xf (by kernel_rfl) ?_
      refine jx1 (i := 38) (by kernel_rfl) (by kernel_rfl) rfl ?_
      refine jg_storeE 4 (a' := (Resistance.mk x947.Mass x947.Lo v807.1)) rfl rfl h948.1 rfl (l1 rfl) rfl rfl rfl rfl fun y987 => ?_
      refine jg_L (r7 rfl) ?_
      refine jg_nil ?_
      refine jk_xf (by kernel_rfl) ?_
      refine jx0 [(1, _), (2, _), (3, _), (9, _), (11, _), (12, _), (13, _), (14, _)] ⟨rfl, rfl, rfl, rfl, rfl, rfl, rfl, rfl, trivial⟩ (by kernel_rfl) (by kernel_rfl) ?_
      refine jk_sel (is := [3, 4, 5, 6]) (s4 rfl) rfl ?_
      refine jk_bn ?_
      exact jk_use H24 (v807.2, y987, v18.1.Wind.Lo, v18.1.Cold.Hi) () [2, 3, 1, 0] ⟨rfl, rfl, rfl, rfl, rfl, rfl, rfl, rfl, trivial⟩ rfl rfl rfl
    refine jg_lit (enc := encI) [x727.Hi, 5000, 5001] rfl rfl rfl rfl rfl rfl rfl rfl fun hd787 => ?_
    refine jg_nil ?_
    refine jk_xn [2, 3, 4] rfl ?_
    refine jx2 (i := 13) (i2 := 20) (by kernel_rfl) (by kernel_rfl) rfl rfl ?_ ?_
    · refine jl_c 5 rfl rfl (fun v w hs hm => gen_Maker_Pick_c hm (hs.blkL (i := 5) rfl) (hs.arg Rha0) (hs.offAL 5 Rha0 rfl) (hs.row 1 rfl) (hs.offLL 1 5 rfl rfl)) (fun _ => rfl) rfl rfl fun v487 q488 => ?_
      refine jg_L (r6 rfl) ?_
      refine jg_nil ?_
      refine jk_xn [2, 3, 4] rfl ?_
      refine jx1 (i := 20) (by kernel_rfl) (by kernel_rfl) rfl ?_
      refine jg_lit (enc := encI) [x567.Lo, (-1), 300] rfl rfl rfl rfl rfl rfl rfl rfl fun hd627 => ?_
      refine jg_nil ?_
      refine jk_xn [3, 4, 5] rfl ?_
      refine jx1 (i := 21) (by kernel_rfl) (by kernel_rfl) rfl ?_
      refine jl_c 6 rfl rfl (fun v w hs hm => gen_Maker_Pick_c hm (hs.blkL (i := 6) rfl) (hs.arg Rha0) (hs.offAL 6 Rha0 rfl) (hs.row 0 rfl) (hs.offLL 0 6 rfl rfl)) (fun _ => rfl) rfl rfl fun v647 q648 => ?_
      refine jg_L (r7 rfl) ?_
      refine jg_nil ?_
      refine jk_xn [3, 4, 5] rfl ?_
      refine jx1 (i := 29) (by kernel_rfl) (by kernel_rfl) rfl ?_
      refine jl_c 6 rfl rfl (fun v w hs hm => gen_Maker_Pick_c hm (hs.blkL (i := 6) rfl) (hs.arg Rha0) (hs.offAL 6 Rha0 rfl) (hs.row 1 rfl) (hs.offLL 1 6 rfl rfl)) (fun _ => rfl) rfl rfl fun v807 q808 => ?_
      refine jg_L (r7 rfl) ?_
      refine jg_nil ?_
      refine jk_xn [3, 4, 5] rfl ?_
      refine jx_lin [3, 4, 5] 4265491968 4294967295 7 [0, 0, 0, 0, 0, 0, 0, 0, 0, 384, 896, 1920, 3968, 8128, 0, 0, 0, 98304, 229376, 491520, 1015808, 2097088, 0, 0, 0, 25165824, 58720256, 125829120, 260046848, 536870848, 1073741763, 2147483587, 4294967235, 8589934543, 17179869135, 34359738319, 68719476735, 137438953471, 274877906943] [(30, true), (31, true)] rfl (np_blk (np_seq (np_blk (np_seq (np_rnd (np_blk (np_seq np_rt))))))) (by kernel_rfl) (by kernel_rfl) (by kernel_rfl) (by kernel_rfl) (by kernel_rfl) (by kernel_rfl) (by kernel_rfl) (by kernel_rfl) (by kernel_rfl) ?_
      refine jd_ix fun x827 h828 => ?_
      refine jd_y rfl (fun w hs => yv_ix rfl rfl (hs.row 1 rfl) h828) rfl rfl ?_
      refine jd_y rfl (fun w hs => yv_ef rfl (hs.row 1 rfl) h828.1) rfl rfl ?_
      refine jd_x ?_
      refine jx1 (i := 32) (by kernel_rfl) (by kernel_rfl) rfl ?_
      refine jg_storeE 4 (a' := (Resistance.mk v487.1 x827.Lo x827.Hi)) rfl rfl h828.1 rfl (l1 rfl) rfl rfl rfl rfl fun y867 => ?_
      refine jg_L (r7 rfl) ?_
      refine jg_nil ?_
      refine jk_xf (by kernel_rfl) ?_
      refine jx1 (i := 33) (by kernel_rfl) (by kernel_rfl) rfl ?_
      refine jg_ix fun x887 h888 => ?_
      refine jg_y (fun w hs => yv_ix rfl rfl (hs.row 4 rfl) h888) rfl rfl ?_
      refine jg_nil ?_
      refine jk_xf (by kernel_rfl) ?_
      refine jx1 (i := 34) (by kernel_rfl) (by kernel_rfl) rfl ?_
      refine jg_y (fun w hs => yv_ef rfl (hs.row 4 rfl) h888.1) rfl rfl ?_
      refine jg_nil ?_
      refine jk_xf (by kernel_rfl) ?_
      refine jx1 (i := 35) (by kernel_rfl) (by kernel_rfl) rfl ?_
      refine jg_storeE 4 (a' := (Resistance.mk x887.Mass v647.1 x887.Hi)) rfl rfl h888.1 rfl (l1 rfl) rfl rfl rfl rfl fun y927 => ?_
      refine jg_L (r7 rfl) ?_
      refine jg_nil ?_
      refine jk_xf (by kernel_rfl) ?_
      refine jx1 (i := 36) (by kernel_rfl) (by kernel_rfl) rfl ?_
      refine jg_ix fun x947 h948 => ?_
      refine jg_y (fun w hs => yv_ix rfl rfl (hs.row 4 rfl) h948) rfl rfl ?_
      refine jg_nil ?_
      refine jk_xf (by kernel_rfl) ?_
      refine jx1 (i := 37) (by kernel_rfl) (by kernel_rfl) rfl ?_
      refine jg_y (fun w hs => yv_ef rfl (hs.row 4 rfl) h948.1) rfl rfl ?_
      refine jg_nil ?_
      refine jk_xf (by kernel_rfl) ?_
      refine jx1 (i := 38) (by kernel_rfl) (by kernel_rfl) rfl ?_
      refine jg_storeE 4 (a' := (Resistance.mk x947.Mass x947.Lo v807.1)) rfl rfl h948.1 rfl (l1 rfl) rfl rfl rfl rfl fun y987 => ?_
      refine jg_L (r7 rfl) ?_
      refine jg_nil ?_
      refine jk_xf (by kernel_rfl) ?_
      refine jx0 [(1, _), (2, _), (3, _), (9, _), (11, _), (12, _), (13, _), (14, _)] ⟨rfl, rfl, rfl, rfl, rfl, rfl, rfl, rfl, trivial⟩ (by kernel_rfl) (by kernel_rfl) ?_
      refine jk_sel (is := [3, 4, 5, 6]) (s4 rfl) rfl ?_
      refine jk_bn ?_
      exact jk_use H24 (v807.2, y987, v18.1.Wind.Lo, v18.1.Cold.Hi) () [2, 3, 1, 0] ⟨rfl, rfl, rfl, rfl, rfl, rfl, rfl, rfl, trivial⟩ rfl rfl rfl
    refine jg_lit (enc := encI) [x567.Lo, (-1), 300] rfl rfl rfl rfl rfl rfl rfl rfl fun hd627 => ?_
    refine jg_nil ?_
    refine jk_xn [3, 4, 5] rfl ?_
    refine jx1 (i := 13) (by kernel_rfl) (by kernel_rfl) rfl ?_
    refine jl_c 6 rfl rfl (fun v w hs hm => gen_Maker_Pick_c hm (hs.blkL (i := 6) rfl) (hs.arg Rha0) (hs.offAL 6 Rha0 rfl) (hs.row 2 rfl) (hs.offLL 2 6 rfl rfl)) (fun _ => rfl) rfl rfl fun v487 q488 => ?_
    refine jg_L (r7 rfl) ?_
    refine jg_nil ?_
    refine jk_xn [3, 4, 5] rfl ?_
    refine jx1 (i := 21) (by kernel_rfl) (by kernel_rfl) rfl ?_
    refine jl_c 6 rfl rfl (fun v w hs hm => gen_Maker_Pick_c hm (hs.blkL (i := 6) rfl) (hs.arg Rha0) (hs.offAL 6 Rha0 rfl) (hs.row 0 rfl) (hs.offLL 0 6 rfl rfl)) (fun _ => rfl) rfl rfl fun v647 q648 => ?_
    refine jg_L (r7 rfl) ?_
    refine jg_nil ?_
    refine jk_xn [3, 4, 5] rfl ?_
    refine jx1 (i := 29) (by kernel_rfl) (by kernel_rfl) rfl ?_
    refine jl_c 6 rfl rfl (fun v w hs hm => gen_Maker_Pick_c hm (hs.blkL (i := 6) rfl) (hs.arg Rha0) (hs.offAL 6 Rha0 rfl) (hs.row 1 rfl) (hs.offLL 1 6 rfl rfl)) (fun _ => rfl) rfl rfl fun v807 q808 => ?_
    refine jg_L (r7 rfl) ?_
    refine jg_nil ?_
    refine jk_xn [3, 4, 5] rfl ?_
    refine jx_lin [3, 4, 5] 4265491968 4294967295 7 [0, 0, 0, 0, 0, 0, 0, 0, 0, 384, 896, 1920, 3968, 8128, 0, 0, 0, 98304, 229376, 491520, 1015808, 2097088, 0, 0, 0, 25165824, 58720256, 125829120, 260046848, 536870848, 1073741763, 2147483587, 4294967235, 8589934543, 17179869135, 34359738319, 68719476735, 137438953471, 274877906943] [(30, true), (31, true)] rfl (np_blk (np_seq (np_blk (np_seq (np_rnd (np_blk (np_seq np_rt))))))) (by kernel_rfl) (by kernel_rfl) (by kernel_rfl) (by kernel_rfl) (by kernel_rfl) (by kernel_rfl) (by kernel_rfl) (by kernel_rfl) (by kernel_rfl) ?_
    refine jd_ix fun x827 h828 => ?_
    refine jd_y rfl (fun w hs => yv_ix rfl rfl (hs.row 1 rfl) h828) rfl rfl ?_
    refine jd_y rfl (fun w hs => yv_ef rfl (hs.row 1 rfl) h828.1) rfl rfl ?_
    refine jd_x ?_
    refine jx1 (i := 32) (by kernel_rfl) (by kernel_rfl) rfl ?_
    refine jg_storeE 4 (a' := (Resistance.mk v487.1 x827.Lo x827.Hi)) rfl rfl h828.1 rfl (l1 rfl) rfl rfl rfl rfl fun y867 => ?_
    refine jg_L (r7 rfl) ?_
    refine jg_nil ?_
    refine jk_xf (by kernel_rfl) ?_
    refine jx1 (i := 33) (by kernel_rfl) (by kernel_rfl) rfl ?_
    refine jg_ix fun x887 h888 => ?_
    refine jg_y (fun w hs => yv_ix rfl rfl (hs.row 4 rfl) h888) rfl rfl ?_
    refine jg_nil ?_
    refine jk_xf (by kernel_rfl) ?_
    refine jx1 (i := 34) (by kernel_rfl) (by kernel_rfl) rfl ?_
    refine jg_y (fun w hs => yv_ef rfl (hs.row 4 rfl) h888.1) rfl rfl ?_
    refine jg_nil ?_
    refine jk_xf (by kernel_rfl) ?_
    refine jx1 (i := 35) (by kernel_rfl) (by kernel_rfl) rfl ?_
    refine jg_storeE 4 (a' := (Resistance.mk x887.Mass v647.1 x887.Hi)) rfl rfl h888.1 rfl (l1 rfl) rfl rfl rfl rfl fun y927 => ?_
    refine jg_L (r7 rfl) ?_
    refine jg_nil ?_
    refine jk_xf (by kernel_rfl) ?_
    refine jx1 (i := 36) (by kernel_rfl) (by kernel_rfl) rfl ?_
    refine jg_ix fun x947 h948 => ?_
    refine jg_y (fun w hs => yv_ix rfl rfl (hs.row 4 rfl) h948) rfl rfl ?_
    refine jg_nil ?_
    refine jk_xf (by kernel_rfl) ?_
    refine jx1 (i := 37) (by kernel_rfl) (by kernel_rfl) rfl ?_
    refine jg_y (fun w hs => yv_ef rfl (hs.row 4 rfl) h948.1) rfl rfl ?_
    refine jg_nil ?_
    refine jk_xf (by kernel_rfl) ?_
    refine jx1 (i := 38) (by kernel_rfl) (by kernel_rfl) rfl ?_
    refine jg_storeE 4 (a' := (Resistance.mk x947.Mass x947.Lo v807.1)) rfl rfl h948.1 rfl (l1 rfl) rfl rfl rfl rfl fun y987 => ?_
    refine jg_L (r7 rfl) ?_
    refine jg_nil ?_
    refine jk_xf (by kernel_rfl) ?_
    refine jx0 [(1, _), (2, _), (3, _), (9, _), (11, _), (12, _), (13, _), (14, _)] ⟨rfl, rfl, rfl, rfl, rfl, rfl, rfl, rfl, trivial⟩ (by kernel_rfl) (by kernel_rfl) ?_
    refine jk_sel (is := [3, 4, 5, 6]) (s4 rfl) rfl ?_
    refine jk_bn ?_
    exact jk_use H24 (v807.2, y987, v18.1.Wind.Lo, v18.1.Cold.Hi) () [2, 3, 1, 0] ⟨rfl, rfl, rfl, rfl, rfl, rfl, rfl, rfl, trivial⟩ rfl rfl rfl
  · refine jg_lit (enc := encI) [x567.Lo, (-1), 300] rfl rfl rfl rfl rfl rfl rfl rfl fun hd627 => ?_
    refine jg_nil ?_
    refine jk_xn [1, 2, 3] rfl ?_
    refine jx2 (i := 12) (i2 := 28) (by kernel_rfl) (by kernel_rfl) rfl rfl ?_ ?_
    · refine jg_lit (enc := encI) [x407.Mass, 0, 2001] rfl rfl rfl rfl rfl rfl rfl rfl fun hd467 => ?_
      refine jg_nil ?_
      refine jk_xn [2, 3, 4] rfl ?_
      refine jx2 (i := 13) (i2 := 28) (by kernel_rfl) (by kernel_rfl) rfl rfl ?_ ?_
      · refine jl_c 5 rfl rfl (fun v w hs hm => gen_Maker_Pick_c hm (hs.blkL (i := 5) rfl) (hs.arg Rha0) (hs.offAL 5 Rha0 rfl) (hs.row 0 rfl) (hs.offLL 0 5 rfl rfl)) (fun _ => rfl) rfl rfl fun v487 q488 => ?_
        refine jg_L (r6 rfl) ?_
        refine jg_nil ?_
        refine jk_xn [2, 3, 4] rfl ?_
        refine jx2 (i := 21) (i2 := 28) (by kernel_rfl) (by kernel_rfl) rfl rfl ?_ ?_
        · refine jl_c 5 rfl rfl (fun v w hs hm => gen_Maker_Pick_c hm (hs.blkL (i := 5) rfl) (hs.arg Rha0) (hs.offAL 5 Rha0 rfl) (hs.row 1 rfl) (hs.offLL 1 5 rfl rfl)) (fun _ => rfl) rfl rfl fun v647 q648 => ?_
          refine jg_L (r6 rfl) ?_
          refine jg_nil ?_
          refine jk_xn [2, 3, 4] rfl ?_
          refine jx1 (i := 28) (by kernel_rfl) (by kernel_rfl) rfl ?_
          refine jg_lit (enc := encI) [x727.Hi, 5000, 5001] rfl rfl rfl rfl rfl rfl rfl rfl fun hd787 => ?_
          refine jg_nil ?_
          refine jk_xn [3, 4, 5] rfl ?_
          refine jx1 (i := 29) (by kernel_rfl) (by kernel_rfl) rfl ?_
          refine jl_c 6 rfl rfl (fun v w hs hm => gen_Maker_Pick_c hm (hs.blkL (i := 6) rfl) (hs.arg Rha0) (hs.offAL 6 Rha0 rfl) (hs.row 0 rfl) (hs.offLL 0 6 rfl rfl)) (fun _ => rfl) rfl rfl fun v807 q808 => ?_
          refine jg_L (r7 rfl) ?_
          refine jg_nil ?_
          refine jk_xn [3, 4, 5] rfl ?_
          refine jx_lin [3, 4, 5] 4265491968 4294967295 7 [0, 0, 0, 0, 0, 0, 0, 0, 0, 384, 896, 1920, 3968, 8128, 0, 0, 0, 98304, 229376, 491520, 1015808, 2097088, 0, 0, 0, 25165824, 58720256, 125829120, 260046848, 536870848, 1073741763, 2147483587, 4294967235, 8589934543, 17179869135, 34359738319, 68719476735, 137438953471, 274877906943] [(30, true), (31, true)] rfl (np_blk (np_seq (np_blk (np_seq (np_rnd (np_blk (np_seq np_rt))))))) (by kernel_rfl) (by kernel_rfl) (by kernel_rfl) (by kernel_rfl) (by kernel_rfl) (by kernel_rfl) (by kernel_rfl) (by kernel_rfl) (by kernel_rfl) ?_
          refine jd_ix fun x827 h828 => ?_
          refine jd_y rfl (fun w hs => yv_ix rfl rfl (hs.row 1 rfl) h828) rfl rfl ?_
          refine jd_y rfl (fun w hs => yv_ef rfl (hs.row 1 rfl) h828.1) rfl rfl ?_
          refine jd_x ?_
          refine jx1 (i := 32) (by kernel_rfl) (by kernel_rfl) rfl ?_
          refine jg_storeE 4 (a' := (Resistance.mk v487.1 x827.Lo x827.Hi)) rfl rfl h828.1 rfl (l1 rfl) rfl rfl rfl rfl fun y867 => ?_
          refine jg_L (r7 rfl) ?_
          refine jg_nil ?_
          refine jk_xf (by kernel_rfl) ?_
          refine jx1 (i := 33) (by kernel_rfl) (by kernel_rfl) rfl ?_
          refine jg_ix fun x887 h888 => ?_
          refine jg_y (fun w hs => yv_ix rfl rfl (hs.row 4 rfl) h888) rfl rfl ?_
          refine jg_nil ?_
          refine jk_xf (by kernel_rfl) ?_
          refine jx1 (i := 34) (by kernel_rfl) (by kernel_rfl) rfl ?_
          refine jg_y (fun w hs => yv_ef rfl (hs.row 4 rfl) h888.1) rfl rfl ?_
          refine jg_nil ?_
          refine jk_xf (by kernel_rfl) ?_
          refine jx1 (i := 35) (by kernel_rfl) (by kernel_rfl) rfl ?_
          refine jg_storeE 4 (a' := (Resistance.mk x887.Mass v647.1 x887.Hi)) rfl rfl h888.1 rfl (l1 rfl) rfl rfl rfl rfl fun y927 => ?_
          refine jg_L (r7 rfl) ?_
          refine jg_nil ?_
          refine jk_xf (by kernel_rfl) ?_
          refine jx1 (i := 36) (by kernel_rfl) (by kernel_rfl) rfl ?_
          refine jg_ix fun x947 h948 => ?_
          refine jg_y (fun w hs => yv_ix rfl rfl (hs.row 4 rfl) h948) rfl rfl ?_
          refine jg_nil ?_
          refine jk_xf (by kernel_rfl) ?_
          refine jx1 (i := 37) (by kernel_rfl) (by kernel_rfl) rfl ?_
          refine jg_y (fun w hs => yv_ef rfl (hs.row 4 rfl) h948.1) rfl rfl ?_
          refine jg_nil ?_
          refine jk_xf (by kernel_rfl) ?_
          refine jx1 (i := 38) (by kernel_rfl) (by kernel_rfl) rfl ?_
          refine jg_storeE 4 (a' := (Resistance.mk x947.Mass x947.Lo v807.1)) rfl rfl h948.1 rfl (l1 rfl) rfl rfl rfl rfl fun y987 => ?_
          refine jg_L (r7 rfl) ?_
          refine jg_nil ?_
          refine jk_xf (by kernel_rfl) ?_
          refine jx0 [(1, _), (2, _), (3, _), (9, _), (11, _), (12, _), (13, _), (14, _)] ⟨rfl, rfl, rfl, rfl, rfl, rfl, rfl, rfl, trivial⟩ (by kernel_rfl) (by kernel_rfl) ?_
          refine jk_sel (is := [3, 4, 5, 6]) (s4 rfl) rfl ?_
          refine jk_bn ?_
          exact jk_use H24 (v807.2, y987, v18.1.Wind.Lo, v18.1.Cold.Hi) () [2, 3, 1, 0] ⟨rfl, rfl, rfl, rfl, rfl, rfl, rfl, rfl, trivial⟩ rfl rfl rfl
        refine jg_lit (enc := encI) [x727.Hi, 5000, 5001] rfl rfl rfl rfl rfl rfl rfl rfl fun hd787 => ?_
        refine jg_nil ?_
        refine jk_xn [3, 4, 5] rfl ?_
        refine jx1 (i := 21) (by kernel_rfl) (by kernel_rfl) rfl ?_
        refine jl_c 6 rfl rfl (fun v w hs hm => gen_Maker_Pick_c hm (hs.blkL (i := 6) rfl) (hs.arg Rha0) (hs.offAL 6 Rha0 rfl) (hs.row 2 rfl) (hs.offLL 2 6 rfl rfl)) (fun _ => rfl) rfl rfl fun v647 q648 => ?_
        refine jg_L (r7 rfl) ?_
        refine jg_nil ?_
        refine jk_xn [3, 4, 5] rfl ?_
        refine jx1 (i := 29) (by kernel_rfl) (by kernel_rfl) rfl ?_
        refine jl_c 6 rfl rfl (fun v w hs hm => gen_Maker_Pick_c hm (hs.blkL (i := 6) rfl) (hs.arg Rha0) (hs.offAL 6 Rha0 rfl) (hs.row 0 rfl) (hs.offLL 0 6 rfl rfl)) (fun _ => rfl) rfl rfl fun v807 q808 => ?_
        refine jg_L (r7 rfl) ?_
        refine jg_nil ?_
        refine jk_xn [3, 4, 5] rfl ?_
        refine jx_lin [3, 4, 5] 4265491968 4294967295 7 [0, 0, 0, 0, 0, 0, 0, 0, 0, 384, 896, 1920, 3968, 8128, 0, 0, 0, 98304, 229376, 491520, 1015808, 2097088, 0, 0, 0, 25165824, 58720256, 125829120, 260046848, 536870848, 1073741763, 2147483587, 4294967235, 8589934543, 17179869135, 34359738319, 68719476735, 137438953471, 274877906943] [(30, true), (31, true)] rfl (np_blk (np_seq (np_blk (np_seq (np_rnd (np_blk (np_seq np_rt))))))) (by kernel_rfl) (by kernel_rfl) (by kernel_rfl) (by kernel_rfl) (by kernel_rfl) (by kernel_rfl) (by kernel_rfl) (by kernel_rfl) (by kernel_rfl) ?_
        refine jd_ix fun x827 h828 => ?_
        refine jd_y rfl (fun w hs => yv_ix rfl rfl (hs.row 1 rfl) h828) rfl rfl ?_
        refine jd_y rfl (fun w hs => yv_ef rfl (hs.row 1 rfl) h828.1) rfl rfl ?_
        refine jd_x ?_
        refine jx1 (i := 32) (by kernel_rfl) (by kernel_rfl) rfl ?_
        refine jg_storeE 4 (a' := (Resistance.mk v487.1 x827.Lo x827.Hi)) rfl rfl h828.1 rfl (l1 rfl) rfl rfl rfl rfl fun y867 => ?_
        refine jg_L (r7 rfl) ?_
        refine jg_nil ?_
        refine jk_xf (by kernel_rfl) ?_
        refine jx1 (i := 33) (by kernel_rfl) (by kernel_rfl) rfl ?_
        refine jg_ix fun x887 h888 => ?_
        refine jg_y (fun w hs => yv_ix rfl rfl (hs.row 4 rfl) h888) rfl rfl ?_
        refine jg_nil ?_
        refine jk_xf (by kernel_rfl) ?_
        refine jx1 (i := 34) (by kernel_rfl) (by kernel_rfl) rfl ?_
        refine jg_y (fun w hs => yv_ef rfl (hs.row 4 rfl) h888.1) rfl rfl ?_
        refine jg_nil ?_
        refine jk_xf (by kernel_rfl) ?_
        refine jx1 (i := 35) (by kernel_rfl) (by kernel_rfl) rfl ?_
        refine jg_storeE 4 (a' := (Resistance.mk x887.Mass v647.1 x887.Hi)) rfl rfl h888.1 rfl (l1 rfl) rfl rfl rfl rfl fun y927 => ?_
        refine jg_L (r7 rfl) ?_
        refine jg_nil ?_
        refine jk_xf (by kernel_rfl) ?_
        refine jx1 (i := 36) (by kernel_rfl) (by kernel_rfl) rfl ?_
        refine jg_ix fun x947 h948 => ?_
        refine jg_y (fun w hs => yv_ix rfl rfl (hs.row 4 rfl) h948) rfl rfl ?_
        refine jg_nil ?_
        refine jk_xf (by kernel_rfl) ?_
        refine jx1 (i := 37) (by kernel_rfl) (by kernel_rfl) rfl ?_
        refine jg_y (fun w hs => yv_ef rfl (hs.row 4 rfl) h948.1) rfl rfl ?_
        refine jg_nil ?_
        refine jk_xf (by kernel_rfl) ?_
        refine jx1 (i := 38) (by kernel_rfl) (by kernel_rfl) rfl ?_
        refine jg_storeE 4 (a' := (Resistance.mk x947.Mass x947.Lo v807.1)) rfl rfl h948.1 rfl (l1 rfl) rfl rfl rfl rfl fun y987 => ?_
        refine jg_L (r7 rfl) ?_
        refine jg_nil ?_
        refine jk_xf (by kernel_rfl) ?_
        refine jx0 [(1, _), (2, _), (3, _), (9, _), (11, _), (12, _), (13, _), (14, _)] ⟨rfl, rfl, rfl, rfl, rfl, rfl, rfl, rfl, trivial⟩ (by kernel_rfl) (by kernel_rfl) ?_
        refine jk_sel (is := [3, 4, 5, 6]) (s4 rfl) rfl ?_
        refine jk_bn ?_
        exact jk_use H24 (v807.2, y987, v18.1.Wind.Lo, v18.1.Cold.Hi) () [2, 3, 1, 0] ⟨rfl, rfl, rfl, rfl, rfl, rfl, rfl, rfl, trivial⟩ rfl rfl rfl
      refine jg_lit (enc := encI) [x727.Hi, 5000, 5001] rfl rfl rfl rfl rfl rfl rfl rfl fun hd787 => ?_
      refine jg_nil ?_
      refine jk_xn [3, 4, 5] rfl ?_
      refine jx1 (i := 13) (by kernel_rfl) (by kernel_rfl) rfl ?_
      refine jl_c 6 rfl rfl (fun v w hs hm => gen_Maker_Pick_c hm (hs.blkL (i := 6) rfl) (hs.arg Rha0) (hs.offAL 6 Rha0 rfl) (hs.row 1 rfl) (hs.offLL 1 6 rfl rfl)) (fun _ => rfl) rfl rfl fun v487 q488 => ?_
      refine jg_L (r7 rfl) ?_
      refine jg_nil ?_
      refine jk_xn [3, 4, 5] rfl ?_
      refine jx1 (i := 21) (by kernel_rfl) (by kernel_rfl) rfl ?_
      refine jl_c 6 rfl rfl (fun v w hs hm => gen_Maker_Pick_c hm (hs.blkL (i := 6) rfl) (hs.arg Rha0) (hs.offAL 6 Rha0 rfl) (hs.row 2 rfl) (hs.offLL 2 6 rfl rfl)) (fun _ => rfl) rfl rfl fun v647 q648 => ?_
      refine jg_L (r7 rfl) ?_
      refine jg_nil ?_
      refine jk_xn [3, 4, 5] rfl ?_
      refine jx1 (i := 29) (by kernel_rfl) (by kernel_rfl) rfl ?_
      refine jl_c 6 rfl rfl (fun v w hs hm => gen_Maker_Pick_c hm (hs.blkL (i := 6) rfl) (hs.arg Rha0) (hs.offAL 6 Rha0 rfl) (hs.row 0 rfl) (hs.offLL 0 6 rfl rfl)) (fun _ => rfl) rfl rfl fun v807 q808 => ?_
      refine jg_L (r7 rfl) ?_
      refine jg_nil ?_
      refine jk_xn [3, 4, 5] rfl ?_
      refine jx_lin [3, 4, 5] 4265491968 4294967295 7 [0, 0, 0, 0, 0, 0, 0, 0, 0, 384, 896, 1920, 3968, 8128, 0, 0, 0, 98304, 229376, 491520, 1015808, 2097088, 0, 0, 0, 25165824, 58720256, 125829120, 260046848, 536870848, 1073741763, 2147483587, 4294967235, 8589934543, 17179869135, 34359738319, 68719476735, 137438953471, 274877906943] [(30, true), (31, true)] rfl (np_blk (np_seq (np_blk (np_seq (np_rnd (np_blk (np_seq np_rt))))))) (by kernel_rfl) (by kernel_rfl) (by kernel_rfl) (by kernel_rfl) (by kernel_rfl) (by kernel_rfl) (by kernel_rfl) (by kernel_rfl) (by kernel_rfl) ?_
      refine jd_ix fun x827 h828 => ?_
      refine jd_y rfl (fun w hs => yv_ix rfl rfl (hs.row 1 rfl) h828) rfl rfl ?_
      refine jd_y rfl (fun w hs => yv_ef rfl (hs.row 1 rfl) h828.1) rfl rfl ?_
      refine jd_x ?_
      refine jx1 (i := 32) (by kernel_rfl) (by kernel_rfl) rfl ?_
      refine jg_storeE 4 (a' := (Resistance.mk v487.1 x827.Lo x827.Hi)) rfl rfl h828.1 rfl (l1 rfl) rfl rfl rfl rfl fun y867 => ?_
      refine jg_L (r7 rfl) ?_
      refine jg_nil ?_
      refine jk_xf (by kernel_rfl) ?_
      refine jx1 (i := 33) (by kernel_rfl) (by kernel_rfl) rfl ?_
      refine jg_ix fun x887 h888 => ?_
      refine jg_y (fun w hs => yv_ix rfl rfl (hs.row 4 rfl) h888) rfl rfl ?_
      refine jg_nil ?_
      refine jk_xf (by kernel_rfl) ?_
      refine jx1 (i := 34) (by kernel_rfl) (by kernel_rfl) rfl ?_
      refine jg_y (fun w hs => yv_ef rfl (hs.row 4 rfl) h888.1) rfl rfl ?_
      refine jg_nil ?_
      refine jk_xf (by kernel_rfl) ?_
      refine jx1 (i := 35) (by kernel_rfl) (by kernel_rfl) rfl ?_
      refine jg_storeE 4 (a' := (Resistance.mk x887.Mass v647.1 x887.Hi)) rfl rfl h888.1 rfl (l1 rfl) rfl rfl rfl rfl fun y927 => ?_
      refine jg_L (r7 rfl) ?_
      refine jg_nil ?_
      refine jk_xf (by kernel_rfl) ?_
      refine jx1 (i := 36) (by kernel_rfl) (by kernel_rfl) rfl ?_
      refine jg_ix fun x947 h948 => ?_
      refine jg_y (fun w hs => yv_ix rfl rfl (hs.row 4 rfl) h948) rfl rfl ?_
      refine jg_nil ?_
      refine jk_xf (by kernel_rfl) ?_
      refine jx1 (i := 37) (by kernel_rfl) (by kernel_rfl) rfl ?_
      refine jg_y (fun w hs => yv_ef rfl (hs.row 4 rfl) h948.1) rfl rfl ?_
      refine jg_nil ?_
      refine jk_xf (by kernel_rfl) ?_
      refine jx1 (i := 38) (by kernel_rfl) (by kernel_rfl) rfl ?_
      refine jg_storeE 4 (a' := (Resistance.mk x947.Mass x947.Lo v807.1)) rfl rfl h948.1 rfl (l1 rfl) rfl rfl rfl rfl fun y987 => ?_
      refine jg_L (r7 rfl) ?_
      refine jg_nil ?_
      refine jk_xf (by kernel_rfl) ?_
      refine jx0 [(1, _), (2, _), (3, _), (9, _), (11, _), (12, _), (13, _), (14, _)] ⟨rfl, rfl, rfl, rfl, rfl, rfl, rfl, rfl, trivial⟩ (by kernel_rfl) (by kernel_rfl) ?_
      refine jk_sel (is := [3, 4, 5, 6]) (s4 rfl) rfl ?_
      refine jk_bn ?_
      exact jk_use H24 (v807.2, y987, v18.1.Wind.Lo, v18.1.Cold.Hi) () [2, 3, 1, 0] ⟨rfl, rfl, rfl, rfl, rfl, rfl, rfl, rfl, trivial⟩ rfl rfl rfl
    refine jg_lit (enc := encI) [x727.Hi, 5000, 5001] rfl rfl rfl rfl rfl rfl rfl rfl fun hd787 => ?_
    refine jg_nil ?_
    refine jk_xn [2, 3, 4] rfl ?_
    refine jx1 (i := 12) (by kernel_rfl) (by kernel_rfl) rfl ?_
    refine jg_lit (enc := encI) [x407.Mass, 0, 2001] rfl rfl rfl rfl rfl rfl rfl rfl fun hd467 => ?_
    refine jg_nil ?_
    refine jk_xn [3, 4, 5] rfl ?_
    refine jx1 (i := 13) (by kernel_rfl) (by kernel_rfl) rfl ?_
    refine jl_c 6 rfl rfl (fun v w hs hm => gen_Maker_Pick_c hm (hs.blkL (i := 6) rfl) (hs.arg Rha0) (hs.offAL 6 Rha0 rfl) (hs.row 0 rfl) (hs.offLL 0 6 rfl rfl)) (fun _ => rfl) rfl rfl fun v487 q488 => ?_
    refine jg_L (r7 rfl) ?_
    refine jg_nil ?_
    refine jk_xn [3, 4, 5] rfl ?_
    refine jx1 (i := 21) (by kernel_rfl) (by kernel_rfl) rfl ?_
    refine jl_c 6 rfl rfl (fun v w hs hm => gen_Maker_Pick_c hm (hs.blkL (i := 6) rfl) (hs.arg Rha0) (hs.offAL 6 Rha0 rfl) (hs.row 2 rfl) (hs.offLL 2 6 rfl rfl)) (fun _ => rfl) rfl rfl fun v647 q648 => ?_
    refine jg_L (r7 rfl) ?_
    refine jg_nil ?_
    refine jk_xn [3, 4, 5] rfl ?_
    refine jx1 (i := 29) (by kernel_rfl) (by kernel_rfl) rfl ?_
    refine jl_c 6 rfl rfl (fun v w hs hm => gen_Maker_Pick_c hm (hs.blkL (i := 6) rfl) (hs.arg Rha0) (hs.offAL 6 Rha0 rfl) (hs.row 1 rfl) (hs.offLL 1 6 rfl rfl)) (fun _ => rfl) rfl rfl fun v807 q808 => ?_
    refine jg_L (r7 rfl) ?_
    refine jg_nil ?_
    refine jk_xn [3, 4, 5] rfl ?_
    refine jx_lin [3, 4, 5] 4265491968 4294967295 7 [0, 0, 0, 0, 0, 0, 0, 0, 0, 384, 896, 1920, 3968, 8128, 0, 0, 0, 98304, 229376, 491520, 1015808, 2097088, 0, 0, 0, 25165824, 58720256, 125829120, 260046848, 536870848, 1073741763, 2147483587, 4294967235, 8589934543, 17179869135, 34359738319, 68719476735, 137438953471, 274877906943] [(30, true), (31, true)] rfl (np_blk (np_seq (np_blk (np_seq (np_rnd (np_blk (np_seq np_rt))))))) (by kernel_rfl) (by kernel_rfl) (by kernel_rfl) (by kernel_rfl) (by kernel_rfl) (by kernel_rfl) (by kernel_rfl) (by kernel_rfl) (by kernel_rfl) ?_
    refine jd_ix fun x827 h828 => ?_
    refine jd_y rfl (fun w hs => yv_ix rfl rfl (hs.row 1 rfl) h828) rfl rfl ?_
    refine jd_y rfl (fun w hs => yv_ef rfl (hs.row 1 rfl) h828.1) rfl rfl ?_
    refine jd_x ?_
    refine jx1 (i := 32) (by kernel_rfl) (by kernel_rfl) rfl ?_
    refine jg_storeE 4 (a' := (Resistance.mk v487.1 x827.Lo x827.Hi)) rfl rfl h828.1 rfl (l1 rfl) rfl rfl rfl rfl fun y867 => ?_
    refine jg_L (r7 rfl) ?_
    refine jg_nil ?_
    refine jk_xf (by kernel_rfl) ?_
    refine jx1 (i := 33) (by kernel_rfl) (by kernel_rfl) rfl ?_
    refine jg_ix fun x887 h888 => ?_
    refine jg_y (fun w hs => yv_ix rfl rfl (hs.row 4 rfl) h888) rfl rfl ?_
    refine jg_nil ?_
    refine jk_xf (by kernel_rfl) ?_
    refine jx1 (i := 34) (by kernel_rfl) (by kernel_rfl) rfl ?_
    refine jg_y (fun w hs => yv_ef rfl (hs.row 4 rfl) h888.1) rfl rfl ?_
    refine jg_nil ?_
    refine jk_xf (by kernel_rfl) ?_
    refine jx1 (i := 35) (by kernel_rfl) (by kernel_rfl) rfl ?_
    refine jg_storeE 4 (a' := (Resistance.mk x887.Mass v647.1 x887.Hi)) rfl rfl h888.1 rfl (l1 rfl) rfl rfl rfl rfl fun y927 => ?_
    refine jg_L (r7 rfl) ?_
    refine jg_nil ?_
    refine jk_xf (by kernel_rfl) ?_
    refine jx1 (i := 36) (by kernel_rfl) (by kernel_rfl) rfl ?_
    refine jg_ix fun x947 h948 => ?_
    refine jg_y (fun w hs => yv_ix rfl rfl (hs.row 4 rfl) h948) rfl rfl ?_
    refine jg_nil ?_
    refine jk_xf (by kernel_rfl) ?_
    refine jx1 (i := 37) (by kernel_rfl) (by kernel_rfl) rfl ?_
    refine jg_y (fun w hs => yv_ef rfl (hs.row 4 rfl) h948.1) rfl rfl ?_
    refine jg_nil ?_
    refine jk_xf (by kernel_rfl) ?_
    refine jx1 (i := 38) (by kernel_rfl) (by kernel_rfl) rfl ?_
    refine jg_storeE 4 (a' := (Resistance.mk x947.Mass x947.Lo v807.1)) rfl rfl h948.1 rfl (l1 rfl) rfl rfl rfl rfl fun y987 => ?_
    refine jg_L (r7 rfl) ?_
    refine jg_nil ?_
    refine jk_xf (by kernel_rfl) ?_
    refine jx0 [(1, _), (2, _), (3, _), (9, _), (11, _), (12, _), (13, _), (14, _)] ⟨rfl, rfl, rfl, rfl, rfl, rfl, rfl, rfl, trivial⟩ (by kernel_rfl) (by kernel_rfl) ?_
    refine jk_sel (is := [3, 4, 5, 6]) (s4 rfl) rfl ?_
    refine jk_bn ?_
    exact jk_use H24 (v807.2, y987, v18.1.Wind.Lo, v18.1.Cold.Hi) () [2, 3, 1, 0] ⟨rfl, rfl, rfl, rfl, rfl, rfl, rfl, rfl, trivial⟩ rfl rfl rfl
  refine jg_lit (enc := encI) [x727.Hi, 5000, 5001] rfl rfl rfl rfl rfl rfl rfl rfl fun hd787 => ?_
  refine jg_nil ?_
  refine jk_xn [1, 2, 3] rfl ?_
  refine jx2 (i := 12) (i2 := 20) (by kernel_rfl) (by kernel_rfl) rfl rfl ?_ ?_
  · refine jg_lit (enc := encI) [x407.Mass, 0, 2001] rfl rfl rfl rfl rfl rfl rfl rfl fun hd467 => ?_
    refine jg_nil ?_
    refine jk_xn [2, 3, 4] rfl ?_
    refine jx2 (i := 13) (i2 := 20) (by kernel_rfl) (by kernel_rfl) rfl rfl ?_ ?_
    · refine jl_c 5 rfl rfl (fun v w hs hm => gen_Maker_Pick_c hm (hs.blkL (i := 5) rfl) (hs.arg Rha0) (hs.offAL 5 Rha0 rfl) (hs.row 0 rfl) (hs.offLL 0 5 rfl rfl)) (fun _ => rfl) rfl rfl fun v487 q488 => ?_
      refine jg_L (r6 rfl) ?_
      refine jg_nil ?_
      refine jk_xn [2, 3, 4] rfl ?_
      refine jx1 (i := 20) (by kernel_rfl) (by kernel_rfl) rfl ?_
      refine jg_lit (enc := encI) [x567.Lo, (-1), 300] rfl rfl rfl rfl rfl rfl rfl rfl fun hd627 => ?_
      refine jg_nil ?_
      refine jk_xn [3, 4, 5] rfl ?_
      refine jx1 (i := 21) (by kernel_rfl) (by kernel_rfl) rfl ?_
      refine jl_c 6 rfl rfl (fun v w hs hm => gen_Maker_Pick_c hm (hs.blkL (i := 6) rfl) (hs.arg Rha0) (hs.offAL 6 Rha0 rfl) (hs.row 0 rfl) (hs.offLL 0 6 rfl rfl)) (fun _ => rfl) rfl rfl fun v647 q648 => ?_
      refine jg_L (r7 rfl) ?_
      refine jg_nil ?_
      refine jk_xn [3, 4, 5] rfl ?_
      refine jx1 (i := 29) (by kernel_rfl) (by kernel_rfl) rfl ?_
      refine jl_c 6 rfl rfl (fun v w hs hm => gen_Maker_Pick_c hm (hs.blkL (i := 6) rfl) (hs.arg Rha0) (hs.offAL 6 Rha0 rfl) (hs.row 2 rfl) (hs.offLL 2 6 rfl rfl)) (fun _ => rfl) rfl rfl fun v807 q808 => ?_
      refine jg_L (r7 rfl) ?_
      refine jg_nil ?_
      refine jk_xn [3, 4, 5] rfl ?_
      refine jx_lin [3, 4, 5] 4265491968 4294967295 7 [0, 0, 0, 0, 0, 0, 0, 0, 0, 384, 896, 1920, 3968, 8128, 0, 0, 0, 98304, 229376, 491520, 1015808, 2097088, 0, 0, 0, 25165824, 58720256, 125829120, 260046848, 536870848, 1073741763, 2147483587, 4294967235, 8589934543, 17179869135, 34359738319, 68719476735, 137438953471, 274877906943] [(30, true), (31, true)] rfl (np_blk (np_seq (np_blk (np_seq (np_rnd (np_blk (np_seq np_rt))))))) (by kernel_rfl) (by kernel_rfl) (by kernel_rfl) (by kernel_rfl) (by kernel_rfl) (by kernel_rfl) (by kernel_rfl) (by kernel_rfl) (by kernel_rfl) ?_
      refine jd_ix fun x827 h828 => ?_
      refine jd_y rfl (fun w hs => yv_ix rfl rfl (hs.row 1 rfl) h828) rfl rfl ?_
      refine jd_y rfl (fun w hs => yv_ef rfl (hs.row 1 rfl) h828.1) rfl rfl ?_
      refine jd_x ?_
      refine jx1 (i := 32) (by kernel_rfl) (by kernel_rfl) rfl ?_
      refine jg_storeE 4 (a' := (Resistance.mk v487.1 x827.Lo x827.Hi)) rfl rfl h828.1 rfl (l1 rfl) rfl rfl rfl rfl fun y867 => ?_
      refine jg_L (r7 rfl) ?_
      refine jg_nil ?_
      refine jk_xf (by kernel_rfl) ?_
      refine jx1 (i := 33) (by kernel_rfl) (by kernel_rfl) rfl ?_
      refine jg_ix fun x887 h888 => ?_
      refine jg_y (fun w hs => yv_ix rfl rfl (hs.row 4 rfl) h888) rfl rfl ?_
      refine jg_nil ?_
      refine jk_xf (by kernel_rfl) ?_
      refine jx1 (i := 34) (by kernel_rfl) (by kernel_rfl) rfl ?_
      refine jg_y (fun w hs => yv_ef rfl (hs.row 4 rfl) h888.1) rfl rfl ?_
      refine jg_nil ?_
      refine jk_xf (by kernel_rfl) ?_
      refine jx1 (i := 35) (by kernel_rfl) (by kernel_rfl) rfl ?_
      refine jg_storeE 4 (a' := (Resistance.mk x887.Mass v647.1 x887.Hi)) rfl rfl h888.1 rfl (l1 rfl) rfl rfl rfl rfl fun y927 => ?_
      refine jg_L (r7 rfl) ?_
      refine jg_nil ?_
      refine jk_xf (by kernel_rfl) ?_
      refine jx1 (i := 36) (by kernel_rfl) (by kernel_rfl) rfl ?_
      refine jg_ix fun x947 h948 => ?_
      refine jg_y (fun w hs => yv_ix rfl rfl (hs.row 4 rfl) h948) rfl rfl ?_
      refine jg_nil ?_
      refine jk_xf (by kernel_rfl) ?_
      refine jx1 (i := 37) (by kernel_rfl) (by kernel_rfl) rfl ?_
      refine jg_y (fun w hs => yv_ef rfl (hs.row 4 rfl) h948.1) rfl rfl ?_
      refine jg_nil ?_
      refine jk_xf (by kernel_rfl) ?_
      refine jx1 (i := 38) (by kernel_rfl) (by kernel_rfl) rfl ?_
      refine jg_storeE 4 (a' := (Resistance.mk x947.Mass x947.Lo v807.1)) rfl rfl h948.1 rfl (l1 rfl) rfl rfl rfl rfl fun y987 => ?_
      refine jg_L (r7 rfl) ?_
      refine jg_nil ?_
      refine jk_xf (by kernel_rfl) ?_
      refine jx0 [(1, _), (2, _), (3, _), (9, _), (11, _), (12, _), (13, _), (14, _)] ⟨rfl, rfl, rfl, rfl, rfl, rfl, rfl, rfl, trivial⟩ (by kernel_rfl) (by kernel_rfl) ?_
      refine jk_sel (is := [3, 4, 5, 6]) (s4 rfl) rfl ?_
      refine jk_bn ?_
      exact jk_use H24 (v807.2, y987, v18.1.Wind.Lo, v18.1.Cold.Hi) () [2, 3, 1, 0] ⟨rfl, rfl, rfl, rfl, rfl, rfl, rfl, rfl, trivial⟩ rfl rfl rfl
    refine jg_lit (enc := encI) [x567.Lo, (-1), 300] rfl rfl rfl rfl rfl rfl rfl rfl fun hd627 => ?_
    refine jg_nil ?_
    refine jk_xn [3, 4, 5] rfl ?_
    refine jx1 (i := 13) (by kernel_rfl) (by kernel_rfl) rfl ?_
    refine jl_c 6 rfl rfl (fun v w hs hm => gen_Maker_Pick_c hm (hs.blkL (i := 6) rfl) (hs.arg Rha0) (hs.offAL 6 Rha0 rfl) (hs.row 1 rfl) (hs.offLL 1 6 rfl rfl)) (fun _ => rfl) rfl rfl fun v487 q488 => ?_
    refine jg_L (r7 rfl) ?_
    refine jg_nil ?_
    refine jk_xn [3, 4, 5] rfl ?_
    refine jx1 (i := 21) (by kernel_rfl) (by kernel_rfl) rfl ?_
    refine jl_c 6 rfl rfl (fun v w hs hm => gen_Maker_Pick_c hm (hs.blkL (i := 6) rfl) (hs.arg Rha0) (hs.offAL 6 Rha0 rfl) (hs.row 0 rfl) (hs.offLL 0 6 rfl rfl)) (fun _ => rfl) rfl rfl fun v647 q648 => ?_
    refine jg_L (r7 rfl) ?_
    refine jg_nil ?_
    refine jk_xn [3, 4, 5] rfl ?_
    refine jx1 (i := 29) (by kernel_rfl) (by kernel_rfl) rfl ?_
    refine jl_c 6 rfl rfl (fun v w hs hm => gen_Maker_Pick_c hm (hs.blkL (i := 6) rfl) (hs.arg Rha0) (hs.offAL 6 Rha0 rfl) (hs.row 2 rfl) (hs.offLL 2 6 rfl rfl)) (fun _ => rfl) rfl rfl fun v807 q808 => ?_
    refine jg_L (r7 rfl) ?_
    refine jg_nil ?_
    refine jk_xn [3, 4, 5] rfl ?_
    refine jx_lin [3, 4, 5] 4265491968 4294967295 7 [0, 0, 0, 0, 0, 0, 0, 0, 0, 384, 896, 1920, 3968, 8128, 0, 0, 0, 98304, 229376, 491520, 1015808, 2097088, 0, 0, 0, 25165824, 58720256, 125829120, 260046848, 536870848, 1073741763, 2147483587, 4294967235, 8589934543, 17179869135, 34359738319, 68719476735, 137438953471, 274877906943] [(30, true), (31, true)] rfl (np_blk (np_seq (np_blk (np_seq (np_rnd (np_blk (np_seq np_rt))))))) (by kernel_rfl) (by kernel_rfl) (by kernel_rfl) (by kernel_rfl) (by kernel_rfl) (by kernel_rfl) (by kernel_rfl) (by kernel_rfl) (by kernel_rfl) ?_
    refine jd_ix fun x827 h828 => ?_
    refine jd_y rfl (fun w hs => yv_ix rfl rfl (hs.row 1 rfl) h828) rfl rfl ?_
    refine jd_y rfl (fun w hs => yv_ef rfl (hs.row 1 rfl) h828.1) rfl rfl ?_
    refine jd_x ?_
    refine jx1 (i := 32) (by kernel_rfl) (by kernel_rfl) rfl ?_
    refine jg_storeE 4 (a' := (Resistance.mk v487.1 x827.Lo x827.Hi)) rfl rfl h828.1 rfl (l1 rfl) rfl rfl rfl rfl fun y867 => ?_
    refine jg_L (r7 rfl) ?_
    refine jg_nil ?_
    refine jk_xf (by kernel_rfl) ?_
    refine jx1 (i := 33) (by kernel_rfl) (by kernel_rfl) rfl ?_
    refine jg_ix fun x887 h888 => ?_
    refine jg_y (fun w hs => yv_ix rfl rfl (hs.row 4 rfl) h888) rfl rfl ?_
    refine jg_nil ?_
    refine jk_xf (by kernel_rfl) ?_
    refine jx1 (i := 34) (by kernel_rfl) (by kernel_rfl) rfl ?_
    refine jg_y (fun w hs => yv_ef rfl (hs.row 4 rfl) h888.1) rfl rfl ?_
    refine jg_nil ?_
    refine jk_xf (by kernel_rfl) ?_
    refine jx1 (i := 35) (by kernel_rfl) (by kernel_rfl) rfl ?_
    refine jg_storeE 4 (a' := (Resistance.mk x887.Mass v647.1 x887.Hi)) rfl rfl h888.1 rfl (l1 rfl) rfl rfl rfl rfl fun y927 => ?_
    refine jg_L (r7 rfl) ?_
    refine jg_nil ?_
    refine jk_xf (by kernel_rfl) ?_
    refine jx1 (i := 36) (by kernel_rfl) (by kernel_rfl) rfl ?_
    refine jg_ix fun x947 h948 => ?_
    refine jg_y (fun w hs => yv_ix rfl rfl (hs.row 4 rfl) h948) rfl rfl ?_
    refine jg_nil ?_
    refine jk_xf (by kernel_rfl) ?_
    refine jx1 (i := 37) (by kernel_rfl) (by kernel_rfl) rfl ?_
    refine jg_y (fun w hs => yv_ef rfl (hs.row 4 rfl) h948.1) rfl rfl ?_
    refine jg_nil ?_
    refine jk_xf (by kernel_rfl) ?_
    refine jx1 (i := 38) (by kernel_rfl) (by kernel_rfl) rfl ?_
    refine jg_storeE 4 (a' := (Resistance.mk x947.Mass x947.Lo v807.1)) rfl rfl h948.1 rfl (l1 rfl) rfl rfl rfl rfl fun y987 => ?_
    refine jg_L (r7 rfl) ?_
    refine jg_nil ?_
    refine jk_xf (by kernel_rfl) ?_
    refine jx0 [(1, _), (2, _), (3, _), (9, _), (11, _), (12, _), (13, _), (14, _)] ⟨rfl, rfl, rfl, rfl, rfl, rfl, rfl, rfl, trivial⟩ (by kernel_rfl) (by kernel_rfl) ?_
    refine jk_sel (is := [3, 4, 5, 6]) (s4 rfl) rfl ?_
    refine jk_bn ?_
    exact jk_use H24 (v807.2, y987, v18.1.Wind.Lo, v18.1.Cold.Hi) () [2, 3, 1, 0] ⟨rfl, rfl, rfl, rfl, rfl, rfl, rfl, rfl, trivial⟩ rfl rfl rfl
  refine jg_lit (enc := encI) [x567.Lo, (-1), 300] rfl rfl rfl rfl rfl rfl rfl rfl fun hd627 => ?_
  refine jg_nil ?_
  refine jk_xn [2, 3, 4] rfl ?_
  refine jx1 (i := 12) (by kernel_rfl) (by kernel_rfl) rfl ?_
  refine jg_lit (enc := encI) [x407.Mass, 0, 2001] rfl rfl rfl rfl rfl rfl rfl rfl fun hd467 => ?_
  refine jg_nil ?_
  refine jk_xn [3, 4, 5] rfl ?_
  refine jx1 (i := 13) (by kernel_rfl) (by kernel_rfl) rfl ?_
  refine jl_c 6 rfl rfl (fun v w hs hm => gen_Maker_Pick_c hm (hs.blkL (i := 6) rfl) (hs.arg Rha0) (hs.offAL 6 Rha0 rfl) (hs.row 0 rfl) (hs.offLL 0 6 rfl rfl)) (fun _ => rfl) rfl rfl fun v487 q488 => ?_
  refine jg_L (r7 rfl) ?_
  refine jg_nil ?_
  refine jk_xn [3, 4, 5] rfl ?_
  refine jx1 (i := 21) (by kernel_rfl) (by kernel_rfl) rfl ?_
  refine jl_c 6 rfl rfl (fun v w hs hm => gen_Maker_Pick_c hm (hs.blkL (i := 6) rfl) (hs.arg Rha0) (hs.offAL 6 Rha0 rfl) (hs.row 1 rfl) (hs.offLL 1 6 rfl rfl)) (fun _ => rfl) rfl rfl fun v647 q648 => ?_
  refine jg_L (r7 rfl) ?_
  refine jg_nil ?_
  refine jk_xn [3, 4, 5] rfl ?_
  refine jx1 (i := 29) (by kernel_rfl) (by kernel_rfl) rfl ?_
  refine jl_c 6 rfl rfl (fun v w hs hm => gen_Maker_Pick_c hm (hs.blkL (i := 6) rfl) (hs.arg Rha0) (hs.offAL 6 Rha0 rfl) (hs.row 2 rfl) (hs.offLL 2 6 rfl rfl)) (fun _ => rfl) rfl rfl fun v807 q808 => ?_
  refine jg_L (r7 rfl) ?_
  refine jg_nil ?_
  refine jk_xn [3, 4, 5] rfl ?_
  refine jx_lin [3, 4, 5] 4265491968 4294967295 7 [0, 0, 0, 0, 0, 0, 0, 0, 0, 384, 896, 1920, 3968, 8128, 0, 0, 0, 98304, 229376, 491520, 1015808, 2097088, 0, 0, 0, 25165824, 58720256, 125829120, 260046848, 536870848, 1073741763, 2147483587, 4294967235, 8589934543, 17179869135, 34359738319, 68719476735, 137438953471, 274877906943] [(30, true), (31, true)] rfl (np_blk (np_seq (np_blk (np_seq (np_rnd (np_blk (np_seq np_rt))))))) (by kernel_rfl) (by kernel_rfl) (by kernel_rfl) (by kernel_rfl) (by kernel_rfl) (by kernel_rfl) (by kernel_rfl) (by kernel_rfl) (by kernel_rfl) ?_
  refine jd_ix fun x827 h828 => ?_
  refine jd_y rfl (fun w hs => yv_ix rfl rfl (hs.row 1 rfl) h828) rfl rfl ?_
  refine jd_y rfl (fun w hs => yv_ef rfl (hs.row 1 rfl) h828.1) rfl rfl ?_
  refine jd_x ?_
  refine jx1 (i := 32) (by kernel_rfl) (by kernel_rfl) rfl ?_
  refine jg_storeE 4 (a' := (Resistance.mk v487.1 x827.Lo x827.Hi)) rfl rfl h828.1 rfl (l1 rfl) rfl rfl rfl rfl fun y867 => ?_
  refine jg_L (r7 rfl) ?_
  refine jg_nil ?_
  refine jk_xf (by kernel_rfl) ?_
  refine jx1 (i := 33) (by kernel_rfl) (by kernel_rfl) rfl ?_
  refine jg_ix fun x887 h888 => ?_
  refine jg_y (fun w hs => yv_ix rfl rfl (hs.row 4 rfl) h888) rfl rfl ?_
  refine jg_nil ?_
  refine jk_xf (by kernel_rfl) ?_
  refine jx1 (i := 34) (by kernel_rfl) (by kernel_rfl) rfl ?_
  refine jg_y (fun w hs => yv_ef rfl (hs.row 4 rfl) h888.1) rfl rfl ?_
  refine jg_nil ?_
  refine jk_xf (by kernel_rfl) ?_
  refine jx1 (i := 35) (by kernel_rfl) (by kernel_rfl) rfl ?_
  refine jg_storeE 4 (a' := (Resistance.mk x887.Mass v647.1 x887.Hi)) rfl rfl h888.1 rfl (l1 rfl) rfl rfl rfl rfl fun y927 => ?_
  refine jg_L (r7 rfl) ?_
  refine jg_nil ?_
  refine jk_xf (by kernel_rfl) ?_
  refine jx1 (i := 36) (by kernel_rfl) (by kernel_rfl) rfl ?_
  refine jg_ix fun x947 h948 => ?_
  refine jg_y (fun w hs => yv_ix rfl rfl (hs.row 4 rfl) h948) rfl rfl ?_
  refine jg_nil ?_
  refine jk_xf (by kernel_rfl) ?_
  refine jx1 (i := 37) (by kernel_rfl) (by kernel_rfl) rfl ?_
  refine jg_y (fun w hs => yv_ef rfl (hs.row 4 rfl) h948.1) rfl rfl ?_
  refine jg_nil ?_
  refine jk_xf (by kernel_rfl) ?_
  refine jx1 (i := 38) (by kernel_rfl) (by kernel_rfl) rfl ?_
  refine jg_storeE 4 (a' := (Resistance.mk x947.Mass x947.Lo v807.1)) rfl rfl h948.1 rfl (l1 rfl) rfl rfl rfl rfl fun y987 => ?_
  refine jg_L (r7 rfl) ?_
  refine jg_nil ?_
  refine jk_xf (by kernel_rfl) ?_
  refine jx0 [(1, _), (2, _), (3, _), (9, _), (11, _), (12, _), (13, _), (14, _)] ⟨rfl, rfl, rfl, rfl, rfl, rfl, rfl, rfl, trivial⟩ (by kernel_rfl) (by kernel_rfl) ?_
  refine jk_sel (is := [3, 4, 5, 6]) (s4 rfl) rfl ?_
  refine jk_bn ?_
  exact jk_use H24 (v807.2, y987, v18.1.Wind.Lo, v18.1.Cold.Hi) () [2, 3, 1, 0] ⟨rfl, rfl, rfl, rfl, rfl, rfl, rfl, rfl, trivial⟩ rfl rfl rfl
end Go.Proofs.Ytncgacgkeonfnaa
