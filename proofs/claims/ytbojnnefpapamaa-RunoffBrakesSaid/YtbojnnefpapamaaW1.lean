/-
  The functions give what their models give. Printed by a program.
-/
import Derived.Test.YtbojnnefpapamaaFacts
import Derived.Test.YtbojnnefpapamaaMod
import Derived.Test.YtbojnnefpapamaaW0
namespace Go.Proofs.Ytbojnnefpapamaa
open Go.Hy
set_option linter.unusedVariables false
set_option linter.unusedSimpArgs false
set_option maxHeartbeats 2000000
set_option maxRecDepth 100000
theorem runoff_state_roll_c {w : World} {a0 : RunoffState} {a1 : Piece} {a2 : Interval} {b0 : Nat} {v : (Bool × RunoffState)} (hm : runoff_state_roll a0 a1 a2 = some v) (Hb : Blk w b0 74 [.int .i64 a0.ftime.Lo, .int .i64 a0.ftime.Hi, .int .i64 a0.fenergy.Lo, .int .i64 a0.fenergy.Hi, .bool a0.fslow]) : Calls Try.prog 35 ([.pointer (some ⟨b0, 0, none⟩), .agg #[.int .i64 a1.Element, .int .i64 a1.Length, .int .i64 a1.Grade, .int .i64 a1.Curve, .int .i64 a1.Power], .agg #[.int .i64 a2.Lo, .int .i64 a2.Hi]] : List Value).toArray w (fun e w' => ∃ g : Unit, e = .returned (.bool v.1) ∧ St w w' [.blk b0 74 [.int .i64 v.2.ftime.Lo, .int .i64 v.2.ftime.Hi, .int .i64 v.2.fenergy.Lo, .int .i64 v.2.fenergy.Hi, .bool v.2.fslow]] []) := by
  refine j_enter (vs := [.pointer (some ⟨b0, 0, none⟩), .agg #[.int .i64 a1.Element, .int .i64 a1.Length, .int .i64 a1.Grade, .int .i64 a1.Curve, .int .i64 a1.Power], .agg #[.int .i64 a2.Lo, .int .i64 a2.Hi]]) (R := fun (v : (Bool × RunoffState)) (e : Ending) (w' : World) => ∃ g : Unit, e = .returned (.bool v.1) ∧ St w w' [.blk b0 74 [.int .i64 v.2.ftime.Lo, .int .i64 v.2.ftime.Hi, .int .i64 v.2.fenergy.Lo, .int .i64 v.2.fenergy.Hi, .bool v.2.fslow]] []) Try.func35 rfl Try.ntmps35 rfl rfl (mk_st Hb) hm ?_
  unfold runoff_state_roll
  clear hm
  refine jn_seq ?_
  refine jn_reg 0 ?_
  refine jg_box rfl (l5 rfl) rfl rfl fun g1 => ?_
  refine jg_box rfl (l2 rfl) rfl rfl fun g2 => ?_
  refine jg_as rfl rfl rfl ?_
  refine jg_nils [(0, _), (4, _), (5, _)] ⟨rfl, rfl, rfl, trivial⟩ ?_
  refine jk_sn ?_
  refine jn_seq ?_
  refine jn_reg 1 ?_
  refine jg_y (fun w hs => yv_load rfl (ldBB (hs.blkL (i := 1) rfl) rfl)) rfl rfl ?_
  refine jg_y (fun w hs => yv_fieldAddr rfl) rfl rfl ?_
  refine jg_y (fun w hs => yv_load rfl (ld1B (hs.blkL (i := 0) rfl) rfl)) rfl rfl ?_
  refine jg_c0 rfl (fun v w hs hm => runoff_gain_c (a0 := a1) hm ) rfl rfl fun v3 => ?_
  refine jg_mv rfl rfl rfl ?_
  refine jg_y (fun w hs => yv_extract rfl rfl) rfl rfl ?_
  refine jg_y (fun w hs => yv_extract rfl rfl) rfl rfl ?_
  refine jg_as rfl rfl rfl ?_
  refine jg_as rfl rfl rfl ?_
  refine jg_nils [(0, _), (4, _), (5, _), (7, _)] ⟨rfl, rfl, rfl, rfl, trivial⟩ ?_
  refine jk_sn ?_
  refine jn_seq ?_
  refine jn_reg 2 ?_
  refine jg_y (fun w hs => yv_load rfl (ldBB (hs.blkL (i := 1) rfl) rfl)) rfl rfl ?_
  refine jg_y (fun w hs => yv_fieldAddr rfl) rfl rfl ?_
  refine jg_y (fun w hs => yv_load rfl (ld1B (hs.blkL (i := 0) rfl) rfl)) rfl rfl ?_
  refine jg_c0 rfl (fun v w hs hm => runoff_gain_c (a0 := a1) hm ) rfl rfl fun v4 => ?_
  refine jg_mv rfl rfl rfl ?_
  refine jg_y (fun w hs => yv_extract rfl rfl) rfl rfl ?_
  refine jg_y (fun w hs => yv_extract rfl rfl) rfl rfl ?_
  refine jg_as rfl rfl rfl ?_
  refine jg_as rfl rfl rfl ?_
  refine jg_nils [(0, _), (4, _), (7, _), (10, _)] ⟨rfl, rfl, rfl, rfl, trivial⟩ ?_
  refine jk_sn ?_
  refine jn_seq ?_
  refine jn_draw (L' := [_, _]) 3 [1, 2] [0, 1, 2, 3, 4, 5, 6, 7, 8, 9, 10, 11, 12, 13, 14, 15] 65535 131071 [0, 1, 2, 4, 8, 0, 48, 0, 128, 256, 512, 1024, 0, 6144, 8256, 0, 65535] [0, 1, 3, 7, 15, 0, 63, 0, 128, 384, 896, 1920, 0, 8064, 16383, 0, 65535] [(0, true), (1, true), (2, true), (3, true), (4, true), (5, true), (6, true), (7, true), (8, true), (9, true), (10, true), (11, true), (12, true), (13, true), (14, true), (15, false), (16, false)] rfl (np_seq np_rt) (by kernel_rfl) (by kernel_rfl) (by kernel_rfl) (by kernel_rfl) (by kernel_rfl) (by kernel_rfl) (by kernel_rfl) (by kernel_rfl) ?_
  refine jd_mv rfl rfl rfl rfl ?_
  refine jd_y rfl (fun w hs => yv_nil rfl) rfl rfl ?_
  refine jd_y rfl (fun w hs => yv_fieldAddr rfl) rfl rfl ?_
  refine jd_y rfl (fun w hs => yv_fieldAddr rfl) rfl rfl ?_
  refine jd_y rfl (fun w hs => yv_load rfl (ld1B (hs.blk (i := 1) rfl) rfl)) rfl rfl ?_
  refine jd_mv rfl rfl rfl rfl ?_
  refine jd_y rfl (fun w hs => yv_add_w rfl rfl) rfl rfl ?_
  refine jd_mv rfl rfl rfl rfl ?_
  refine jd_y rfl (fun w hs => yv_nil rfl) rfl rfl ?_
  refine jd_y rfl (fun w hs => yv_fieldAddr rfl) rfl rfl ?_
  refine jd_y rfl (fun w hs => yv_fieldAddr rfl) rfl rfl ?_
  refine jd_y rfl (fun w hs => yv_load rfl (ld1B (hs.blk (i := 1) rfl) rfl)) rfl rfl ?_
  refine jd_mv rfl rfl rfl rfl ?_
  refine jd_y rfl (fun w hs => yv_add_w rfl rfl) rfl rfl ?_
  refine jd_y rfl (fun w hs => yv_build rfl (o2 rfl)) rfl rfl ?_
  refine jd_h rfl ?_
  refine jg_alloc (l2 rfl) rfl rfl fun g5 => ?_
  refine jg_nil ?_
  refine jk_dn [2, 3] rfl ?_
  refine jd_h rfl ?_
  refine jg_store 0 rfl rfl rfl (l2 rfl) rfl rfl rfl rfl (l2 rfl) (r3 rfl) ?_
  refine jg_nil ?_
  refine jk_df rfl ?_
  refine jf_nils [(0, _), (4, _), (11, _)] ⟨rfl, rfl, rfl, trivial⟩ ?_
  refine jk_sn ?_
  refine jn_seq ?_
  refine jn_seq ?_
  refine jn_reg 4 ?_
  refine jg_y (fun w hs => yv_fieldAddr rfl) rfl rfl ?_
  refine jg_y (fun w hs => yv_load rfl (ld1B (hs.blkL (i := 0) rfl) rfl)) rfl rfl ?_
  refine jg_y (fun w hs => yv_lss rfl rfl) rfl rfl ?_
  refine jg_nils [(0, _), (4, _), (11, _), (51, _)] ⟨rfl, rfl, rfl, rfl, trivial⟩ ?_
  refine jk_sn ?_
  refine jn_cond rfl ?_ ?_
  · refine jn_seq ?_
    refine jn_reg 5 ?_
    refine jg_as rfl rfl rfl ?_
    refine jg_nils [(6, _)] ⟨rfl, trivial⟩ ?_
    refine jk_sel (is := []) (s0 rfl) rfl ?_
    refine jk_sn ?_
    refine jn_ret ?_
    refine jk_sr ?_
    exact jk_ret1 rfl (fun w hs => .tmp rfl) (fun w hs => ⟨(), rfl, hs.sel (is := []) rfl rfl⟩)
  refine jn_skip ?_
  refine jk_sn ?_
  refine jn_join (fun (s : (Int × Bool)) (g : Unit) => [(0, .pointer (some ⟨b0, 0, none⟩)), (4, .pointer (some ⟨g1, 0, none⟩)), (11, .pointer (some ⟨g5, 0, none⟩))]) (fun (s : (Int × Bool)) (g : Unit) => [(Res.blk b0 74 [.int .i64 a0.ftime.Lo, .int .i64 a0.ftime.Hi, .int .i64 a0.fenergy.Lo, .int .i64 a0.fenergy.Hi, .bool s.2])]) (fun (s : (Int × Bool)) (g : Unit) => [(Res.blk g1 32 [.int .i64 a1.Element, .int .i64 a1.Length, .int .i64 a1.Grade, .int .i64 a1.Curve, .int .i64 a1.Power]), (Res.blk g5 24 [.int .i64 s.1, .int .i64 (w64 (a0.fenergy.Hi + v4.2))])]) ?_ ?_
  rotate_left
  · intro k8 H9
    refine jn_seq ?_
    refine jn_reg 6 ?_
    refine jg_y (fun w hs => yv_fieldAddr rfl) rfl rfl ?_
    refine jg_y (fun w hs => yv_load rfl (ld1B (hs.blkL (i := 0) rfl) rfl)) rfl rfl ?_
    refine jg_y (fun w hs => yv_lss rfl rfl) rfl rfl ?_
    refine jg_nils [(0, _), (4, _), (11, _), (54, _)] ⟨rfl, rfl, rfl, rfl, trivial⟩ ?_
    refine jk_sn ?_
    refine jn_cond rfl ?_ ?_
    rotate_left
    · refine jn_skip ?_
      exact jk_use H9 (w64 (a0.fenergy.Lo + v3.1), a0.fslow) () [2, 0] ⟨rfl, rfl, rfl, trivial⟩ rfl rfl rfl
    refine jn_reg 7 ?_
    refine jg_mv rfl rfl rfl ?_
    refine jg_y (fun w hs => yv_fieldAddr rfl) rfl rfl ?_
    refine jg_store 0 rfl rfl rfl (l1 rfl) rfl rfl rfl rfl (l2 rfl) (r3 rfl) ?_
    refine jg_y (fun w hs => yv_nil rfl) rfl rfl ?_
    refine jg_y (fun w hs => yv_fieldAddr rfl) rfl rfl ?_
    refine jg_storeM 0 rfl rfl rfl (l1 rfl) rfl rfl rfl rfl (l5 rfl) (r1 rfl) ?_
    refine jg_nils [(0, _), (4, _), (11, _)] ⟨rfl, rfl, rfl, trivial⟩ ?_
    exact jk_use H9 (0, true) () [2, 0] ⟨rfl, rfl, rfl, trivial⟩ rfl rfl rfl
  intro z6 q7
  refine jn_seq ?_
  refine jn_reg 8 ?_
  refine jg_mv rfl rfl rfl ?_
  refine jg_y (fun w hs => yv_nil rfl) rfl rfl ?_
  refine jg_y (fun w hs => yv_fieldAddr rfl) rfl rfl ?_
  refine jg_y (fun w hs => yv_fieldAddr rfl) rfl rfl ?_
  refine jg_y (fun w hs => yv_load rfl (ld1B (hs.blkM (i := 0) rfl) rfl)) rfl rfl ?_
  refine jg_c0 rfl (fun v w hs hm => runoff_roots_c hm ) rfl rfl fun v10 => ?_
  refine jg_mv rfl rfl rfl ?_
  refine jg_y (fun w hs => yv_extract rfl rfl) rfl rfl ?_
  refine jg_y (fun w hs => yv_extract rfl rfl) rfl rfl ?_
  refine jg_as rfl rfl rfl ?_
  refine jg_as rfl rfl rfl ?_
  refine jg_nils [(0, _), (4, _), (11, _), (12, _)] ⟨rfl, rfl, rfl, rfl, trivial⟩ ?_
  refine jk_sn ?_
  refine jn_seq ?_
  refine jn_reg 9 ?_
  refine jg_mv rfl rfl rfl ?_
  refine jg_y (fun w hs => yv_nil rfl) rfl rfl ?_
  refine jg_y (fun w hs => yv_fieldAddr rfl) rfl rfl ?_
  refine jg_y (fun w hs => yv_fieldAddr rfl) rfl rfl ?_
  refine jg_y (fun w hs => yv_load rfl (ld1B (hs.blkM (i := 0) rfl) rfl)) rfl rfl ?_
  refine jg_c0 rfl (fun v w hs hm => runoff_roots_c hm ) rfl rfl fun v11 => ?_
  refine jg_mv rfl rfl rfl ?_
  refine jg_y (fun w hs => yv_extract rfl rfl) rfl rfl ?_
  refine jg_y (fun w hs => yv_extract rfl rfl) rfl rfl ?_
  refine jg_as rfl rfl rfl ?_
  refine jg_as rfl rfl rfl ?_
  refine jg_nils [(0, _), (4, _), (11, _), (12, _), (15, _)] ⟨rfl, rfl, rfl, rfl, rfl, trivial⟩ ?_
  refine jk_sn ?_
  refine jn_seq ?_
  refine jn_reg 10 ?_
  refine jg_y (fun w hs => yv_fieldAddr rfl) rfl rfl ?_
  refine jg_y (fun w hs => yv_load rfl (ld1B (hs.blkL (i := 1) rfl) rfl)) rfl rfl ?_
  refine jg_c0 rfl (fun v w hs hm => runoff_roots_c hm ) rfl rfl fun v12 => ?_
  refine jg_mv rfl rfl rfl ?_
  refine jg_y (fun w hs => yv_extract rfl rfl) rfl rfl ?_
  refine jg_y (fun w hs => yv_extract rfl rfl) rfl rfl ?_
  refine jg_as rfl rfl rfl ?_
  refine jg_as rfl rfl rfl ?_
  refine jg_nils [(0, _), (4, _), (11, _), (12, _), (15, _), (16, _)] ⟨rfl, rfl, rfl, rfl, rfl, rfl, trivial⟩ ?_
  refine jk_sn ?_
  refine jn_seq ?_
  refine jn_reg 11 ?_
  refine jg_y (fun w hs => yv_fieldAddr rfl) rfl rfl ?_
  refine jg_y (fun w hs => yv_load rfl (ld1B (hs.blkL (i := 1) rfl) rfl)) rfl rfl ?_
  refine jg_c0 rfl (fun v w hs hm => runoff_roots_c hm ) rfl rfl fun v13 => ?_
  refine jg_mv rfl rfl rfl ?_
  refine jg_y (fun w hs => yv_extract rfl rfl) rfl rfl ?_
  refine jg_y (fun w hs => yv_extract rfl rfl) rfl rfl ?_
  refine jg_as rfl rfl rfl ?_
  refine jg_as rfl rfl rfl ?_
  refine jg_nils [(0, _), (4, _), (11, _), (12, _), (15, _), (16, _), (19, _)] ⟨rfl, rfl, rfl, rfl, rfl, rfl, rfl, trivial⟩ ?_
  refine jk_sn ?_
  refine jn_seq ?_
  refine jn_seq ?_
  refine jn_reg 12 ?_
  refine jg_mv rfl rfl rfl ?_
  refine jg_mv rfl rfl rfl ?_
  refine jg_y (fun w hs => yv_add_w rfl rfl) rfl rfl ?_
  refine jg_y (fun w hs => yv_eql rfl rfl) rfl rfl ?_
  refine jg_nils [(0, _), (4, _), (11, _), (12, _), (15, _), (16, _), (19, _), (92, _)] ⟨rfl, rfl, rfl, rfl, rfl, rfl, rfl, rfl, trivial⟩ ?_
  refine jk_sn ?_
  refine jn_cond rfl ?_ ?_
  · refine jn_seq ?_
    refine jn_reg 13 ?_
    refine jg_as rfl rfl rfl ?_
    refine jg_nils [(6, _)] ⟨rfl, trivial⟩ ?_
    refine jk_sel (is := []) (s0 rfl) rfl ?_
    refine jk_sn ?_
    refine jn_ret ?_
    refine jk_sr ?_
    exact jk_ret1 rfl (fun w hs => .tmp rfl) (fun w hs => ⟨(), rfl, hs.sel (is := []) rfl rfl⟩)
  refine jn_skip ?_
  refine jk_sn ?_
  refine jn_seq ?_
  refine jn_draw (L' := [_, _, _]) 14 [0, 1, 2] [0, 1, 2, 3, 4, 5, 6, 7, 8, 9, 10, 11, 12, 13, 14, 15, 16, 17] 262143 524287 [0, 0, 2, 4, 8, 16, 0, 64, 128, 0, 0, 1536, 2304, 4128, 8192, 32767, 65535, 98303, 163839] [0, 0, 2, 6, 14, 30, 0, 64, 192, 0, 0, 1536, 4032, 8190, 16382, 32767, 65535, 131071, 262143] [(0, true), (1, true), (2, true), (3, true), (4, true), (5, true), (6, true), (7, true), (8, true), (9, true), (10, true), (11, true), (12, true), (13, true), (14, true), (15, true), (16, true), (17, true), (18, false)] rfl (np_seq np_rt) (by kernel_rfl) (by kernel_rfl) (by kernel_rfl) (by kernel_rfl) (by kernel_rfl) (by kernel_rfl) (by kernel_rfl) (by kernel_rfl) ?_
  refine jd_mv rfl rfl rfl rfl ?_
  refine jd_mv rfl rfl rfl rfl ?_
  refine jd_y rfl (fun w hs => yv_nil rfl) rfl rfl ?_
  refine jd_y rfl (fun w hs => yv_fieldAddr rfl) rfl rfl ?_
  refine jd_y rfl (fun w hs => yv_fieldAddr rfl) rfl rfl ?_
  refine jd_y rfl (fun w hs => yv_load rfl (ld1B (hs.blk (i := 2) rfl) rfl)) rfl rfl ?_
  refine jd_y rfl (fun w hs => yv_fieldAddr rfl) rfl rfl ?_
  refine jd_y rfl (fun w hs => yv_load rfl (ld1B (hs.blk (i := 0) rfl) rfl)) rfl rfl ?_
  refine jd_y rfl (fun w hs => yv_mul_w rfl rfl) rfl rfl ?_
  refine jd_mv rfl rfl rfl rfl ?_
  refine jd_mv rfl rfl rfl rfl ?_
  refine jd_y rfl (fun w hs => yv_add_w rfl rfl) rfl rfl ?_
  refine jd_ck fun h14 => ?_
  refine jd_yl rfl (fun w hs => yv_tdiv_w rfl rfl (of_decide_eq_true h14)) rfl rfl fun x15 => ?_
  refine jd_y rfl (fun w hs => yv_add_w rfl rfl) rfl rfl ?_
  refine jd_yl rfl (fun w hs => yv_min rfl rfl) rfl rfl fun x16 => ?_
  refine jd_y rfl (fun w hs => yv_nil rfl) rfl rfl ?_
  refine jd_y rfl (fun w hs => yv_fieldAddr rfl) rfl rfl ?_
  refine jd_y rfl (fun w hs => yv_fieldAddr rfl) rfl rfl ?_
  refine jd_h rfl ?_
  refine jg_storeM 0 rfl rfl rfl (l1 rfl) rfl rfl rfl rfl (l5 rfl) (r1 rfl) ?_
  refine jg_nil ?_
  refine jk_df rfl ?_
  refine jf_nils [(0, _), (4, _), (11, _), (12, _), (16, _)] ⟨rfl, rfl, rfl, rfl, rfl, trivial⟩ ?_
  refine jk_sn ?_
  refine jn_join (fun (s : Bool) (g : Unit) => [(0, .pointer (some ⟨b0, 0, none⟩)), (4, .pointer (some ⟨g1, 0, none⟩)), (11, .pointer (some ⟨g5, 0, none⟩)), (12, .int .i64 v10.1), (16, .int .i64 v12.1)]) (fun (s : Bool) (g : Unit) => [(Res.blk b0 74 [.int .i64 x16, .int .i64 a0.ftime.Hi, .int .i64 a0.fenergy.Lo, .int .i64 a0.fenergy.Hi, .bool s])]) (fun (s : Bool) (g : Unit) => [(Res.blk g1 32 [.int .i64 a1.Element, .int .i64 a1.Length, .int .i64 a1.Grade, .int .i64 a1.Curve, .int .i64 a1.Power]), (Res.blk g5 24 [.int .i64 z6.1, .int .i64 (w64 (a0.fenergy.Hi + v4.2))])]) ?_ ?_
  rotate_left
  · intro k19 H20
    refine jn_seq ?_
    refine jn_reg 15 ?_
    refine jg_mv rfl rfl rfl ?_
    refine jg_mv rfl rfl rfl ?_
    refine jg_y (fun w hs => yv_add_w rfl rfl) rfl rfl ?_
    refine jg_y (fun w hs => yv_eql rfl rfl) rfl rfl ?_
    refine jg_nils [(0, _), (4, _), (11, _), (12, _), (16, _), (114, _)] ⟨rfl, rfl, rfl, rfl, rfl, rfl, trivial⟩ ?_
    refine jk_sn ?_
    refine jn_cond rfl ?_ ?_
    rotate_left
    · refine jn_skip ?_
      exact jk_use H20 z6.2 () [0, 1] ⟨rfl, rfl, rfl, rfl, rfl, trivial⟩ rfl rfl rfl
    refine jn_reg 16 ?_
    refine jg_mv rfl rfl rfl ?_
    refine jg_y (fun w hs => yv_nil rfl) rfl rfl ?_
    refine jg_y (fun w hs => yv_fieldAddr rfl) rfl rfl ?_
    refine jg_storeM 0 rfl rfl rfl (l1 rfl) rfl rfl rfl rfl (l5 rfl) (r1 rfl) ?_
    refine jg_nils [(0, _), (4, _), (11, _), (12, _), (16, _)] ⟨rfl, rfl, rfl, rfl, rfl, trivial⟩ ?_
    exact jk_use H20 true () [0, 1] ⟨rfl, rfl, rfl, rfl, rfl, trivial⟩ rfl rfl rfl
  intro z17 q18
  refine jn_seq ?_
  refine jn_seq ?_
  refine jn_reg 17 ?_
  refine jg_mv rfl rfl rfl ?_
  refine jg_y (fun w hs => yv_nil rfl) rfl rfl ?_
  refine jg_y (fun w hs => yv_fieldAddr rfl) rfl rfl ?_
  refine jg_y (fun w hs => yv_load rfl (ld1B (hs.blkM (i := 0) rfl) rfl)) rfl rfl ?_
  refine jg_nils [(0, _), (4, _), (11, _), (12, _), (16, _), (121, _)] ⟨rfl, rfl, rfl, rfl, rfl, rfl, trivial⟩ ?_
  refine jk_sn ?_
  refine jn_cond rfl ?_ ?_
  · refine jn_reg 18 ?_
    refine jg_mv rfl rfl rfl ?_
    refine jg_y (fun w hs => yv_nil rfl) rfl rfl ?_
    refine jg_y (fun w hs => yv_fieldAddr rfl) rfl rfl ?_
    refine jg_y (fun w hs => yv_fieldAddr rfl) rfl rfl ?_
    refine jg_storeM 0 rfl rfl rfl (l1 rfl) rfl rfl rfl rfl (l5 rfl) (r1 rfl) ?_
    refine jg_nils [(0, _), (11, _)] ⟨rfl, rfl, trivial⟩ ?_
    refine jk_sn ?_
    refine jn_seq ?_
    refine jn_reg 20 ?_
    refine jg_mv rfl rfl rfl ?_
    refine jg_y (fun w hs => yv_load rfl (ldBB (hs.blkL (i := 1) rfl) rfl)) rfl rfl ?_
    refine jg_y (fun w hs => yv_nil rfl) rfl rfl ?_
    refine jg_y (fun w hs => yv_fieldAddr rfl) rfl rfl ?_
    refine jg_storeM 0 rfl rfl rfl (l2 rfl) rfl rfl rfl rfl (l5 rfl) (r1 rfl) ?_
    refine jg_nils [] trivial ?_
    refine jk_sel (is := []) (s0 rfl) rfl ?_
    refine jk_sn ?_
    refine jn_seq ?_
    refine jn_reg 21 ?_
    refine jg_as rfl rfl rfl ?_
    refine jg_nils [(6, _)] ⟨rfl, trivial⟩ ?_
    refine jk_sn ?_
    refine jn_ret ?_
    exact jk_ret1 rfl (fun w hs => .tmp rfl) (fun w hs => ⟨(), rfl, hs.sel (is := []) rfl rfl⟩)
  refine jn_draw (L' := [_, _, _]) 19 [0, 1, 2] [0, 1, 2, 3, 4, 5, 6, 7, 8, 9, 10, 11, 12, 13, 14, 15, 16, 17, 18, 19, 20, 21, 22] 8388607 16777215 [0, 0, 2, 4, 8, 16, 0, 64, 128, 0, 768, 0, 3072, 4096, 0, 0, 49152, 73728, 131104, 262144, 1048575, 2097151, 3145727, 5242879] [0, 0, 2, 6, 14, 30, 0, 64, 192, 0, 960, 0, 4032, 8128, 0, 0, 49152, 131008, 262142, 524286, 1048575, 2097151, 4194303, 8388607] [(0, true), (1, true), (2, true), (3, true), (4, true), (5, true), (6, true), (7, true), (8, true), (9, true), (10, true), (11, true), (12, true), (13, true), (14, true), (15, true), (16, true), (17, true), (18, true), (19, true), (20, true), (21, true), (22, true), (23, false)] rfl (np_seq np_rt) (by kernel_rfl) (by kernel_rfl) (by kernel_rfl) (by kernel_rfl) (by kernel_rfl) (by kernel_rfl) (by kernel_rfl) (by kernel_rfl) ?_
  refine jd_mv rfl rfl rfl rfl ?_
  refine jd_mv rfl rfl rfl rfl ?_
  refine jd_y rfl (fun w hs => yv_nil rfl) rfl rfl ?_
  refine jd_y rfl (fun w hs => yv_fieldAddr rfl) rfl rfl ?_
  refine jd_y rfl (fun w hs => yv_fieldAddr rfl) rfl rfl ?_
  refine jd_y rfl (fun w hs => yv_load rfl (ld1B (hs.blk (i := 2) rfl) rfl)) rfl rfl ?_
  refine jd_y rfl (fun w hs => yv_fieldAddr rfl) rfl rfl ?_
  refine jd_y rfl (fun w hs => yv_load rfl (ld1B (hs.blk (i := 0) rfl) rfl)) rfl rfl ?_
  refine jd_y rfl (fun w hs => yv_mul_w rfl rfl) rfl rfl ?_
  refine jd_mv rfl rfl rfl rfl ?_
  refine jd_yl rfl (fun w hs => yv_add_w rfl rfl) rfl rfl fun x21 => ?_
  refine jd_mv rfl rfl rfl rfl ?_
  refine jd_y rfl (fun w hs => yv_add_w rfl rfl) rfl rfl ?_
  refine jd_y rfl (fun w hs => yv_sub_w rfl rfl) rfl rfl ?_
  refine jd_mv rfl rfl rfl rfl ?_
  refine jd_mv rfl rfl rfl rfl ?_
  refine jd_y rfl (fun w hs => yv_add_w rfl rfl) rfl rfl ?_
  refine jd_ck fun h22 => ?_
  refine jd_yl rfl (fun w hs => yv_tdiv_w rfl rfl (of_decide_eq_true h22)) rfl rfl fun x23 => ?_
  refine jd_y rfl (fun w hs => yv_add_w rfl rfl) rfl rfl ?_
  refine jd_yl rfl (fun w hs => yv_min rfl rfl) rfl rfl fun x24 => ?_
  refine jd_y rfl (fun w hs => yv_nil rfl) rfl rfl ?_
  refine jd_y rfl (fun w hs => yv_fieldAddr rfl) rfl rfl ?_
  refine jd_y rfl (fun w hs => yv_fieldAddr rfl) rfl rfl ?_
  refine jd_h rfl ?_
  refine jg_storeM 0 rfl rfl rfl (l1 rfl) rfl rfl rfl rfl (l5 rfl) (r1 rfl) ?_
  refine jg_nil ?_
  refine jk_df rfl ?_
  refine jf_nils [(0, _), (11, _)] ⟨rfl, rfl, trivial⟩ ?_
  refine jk_sn ?_
  refine jn_seq ?_
  refine jn_reg 20 ?_
  refine jg_mv rfl rfl rfl ?_
  refine jg_y (fun w hs => yv_load rfl (ldBB (hs.blkL (i := 1) rfl) rfl)) rfl rfl ?_
  refine jg_y (fun w hs => yv_nil rfl) rfl rfl ?_
  refine jg_y (fun w hs => yv_fieldAddr rfl) rfl rfl ?_
  refine jg_storeM 0 rfl rfl rfl (l2 rfl) rfl rfl rfl rfl (l5 rfl) (r1 rfl) ?_
  refine jg_nils [] trivial ?_
  refine jk_sel (is := []) (s0 rfl) rfl ?_
  refine jk_sn ?_
  refine jn_seq ?_
  refine jn_reg 21 ?_
  refine jg_as rfl rfl rfl ?_
  refine jg_nils [(6, _)] ⟨rfl, trivial⟩ ?_
  refine jk_sn ?_
  refine jn_ret ?_
  exact jk_ret1 rfl (fun w hs => .tmp rfl) (fun w hs => ⟨(), rfl, hs.sel (is := []) rfl rfl⟩)
theorem runoff_state_brake_c {w : World} {a0 : RunoffState} {a1 : Int} {a2 : Int} {a3 : Int} {b0 : Nat} {v : RunoffState} (hm : runoff_state_brake a0 a1 a2 a3 = some v) (Hb : Blk w b0 74 [.int .i64 a0.ftime.Lo, .int .i64 a0.ftime.Hi, .int .i64 a0.fenergy.Lo, .int .i64 a0.fenergy.Hi, .bool a0.fslow]) : Calls Try.prog 36 ([.pointer (some ⟨b0, 0, none⟩), .int .i64 a1, .int .i64 a2, .int .i64 a3] : List Value).toArray w (fun e w' => ∃ g : Unit, e = .returned (.tuple #[]) ∧ St w w' [.blk b0 74 [.int .i64 v.ftime.Lo, .int .i64 v.ftime.Hi, .int .i64 v.fenergy.Lo, .int .i64 v.fenergy.Hi, .bool v.fslow]] []) := by
  refine j_enter (vs := [.pointer (some ⟨b0, 0, none⟩), .int .i64 a1, .int .i64 a2, .int .i64 a3]) (R := fun (v : RunoffState) (e : Ending) (w' : World) => ∃ g : Unit, e = .returned (.tuple #[]) ∧ St w w' [.blk b0 74 [.int .i64 v.ftime.Lo, .int .i64 v.ftime.Hi, .int .i64 v.fenergy.Lo, .int .i64 v.fenergy.Hi, .bool v.fslow]] []) Try.func36 rfl Try.ntmps36 rfl rfl (mk_st Hb) hm ?_
  unfold runoff_state_brake
  clear hm
  refine jn_seq ?_
  refine jn_reg 0 ?_
  refine jg_mv rfl rfl rfl ?_
  refine jg_mv rfl rfl rfl ?_
  refine jg_y (fun w hs => yv_sub_w rfl rfl) rfl rfl ?_
  refine jg_y (fun w hs => yv_max rfl rfl) rfl rfl ?_
  refine jg_as rfl rfl rfl ?_
  refine jg_nils [(0, _), (1, _), (2, _), (3, _), (8, _)] ⟨rfl, rfl, rfl, rfl, rfl, trivial⟩ ?_
  refine jk_sn ?_
  refine jn_seq ?_
  refine jn_reg 1 ?_
  refine jg_mv rfl rfl rfl ?_
  refine jg_mv rfl rfl rfl ?_
  refine jg_y (fun w hs => yv_nil rfl) rfl rfl ?_
  refine jg_y (fun w hs => yv_fieldAddr rfl) rfl rfl ?_
  refine jg_y (fun w hs => yv_fieldAddr rfl) rfl rfl ?_
  refine jg_y (fun w hs => yv_load rfl (ld1B (hs.blkM (i := 0) rfl) rfl)) rfl rfl ?_
  refine jg_mv rfl rfl rfl ?_
  refine jg_mv rfl rfl rfl ?_
  refine jg_yl (fun w hs => yv_mul_w rfl rfl) rfl rfl fun x1 => ?_
  refine jg_y (fun w hs => yv_min rfl rfl) rfl rfl ?_
  refine jg_y (fun w hs => yv_nil rfl) rfl rfl ?_
  refine jg_y (fun w hs => yv_fieldAddr rfl) rfl rfl ?_
  refine jg_y (fun w hs => yv_fieldAddr rfl) rfl rfl ?_
  refine jg_storeM 0 rfl rfl rfl (l1 rfl) rfl rfl rfl rfl (l5 rfl) (r1 rfl) ?_
  refine jg_nils [(0, _), (1, _), (2, _), (3, _)] ⟨rfl, rfl, rfl, rfl, trivial⟩ ?_
  refine jk_sn ?_
  refine jn_draw (L' := [_]) 2 [0] [0, 1, 2, 3, 4, 5, 6, 7, 8, 9, 10, 11, 12, 13, 14, 15, 16, 17, 18, 19, 20, 21, 22, 23, 24] 33554431 67108863 [0, 0, 2, 4, 8, 16, 0, 0, 192, 0, 0, 1536, 2304, 4128, 0, 16384, 32768, 65536, 131072, 0, 786432, 1056768, 4194303, 8388607, 12582911, 20971519] [0, 0, 2, 6, 14, 30, 0, 0, 192, 0, 0, 1536, 4032, 8190, 0, 16384, 49152, 114688, 245760, 0, 1032192, 2097150, 4194303, 8388607, 16777215, 33554431] [(0, true), (1, true), (2, true), (3, true), (4, true), (5, true), (6, true), (7, true), (8, true), (9, true), (10, true), (11, true), (12, true), (13, true), (14, true), (15, true), (16, true), (17, true), (18, true), (19, true), (20, true), (21, true), (22, true), (23, true), (24, true), (25, false)] rfl np_rt (by kernel_rfl) (by kernel_rfl) (by kernel_rfl) (by kernel_rfl) (by kernel_rfl) (by kernel_rfl) (by kernel_rfl) (by kernel_rfl) ?_
  refine jd_mv rfl rfl rfl rfl ?_
  refine jd_mv rfl rfl rfl rfl ?_
  refine jd_y rfl (fun w hs => yv_nil rfl) rfl rfl ?_
  refine jd_y rfl (fun w hs => yv_fieldAddr rfl) rfl rfl ?_
  refine jd_y rfl (fun w hs => yv_fieldAddr rfl) rfl rfl ?_
  refine jd_y rfl (fun w hs => yv_load rfl (ld1B (hs.blk (i := 0) rfl) rfl)) rfl rfl ?_
  refine jd_mv rfl rfl rfl rfl ?_
  refine jd_mv rfl rfl rfl rfl ?_
  refine jd_y rfl (fun w hs => yv_add_w rfl rfl) rfl rfl ?_
  refine jd_mv rfl rfl rfl rfl ?_
  refine jd_mv rfl rfl rfl rfl ?_
  refine jd_y rfl (fun w hs => yv_add_w rfl rfl) rfl rfl ?_
  refine jd_yl rfl (fun w hs => yv_mul_w rfl rfl) rfl rfl fun x2 => ?_
  refine jd_y rfl (fun w hs => yv_min rfl rfl) rfl rfl ?_
  refine jd_mv rfl rfl rfl rfl ?_
  refine jd_y rfl (fun w hs => yv_nil rfl) rfl rfl ?_
  refine jd_y rfl (fun w hs => yv_fieldAddr rfl) rfl rfl ?_
  refine jd_y rfl (fun w hs => yv_fieldAddr rfl) rfl rfl ?_
  refine jd_y rfl (fun w hs => yv_load rfl (ld1B (hs.blk (i := 0) rfl) rfl)) rfl rfl ?_
  refine jd_mv rfl rfl rfl rfl ?_
  refine jd_y rfl (fun w hs => yv_sub_w rfl rfl) rfl rfl ?_
  refine jd_yl rfl (fun w hs => yv_max rfl rfl) rfl rfl fun x3 => ?_
  refine jd_y rfl (fun w hs => yv_nil rfl) rfl rfl ?_
  refine jd_y rfl (fun w hs => yv_fieldAddr rfl) rfl rfl ?_
  refine jd_y rfl (fun w hs => yv_fieldAddr rfl) rfl rfl ?_
  refine jd_h rfl ?_
  refine jg_storeM 0 rfl rfl rfl (l1 rfl) rfl rfl rfl rfl (l5 rfl) (r1 rfl) ?_
  refine jg_nil ?_
  refine jk_df rfl ?_
  refine jf_nils [] trivial ?_
  exact jk_ret0n rfl (fun w hs => ⟨(), rfl, hs.sel (is := []) rfl rfl⟩)
theorem runoff_Pass_c {w : World} {a0 : (List Piece)} {a1 : Motion} {ha0 : Hd} {ha1_Class : Hd} {ha1_Targets : Hd} {v : ((List Passage) × Int)} (hm : runoff_Pass a0 a1 = some v) (Rha0 : Sl w ha0 Piece.enc a0) (Rha1_Class : Sl w ha1_Class Interval.enc a1.Class) (Rha1_Targets : Sl w ha1_Targets encI a1.Targets) : Calls Try.prog 12 ([ha0.v, .agg #[.int .i64 a1.Speed.Lo, .int .i64 a1.Speed.Hi, ha1_Class.v, .int .i64 a1.Error, ha1_Targets.v]] : List Value).toArray w (fun e w' => ∃ g : Hd, e = .returned (.tuple #[g.v, .int .i64 v.2]) ∧ St w w' [] [(rowH g 43 6 Passage.enc v.1)]) := by
  refine j_enter (vs := [ha0.v, .agg #[.int .i64 a1.Speed.Lo, .int .i64 a1.Speed.Hi, ha1_Class.v, .int .i64 a1.Error, ha1_Targets.v]]) (R := fun (v : ((List Passage) × Int)) (e : Ending) (w' : World) => ∃ g : Hd, e = .returned (.tuple #[g.v, .int .i64 v.2]) ∧ St w w' [] [(rowH g 43 6 Passage.enc v.1)]) Try.func12 rfl Try.ntmps12 rfl rfl (St.refl w) hm ?_
  unfold runoff_Pass
  clear hm
  refine jn_seq ?_
  refine jn_reg 0 ?_
  refine jg_box rfl (l5 rfl) rfl rfl fun g1 => ?_
  refine jg_as rfl rfl rfl ?_
  refine jg_as rfl rfl rfl ?_
  refine jg_nils [(0, _), (3, _)] ⟨rfl, rfl, trivial⟩ ?_
  refine jk_sn ?_
  refine jn_seq ?_
  refine jn_seq ?_
  refine jn_reg 1 ?_
  refine jg_mv rfl rfl rfl ?_
  refine jg_y (fun w hs => yv_load rfl (ldBB (hs.blkL (i := 0) rfl) rfl)) rfl rfl ?_
  refine jg_c0 rfl (fun v w hs hm => runoff_check_c (a1 := a1) hm (hs.arg Rha0) (hs.arg Rha1_Class) (hs.arg Rha1_Targets)) rfl rfl fun v2 => ?_
  refine jg_as rfl rfl rfl ?_
  refine jg_nils [(0, _), (3, _), (6, _)] ⟨rfl, rfl, rfl, trivial⟩ ?_
  refine jk_sn ?_
  refine jn_seq ?_
  refine jn_reg 2 ?_
  refine jg_mv rfl rfl rfl ?_
  refine jg_y (fun w hs => yv_neq rfl rfl) rfl rfl ?_
  refine jg_nils [(0, _), (3, _), (6, _), (17, _)] ⟨rfl, rfl, rfl, rfl, trivial⟩ ?_
  refine jk_sn ?_
  refine jn_cond rfl ?_ ?_
  · refine jn_seq ?_
    refine jn_reg 3 ?_
    refine jg_mv rfl rfl rfl ?_
    refine jg_as rfl rfl rfl ?_
    refine jg_as rfl rfl rfl ?_
    refine jg_nils [(4, _), (5, _)] ⟨rfl, rfl, trivial⟩ ?_
    refine jk_sn ?_
    refine jn_ret ?_
    refine jk_sr ?_
    refine jk_addnil 43 6 Passage.enc ?_
    exact jk_ret2 rfl (fun w hs => .tmp rfl) (fun w hs => .tmp rfl) (fun w hs => ⟨(Hd.mk none 0 0), rfl, hs.sel (is := [0]) rfl rfl⟩)
  refine jn_skip ?_
  refine jk_sn ?_
  refine jn_seq ?_
  refine jn_reg 4 ?_
  refine jg_y (fun w hs => yv_fieldAddr rfl) rfl rfl ?_
  refine jg_y (fun w hs => yv_fieldAddr rfl) rfl rfl ?_
  refine jg_y (fun w hs => yv_load rfl (ld1B (hs.blkL (i := 0) rfl) rfl)) rfl rfl ?_
  refine jg_y (fun w hs => yv_fieldAddr rfl) rfl rfl ?_
  refine jg_y (fun w hs => yv_fieldAddr rfl) rfl rfl ?_
  refine jg_y (fun w hs => yv_load rfl (ld1B (hs.blkL (i := 0) rfl) rfl)) rfl rfl ?_
  refine jg_yl (fun w hs => yv_mul_w rfl rfl) rfl rfl fun x3 => ?_
  refine jg_y (fun w hs => yv_fieldAddr rfl) rfl rfl ?_
  refine jg_y (fun w hs => yv_fieldAddr rfl) rfl rfl ?_
  refine jg_y (fun w hs => yv_load rfl (ld1B (hs.blkL (i := 0) rfl) rfl)) rfl rfl ?_
  refine jg_y (fun w hs => yv_fieldAddr rfl) rfl rfl ?_
  refine jg_y (fun w hs => yv_fieldAddr rfl) rfl rfl ?_
  refine jg_y (fun w hs => yv_load rfl (ld1B (hs.blkL (i := 0) rfl) rfl)) rfl rfl ?_
  refine jg_yl (fun w hs => yv_mul_w rfl rfl) rfl rfl fun x4 => ?_
  refine jg_y (fun w hs => yv_build rfl (o2 rfl)) rfl rfl ?_
  refine jg_y (fun w hs => yv_build rfl (o5 rfl)) rfl rfl ?_
  refine jg_box rfl (l5 rfl) rfl rfl fun g5 => ?_
  refine jg_as rfl rfl rfl ?_
  refine jg_nils [(0, _), (3, _), (7, _)] ⟨rfl, rfl, rfl, trivial⟩ ?_
  refine jk_sn ?_
  refine jn_seq ?_
  refine jn_draw (L' := [_, _]) 5 [0, 1] [0, 1, 2, 3, 4, 5, 6, 7, 8, 9, 10] 2047 2047 [0, 1, 2, 4, 0, 16, 32, 64, 136, 256, 1023] [0, 1, 3, 7, 0, 16, 48, 112, 255, 511, 1023] [(0, true), (1, true), (2, true), (3, true), (4, true), (5, true), (6, true), (7, true), (8, true), (9, false), (10, true)] rfl (np_seq np_rt) (by kernel_rfl) (by kernel_rfl) (by kernel_rfl) (by kernel_rfl) (by kernel_rfl) (by kernel_rfl) (by kernel_rfl) (by kernel_rfl) ?_
  refine jd_mv rfl rfl rfl rfl ?_
  refine jd_y rfl (fun w hs => yv_nil rfl) rfl rfl ?_
  refine jd_y rfl (fun w hs => yv_fieldAddr rfl) rfl rfl ?_
  refine jd_y rfl (fun w hs => yv_load rfl (ldPB (hs.blk (i := 0) rfl) (l2 rfl) rfl)) rfl rfl ?_
  refine jd_mv rfl rfl rfl rfl ?_
  refine jd_y rfl (fun w hs => yv_nil rfl) rfl rfl ?_
  refine jd_y rfl (fun w hs => yv_fieldAddr rfl) rfl rfl ?_
  refine jd_y rfl (fun w hs => yv_load rfl (ldPB (hs.blk (i := 0) rfl) (l2 rfl) rfl)) rfl rfl ?_
  refine jd_y rfl (fun w hs => yv_build rfl (o6 rfl)) rfl rfl ?_
  refine jd_h rfl ?_
  refine jg_lit (enc := Passage.enc) [(Passage.mk (Interval.mk 0 0) (Interval.mk x3 x4) false false)] rfl rfl rfl rfl rfl rfl rfl rfl fun hd6 => ?_
  refine jg_nil ?_
  refine jk_dn [1, 2] rfl ?_
  refine jd_as rfl rfl rfl rfl ?_
  refine jd_nils [(0, _), (3, _), (7, _), (8, _)] ⟨rfl, rfl, rfl, rfl, trivial⟩ ?_
  refine jk_sn ?_
  refine jn_seq ?_
  refine jn_reg 6 ?_
  refine jg_as rfl rfl rfl ?_
  refine jg_nils [(0, _), (3, _), (7, _), (8, _), (9, _)] ⟨rfl, rfl, rfl, rfl, rfl, trivial⟩ ?_
  refine jk_sn ?_
  refine jn_seq ?_
  refine jn_seq ?_
  refine jn_reg 7 ?_
  refine jg_mv rfl rfl rfl ?_
  refine jg_y (fun w hs => yv_ln rfl (hs.arg Rha0)) rfl rfl ?_
  refine jg_mv rfl rfl rfl ?_
  refine jg_nils [(0, _), (3, _), (7, _), (8, _), (9, _), (46, _), (47, _), (48, _)] ⟨rfl, rfl, rfl, rfl, rfl, rfl, rfl, rfl, trivial⟩ ?_
  refine jk_sn ?_
  refine jn_block ?_
  refine jn_lp (n := big) (fun (s : (Int × Int × Int × Int × Bool × (List Passage) × Int × Int)) (g : Hd) => [(0, ha0.v), (3, .pointer (some ⟨g1, 0, none⟩)), (7, .pointer (some ⟨g5, 0, none⟩)), (8, g.v), (9, .int .i64 s.2.2.2.2.2.2.1), (46, ha0.v), (47, .int .i64 (a0.length : Int)), (48, .int .i64 s.2.2.2.2.2.2.2)]) (fun (s : (Int × Int × Int × Int × Bool × (List Passage) × Int × Int)) (g : Hd) => []) (fun (s : (Int × Int × Int × Int × Bool × (List Passage) × Int × Int)) (g : Hd) => [(Res.blk g1 28 [.int .i64 a1.Speed.Lo, .int .i64 a1.Speed.Hi, ha1_Class.v, .int .i64 a1.Error, ha1_Targets.v]), (Res.blk g5 74 [.int .i64 s.1, .int .i64 s.2.1, .int .i64 s.2.2.1, .int .i64 s.2.2.2.1, .bool s.2.2.2.2.1]), (rowH g 43 6 Passage.enc s.2.2.2.2.2.1)]) (0, 0, x3, x4, false, ([(Passage.mk (Interval.mk 0 0) (Interval.mk x3 x4) false false)] : List Passage), 0, 0) hd6 [2, 1, 0] ⟨rfl, rfl, rfl, rfl, rfl, rfl, rfl, rfl, trivial⟩ rfl rfl rfl ?_
  intro z7 q8 n11 k9 H10
  refine jn_seq ?_
  refine jn_reg 8 ?_
  refine jg_y (fun w hs => yv_lss rfl rfl) rfl rfl ?_
  refine jg_nils [(0, _), (3, _), (7, _), (8, _), (9, _), (46, _), (47, _), (48, _), (49, _)] ⟨rfl, rfl, rfl, rfl, rfl, rfl, rfl, rfl, rfl, trivial⟩ ?_
  refine jk_sn ?_
  refine jn_seq ?_
  refine jn_cond rfl ?_ ?_
  rotate_left
  · refine jn_exit ?_
    refine jk_se (jk_le (jk_bh (jk_sn ?_)))
    refine jn_seq ?_
    refine jn_reg 20 ?_
    refine jg_mv rfl rfl rfl ?_
    refine jg_as rfl rfl rfl ?_
    refine jg_as rfl rfl rfl ?_
    refine jg_nils [(4, _), (5, _)] ⟨rfl, rfl, trivial⟩ ?_
    refine jk_sel (is := [2]) (s1 rfl) rfl ?_
    refine jk_sn ?_
    refine jn_ret ?_
    exact jk_ret2 rfl (fun w hs => .tmp rfl) (fun w hs => .tmp rfl) (fun w hs => ⟨q8, rfl, hs.sel (is := [0]) rfl rfl⟩)
  refine jn_skip ?_
  refine jk_sn ?_
  refine jn_seq ?_
  refine jn_block ?_
  refine jn_seq ?_
  refine jn_reg 9 ?_
  refine jg_mv rfl rfl rfl ?_
  refine jg_ix fun x12 h13 => ?_
  refine jg_y (fun w hs => yv_ix rfl rfl (hs.arg Rha0) h13) rfl rfl ?_
  refine jg_y (fun w hs => yv_eS rfl (hs.arg Rha0) h13.1 (l5 rfl) rfl) rfl rfl ?_
  refine jg_alloc (l5 rfl) rfl rfl fun g14 => ?_
  refine jg_as rfl rfl rfl ?_
  refine jg_store 0 rfl rfl rfl (l5 rfl) rfl rfl rfl rfl (l5 rfl) (r4 rfl) ?_
  refine jg_nils [(0, _), (3, _), (7, _), (8, _), (9, _), (10, _), (11, _), (46, _), (47, _), (48, _)] ⟨rfl, rfl, rfl, rfl, rfl, rfl, rfl, rfl, rfl, rfl, trivial⟩ ?_
  refine jk_sn ?_
  refine jn_join (fun (s : (Int × Int × Int × Int × Bool)) (g : Unit) => [(0, ha0.v), (3, .pointer (some ⟨g1, 0, none⟩)), (7, .pointer (some ⟨g5, 0, none⟩)), (8, q8.v), (9, .int .i64 z7.2.2.2.2.2.2.1), (11, .pointer (some ⟨g14, 0, none⟩)), (46, ha0.v), (47, .int .i64 (a0.length : Int)), (48, .int .i64 z7.2.2.2.2.2.2.2)]) (fun (s : (Int × Int × Int × Int × Bool)) (g : Unit) => []) (fun (s : (Int × Int × Int × Int × Bool)) (g : Unit) => [(Res.blk g1 28 [.int .i64 a1.Speed.Lo, .int .i64 a1.Speed.Hi, ha1_Class.v, .int .i64 a1.Error, ha1_Targets.v]), (Res.blk g5 74 [.int .i64 s.1, .int .i64 s.2.1, .int .i64 s.2.2.1, .int .i64 s.2.2.2.1, .bool s.2.2.2.2]), (rowH q8 43 6 Passage.enc z7.2.2.2.2.2.1), (Res.blk g14 32 [.int .i64 x12.Element, .int .i64 x12.Length, .int .i64 x12.Grade, .int .i64 x12.Curve, .int .i64 x12.Power])]) ?_ ?_
  rotate_left
  · intro k17 H18
    refine jn_seq ?_
    refine jn_draw (L' := [_, _, _]) 10 [0, 1, 3] [0, 1, 2, 3, 4, 5, 6, 7, 8] 511 511 [0, 0, 0, 4, 0, 24, 32, 67, 128] [0, 0, 0, 4, 0, 28, 60, 127, 255] [(0, true), (1, true), (2, true), (3, true), (4, true), (5, true), (6, true), (7, false), (8, true)] rfl (np_seq (np_seq (np_blk (np_seq (np_rnd (np_blk (np_seq np_rt))))))) (by kernel_rfl) (by kernel_rfl) (by kernel_rfl) (by kernel_rfl) (by kernel_rfl) (by kernel_rfl) (by kernel_rfl) (by kernel_rfl) ?_
    refine jd_mv rfl rfl rfl rfl ?_
    refine jd_y rfl (fun w hs => yv_load rfl (ldBB (hs.blk (i := 0) rfl) rfl)) rfl rfl ?_
    refine jd_y rfl (fun w hs => yv_fieldAddr rfl) rfl rfl ?_
    refine jd_y rfl (fun w hs => yv_load rfl (ld1B (hs.blk (i := 1) rfl) rfl)) rfl rfl ?_
    refine jd_mv rfl rfl rfl rfl ?_
    refine jd_ix fun x30 h31 => ?_
    refine jd_y rfl (fun w hs => yv_ix rfl rfl (hs.arg Rha1_Class) h31) rfl rfl ?_
    refine jd_y rfl (fun w hs => yv_eS rfl (hs.arg Rha1_Class) h31.1 (l2 rfl) rfl) rfl rfl ?_
    refine jd_h rfl ?_
    refine jl_c 2 rfl rfl (fun v w hs hm => runoff_state_roll_c (a1 := x12) (a2 := x30) hm (hs.blkL (i := 2) rfl)) (fun _ => rfl) rfl rfl fun v32 q33 => ?_
    refine jg_L (r4 rfl) ?_
    refine jg_nil ?_
    refine jk_dn [0, 1, 3] rfl ?_
    refine jd_y rfl (fun w hs => yv_not rfl) rfl rfl ?_
    refine jd_nils [(0, _), (3, _), (7, _), (8, _), (9, _), (11, _), (46, _), (47, _), (48, _), (61, _)] ⟨rfl, rfl, rfl, rfl, rfl, rfl, rfl, rfl, rfl, rfl, trivial⟩ ?_
    refine jk_sn ?_
    refine jn_cond rfl ?_ ?_
    rotate_left
    · refine jn_skip ?_
      exact jk_use H18 (v32.2.ftime.Lo, v32.2.ftime.Hi, v32.2.fenergy.Lo, v32.2.fenergy.Hi, v32.2.fslow) () [1, 2, 3, 0] ⟨rfl, rfl, rfl, rfl, rfl, rfl, rfl, rfl, rfl, trivial⟩ rfl rfl rfl
    refine jn_seq ?_
    refine jn_block ?_
    refine jn_lp (n := big) (fun (s : (List Passage)) (g : Hd) => [(0, ha0.v), (8, g.v)]) (fun (s : (List Passage)) (g : Hd) => []) (fun (s : (List Passage)) (g : Hd) => [(rowH g 43 6 Passage.enc s)]) z7.2.2.2.2.2.1 q8 [3] ⟨rfl, rfl, trivial⟩ rfl rfl rfl ?_
    intro z34 q35 n38 k36 H37
    refine jn_seq ?_
    refine jn_seq ?_
    refine jn_reg 11 ?_
    refine jg_mv rfl rfl rfl ?_
    refine jg_y (fun w hs => yv_ln rfl (hs.row 0 rfl)) rfl rfl ?_
    refine jg_mv rfl rfl rfl ?_
    refine jg_y (fun w hs => yv_ln rfl (hs.arg Rha0)) rfl rfl ?_
    refine jg_y (fun w hs => yv_leq rfl rfl) rfl rfl ?_
    refine jg_nils [(0, _), (8, _), (66, _)] ⟨rfl, rfl, rfl, trivial⟩ ?_
    refine jk_sn ?_
    refine jn_cond rfl ?_ ?_
    · refine jn_skip ?_
      refine jk_sn ?_
      refine jn_block ?_
      refine jn_reg 12 ?_
      refine jg_mv rfl rfl rfl ?_
      refine jg_y (fun w hs => yv_build rfl (o6 rfl)) rfl rfl ?_
      refine jg_lit (enc := Passage.enc) [(Passage.mk (Interval.mk 0 0) (Interval.mk 0 0) false true)] rfl rfl rfl rfl rfl rfl rfl rfl fun hd39 => ?_
      refine jg_append 1 rfl rfl rfl (fun w hs => (hs.row 0 rfl)) rfl rfl rfl fun y40 hd41 => ?_
      refine jg_L (r2 rfl) ?_
      refine jg_as rfl rfl rfl ?_
      refine jg_nils [(0, _), (8, _)] ⟨rfl, rfl, trivial⟩ ?_
      refine jk_bn ?_
      exact jk_use H37 y40 hd41 [1] ⟨rfl, rfl, trivial⟩ rfl rfl rfl
    refine jn_exit ?_
    refine jk_se (jk_le (jk_bh (jk_sn ?_)))
    refine jn_exit ?_
    refine jk_se (jk_bm rfl (jk_se (jk_le (jk_bh (jk_sn ?_)))))
    refine jn_seq ?_
    refine jn_reg 20 ?_
    refine jg_mv rfl rfl rfl ?_
    refine jg_as rfl rfl rfl ?_
    refine jg_as rfl rfl rfl ?_
    refine jg_nils [(4, _), (5, _)] ⟨rfl, rfl, trivial⟩ ?_
    refine jk_sn ?_
    refine jn_ret ?_
    exact jk_ret2 rfl (fun w hs => .tmp rfl) (fun w hs => .tmp rfl) (fun w hs => ⟨q35, rfl, hs.sel (is := [0]) rfl rfl⟩)
  intro z15 q16
  refine jn_join (fun (s : (Int × Int × Int × Int × Bool × Int)) (g : Unit) => [(0, ha0.v), (3, .pointer (some ⟨g1, 0, none⟩)), (7, .pointer (some ⟨g5, 0, none⟩)), (8, q8.v), (9, .int .i64 s.2.2.2.2.2), (46, ha0.v), (47, .int .i64 (a0.length : Int)), (48, .int .i64 z7.2.2.2.2.2.2.2)]) (fun (s : (Int × Int × Int × Int × Bool × Int)) (g : Unit) => []) (fun (s : (Int × Int × Int × Int × Bool × Int)) (g : Unit) => [(Res.blk g1 28 [.int .i64 a1.Speed.Lo, .int .i64 a1.Speed.Hi, ha1_Class.v, .int .i64 a1.Error, ha1_Targets.v]), (Res.blk g5 74 [.int .i64 s.1, .int .i64 s.2.1, .int .i64 s.2.2.1, .int .i64 s.2.2.2.1, .bool s.2.2.2.2.1]), (rowH q8 43 6 Passage.enc z7.2.2.2.2.2.1)]) ?_ ?_
  · intro z19 q20
    refine jn_draw (L' := [_, _]) 18 [0, 1] [0, 1, 2, 3, 4, 5, 6, 7, 8, 9, 10, 11, 12, 13, 14, 15, 16] 131071 131071 [0, 0, 2, 4, 8, 0, 32, 64, 128, 0, 512, 1024, 2048, 4368, 8192, 16385, 65535] [0, 0, 2, 6, 14, 0, 32, 96, 224, 0, 512, 1536, 3584, 8190, 16382, 32767, 65535] [(0, true), (1, true), (2, true), (3, true), (4, true), (5, true), (6, true), (7, true), (8, true), (9, true), (10, true), (11, true), (12, true), (13, true), (14, false), (15, false), (16, true)] rfl (np_blk (np_seq (np_rnd (np_blk (np_seq np_rt))))) (by kernel_rfl) (by kernel_rfl) (by kernel_rfl) (by kernel_rfl) (by kernel_rfl) (by kernel_rfl) (by kernel_rfl) (by kernel_rfl) ?_
    refine jd_mv rfl rfl rfl rfl ?_
    refine jd_mv rfl rfl rfl rfl ?_
    refine jd_y rfl (fun w hs => yv_nil rfl) rfl rfl ?_
    refine jd_y rfl (fun w hs => yv_fieldAddr rfl) rfl rfl ?_
    refine jd_y rfl (fun w hs => yv_load rfl (ldPB (hs.blk (i := 1) rfl) (l2 rfl) rfl)) rfl rfl ?_
    refine jd_mv rfl rfl rfl rfl ?_
    refine jd_y rfl (fun w hs => yv_nil rfl) rfl rfl ?_
    refine jd_y rfl (fun w hs => yv_fieldAddr rfl) rfl rfl ?_
    refine jd_y rfl (fun w hs => yv_load rfl (ldPB (hs.blk (i := 1) rfl) (l2 rfl) rfl)) rfl rfl ?_
    refine jd_mv rfl rfl rfl rfl ?_
    refine jd_y rfl (fun w hs => yv_nil rfl) rfl rfl ?_
    refine jd_y rfl (fun w hs => yv_fieldAddr rfl) rfl rfl ?_
    refine jd_y rfl (fun w hs => yv_load rfl (ld1B (hs.blk (i := 1) rfl) rfl)) rfl rfl ?_
    refine jd_y rfl (fun w hs => yv_build rfl (o6 rfl)) rfl rfl ?_
    refine jd_h rfl ?_
    refine jg_lit (enc := Passage.enc) [(Passage.mk (Interval.mk z19.1 z19.2.1) (Interval.mk z19.2.2.1 z19.2.2.2.1) z19.2.2.2.2.1 false)] rfl rfl rfl rfl rfl rfl rfl rfl fun hd23 => ?_
    refine jg_nil ?_
    refine jk_dn [1, 2] rfl ?_
    refine jd_h rfl ?_
    refine jg_append 3 rfl rfl rfl (fun w hs => (hs.row 0 rfl)) rfl rfl rfl fun y24 hd25 => ?_
    refine jg_L (r4 rfl) ?_
    refine jg_nil ?_
    refine jk_dn [1, 2] rfl ?_
    refine jd_as rfl rfl rfl rfl ?_
    refine jd_nils [(0, _), (3, _), (7, _), (8, _), (9, _), (46, _), (47, _), (48, _)] ⟨rfl, rfl, rfl, rfl, rfl, rfl, rfl, rfl, trivial⟩ ?_
    refine jk_bn (jk_sn ?_)
    refine jn_reg 19 ?_
    refine jg_y (fun w hs => yv_add_w rfl rfl) rfl rfl ?_
    refine jg_mv rfl rfl rfl ?_
    refine jg_nils [(0, _), (3, _), (7, _), (8, _), (9, _), (46, _), (47, _), (48, _)] ⟨rfl, rfl, rfl, rfl, rfl, rfl, rfl, rfl, trivial⟩ ?_
    exact jk_use H10 (z19.1, z19.2.1, z19.2.2.1, z19.2.2.2.1, z19.2.2.2.2.1, y24, z19.2.2.2.2.2, w64 (z7.2.2.2.2.2.2.2 + 1)) hd25 [1, 2, 3] ⟨rfl, rfl, rfl, rfl, rfl, rfl, rfl, rfl, trivial⟩ rfl rfl rfl
  intro k21 H22
  refine jn_seq ?_
  refine jn_reg 13 ?_
  refine jg_y (fun w hs => yv_fieldAddr rfl) rfl rfl ?_
  refine jg_y (fun w hs => yv_load rfl (ld1B (hs.blkL (i := 3) rfl) rfl)) rfl rfl ?_
  refine jg_y (fun w hs => yv_gtr rfl rfl) rfl rfl ?_
  refine jg_nils [(0, _), (3, _), (7, _), (8, _), (9, _), (11, _), (46, _), (47, _), (48, _), (73, _)] ⟨rfl, rfl, rfl, rfl, rfl, rfl, rfl, rfl, rfl, rfl, trivial⟩ ?_
  refine jk_sn ?_
  refine jn_cond rfl ?_ ?_
  rotate_left
  · refine jn_skip ?_
    exact jk_use H22 (z15.1, z15.2.1, z15.2.2.1, z15.2.2.2.1, z15.2.2.2.2, z7.2.2.2.2.2.2.1) () [0, 1, 2] ⟨rfl, rfl, rfl, rfl, rfl, rfl, rfl, rfl, trivial⟩ rfl rfl rfl
  refine jn_seq ?_
  refine jn_seq ?_
  refine jn_reg 14 ?_
  refine jg_y (fun w hs => yv_fieldAddr rfl) rfl rfl ?_
  refine jg_y (fun w hs => yv_load rfl (ld1B (hs.blkL (i := 0) rfl) rfl)) rfl rfl ?_
  refine jg_mv rfl rfl rfl ?_
  refine jg_ix fun x26 h27 => ?_
  refine jg_y (fun w hs => yv_ix rfl rfl (hs.arg Rha1_Targets) h27) rfl rfl ?_
  refine jg_y (fun w hs => yv_e1 rfl (hs.arg Rha1_Targets) h27.1 rfl) rfl rfl ?_
  refine jg_as rfl rfl rfl ?_
  refine jg_nils [(0, _), (3, _), (7, _), (8, _), (9, _), (11, _), (12, _), (46, _), (47, _), (48, _)] ⟨rfl, rfl, rfl, rfl, rfl, rfl, rfl, rfl, rfl, rfl, trivial⟩ ?_
  refine jk_sn ?_
  refine jn_seq ?_
  refine jn_reg 15 ?_
  refine jg_mv rfl rfl rfl ?_
  refine jg_y (fun w hs => yv_geq rfl rfl) rfl rfl ?_
  refine jg_nils [(0, _), (3, _), (7, _), (8, _), (9, _), (11, _), (12, _), (46, _), (47, _), (48, _), (80, _)] ⟨rfl, rfl, rfl, rfl, rfl, rfl, rfl, rfl, rfl, rfl, rfl, trivial⟩ ?_
  refine jk_sn ?_
  refine jn_cond rfl ?_ ?_
  rotate_left
  · refine jn_skip ?_
    refine jk_sn ?_
    refine jn_reg 17 ?_
    refine jg_mv rfl rfl rfl ?_
    refine jg_y (fun w hs => yv_add_w rfl rfl) rfl rfl ?_
    refine jg_as rfl rfl rfl ?_
    refine jg_nils [(0, _), (3, _), (7, _), (8, _), (9, _), (46, _), (47, _), (48, _)] ⟨rfl, rfl, rfl, rfl, rfl, rfl, rfl, rfl, trivial⟩ ?_
    exact jk_use H22 (z15.1, z15.2.1, z15.2.2.1, z15.2.2.2.1, z15.2.2.2.2, w64 (z7.2.2.2.2.2.2.1 + 1)) () [0, 1, 2] ⟨rfl, rfl, rfl, rfl, rfl, rfl, rfl, rfl, trivial⟩ rfl rfl rfl
  refine jn_reg 16 ?_
  refine jg_mv rfl rfl rfl ?_
  refine jg_y (fun w hs => yv_fieldAddr rfl) rfl rfl ?_
  refine jg_y (fun w hs => yv_load rfl (ld1B (hs.blkL (i := 3) rfl) rfl)) rfl rfl ?_
  refine jg_mv rfl rfl rfl ?_
  refine jg_y (fun w hs => yv_fieldAddr rfl) rfl rfl ?_
  refine jg_y (fun w hs => yv_load rfl (ld1B (hs.blkL (i := 0) rfl) rfl)) rfl rfl ?_
  refine jl_c 1 rfl rfl (fun v w hs hm => runoff_state_brake_c hm (hs.blkL (i := 1) rfl)) (fun _ => rfl) rfl rfl fun v28 q29 => ?_
  refine jg_L (r4 rfl) ?_
  refine jg_nils [(0, _), (3, _), (7, _), (8, _), (9, _), (46, _), (47, _), (48, _)] ⟨rfl, rfl, rfl, rfl, rfl, rfl, rfl, rfl, trivial⟩ ?_
  refine jk_sn ?_
  refine jn_reg 17 ?_
  refine jg_mv rfl rfl rfl ?_
  refine jg_y (fun w hs => yv_add_w rfl rfl) rfl rfl ?_
  refine jg_as rfl rfl rfl ?_
  refine jg_nils [(0, _), (3, _), (7, _), (8, _), (9, _), (46, _), (47, _), (48, _)] ⟨rfl, rfl, rfl, rfl, rfl, rfl, rfl, rfl, trivial⟩ ?_
  exact jk_use H22 (v28.ftime.Lo, v28.ftime.Hi, v28.fenergy.Lo, v28.fenergy.Hi, v28.fslow, w64 (z7.2.2.2.2.2.2.1 + 1)) () [0, 1, 2] ⟨rfl, rfl, rfl, rfl, rfl, rfl, rfl, rfl, trivial⟩ rfl rfl rfl
theorem gen_Moments_c {w : World} {a0 : (List Moment)} {a1 : (List Moment)} {ha0 : Hd} {ha1 : Hd} {v : Bool} (hm : gen_Moments a0 a1 = some v) (Rha0 : Sl w ha0 Moment.enc a0) (Rha1 : Sl w ha1 Moment.enc a1) : Gives Try.prog 25 [ha0.v, ha1.v] w (.bool v) := by
  refine j_gives (vs := [ha0.v, ha1.v]) (U := fun (v : Bool) => .bool v) Try.func25 rfl Try.ntmps25 rfl rfl hm ?_
  unfold gen_Moments
  clear hm
  refine jn_seq ?_
  refine jn_reg 0 ?_
  refine jg_as rfl rfl rfl ?_
  refine jg_nils [(0, _), (1, _)] ⟨rfl, rfl, trivial⟩ ?_
  refine jk_sn ?_
  refine jn_seq ?_
  refine jn_seq ?_
  refine jn_reg 1 ?_
  refine jg_mv rfl rfl rfl ?_
  refine jg_y (fun w hs => yv_ln rfl (hs.arg Rha0)) rfl rfl ?_
  refine jg_mv rfl rfl rfl ?_
  refine jg_y (fun w hs => yv_ln rfl (hs.arg Rha1)) rfl rfl ?_
  refine jg_y (fun w hs => yv_neq rfl rfl) rfl rfl ?_
  refine jg_nils [(0, _), (1, _), (10, _)] ⟨rfl, rfl, rfl, trivial⟩ ?_
  refine jk_sn ?_
  refine jn_cond rfl ?_ ?_
  · refine jn_seq ?_
    refine jn_reg 2 ?_
    refine jg_as rfl rfl rfl ?_
    refine jg_nils [(4, _)] ⟨rfl, trivial⟩ ?_
    refine jk_sn ?_
    refine jn_ret ?_
    refine jk_sr ?_
    exact jk_ret1 rfl (fun w hs => .tmp rfl) (fun w hs => ⟨rfl, hs.drop⟩)
  refine jn_skip ?_
  refine jk_sn ?_
  refine jn_seq ?_
  refine jn_seq ?_
  refine jn_reg 3 ?_
  refine jg_as rfl rfl rfl ?_
  refine jg_nils [(0, _), (1, _), (5, _)] ⟨rfl, rfl, rfl, trivial⟩ ?_
  refine jk_sn ?_
  refine jn_block ?_
  refine jn_lp (n := big) (fun (s : Int) (g : Unit) => [(0, ha0.v), (1, ha1.v), (5, .int .i64 s)]) (fun (s : Int) (g : Unit) => []) (fun (s : Int) (g : Unit) => []) 0 () [] ⟨rfl, rfl, rfl, trivial⟩ rfl rfl rfl ?_
  intro z1 q2 n5 k3 H4
  refine jn_seq ?_
  refine jn_seq ?_
  refine jn_reg 4 ?_
  refine jg_mv rfl rfl rfl ?_
  refine jg_mv rfl rfl rfl ?_
  refine jg_y (fun w hs => yv_ln rfl (hs.arg Rha0)) rfl rfl ?_
  refine jg_y (fun w hs => yv_lss rfl rfl) rfl rfl ?_
  refine jg_nils [(0, _), (1, _), (5, _), (14, _)] ⟨rfl, rfl, rfl, rfl, trivial⟩ ?_
  refine jk_sn ?_
  refine jn_cond rfl ?_ ?_
  rotate_left
  · refine jn_exit ?_
    refine jk_se (jk_le (jk_bh (jk_sn ?_)))
    refine jn_seq ?_
    refine jn_reg 8 ?_
    refine jg_as rfl rfl rfl ?_
    refine jg_nils [(4, _)] ⟨rfl, trivial⟩ ?_
    refine jk_sn ?_
    refine jn_ret ?_
    exact jk_ret1 rfl (fun w hs => .tmp rfl) (fun w hs => ⟨rfl, hs.drop⟩)
  refine jn_skip ?_
  refine jk_sn ?_
  refine jn_seq ?_
  refine jn_block ?_
  refine jn_seq ?_
  refine jn_draw (L' := []) 6 [] [0, 1, 2, 3, 4, 5, 6, 7, 8] 511 511 [0, 0, 3, 4, 0, 0, 48, 64, 136] [0, 0, 3, 7, 0, 0, 48, 112, 255] [(0, true), (1, true), (2, true), (3, true), (4, true), (5, true), (6, true), (7, true), (8, true)] rfl (np_seq (np_blk (np_seq (np_rnd (np_blk (np_seq np_rt)))))) (by kernel_rfl) (by kernel_rfl) (by kernel_rfl) (by kernel_rfl) (by kernel_rfl) (by kernel_rfl) (by kernel_rfl) (by kernel_rfl) ?_
  refine jd_mv rfl rfl rfl rfl ?_
  refine jd_mv rfl rfl rfl rfl ?_
  refine jd_ix fun x6 h7 => ?_
  refine jd_y rfl (fun w hs => yv_ix rfl rfl (hs.arg Rha0) h7) rfl rfl ?_
  refine jd_y rfl (fun w hs => yv_eS rfl (hs.arg Rha0) h7.1 (l2 rfl) rfl) rfl rfl ?_
  refine jd_mv rfl rfl rfl rfl ?_
  refine jd_mv rfl rfl rfl rfl ?_
  refine jd_ix fun x8 h9 => ?_
  refine jd_y rfl (fun w hs => yv_ix rfl rfl (hs.arg Rha1) h9) rfl rfl ?_
  refine jd_y rfl (fun w hs => yv_eS rfl (hs.arg Rha1) h9.1 (l2 rfl) rfl) rfl rfl ?_
  refine jd_y rfl (fun w hs => yne41 rfl rfl) rfl rfl ?_
  refine jd_nils [(0, _), (1, _), (5, _), (25, _)] ⟨rfl, rfl, rfl, rfl, trivial⟩ ?_
  refine jk_sn ?_
  refine jn_cond rfl ?_ ?_
  · refine jn_seq ?_
    refine jn_reg 7 ?_
    refine jg_as rfl rfl rfl ?_
    refine jg_nils [(4, _)] ⟨rfl, trivial⟩ ?_
    refine jk_sn ?_
    refine jn_ret ?_
    refine jk_br (jk_sr (jk_lr (jk_br (jk_sr ?_))))
    exact jk_ret1 rfl (fun w hs => .tmp rfl) (fun w hs => ⟨rfl, hs.drop⟩)
  refine jn_skip ?_
  refine jk_bn (jk_sn ?_)
  refine jn_reg 5 ?_
  refine jg_mv rfl rfl rfl ?_
  refine jg_y (fun w hs => yv_add_w rfl rfl) rfl rfl ?_
  refine jg_as rfl rfl rfl ?_
  refine jg_nils [(0, _), (1, _), (5, _)] ⟨rfl, rfl, rfl, trivial⟩ ?_
  exact jk_use H4 (w64 (z1 + 1)) () [] ⟨rfl, rfl, rfl, trivial⟩ rfl rfl rfl
theorem law20_sane_c {w : World}   {v : Bool} (hm : law20_sane = some v) : Gives Try.prog 14 [] w (.bool v) := by
  refine j_gives (vs := []) (U := fun (v : Bool) => .bool v) Try.func14 rfl Try.ntmps14 rfl rfl hm ?_
  unfold law20_sane
  clear hm
  refine jn_seq ?_
  refine jn_reg 0 ?_
  refine jg_as rfl rfl rfl ?_
  refine jg_nils [] trivial ?_
  refine jk_sn ?_
  refine jn_seq ?_
  refine jn_reg 1 ?_
  refine jg_y (fun w hs => yv_build rfl (o5 rfl)) rfl rfl ?_
  refine jg_y (fun w hs => yv_build rfl (o5 rfl)) rfl rfl ?_
  refine jg_lit (enc := Piece.enc) [(Piece.mk 0 10000 1000 0 2000000), (Piece.mk 0 100000 0 0 0)] rfl rfl rfl rfl rfl rfl rfl rfl fun hd1 => ?_
  refine jg_as rfl rfl rfl ?_
  refine jg_nils [(1, _)] ⟨rfl, trivial⟩ ?_
  refine jk_sn ?_
  refine jn_seq ?_
  refine jn_reg 2 ?_
  refine jg_mv rfl rfl rfl ?_
  refine jg_lit (enc := encI) [0, 100] rfl rfl rfl rfl rfl rfl rfl rfl fun hd2 => ?_
  refine jg_lit (enc := encI) [1200] rfl rfl rfl rfl rfl rfl rfl rfl fun hd3 => ?_
  refine jg_y (fun w hs => yv_build rfl (o3 rfl)) rfl rfl ?_
  refine jg_c rfl (fun v w hs hm => runoff_Point_c (a1 := (Run.mk 1000 ([0, 100] : List Int) ([1200] : List Int))) hm (hs.row 2 rfl) (hs.row 1 rfl) (hs.row 0 rfl)) rfl rfl fun v4 q5 => ?_
  refine jg_L (r4 rfl) ?_
  refine jg_mv rfl rfl rfl ?_
  refine jg_y (fun w hs => yv_extract rfl rfl) rfl rfl ?_
  refine jg_y (fun w hs => yv_extract rfl rfl) rfl rfl ?_
  refine jg_y (fun w hs => yv_extract rfl rfl) rfl rfl ?_
  refine jg_as rfl rfl rfl ?_
  refine jg_as rfl rfl rfl ?_
  refine jg_as rfl rfl rfl ?_
  refine jg_nils [(1, _), (2, _), (3, _), (4, _)] ⟨rfl, rfl, rfl, rfl, trivial⟩ ?_
  refine jk_sel (is := [0, 3]) (s2 rfl) rfl ?_
  refine jk_sn ?_
  refine jn_seq ?_
  refine jn_reg 3 ?_
  refine jg_mv rfl rfl rfl ?_
  refine jg_ck fun h6 => ?_
  refine jg_y (fun w hs => yv_hi rfl rfl (hs.row 1 rfl) (of_decide_eq_true h6)) rfl rfl ?_
  refine jg_y (fun w hs => yv_build rfl (o2 rfl)) rfl rfl ?_
  refine jg_y (fun w hs => yv_build rfl (o2 rfl)) rfl rfl ?_
  refine jg_lit (enc := Interval.enc) [(Interval.mk 0 0)] rfl rfl rfl rfl rfl rfl rfl rfl fun hd7 => ?_
  refine jg_lit (enc := encI) [(-1)] rfl rfl rfl rfl rfl rfl rfl rfl fun hd8 => ?_
  refine jg_y (fun w hs => yv_build rfl (o5 rfl)) rfl rfl ?_
  refine jg_c rfl (fun v w hs hm => runoff_Pass_c (a1 := (Motion.mk (Interval.mk 1000 1000) ([(Interval.mk 0 0)] : List Interval) 0 ([(-1)] : List Int))) hm (Sl.hi (hs.row 3 rfl) (of_decide_eq_true h6)) (hs.row 1 rfl) (hs.row 0 rfl)) rfl rfl fun v9 q10 => ?_
  refine jg_L (r5 rfl) ?_
  refine jg_mv rfl rfl rfl ?_
  refine jg_y (fun w hs => yv_extract rfl rfl) rfl rfl ?_
  refine jg_y (fun w hs => yv_extract rfl rfl) rfl rfl ?_
  refine jg_as rfl rfl rfl ?_
  refine jg_as rfl rfl rfl ?_
  refine jg_nils [(2, _), (3, _), (4, _), (5, _), (6, _)] ⟨rfl, rfl, rfl, rfl, rfl, trivial⟩ ?_
  refine jk_sel (is := [0, 3]) (s2 rfl) rfl ?_
  refine jk_sn ?_
  refine jn_seq ?_
  refine jn_reg 4 ?_
  refine jg_mv rfl rfl rfl ?_
  refine jg_y (fun w hs => yv_eql rfl rfl) rfl rfl ?_
  refine jg_mv rfl rfl rfl ?_
  refine jg_split 32 rfl ?_ ?_
  rotate_left
  · refine jg_skip rfl rfl ?_
    refine jg_skip rfl rfl ?_
    refine jg_y (fun w hs => yv_pick_f rfl rfl) rfl rfl ?_
    refine jg_mv rfl rfl rfl ?_
    refine jg_skip rfl rfl ?_
    refine jg_skip rfl rfl ?_
    refine jg_skip rfl rfl ?_
    refine jg_skip rfl rfl ?_
    refine jg_skip rfl rfl ?_
    refine jg_y (fun w hs => yv_pick_f rfl rfl) rfl rfl ?_
    refine jg_mv rfl rfl rfl ?_
    refine jg_skip rfl rfl ?_
    refine jg_skip rfl rfl ?_
    refine jg_y (fun w hs => yv_pick_f rfl rfl) rfl rfl ?_
    refine jg_mv rfl rfl rfl ?_
    refine jg_skip rfl rfl ?_
    refine jg_skip rfl rfl ?_
    refine jg_skip rfl rfl ?_
    refine jg_y (fun w hs => yv_pick_f rfl rfl) rfl rfl ?_
    refine jg_mv rfl rfl rfl ?_
    refine jg_skip rfl rfl ?_
    refine jg_skip rfl rfl ?_
    refine jg_skip rfl rfl ?_
    refine jg_skip rfl rfl ?_
    refine jg_skip rfl rfl ?_
    refine jg_skip rfl rfl ?_
    refine jg_y (fun w hs => yv_pick_f rfl rfl) rfl rfl ?_
    refine jg_mv rfl rfl rfl ?_
    refine jg_skip rfl rfl ?_
    refine jg_skip rfl rfl ?_
    refine jg_skip rfl rfl ?_
    refine jg_skip rfl rfl ?_
    refine jg_skip rfl rfl ?_
    refine jg_skip rfl rfl ?_
    refine jg_y (fun w hs => yv_pick_f rfl rfl) rfl rfl ?_
    refine jg_mv rfl rfl rfl ?_
    refine jg_skip rfl rfl ?_
    refine jg_skip rfl rfl ?_
    refine jg_skip rfl rfl ?_
    refine jg_skip rfl rfl ?_
    refine jg_skip rfl rfl ?_
    refine jg_y (fun w hs => yv_pick_f rfl rfl) rfl rfl ?_
    refine jg_as rfl rfl rfl ?_
    refine jg_nils [(0, _)] ⟨rfl, trivial⟩ ?_
    refine jk_sel (is := []) (s0 rfl) rfl ?_
    refine jk_sn ?_
    refine jn_ret ?_
    exact jk_ret1 rfl (fun w hs => .tmp rfl) (fun w hs => ⟨rfl, hs.drop⟩)
  refine jg_mv rfl rfl rfl ?_
  refine jg_y (fun w hs => yv_eql rfl rfl) rfl rfl ?_
  refine jg_y (fun w hs => yv_pick_t rfl rfl) rfl rfl ?_
  refine jg_mv rfl rfl rfl ?_
  refine jg_split 36 rfl ?_ ?_
  rotate_left
  · refine jg_skip rfl rfl ?_
    refine jg_skip rfl rfl ?_
    refine jg_skip rfl rfl ?_
    refine jg_skip rfl rfl ?_
    refine jg_skip rfl rfl ?_
    refine jg_y (fun w hs => yv_pick_f rfl rfl) rfl rfl ?_
    refine jg_mv rfl rfl rfl ?_
    refine jg_skip rfl rfl ?_
    refine jg_skip rfl rfl ?_
    refine jg_y (fun w hs => yv_pick_f rfl rfl) rfl rfl ?_
    refine jg_mv rfl rfl rfl ?_
    refine jg_skip rfl rfl ?_
    refine jg_skip rfl rfl ?_
    refine jg_skip rfl rfl ?_
    refine jg_y (fun w hs => yv_pick_f rfl rfl) rfl rfl ?_
    refine jg_mv rfl rfl rfl ?_
    refine jg_skip rfl rfl ?_
    refine jg_skip rfl rfl ?_
    refine jg_skip rfl rfl ?_
    refine jg_skip rfl rfl ?_
    refine jg_skip rfl rfl ?_
    refine jg_skip rfl rfl ?_
    refine jg_y (fun w hs => yv_pick_f rfl rfl) rfl rfl ?_
    refine jg_mv rfl rfl rfl ?_
    refine jg_skip rfl rfl ?_
    refine jg_skip rfl rfl ?_
    refine jg_skip rfl rfl ?_
    refine jg_skip rfl rfl ?_
    refine jg_skip rfl rfl ?_
    refine jg_skip rfl rfl ?_
    refine jg_y (fun w hs => yv_pick_f rfl rfl) rfl rfl ?_
    refine jg_mv rfl rfl rfl ?_
    refine jg_skip rfl rfl ?_
    refine jg_skip rfl rfl ?_
    refine jg_skip rfl rfl ?_
    refine jg_skip rfl rfl ?_
    refine jg_skip rfl rfl ?_
    refine jg_y (fun w hs => yv_pick_f rfl rfl) rfl rfl ?_
    refine jg_as rfl rfl rfl ?_
    refine jg_nils [(0, _)] ⟨rfl, trivial⟩ ?_
    refine jk_sel (is := []) (s0 rfl) rfl ?_
    refine jk_sn ?_
    refine jn_ret ?_
    exact jk_ret1 rfl (fun w hs => .tmp rfl) (fun w hs => ⟨rfl, hs.drop⟩)
  refine jg_mv rfl rfl rfl ?_
  refine jg_y (fun w hs => yv_build rfl (o2 rfl)) rfl rfl ?_
  refine jg_y (fun w hs => yv_build rfl (o2 rfl)) rfl rfl ?_
  refine jg_lit (enc := Moment.enc) [(Moment.mk 0 1000000), (Moment.mk 7351 1440000)] rfl rfl rfl rfl rfl rfl rfl rfl fun hd11 => ?_
  refine jg_c0 rfl (fun v w hs hm => gen_Moments_c hm (hs.row 2 rfl) (hs.row 0 rfl)) rfl rfl fun v12 => ?_
  refine jg_y (fun w hs => yv_pick_t rfl rfl) rfl rfl ?_
  refine jg_mv rfl rfl rfl ?_
  refine jg_split 43 rfl ?_ ?_
  rotate_left
  · refine jg_skip rfl rfl ?_
    refine jg_skip rfl rfl ?_
    refine jg_y (fun w hs => yv_pick_f rfl rfl) rfl rfl ?_
    refine jg_mv rfl rfl rfl ?_
    refine jg_skip rfl rfl ?_
    refine jg_skip rfl rfl ?_
    refine jg_skip rfl rfl ?_
    refine jg_y (fun w hs => yv_pick_f rfl rfl) rfl rfl ?_
    refine jg_mv rfl rfl rfl ?_
    refine jg_skip rfl rfl ?_
    refine jg_skip rfl rfl ?_
    refine jg_skip rfl rfl ?_
    refine jg_skip rfl rfl ?_
    refine jg_skip rfl rfl ?_
    refine jg_skip rfl rfl ?_
    refine jg_y (fun w hs => yv_pick_f rfl rfl) rfl rfl ?_
    refine jg_mv rfl rfl rfl ?_
    refine jg_skip rfl rfl ?_
    refine jg_skip rfl rfl ?_
    refine jg_skip rfl rfl ?_
    refine jg_skip rfl rfl ?_
    refine jg_skip rfl rfl ?_
    refine jg_skip rfl rfl ?_
    refine jg_y (fun w hs => yv_pick_f rfl rfl) rfl rfl ?_
    refine jg_mv rfl rfl rfl ?_
    refine jg_skip rfl rfl ?_
    refine jg_skip rfl rfl ?_
    refine jg_skip rfl rfl ?_
    refine jg_skip rfl rfl ?_
    refine jg_skip rfl rfl ?_
    refine jg_y (fun w hs => yv_pick_f rfl rfl) rfl rfl ?_
    refine jg_as rfl rfl rfl ?_
    refine jg_nils [(0, _)] ⟨rfl, trivial⟩ ?_
    refine jk_sel (is := []) (s0 rfl) rfl ?_
    refine jk_sn ?_
    refine jn_ret ?_
    exact jk_ret1 rfl (fun w hs => .tmp rfl) (fun w hs => ⟨rfl, hs.drop⟩)
  refine jg_mv rfl rfl rfl ?_
  refine jg_y (fun w hs => yv_eql rfl rfl) rfl rfl ?_
  refine jg_y (fun w hs => yv_pick_t rfl rfl) rfl rfl ?_
  refine jg_mv rfl rfl rfl ?_
  refine jg_split 47 rfl ?_ ?_
  rotate_left
  · refine jg_skip rfl rfl ?_
    refine jg_skip rfl rfl ?_
    refine jg_skip rfl rfl ?_
    refine jg_y (fun w hs => yv_pick_f rfl rfl) rfl rfl ?_
    refine jg_mv rfl rfl rfl ?_
    refine jg_skip rfl rfl ?_
    refine jg_skip rfl rfl ?_
    refine jg_skip rfl rfl ?_
    refine jg_skip rfl rfl ?_
    refine jg_skip rfl rfl ?_
    refine jg_skip rfl rfl ?_
    refine jg_y (fun w hs => yv_pick_f rfl rfl) rfl rfl ?_
    refine jg_mv rfl rfl rfl ?_
    refine jg_skip rfl rfl ?_
    refine jg_skip rfl rfl ?_
    refine jg_skip rfl rfl ?_
    refine jg_skip rfl rfl ?_
    refine jg_skip rfl rfl ?_
    refine jg_skip rfl rfl ?_
    refine jg_y (fun w hs => yv_pick_f rfl rfl) rfl rfl ?_
    refine jg_mv rfl rfl rfl ?_
    refine jg_skip rfl rfl ?_
    refine jg_skip rfl rfl ?_
    refine jg_skip rfl rfl ?_
    refine jg_skip rfl rfl ?_
    refine jg_skip rfl rfl ?_
    refine jg_y (fun w hs => yv_pick_f rfl rfl) rfl rfl ?_
    refine jg_as rfl rfl rfl ?_
    refine jg_nils [(0, _)] ⟨rfl, trivial⟩ ?_
    refine jk_sel (is := []) (s0 rfl) rfl ?_
    refine jk_sn ?_
    refine jn_ret ?_
    exact jk_ret1 rfl (fun w hs => .tmp rfl) (fun w hs => ⟨rfl, hs.drop⟩)
  refine jg_mv rfl rfl rfl ?_
  refine jg_y (fun w hs => yv_ln rfl (hs.row 1 rfl)) rfl rfl ?_
  refine jg_y (fun w hs => yv_eql rfl rfl) rfl rfl ?_
  refine jg_y (fun w hs => yv_pick_t rfl rfl) rfl rfl ?_
  refine jg_mv rfl rfl rfl ?_
  refine jg_split 52 rfl ?_ ?_
  rotate_left
  · refine jg_skip rfl rfl ?_
    refine jg_skip rfl rfl ?_
    refine jg_skip rfl rfl ?_
    refine jg_skip rfl rfl ?_
    refine jg_skip rfl rfl ?_
    refine jg_skip rfl rfl ?_
    refine jg_y (fun w hs => yv_pick_f rfl rfl) rfl rfl ?_
    refine jg_mv rfl rfl rfl ?_
    refine jg_skip rfl rfl ?_
    refine jg_skip rfl rfl ?_
    refine jg_skip rfl rfl ?_
    refine jg_skip rfl rfl ?_
    refine jg_skip rfl rfl ?_
    refine jg_skip rfl rfl ?_
    refine jg_y (fun w hs => yv_pick_f rfl rfl) rfl rfl ?_
    refine jg_mv rfl rfl rfl ?_
    refine jg_skip rfl rfl ?_
    refine jg_skip rfl rfl ?_
    refine jg_skip rfl rfl ?_
    refine jg_skip rfl rfl ?_
    refine jg_skip rfl rfl ?_
    refine jg_y (fun w hs => yv_pick_f rfl rfl) rfl rfl ?_
    refine jg_as rfl rfl rfl ?_
    refine jg_nils [(0, _)] ⟨rfl, trivial⟩ ?_
    refine jk_sel (is := []) (s0 rfl) rfl ?_
    refine jk_sn ?_
    refine jn_ret ?_
    exact jk_ret1 rfl (fun w hs => .tmp rfl) (fun w hs => ⟨rfl, hs.drop⟩)
  refine jg_mv rfl rfl rfl ?_
  refine jg_ix fun x13 h14 => ?_
  refine jg_y (fun w hs => yv_ix rfl rfl (hs.row 1 rfl) h14) rfl rfl ?_
  refine jg_y (fun w hs => yv_ef rfl (hs.row 1 rfl) h14.1) rfl rfl ?_
  refine jg_y (fun w hs => yv_eS rfl (hs.row 1 rfl) h14.1 (l2 rfl) rfl) rfl rfl ?_
  refine jg_y (fun w hs => yv_build rfl (o2 rfl)) rfl rfl ?_
  refine jg_y (fun w hs => yeq24 rfl rfl) rfl rfl ?_
  refine jg_y (fun w hs => yv_pick_t rfl rfl) rfl rfl ?_
  refine jg_mv rfl rfl rfl ?_
  refine jg_split 60 rfl ?_ ?_
  rotate_left
  · refine jg_skip rfl rfl ?_
    refine jg_skip rfl rfl ?_
    refine jg_skip rfl rfl ?_
    refine jg_skip rfl rfl ?_
    refine jg_skip rfl rfl ?_
    refine jg_skip rfl rfl ?_
    refine jg_y (fun w hs => yv_pick_f rfl rfl) rfl rfl ?_
    refine jg_mv rfl rfl rfl ?_
    refine jg_skip rfl rfl ?_
    refine jg_skip rfl rfl ?_
    refine jg_skip rfl rfl ?_
    refine jg_skip rfl rfl ?_
    refine jg_skip rfl rfl ?_
    refine jg_y (fun w hs => yv_pick_f rfl rfl) rfl rfl ?_
    refine jg_as rfl rfl rfl ?_
    refine jg_nils [(0, _)] ⟨rfl, trivial⟩ ?_
    refine jk_sel (is := []) (s0 rfl) rfl ?_
    refine jk_sn ?_
    refine jn_ret ?_
    exact jk_ret1 rfl (fun w hs => .tmp rfl) (fun w hs => ⟨rfl, hs.drop⟩)
  refine jg_mv rfl rfl rfl ?_
  refine jg_ix fun x15 h16 => ?_
  refine jg_y (fun w hs => yv_ix rfl rfl (hs.row 1 rfl) h16) rfl rfl ?_
  refine jg_y (fun w hs => yv_ef rfl (hs.row 1 rfl) h16.1) rfl rfl ?_
  refine jg_y (fun w hs => yv_ef rfl (hs.row 1 rfl) h16.1) rfl rfl ?_
  refine jg_y (fun w hs => yv_e1 rfl (hs.row 1 rfl) h16.1 rfl) rfl rfl ?_
  refine jg_y (fun w hs => yv_eql rfl rfl) rfl rfl ?_
  refine jg_y (fun w hs => yv_pick_t rfl rfl) rfl rfl ?_
  refine jg_mv rfl rfl rfl ?_
  refine jg_split 68 rfl ?_ ?_
  rotate_left
  · refine jg_skip rfl rfl ?_
    refine jg_skip rfl rfl ?_
    refine jg_skip rfl rfl ?_
    refine jg_skip rfl rfl ?_
    refine jg_skip rfl rfl ?_
    refine jg_y (fun w hs => yv_pick_f rfl rfl) rfl rfl ?_
    refine jg_as rfl rfl rfl ?_
    refine jg_nils [(0, _)] ⟨rfl, trivial⟩ ?_
    refine jk_sel (is := []) (s0 rfl) rfl ?_
    refine jk_sn ?_
    refine jn_ret ?_
    exact jk_ret1 rfl (fun w hs => .tmp rfl) (fun w hs => ⟨rfl, hs.drop⟩)
  refine jg_mv rfl rfl rfl ?_
  refine jg_ix fun x17 h18 => ?_
  refine jg_y (fun w hs => yv_ix rfl rfl (hs.row 1 rfl) h18) rfl rfl ?_
  refine jg_y (fun w hs => yv_ef rfl (hs.row 1 rfl) h18.1) rfl rfl ?_
  refine jg_y (fun w hs => yv_e1 rfl (hs.row 1 rfl) h18.1 rfl) rfl rfl ?_
  refine jg_y (fun w hs => yv_not rfl) rfl rfl ?_
  refine jg_y (fun w hs => yv_pick_t rfl rfl) rfl rfl ?_
  refine jg_as rfl rfl rfl ?_
  refine jg_nils [(0, _)] ⟨rfl, trivial⟩ ?_
  refine jk_sel (is := []) (s0 rfl) rfl ?_
  refine jk_sn ?_
  refine jn_ret ?_
  exact jk_ret1 rfl (fun w hs => .tmp rfl) (fun w hs => ⟨rfl, hs.drop⟩)
theorem law20_RunoffSlower_c {w : World} {a0 : (List Int)} {ha0 : Hd} {v : Bool} (hm : law20_RunoffSlower a0 = some v) (Rha0 : Sl w ha0 encI a0) : Gives Try.prog 7 [ha0.v] w (.bool v) := by
  refine j_gives (vs := [ha0.v]) (U := fun (v : Bool) => .bool v) Try.func7 rfl Try.ntmps7 rfl rfl hm ?_
  unfold law20_RunoffSlower
  clear hm
  refine jn_seq ?_
  refine jn_reg 0 ?_
  refine jg_as rfl rfl rfl ?_
  refine jg_nils [(0, _)] ⟨rfl, trivial⟩ ?_
  refine jk_sn ?_
  refine jn_seq ?_
  refine jn_reg 1 ?_
  refine jg_mv rfl rfl rfl ?_
  refine jg_c rfl (fun v w hs hm => gen_New_c hm (hs.arg Rha0)) rfl rfl fun v1 q2 => ?_
  refine jg_L (r1 rfl) ?_
  refine jg_as rfl rfl rfl ?_
  refine jg_nils [(3, _)] ⟨rfl, trivial⟩ ?_
  refine jk_sn ?_
  refine jn_seq ?_
  refine jn_reg 2 ?_
  refine jg_mv rfl rfl rfl ?_
  refine jl_c 0 rfl rfl (fun v w hs hm => gen_Maker_Pieces_c hm (hs.blkL (i := 0) rfl) (hs.arg Rha0) (hs.offAL 0 Rha0 rfl)) (fun _ => rfl) rfl rfl fun v3 q4 => ?_
  refine jg_L (r2 rfl) ?_
  refine jg_as rfl rfl rfl ?_
  refine jg_nils [(3, _), (4, _)] ⟨rfl, rfl, trivial⟩ ?_
  refine jk_sn ?_
  refine jn_seq ?_
  refine jn_reg 3 ?_
  refine jg_mv rfl rfl rfl ?_
  refine jg_mv rfl rfl rfl ?_
  refine jg_mv rfl rfl rfl ?_
  refine jl_c 1 rfl rfl (fun v w hs hm => gen_Maker_Motion_c hm (hs.blkL (i := 1) rfl) (hs.arg Rha0) (hs.offAL 1 Rha0 rfl) (hs.row 0 rfl) (hs.offLL 0 1 rfl rfl)) (fun _ => rfl) rfl rfl fun v5 q6 => ?_
  refine jg_L (r4 rfl) ?_
  refine jl_c 3 rfl rfl (fun v w hs hm => gen_Maker_Run_c (a1 := v5.1) hm (hs.blkL (i := 3) rfl) (hs.arg Rha0) (hs.offAL 3 Rha0 rfl) (hs.row 0 rfl) (hs.offLL 0 3 rfl rfl) (hs.row 1 rfl) (hs.offLL 1 3 rfl rfl)) (fun _ => rfl) rfl rfl fun v7 q8 => ?_
  refine jg_L (r6 rfl) ?_
  refine jg_alloc (l3 rfl) rfl rfl fun g9 => ?_
  refine jg_store 0 rfl rfl rfl (l3 rfl) rfl rfl rfl rfl (l3 rfl) (r7 rfl) ?_
  refine jg_nils [(3, _), (4, _), (5, _)] ⟨rfl, rfl, rfl, trivial⟩ ?_
  refine jk_sel (is := [0, 1, 2, 5, 6]) (s5 rfl) rfl ?_
  refine jk_sn ?_
  refine jn_seq ?_
  refine jn_reg 4 ?_
  refine jg_y (fun w hs => yv_load rfl (ldBB (hs.blkL (i := 0) rfl) rfl)) rfl rfl ?_
  refine jg_alloc (l3 rfl) rfl rfl fun g10 => ?_
  refine jg_store 0 rfl rfl rfl (l3 rfl) rfl rfl rfl rfl (l3 rfl) (r6 rfl) ?_
  refine jg_nils [(3, _), (4, _), (5, _), (6, _)] ⟨rfl, rfl, rfl, rfl, trivial⟩ ?_
  refine jk_sn ?_
  refine jn_seq ?_
  refine jn_reg 5 ?_
  refine jg_lit0 (enc := encI) rfl rfl fun hd11 => ?_
  refine jg_y (fun w hs => yv_fieldAddr rfl) rfl rfl ?_
  refine jg_y (fun w hs => yv_load rfl (ld1B (hs.blkL (i := 2) rfl) rfl)) rfl rfl ?_
  refine jg_append 0 rfl rfl rfl (fun w hs => (hs.row 3 rfl)) rfl rfl rfl fun y12 hd13 => ?_
  refine jg_L (r7 rfl) ?_
  refine jg_y (fun w hs => yv_fieldAddr rfl) rfl rfl ?_
  refine jg_store 1 rfl rfl rfl (l1 rfl) rfl rfl rfl rfl (l3 rfl) (r7 rfl) ?_
  refine jg_nils [(3, _), (4, _), (5, _), (6, _)] ⟨rfl, rfl, rfl, rfl, trivial⟩ ?_
  refine jk_sn ?_
  refine jn_join (fun (s : (Int × (List Int))) (g : Unit) => [(3, .pointer (some ⟨q2, 0, none⟩)), (4, q4.v), (5, .pointer (some ⟨g9, 0, none⟩)), (6, .pointer (some ⟨g10, 0, none⟩))]) (fun (s : (Int × (List Int))) (g : Unit) => []) (fun (s : (Int × (List Int))) (g : Unit) => [(Res.blk q2 82 [ha0.v, .int .i64 s.1]), (rowH q4 32 5 Piece.enc v3.1), (Res.blk g9 30 [.int .i64 v7.1.Speed, q8.1.v, q8.2.v]), (rowH q8.1 3 1 encI v7.1.Resist), (rowH q8.2 3 1 encI v7.1.Targets), (Res.blk g10 30 [.int .i64 v7.1.Speed, hd13.v, q8.2.v]), (rowH hd13 3 1 encI s.2)]) ?_ ?_
  rotate_left
  · intro k16 H17
    refine jn_seq ?_
    refine jn_reg 6 ?_
    refine jg_y (fun w hs => yv_fieldAddr rfl) rfl rfl ?_
    refine jg_y (fun w hs => yv_load rfl (ld1B (hs.blkL (i := 1) rfl) rfl)) rfl rfl ?_
    refine jg_y (fun w hs => yv_ln rfl (hs.row 0 rfl)) rfl rfl ?_
    refine jg_mv rfl rfl rfl ?_
    refine jg_nils [(3, _), (4, _), (5, _), (6, _), (32, _), (33, _)] ⟨rfl, rfl, rfl, rfl, rfl, rfl, trivial⟩ ?_
    refine jk_sn ?_
    refine jn_block ?_
    refine jn_lp (n := big) (fun (s : (Int × (List Int) × Int)) (g : Unit) => [(3, .pointer (some ⟨q2, 0, none⟩)), (4, q4.v), (5, .pointer (some ⟨g9, 0, none⟩)), (6, .pointer (some ⟨g10, 0, none⟩)), (32, .int .i64 (y12.length : Int)), (33, .int .i64 s.2.2)]) (fun (s : (Int × (List Int) × Int)) (g : Unit) => []) (fun (s : (Int × (List Int) × Int)) (g : Unit) => [(Res.blk q2 82 [ha0.v, .int .i64 s.1]), (rowH q4 32 5 Piece.enc v3.1), (Res.blk g9 30 [.int .i64 v7.1.Speed, q8.1.v, q8.2.v]), (rowH q8.1 3 1 encI v7.1.Resist), (rowH q8.2 3 1 encI v7.1.Targets), (Res.blk g10 30 [.int .i64 v7.1.Speed, hd13.v, q8.2.v]), (rowH hd13 3 1 encI s.2.1)]) (v7.2, y12, 0) () [6, 5, 2, 3, 4, 1, 0] ⟨rfl, rfl, rfl, rfl, rfl, rfl, trivial⟩ rfl rfl rfl ?_
    intro z40 q41 n44 k42 H43
    refine jn_seq ?_
    refine jn_reg 7 ?_
    refine jg_y (fun w hs => yv_lss rfl rfl) rfl rfl ?_
    refine jg_nils [(3, _), (4, _), (5, _), (6, _), (32, _), (33, _), (34, _)] ⟨rfl, rfl, rfl, rfl, rfl, rfl, rfl, trivial⟩ ?_
    refine jk_sn ?_
    refine jn_seq ?_
    refine jn_cond rfl ?_ ?_
    rotate_left
    · refine jn_exit ?_
      refine jk_se (jk_le (jk_bh ?_))
      exact jk_use H17 (z40.1, z40.2.1) () [0, 1, 2, 3, 4, 5, 6] ⟨rfl, rfl, rfl, rfl, trivial⟩ rfl rfl rfl
    refine jn_skip ?_
    refine jk_sn ?_
    refine jn_seq ?_
    refine jn_block ?_
    refine jn_seq ?_
    refine jn_reg 8 ?_
    refine jg_mv rfl rfl rfl ?_
    refine jg_as rfl rfl rfl ?_
    refine jg_nils [(3, _), (4, _), (5, _), (6, _), (7, _), (32, _), (33, _)] ⟨rfl, rfl, rfl, rfl, rfl, rfl, rfl, trivial⟩ ?_
    refine jk_sn ?_
    refine jn_draw (L' := [_, _, _, _, _, _]) 9 [1, 2, 3, 4, 5, 6] [0, 1, 2, 3, 4, 5, 6, 7, 8, 9] 1023 2047 [0, 1, 0, 6, 8, 0, 0, 96, 144, 511, 1023] [0, 1, 0, 7, 15, 0, 0, 96, 255, 511, 1023] [(0, true), (1, true), (2, true), (3, true), (4, true), (5, true), (6, false), (7, false), (8, true), (9, true), (10, false)] rfl (np_blk (np_seq (np_rnd (np_blk (np_seq np_rt))))) (by kernel_rfl) (by kernel_rfl) (by kernel_rfl) (by kernel_rfl) (by kernel_rfl) (by kernel_rfl) (by kernel_rfl) (by kernel_rfl) ?_
    refine jd_y rfl (fun w hs => yv_fieldAddr rfl) rfl rfl ?_
    refine jd_y rfl (fun w hs => yv_load rfl (ld1B (hs.blk (i := 4) rfl) rfl)) rfl rfl ?_
    refine jd_mv rfl rfl rfl rfl ?_
    refine jd_ix fun x45 h46 => ?_
    refine jd_y rfl (fun w hs => yv_ix rfl rfl (hs.row 5 rfl) h46) rfl rfl ?_
    refine jd_y rfl (fun w hs => yv_e1 rfl (hs.row 5 rfl) h46.1 rfl) rfl rfl ?_
    refine jd_mv rfl rfl rfl rfl ?_
    refine jd_h rfl ?_
    refine jg_lit (enc := encI) [0, 0, 1, 20] rfl rfl rfl rfl rfl rfl rfl rfl fun hd47 => ?_
    refine jg_nil ?_
    refine jk_dn [2, 3, 4, 5, 6, 7] rfl ?_
    refine jd_h rfl ?_
    refine jl_c 1 rfl rfl (fun v w hs hm => gen_Maker_Pick_c hm (hs.blkL (i := 1) rfl) (hs.arg Rha0) (hs.offAL 1 Rha0 rfl) (hs.row 0 rfl) (hs.offLL 0 1 rfl rfl)) (fun _ => rfl) rfl rfl fun v48 q49 => ?_
    refine jg_L (r8 rfl) ?_
    refine jg_nil ?_
    refine jk_dn [2, 3, 4, 5, 6, 7] rfl ?_
    refine jd_y rfl (fun w hs => yv_add_w rfl rfl) rfl rfl ?_
    refine jd_ix fun x50 h51 => ?_
    refine jd_y rfl (fun w hs => yv_ix rfl rfl (hs.row 5 rfl) h51) rfl rfl ?_
    refine jd_h rfl ?_
    refine jg_storeE 7 (a' := w64 (x45 + v48.1)) rfl rfl h51.1 rfl (l1 rfl) rfl rfl rfl rfl fun y52 => ?_
    refine jg_L (r8 rfl) ?_
    refine jg_nil ?_
    refine jk_df rfl ?_
    refine jf_nils [(3, _), (4, _), (5, _), (6, _), (32, _), (33, _)] ⟨rfl, rfl, rfl, rfl, rfl, rfl, trivial⟩ ?_
    refine jk_bn (jk_sn ?_)
    refine jn_reg 10 ?_
    refine jg_y (fun w hs => yv_add_w rfl rfl) rfl rfl ?_
    refine jg_mv rfl rfl rfl ?_
    refine jg_nils [(3, _), (4, _), (5, _), (6, _), (32, _), (33, _)] ⟨rfl, rfl, rfl, rfl, rfl, rfl, trivial⟩ ?_
    exact jk_use H43 (v48.2, y52, w64 (z40.2.2 + 1)) () [1, 2, 3, 4, 5, 6, 7] ⟨rfl, rfl, rfl, rfl, rfl, rfl, trivial⟩ rfl rfl rfl
  intro z14 q15
  refine jn_seq ?_
  refine jn_draw (L' := [_, _, _, _, _, _]) 11 [1, 2, 3, 4, 5, 6] [0, 1, 2, 3, 4, 5, 6, 7] 255 511 [0, 1, 0, 0, 12, 18, 32, 127, 255] [0, 1, 0, 0, 12, 31, 63, 127, 255] [(0, true), (1, true), (2, true), (3, false), (4, false), (5, true), (6, true), (7, true), (8, false)] rfl (np_seq np_rt) (by kernel_rfl) (by kernel_rfl) (by kernel_rfl) (by kernel_rfl) (by kernel_rfl) (by kernel_rfl) (by kernel_rfl) (by kernel_rfl) ?_
  refine jd_y rfl (fun w hs => yv_fieldAddr rfl) rfl rfl ?_
  refine jd_y rfl (fun w hs => yv_load rfl (ld1B (hs.blk (i := 1) rfl) rfl)) rfl rfl ?_
  refine jd_mv rfl rfl rfl rfl ?_
  refine jd_h rfl ?_
  refine jg_lit (enc := encI) [0, 0, 50] rfl rfl rfl rfl rfl rfl rfl rfl fun hd18 => ?_
  refine jg_nil ?_
  refine jk_dn [2, 3, 4, 5, 6, 7] rfl ?_
  refine jd_h rfl ?_
  refine jl_c 1 rfl rfl (fun v w hs hm => gen_Maker_Pick_c hm (hs.blkL (i := 1) rfl) (hs.arg Rha0) (hs.offAL 1 Rha0 rfl) (hs.row 0 rfl) (hs.offLL 0 1 rfl rfl)) (fun _ => rfl) rfl rfl fun v19 q20 => ?_
  refine jg_L (r8 rfl) ?_
  refine jg_nil ?_
  refine jk_dn [2, 3, 4, 5, 6, 7] rfl ?_
  refine jd_y rfl (fun w hs => yv_sub_w rfl rfl) rfl rfl ?_
  refine jd_yl rfl (fun w hs => yv_max rfl rfl) rfl rfl fun x21 => ?_
  refine jd_y rfl (fun w hs => yv_fieldAddr rfl) rfl rfl ?_
  refine jd_h rfl ?_
  refine jg_store 6 rfl rfl rfl (l1 rfl) rfl rfl rfl rfl (l3 rfl) (r8 rfl) ?_
  refine jg_nil ?_
  refine jk_df rfl ?_
  refine jf_nils [(4, _), (5, _), (6, _)] ⟨rfl, rfl, rfl, trivial⟩ ?_
  refine jk_sel (is := [2, 3, 4, 5, 6, 7]) (s6 rfl) rfl ?_
  refine jk_sn ?_
  refine jn_seq ?_
  refine jn_reg 12 ?_
  refine jg_mv rfl rfl rfl ?_
  refine jg_y (fun w hs => yv_load rfl (ldBB (hs.blkL (i := 1) rfl) rfl)) rfl rfl ?_
  refine jg_c rfl (fun v w hs hm => runoff_Point_c (a1 := v7.1) hm (hs.row 0 rfl) (hs.row 2 rfl) (hs.row 3 rfl)) rfl rfl fun v22 q23 => ?_
  refine jg_L (r7 rfl) ?_
  refine jg_mv rfl rfl rfl ?_
  refine jg_y (fun w hs => yv_extract rfl rfl) rfl rfl ?_
  refine jg_y (fun w hs => yv_extract rfl rfl) rfl rfl ?_
  refine jg_y (fun w hs => yv_extract rfl rfl) rfl rfl ?_
  refine jg_as rfl rfl rfl ?_
  refine jg_as rfl rfl rfl ?_
  refine jg_as rfl rfl rfl ?_
  refine jg_nils [(4, _), (6, _), (8, _), (10, _)] ⟨rfl, rfl, rfl, rfl, trivial⟩ ?_
  refine jk_sel (is := [0, 1, 4, 5, 6]) (s5 rfl) rfl ?_
  refine jk_sn ?_
  refine jn_seq ?_
  refine jn_reg 13 ?_
  refine jg_mv rfl rfl rfl ?_
  refine jg_y (fun w hs => yv_load rfl (ldBB (hs.blkL (i := 3) rfl) rfl)) rfl rfl ?_
  refine jg_c rfl (fun v w hs hm => runoff_Point_c (a1 := (Run.mk x21 z14.2 v7.1.Targets)) hm (hs.row 1 rfl) (hs.row 4 rfl) (hs.row 2 rfl)) rfl rfl fun v24 q25 => ?_
  refine jg_L (r6 rfl) ?_
  refine jg_mv rfl rfl rfl ?_
  refine jg_y (fun w hs => yv_extract rfl rfl) rfl rfl ?_
  refine jg_y (fun w hs => yv_extract rfl rfl) rfl rfl ?_
  refine jg_y (fun w hs => yv_extract rfl rfl) rfl rfl ?_
  refine jg_as rfl rfl rfl ?_
  refine jg_as rfl rfl rfl ?_
  refine jg_as rfl rfl rfl ?_
  refine jg_nils [(8, _), (10, _), (11, _), (13, _)] ⟨rfl, rfl, rfl, rfl, trivial⟩ ?_
  refine jk_sel (is := [0, 1]) (s2 rfl) rfl ?_
  refine jk_sn ?_
  refine jn_seq ?_
  refine jn_seq ?_
  refine jn_reg 14 ?_
  refine jg_mv rfl rfl rfl ?_
  refine jg_y (fun w hs => yv_neq rfl rfl) rfl rfl ?_
  refine jg_mv rfl rfl rfl ?_
  refine jg_split 71 rfl ?_ ?_
  · refine jg_skip rfl rfl ?_
    refine jg_skip rfl rfl ?_
    refine jg_y (fun w hs => yv_pick_t rfl rfl) rfl rfl ?_
    refine jg_mv rfl rfl rfl ?_
    refine jg_skip rfl rfl ?_
    refine jg_skip rfl rfl ?_
    refine jg_skip rfl rfl ?_
    refine jg_skip rfl rfl ?_
    refine jg_skip rfl rfl ?_
    refine jg_y (fun w hs => yv_pick_t rfl rfl) rfl rfl ?_
    refine jg_nils [(8, _), (11, _), (81, _)] ⟨rfl, rfl, rfl, trivial⟩ ?_
    refine jk_sn ?_
    refine jn_ct rfl ?_
    refine jn_seq ?_
    refine jn_reg 15 ?_
    refine jg_as rfl rfl rfl ?_
    refine jg_nils [(2, _)] ⟨rfl, trivial⟩ ?_
    refine jk_sel (is := []) (s0 rfl) rfl ?_
    refine jk_sn ?_
    refine jn_ret ?_
    refine jk_sr ?_
    exact jk_ret1 rfl (fun w hs => .tmp rfl) (fun w hs => ⟨rfl, hs.drop⟩)
  refine jg_mv rfl rfl rfl ?_
  refine jg_y (fun w hs => yv_neq rfl rfl) rfl rfl ?_
  refine jg_y (fun w hs => yv_pick_f rfl rfl) rfl rfl ?_
  refine jg_mv rfl rfl rfl ?_
  refine jg_split 75 rfl ?_ ?_
  · refine jg_skip rfl rfl ?_
    refine jg_skip rfl rfl ?_
    refine jg_skip rfl rfl ?_
    refine jg_skip rfl rfl ?_
    refine jg_skip rfl rfl ?_
    refine jg_y (fun w hs => yv_pick_t rfl rfl) rfl rfl ?_
    refine jg_nils [(8, _), (11, _), (81, _)] ⟨rfl, rfl, rfl, trivial⟩ ?_
    refine jk_sn ?_
    refine jn_ct rfl ?_
    refine jn_seq ?_
    refine jn_reg 15 ?_
    refine jg_as rfl rfl rfl ?_
    refine jg_nils [(2, _)] ⟨rfl, trivial⟩ ?_
    refine jk_sel (is := []) (s0 rfl) rfl ?_
    refine jk_sn ?_
    refine jn_ret ?_
    refine jk_sr ?_
    exact jk_ret1 rfl (fun w hs => .tmp rfl) (fun w hs => ⟨rfl, hs.drop⟩)
  refine jg_mv rfl rfl rfl ?_
  refine jg_y (fun w hs => yv_ln rfl (hs.row 0 rfl)) rfl rfl ?_
  refine jg_mv rfl rfl rfl ?_
  refine jg_y (fun w hs => yv_ln rfl (hs.row 1 rfl)) rfl rfl ?_
  refine jg_y (fun w hs => yv_gtr rfl rfl) rfl rfl ?_
  refine jg_y (fun w hs => yv_pick_f rfl rfl) rfl rfl ?_
  refine jg_nils [(8, _), (11, _), (81, _)] ⟨rfl, rfl, rfl, trivial⟩ ?_
  refine jk_sn ?_
  refine jn_cond rfl ?_ ?_
  · refine jn_seq ?_
    refine jn_reg 15 ?_
    refine jg_as rfl rfl rfl ?_
    refine jg_nils [(2, _)] ⟨rfl, trivial⟩ ?_
    refine jk_sel (is := []) (s0 rfl) rfl ?_
    refine jk_sn ?_
    refine jn_ret ?_
    refine jk_sr ?_
    exact jk_ret1 rfl (fun w hs => .tmp rfl) (fun w hs => ⟨rfl, hs.drop⟩)
  refine jn_skip ?_
  refine jk_sn ?_
  refine jn_seq ?_
  refine jn_seq ?_
  refine jn_reg 16 ?_
  refine jg_mv rfl rfl rfl ?_
  refine jg_y (fun w hs => yv_ln rfl (hs.row 0 rfl)) rfl rfl ?_
  refine jg_mv rfl rfl rfl ?_
  refine jg_nils [(8, _), (11, _), (83, _), (84, _)] ⟨rfl, rfl, rfl, rfl, trivial⟩ ?_
  refine jk_sn ?_
  refine jn_block ?_
  refine jn_lp (n := big) (fun (s : Int) (g : Unit) => [(8, q23.v), (11, q25.v), (83, .int .i64 (v24.1.length : Int)), (84, .int .i64 s)]) (fun (s : Int) (g : Unit) => []) (fun (s : Int) (g : Unit) => [(rowH q23 41 2 Moment.enc v22.1), (rowH q25 41 2 Moment.enc v24.1)]) 0 () [1, 0] ⟨rfl, rfl, rfl, rfl, trivial⟩ rfl rfl rfl ?_
  intro z26 q27 n30 k28 H29
  refine jn_seq ?_
  refine jn_reg 17 ?_
  refine jg_y (fun w hs => yv_lss rfl rfl) rfl rfl ?_
  refine jg_nils [(8, _), (11, _), (83, _), (84, _), (85, _)] ⟨rfl, rfl, rfl, rfl, rfl, trivial⟩ ?_
  refine jk_sn ?_
  refine jn_seq ?_
  refine jn_cond rfl ?_ ?_
  rotate_left
  · refine jn_exit ?_
    refine jk_se (jk_le (jk_bh (jk_sn ?_)))
    refine jn_seq ?_
    refine jn_reg 22 ?_
    refine jg_c0 rfl (fun v w hs hm => law20_sane_c hm ) rfl rfl fun v39 => ?_
    refine jg_as rfl rfl rfl ?_
    refine jg_nils [(2, _)] ⟨rfl, trivial⟩ ?_
    refine jk_sel (is := []) (s0 rfl) rfl ?_
    refine jk_sn ?_
    refine jn_ret ?_
    exact jk_ret1 rfl (fun w hs => .tmp rfl) (fun w hs => ⟨rfl, hs.drop⟩)
  refine jn_skip ?_
  refine jk_sn ?_
  refine jn_seq ?_
  refine jn_block ?_
  refine jn_seq ?_
  refine jn_reg 18 ?_
  refine jg_mv rfl rfl rfl ?_
  refine jg_as rfl rfl rfl ?_
  refine jg_nils [(8, _), (11, _), (14, _), (83, _), (84, _)] ⟨rfl, rfl, rfl, rfl, rfl, trivial⟩ ?_
  refine jk_sn ?_
  refine jn_seq ?_
  refine jn_draw (L' := [_, _]) 19 [0, 1] [0, 1, 2, 3, 4, 5, 6, 7, 8, 9, 10, 11, 12, 13, 14, 15, 16, 17, 18, 19, 20, 21, 22, 23] 16777215 16777215 [0, 0, 3, 4, 8, 0, 0, 96, 128, 256, 528, 1024, 2048, 2048, 14336, 18432, 34816, 2048, 2048, 395264, 526336, 1050624, 2164736, 4196352] [0, 0, 3, 7, 15, 0, 0, 96, 224, 480, 1023, 2047, 4095, 4095, 16383, 32767, 65535, 4095, 4095, 397311, 921599, 1970175, 4194303, 8388607] [(0, true), (1, true), (2, true), (3, true), (4, true), (5, true), (6, true), (7, true), (8, true), (9, true), (10, true), (11, true), (12, true), (13, true), (14, true), (15, true), (16, true), (17, true), (18, true), (19, true), (20, true), (21, true), (22, true), (23, true)] rfl (np_seq (np_blk (np_seq (np_rnd (np_blk (np_seq np_rt)))))) (by kernel_rfl) (by kernel_rfl) (by kernel_rfl) (by kernel_rfl) (by kernel_rfl) (by kernel_rfl) (by kernel_rfl) (by kernel_rfl) ?_
  refine jd_mv rfl rfl rfl rfl ?_
  refine jd_mv rfl rfl rfl rfl ?_
  refine jd_ix fun x31 h32 => ?_
  refine jd_y rfl (fun w hs => yv_ix rfl rfl (hs.row 1 rfl) h32) rfl rfl ?_
  refine jd_y rfl (fun w hs => yv_ef rfl (hs.row 1 rfl) h32.1) rfl rfl ?_
  refine jd_y rfl (fun w hs => yv_e1 rfl (hs.row 1 rfl) h32.1 rfl) rfl rfl ?_
  refine jd_mv rfl rfl rfl rfl ?_
  refine jd_mv rfl rfl rfl rfl ?_
  refine jd_ix fun x33 h34 => ?_
  refine jd_y rfl (fun w hs => yv_ix rfl rfl (hs.row 0 rfl) h34) rfl rfl ?_
  refine jd_y rfl (fun w hs => yv_ef rfl (hs.row 0 rfl) h34.1) rfl rfl ?_
  refine jd_y rfl (fun w hs => yv_e1 rfl (hs.row 0 rfl) h34.1 rfl) rfl rfl ?_
  refine jd_y rfl (fun w hs => yv_lss rfl rfl) rfl rfl ?_
  refine jd_mv rfl rfl rfl rfl ?_
  refine jd_split 98 rfl ?_ ?_
  · refine jd_skip rfl rfl rfl ?_
    refine jd_skip rfl rfl rfl ?_
    refine jd_skip rfl rfl rfl ?_
    refine jd_skip rfl rfl rfl ?_
    refine jd_skip rfl rfl rfl ?_
    refine jd_skip rfl rfl rfl ?_
    refine jd_skip rfl rfl rfl ?_
    refine jd_skip rfl rfl rfl ?_
    refine jd_skip rfl rfl rfl ?_
    refine jd_skip rfl rfl rfl ?_
    refine jd_skip rfl rfl rfl ?_
    refine jd_y rfl (fun w hs => yv_pick_t rfl rfl) rfl rfl ?_
    refine jd_nils [(8, _), (11, _), (83, _), (84, _), (110, _)] ⟨rfl, rfl, rfl, rfl, rfl, trivial⟩ ?_
    refine jk_sn ?_
    refine jn_ct rfl ?_
    refine jn_seq ?_
    refine jn_reg 20 ?_
    refine jg_as rfl rfl rfl ?_
    refine jg_nils [(2, _)] ⟨rfl, trivial⟩ ?_
    refine jk_sel (is := []) (s0 rfl) rfl ?_
    refine jk_sn ?_
    refine jn_ret ?_
    refine jk_br (jk_sr (jk_lr (jk_br (jk_sr ?_))))
    exact jk_ret1 rfl (fun w hs => .tmp rfl) (fun w hs => ⟨rfl, hs.drop⟩)
  refine jd_mv rfl rfl rfl rfl ?_
  refine jd_mv rfl rfl rfl rfl ?_
  refine jd_ix fun x35 h36 => ?_
  refine jd_y rfl (fun w hs => yv_ix rfl rfl (hs.row 1 rfl) h36) rfl rfl ?_
  refine jd_y rfl (fun w hs => yv_ef rfl (hs.row 1 rfl) h36.1) rfl rfl ?_
  refine jd_y rfl (fun w hs => yv_e1 rfl (hs.row 1 rfl) h36.1 rfl) rfl rfl ?_
  refine jd_mv rfl rfl rfl rfl ?_
  refine jd_mv rfl rfl rfl rfl ?_
  refine jd_ix fun x37 h38 => ?_
  refine jd_y rfl (fun w hs => yv_ix rfl rfl (hs.row 0 rfl) h38) rfl rfl ?_
  refine jd_y rfl (fun w hs => yv_ef rfl (hs.row 0 rfl) h38.1) rfl rfl ?_
  refine jd_y rfl (fun w hs => yv_e1 rfl (hs.row 0 rfl) h38.1 rfl) rfl rfl ?_
  refine jd_y rfl (fun w hs => yv_gtr rfl rfl) rfl rfl ?_
  refine jd_y rfl (fun w hs => yv_pick_f rfl rfl) rfl rfl ?_
  refine jd_nils [(8, _), (11, _), (83, _), (84, _), (110, _)] ⟨rfl, rfl, rfl, rfl, rfl, trivial⟩ ?_
  refine jk_sn ?_
  refine jn_cond rfl ?_ ?_
  rotate_left
  · refine jn_skip ?_
    refine jk_bn (jk_sn ?_)
    refine jn_reg 21 ?_
    refine jg_y (fun w hs => yv_add_w rfl rfl) rfl rfl ?_
    refine jg_mv rfl rfl rfl ?_
    refine jg_nils [(8, _), (11, _), (83, _), (84, _)] ⟨rfl, rfl, rfl, rfl, trivial⟩ ?_
    exact jk_use H29 (w64 (z26 + 1)) () [0, 1] ⟨rfl, rfl, rfl, rfl, trivial⟩ rfl rfl rfl
  refine jn_seq ?_
  refine jn_reg 20 ?_
  refine jg_as rfl rfl rfl ?_
  refine jg_nils [(2, _)] ⟨rfl, trivial⟩ ?_
  refine jk_sel (is := []) (s0 rfl) rfl ?_
  refine jk_sn ?_
  refine jn_ret ?_
  refine jk_br (jk_sr (jk_lr (jk_br (jk_sr ?_))))
  exact jk_ret1 rfl (fun w hs => .tmp rfl) (fun w hs => ⟨rfl, hs.drop⟩)
theorem gen_Passages_c {w : World} {a0 : (List Passage)} {a1 : (List Passage)} {ha0 : Hd} {ha1 : Hd} {v : Bool} (hm : gen_Passages a0 a1 = some v) (Rha0 : Sl w ha0 Passage.enc a0) (Rha1 : Sl w ha1 Passage.enc a1) : Gives Try.prog 24 [ha0.v, ha1.v] w (.bool v) := by
  refine j_gives (vs := [ha0.v, ha1.v]) (U := fun (v : Bool) => .bool v) Try.func24 rfl Try.ntmps24 rfl rfl hm ?_
  unfold gen_Passages
  clear hm
  refine jn_seq ?_
  refine jn_reg 0 ?_
  refine jg_as rfl rfl rfl ?_
  refine jg_nils [(0, _), (1, _)] ⟨rfl, rfl, trivial⟩ ?_
  refine jk_sn ?_
  refine jn_seq ?_
  refine jn_seq ?_
  refine jn_reg 1 ?_
  refine jg_mv rfl rfl rfl ?_
  refine jg_y (fun w hs => yv_ln rfl (hs.arg Rha0)) rfl rfl ?_
  refine jg_mv rfl rfl rfl ?_
  refine jg_y (fun w hs => yv_ln rfl (hs.arg Rha1)) rfl rfl ?_
  refine jg_y (fun w hs => yv_neq rfl rfl) rfl rfl ?_
  refine jg_nils [(0, _), (1, _), (10, _)] ⟨rfl, rfl, rfl, trivial⟩ ?_
  refine jk_sn ?_
  refine jn_cond rfl ?_ ?_
  · refine jn_seq ?_
    refine jn_reg 2 ?_
    refine jg_as rfl rfl rfl ?_
    refine jg_nils [(4, _)] ⟨rfl, trivial⟩ ?_
    refine jk_sn ?_
    refine jn_ret ?_
    refine jk_sr ?_
    exact jk_ret1 rfl (fun w hs => .tmp rfl) (fun w hs => ⟨rfl, hs.drop⟩)
  refine jn_skip ?_
  refine jk_sn ?_
  refine jn_seq ?_
  refine jn_seq ?_
  refine jn_reg 3 ?_
  refine jg_as rfl rfl rfl ?_
  refine jg_nils [(0, _), (1, _), (5, _)] ⟨rfl, rfl, rfl, trivial⟩ ?_
  refine jk_sn ?_
  refine jn_block ?_
  refine jn_lp (n := big) (fun (s : Int) (g : Unit) => [(0, ha0.v), (1, ha1.v), (5, .int .i64 s)]) (fun (s : Int) (g : Unit) => []) (fun (s : Int) (g : Unit) => []) 0 () [] ⟨rfl, rfl, rfl, trivial⟩ rfl rfl rfl ?_
  intro z1 q2 n5 k3 H4
  refine jn_seq ?_
  refine jn_seq ?_
  refine jn_reg 4 ?_
  refine jg_mv rfl rfl rfl ?_
  refine jg_mv rfl rfl rfl ?_
  refine jg_y (fun w hs => yv_ln rfl (hs.arg Rha0)) rfl rfl ?_
  refine jg_y (fun w hs => yv_lss rfl rfl) rfl rfl ?_
  refine jg_nils [(0, _), (1, _), (5, _), (14, _)] ⟨rfl, rfl, rfl, rfl, trivial⟩ ?_
  refine jk_sn ?_
  refine jn_cond rfl ?_ ?_
  rotate_left
  · refine jn_exit ?_
    refine jk_se (jk_le (jk_bh (jk_sn ?_)))
    refine jn_seq ?_
    refine jn_reg 8 ?_
    refine jg_as rfl rfl rfl ?_
    refine jg_nils [(4, _)] ⟨rfl, trivial⟩ ?_
    refine jk_sn ?_
    refine jn_ret ?_
    exact jk_ret1 rfl (fun w hs => .tmp rfl) (fun w hs => ⟨rfl, hs.drop⟩)
  refine jn_skip ?_
  refine jk_sn ?_
  refine jn_seq ?_
  refine jn_block ?_
  refine jn_seq ?_
  refine jn_draw (L' := []) 6 [] [0, 1, 2, 3, 4, 5, 6, 7, 8] 511 511 [0, 0, 3, 4, 0, 0, 48, 64, 136] [0, 0, 3, 7, 0, 0, 48, 112, 255] [(0, true), (1, true), (2, true), (3, true), (4, true), (5, true), (6, true), (7, true), (8, true)] rfl (np_seq (np_blk (np_seq (np_rnd (np_blk (np_seq np_rt)))))) (by kernel_rfl) (by kernel_rfl) (by kernel_rfl) (by kernel_rfl) (by kernel_rfl) (by kernel_rfl) (by kernel_rfl) (by kernel_rfl) ?_
  refine jd_mv rfl rfl rfl rfl ?_
  refine jd_mv rfl rfl rfl rfl ?_
  refine jd_ix fun x6 h7 => ?_
  refine jd_y rfl (fun w hs => yv_ix rfl rfl (hs.arg Rha0) h7) rfl rfl ?_
  refine jd_y rfl (fun w hs => yv_eS rfl (hs.arg Rha0) h7.1 (l6 rfl) rfl) rfl rfl ?_
  refine jd_mv rfl rfl rfl rfl ?_
  refine jd_mv rfl rfl rfl rfl ?_
  refine jd_ix fun x8 h9 => ?_
  refine jd_y rfl (fun w hs => yv_ix rfl rfl (hs.arg Rha1) h9) rfl rfl ?_
  refine jd_y rfl (fun w hs => yv_eS rfl (hs.arg Rha1) h9.1 (l6 rfl) rfl) rfl rfl ?_
  refine jd_y rfl (fun w hs => yne43 rfl rfl) rfl rfl ?_
  refine jd_nils [(0, _), (1, _), (5, _), (25, _)] ⟨rfl, rfl, rfl, rfl, trivial⟩ ?_
  refine jk_sn ?_
  refine jn_cond rfl ?_ ?_
  · refine jn_seq ?_
    refine jn_reg 7 ?_
    refine jg_as rfl rfl rfl ?_
    refine jg_nils [(4, _)] ⟨rfl, trivial⟩ ?_
    refine jk_sn ?_
    refine jn_ret ?_
    refine jk_br (jk_sr (jk_lr (jk_br (jk_sr ?_))))
    exact jk_ret1 rfl (fun w hs => .tmp rfl) (fun w hs => ⟨rfl, hs.drop⟩)
  refine jn_skip ?_
  refine jk_bn (jk_sn ?_)
  refine jn_reg 5 ?_
  refine jg_mv rfl rfl rfl ?_
  refine jg_y (fun w hs => yv_add_w rfl rfl) rfl rfl ?_
  refine jg_as rfl rfl rfl ?_
  refine jg_nils [(0, _), (1, _), (5, _)] ⟨rfl, rfl, rfl, trivial⟩ ?_
  exact jk_use H4 (w64 (z1 + 1)) () [] ⟨rfl, rfl, rfl, trivial⟩ rfl rfl rfl
theorem law20_RunoffParts_c {w : World} {a0 : (List Int)} {ha0 : Hd} {v : Bool} (hm : law20_RunoffParts a0 = some v) (Rha0 : Sl w ha0 encI a0) : Gives Try.prog 5 [ha0.v] w (.bool v) := by
  refine j_gives (vs := [ha0.v]) (U := fun (v : Bool) => .bool v) Try.func5 rfl Try.ntmps5 rfl rfl hm ?_
  unfold law20_RunoffParts
  clear hm
  refine jn_seq ?_
  refine jn_reg 0 ?_
  refine jg_as rfl rfl rfl ?_
  refine jg_nils [(0, _)] ⟨rfl, trivial⟩ ?_
  refine jk_sn ?_
  refine jn_seq ?_
  refine jn_reg 1 ?_
  refine jg_mv rfl rfl rfl ?_
  refine jg_c rfl (fun v w hs hm => gen_New_c hm (hs.arg Rha0)) rfl rfl fun v1 q2 => ?_
  refine jg_L (r1 rfl) ?_
  refine jg_as rfl rfl rfl ?_
  refine jg_nils [(3, _)] ⟨rfl, trivial⟩ ?_
  refine jk_sn ?_
  refine jn_seq ?_
  refine jn_reg 2 ?_
  refine jg_mv rfl rfl rfl ?_
  refine jl_c 0 rfl rfl (fun v w hs hm => gen_Maker_Pieces_c hm (hs.blkL (i := 0) rfl) (hs.arg Rha0) (hs.offAL 0 Rha0 rfl)) (fun _ => rfl) rfl rfl fun v3 q4 => ?_
  refine jg_L (r2 rfl) ?_
  refine jg_as rfl rfl rfl ?_
  refine jg_nils [(3, _), (4, _)] ⟨rfl, rfl, trivial⟩ ?_
  refine jk_sn ?_
  refine jn_seq ?_
  refine jn_reg 3 ?_
  refine jg_mv rfl rfl rfl ?_
  refine jg_mv rfl rfl rfl ?_
  refine jl_c 1 rfl rfl (fun v w hs hm => gen_Maker_Motion_c hm (hs.blkL (i := 1) rfl) (hs.arg Rha0) (hs.offAL 1 Rha0 rfl) (hs.row 0 rfl) (hs.offLL 0 1 rfl rfl)) (fun _ => rfl) rfl rfl fun v5 q6 => ?_
  refine jg_L (r4 rfl) ?_
  refine jg_alloc (l5 rfl) rfl rfl fun g7 => ?_
  refine jg_store 0 rfl rfl rfl (l5 rfl) rfl rfl rfl rfl (l5 rfl) (r5 rfl) ?_
  refine jg_nils [(3, _), (4, _), (5, _)] ⟨rfl, rfl, rfl, trivial⟩ ?_
  refine jk_sn ?_
  refine jn_seq ?_
  refine jn_reg 4 ?_
  refine jg_mv rfl rfl rfl ?_
  refine jg_y (fun w hs => yv_load rfl (ldBB (hs.blkL (i := 0) rfl) rfl)) rfl rfl ?_
  refine jl_c 4 rfl rfl (fun v w hs hm => gen_Maker_Run_c (a1 := v5.1) hm (hs.blkL (i := 4) rfl) (hs.arg Rha0) (hs.offAL 4 Rha0 rfl) (hs.row 1 rfl) (hs.offLL 1 4 rfl rfl) (hs.row 2 rfl) (hs.offLL 2 4 rfl rfl)) (fun _ => rfl) rfl rfl fun v8 q9 => ?_
  refine jg_L (r7 rfl) ?_
  refine jg_alloc (l3 rfl) rfl rfl fun g10 => ?_
  refine jg_store 0 rfl rfl rfl (l3 rfl) rfl rfl rfl rfl (l3 rfl) (r8 rfl) ?_
  refine jg_nils [(3, _), (4, _), (5, _), (6, _)] ⟨rfl, rfl, rfl, rfl, trivial⟩ ?_
  refine jk_sn ?_
  refine jn_seq ?_
  refine jn_reg 5 ?_
  refine jg_mv rfl rfl rfl ?_
  refine jg_mv rfl rfl rfl ?_
  refine jg_y (fun w hs => yv_ln rfl (hs.row 6 rfl)) rfl rfl ?_
  refine jl_c 7 rfl rfl (fun v w hs hm => gen_Maker_From_c hm (hs.blkL (i := 7) rfl) (hs.arg Rha0) (hs.offAL 7 Rha0 rfl)) (fun _ => rfl) rfl rfl fun v11 q12 => ?_
  refine jg_L (r8 rfl) ?_
  refine jg_as rfl rfl rfl ?_
  refine jg_nils [(4, _), (5, _), (6, _), (7, _)] ⟨rfl, rfl, rfl, rfl, trivial⟩ ?_
  refine jk_sn ?_
  refine jn_seq ?_
  refine jn_reg 6 ?_
  refine jg_mv rfl rfl rfl ?_
  refine jg_mv rfl rfl rfl ?_
  refine jg_ck fun h13 => ?_
  refine jg_y (fun w hs => yv_hi rfl rfl (hs.row 6 rfl) (of_decide_eq_true h13)) rfl rfl ?_
  refine jg_c0 rfl (fun v w hs hm => r20_Retarders_c hm (Sl.hi (hs.row 6 rfl) (of_decide_eq_true h13))) rfl rfl fun v14 => ?_
  refine jg_as rfl rfl rfl ?_
  refine jg_nils [(4, _), (5, _), (6, _), (7, _), (8, _)] ⟨rfl, rfl, rfl, rfl, rfl, trivial⟩ ?_
  refine jk_sn ?_
  refine jn_seq ?_
  refine jn_reg 7 ?_
  refine jg_mv rfl rfl rfl ?_
  refine jg_y (fun w hs => yv_load rfl (ldBB (hs.blkL (i := 3) rfl) rfl)) rfl rfl ?_
  refine jg_c rfl (fun v w hs hm => runoff_Pass_c (a1 := v5.1) hm (hs.row 6 rfl) (hs.row 4 rfl) (hs.row 5 rfl)) rfl rfl fun v15 q16 => ?_
  refine jg_L (r9 rfl) ?_
  refine jg_mv rfl rfl rfl ?_
  refine jg_y (fun w hs => yv_extract rfl rfl) rfl rfl ?_
  refine jg_y (fun w hs => yv_extract rfl rfl) rfl rfl ?_
  refine jg_as rfl rfl rfl ?_
  refine jg_as rfl rfl rfl ?_
  refine jg_nils [(4, _), (5, _), (6, _), (7, _), (8, _), (9, _), (10, _)] ⟨rfl, rfl, rfl, rfl, rfl, rfl, rfl, trivial⟩ ?_
  refine jk_sn ?_
  refine jn_seq ?_
  refine jn_draw (L' := [_, _, _, _, _, _, _, _]) 8 [0, 1, 2, 3, 4, 5, 6, 7] [0, 1, 2, 3, 4, 5, 6, 7, 8, 9, 10, 11, 12, 13, 14, 15, 16, 17, 18, 19, 20, 21] 4194303 4194303 [0, 0, 3, 0, 8, 0, 32, 0, 192, 0, 512, 0, 2048, 0, 12288, 17680, 32772, 65536, 131072, 131072, 524287, 2097151] [0, 0, 3, 0, 8, 0, 32, 0, 224, 0, 512, 0, 2048, 0, 14336, 32760, 65535, 131071, 262143, 262143, 524287, 2097151] [(0, true), (1, true), (2, true), (3, true), (4, true), (5, true), (6, true), (7, true), (8, true), (9, true), (10, true), (11, true), (12, true), (13, true), (14, true), (15, true), (16, false), (17, true), (18, true), (19, true), (20, true), (21, true)] rfl (np_seq np_rt) (by kernel_rfl) (by kernel_rfl) (by kernel_rfl) (by kernel_rfl) (by kernel_rfl) (by kernel_rfl) (by kernel_rfl) (by kernel_rfl) ?_
  refine jd_mv rfl rfl rfl rfl ?_
  refine jd_mv rfl rfl rfl rfl ?_
  refine jd_ck fun h17 => ?_
  refine jd_y rfl (fun w hs => yv_hi rfl rfl (hs.row 7 rfl) (of_decide_eq_true h17)) rfl rfl ?_
  refine jd_y rfl (fun w hs => yv_fieldAddr rfl) rfl rfl ?_
  refine jd_y rfl (fun w hs => yv_load rfl (ldPB (hs.blk (i := 4) rfl) (l2 rfl) rfl)) rfl rfl ?_
  refine jd_y rfl (fun w hs => yv_fieldAddr rfl) rfl rfl ?_
  refine jd_y rfl (fun w hs => yv_load rfl (ld1B (hs.blk (i := 4) rfl) rfl)) rfl rfl ?_
  refine jd_mv rfl rfl rfl rfl ?_
  refine jd_ck fun h18 => ?_
  refine jd_y rfl (fun w hs => yv_hi rfl rfl (hs.row 5 rfl) (of_decide_eq_true h18)) rfl rfl ?_
  refine jd_y rfl (fun w hs => yv_fieldAddr rfl) rfl rfl ?_
  refine jd_y rfl (fun w hs => yv_load rfl (ld1B (hs.blk (i := 4) rfl) rfl)) rfl rfl ?_
  refine jd_y rfl (fun w hs => yv_fieldAddr rfl) rfl rfl ?_
  refine jd_y rfl (fun w hs => yv_load rfl (ld1B (hs.blk (i := 4) rfl) rfl)) rfl rfl ?_
  refine jd_mv rfl rfl rfl rfl ?_
  refine jd_ck fun h19 => ?_
  refine jd_y rfl (fun w hs => yv_hi rfl rfl (hs.row 6 rfl) (of_decide_eq_true h19)) rfl rfl ?_
  refine jd_y rfl (fun w hs => yv_build rfl (o5 rfl)) rfl rfl ?_
  refine jd_h rfl ?_
  refine jg_c rfl (fun v w hs hm => runoff_Pass_c (a1 := (Motion.mk v5.1.Speed (v5.1.Class.take (Int.toNat v11.1)) v5.1.Error (v5.1.Targets.take (Int.toNat v14)))) hm (Sl.hi (hs.row 7 rfl) (of_decide_eq_true h17)) (Sl.hi (hs.row 5 rfl) (of_decide_eq_true h18)) (Sl.hi (hs.row 6 rfl) (of_decide_eq_true h19))) rfl rfl fun v20 q21 => ?_
  refine jg_L (r10 rfl) ?_
  refine jg_nil ?_
  refine jk_dn [1, 2, 3, 4, 5, 6, 7, 8] rfl ?_
  refine jd_mv rfl rfl rfl rfl ?_
  refine jd_y rfl (fun w hs => yv_extract rfl rfl) rfl rfl ?_
  refine jd_y rfl (fun w hs => yv_extract rfl rfl) rfl rfl ?_
  refine jd_as rfl rfl rfl rfl ?_
  refine jd_as rfl rfl rfl rfl ?_
  refine jd_nils [(4, _), (6, _), (7, _), (8, _), (9, _), (10, _), (11, _), (12, _)] ⟨rfl, rfl, rfl, rfl, rfl, rfl, rfl, rfl, trivial⟩ ?_
  refine jk_sel (is := [0, 1, 2, 3, 4, 8]) (s6 rfl) rfl ?_
  refine jk_sn ?_
  refine jn_seq ?_
  refine jn_reg 9 ?_
  refine jg_mv rfl rfl rfl ?_
  refine jg_y (fun w hs => yv_load rfl (ldBB (hs.blkL (i := 2) rfl) rfl)) rfl rfl ?_
  refine jg_c rfl (fun v w hs hm => runoff_Point_c (a1 := v8.1) hm (hs.row 5 rfl) (hs.row 3 rfl) (hs.row 4 rfl)) rfl rfl fun v22 q23 => ?_
  refine jg_L (r7 rfl) ?_
  refine jg_mv rfl rfl rfl ?_
  refine jg_y (fun w hs => yv_extract rfl rfl) rfl rfl ?_
  refine jg_y (fun w hs => yv_extract rfl rfl) rfl rfl ?_
  refine jg_y (fun w hs => yv_extract rfl rfl) rfl rfl ?_
  refine jg_as rfl rfl rfl ?_
  refine jg_as rfl rfl rfl ?_
  refine jg_as rfl rfl rfl ?_
  refine jg_nils [(4, _), (6, _), (7, _), (8, _), (9, _), (10, _), (11, _), (12, _), (13, _), (15, _)] ⟨rfl, rfl, rfl, rfl, rfl, rfl, rfl, rfl, rfl, rfl, trivial⟩ ?_
  refine jk_sn ?_
  refine jn_seq ?_
  refine jn_draw (L' := [_, _, _, _, _, _, _]) 10 [0, 1, 2, 3, 4, 5, 6] [0, 1, 2, 3, 4, 5, 6, 7, 8, 9, 10, 11, 12, 13, 14, 15, 16, 17, 18, 19, 20, 21] 4194303 4194303 [0, 0, 3, 0, 8, 0, 32, 0, 192, 0, 512, 0, 3072, 4368, 8196, 16384, 32768, 32768, 32768, 131071, 786431, 2097151] [0, 0, 3, 0, 8, 0, 32, 0, 224, 0, 512, 0, 3584, 8184, 16383, 32767, 65535, 65535, 65535, 131071, 786431, 2097151] [(0, true), (1, true), (2, true), (3, true), (4, true), (5, true), (6, true), (7, true), (8, true), (9, true), (10, true), (11, true), (12, true), (13, true), (14, false), (15, true), (16, true), (17, true), (18, true), (19, true), (20, true), (21, true)] rfl (np_seq np_rt) (by kernel_rfl) (by kernel_rfl) (by kernel_rfl) (by kernel_rfl) (by kernel_rfl) (by kernel_rfl) (by kernel_rfl) (by kernel_rfl) ?_
  refine jd_mv rfl rfl rfl rfl ?_
  refine jd_mv rfl rfl rfl rfl ?_
  refine jd_ck fun h24 => ?_
  refine jd_y rfl (fun w hs => yv_hi rfl rfl (hs.row 6 rfl) (of_decide_eq_true h24)) rfl rfl ?_
  refine jd_y rfl (fun w hs => yv_fieldAddr rfl) rfl rfl ?_
  refine jd_y rfl (fun w hs => yv_load rfl (ld1B (hs.blk (i := 3) rfl) rfl)) rfl rfl ?_
  refine jd_y rfl (fun w hs => yv_fieldAddr rfl) rfl rfl ?_
  refine jd_y rfl (fun w hs => yv_load rfl (ld1B (hs.blk (i := 3) rfl) rfl)) rfl rfl ?_
  refine jd_mv rfl rfl rfl rfl ?_
  refine jd_ck fun h25 => ?_
  refine jd_y rfl (fun w hs => yv_hi rfl rfl (hs.row 4 rfl) (of_decide_eq_true h25)) rfl rfl ?_
  refine jd_y rfl (fun w hs => yv_fieldAddr rfl) rfl rfl ?_
  refine jd_y rfl (fun w hs => yv_load rfl (ld1B (hs.blk (i := 3) rfl) rfl)) rfl rfl ?_
  refine jd_mv rfl rfl rfl rfl ?_
  refine jd_ck fun h26 => ?_
  refine jd_y rfl (fun w hs => yv_hi rfl rfl (hs.row 5 rfl) (of_decide_eq_true h26)) rfl rfl ?_
  refine jd_y rfl (fun w hs => yv_build rfl (o3 rfl)) rfl rfl ?_
  refine jd_h rfl ?_
  refine jg_c rfl (fun v w hs hm => runoff_Point_c (a1 := (Run.mk v8.1.Speed (v8.1.Resist.take (Int.toNat v11.1)) (v8.1.Targets.take (Int.toNat v14)))) hm (Sl.hi (hs.row 6 rfl) (of_decide_eq_true h24)) (Sl.hi (hs.row 4 rfl) (of_decide_eq_true h25)) (Sl.hi (hs.row 5 rfl) (of_decide_eq_true h26))) rfl rfl fun v27 q28 => ?_
  refine jg_L (r8 rfl) ?_
  refine jg_nil ?_
  refine jk_dn [1, 2, 3, 4, 5, 6, 7] rfl ?_
  refine jd_mv rfl rfl rfl rfl ?_
  refine jd_y rfl (fun w hs => yv_extract rfl rfl) rfl rfl ?_
  refine jd_y rfl (fun w hs => yv_extract rfl rfl) rfl rfl ?_
  refine jd_y rfl (fun w hs => yv_extract rfl rfl) rfl rfl ?_
  refine jd_as rfl rfl rfl rfl ?_
  refine jd_as rfl rfl rfl rfl ?_
  refine jd_as rfl rfl rfl rfl ?_
  refine jd_nils [(4, _), (7, _), (9, _), (10, _), (11, _), (12, _), (13, _), (15, _), (16, _), (18, _)] ⟨rfl, rfl, rfl, rfl, rfl, rfl, rfl, rfl, rfl, rfl, trivial⟩ ?_
  refine jk_sel (is := [0, 1, 2, 3, 7]) (s5 rfl) rfl ?_
  refine jk_sn ?_
  refine jn_seq ?_
  refine jn_seq ?_
  refine jn_reg 11 ?_
  refine jg_mv rfl rfl rfl ?_
  refine jg_y (fun w hs => yv_neq rfl rfl) rfl rfl ?_
  refine jg_mv rfl rfl rfl ?_
  refine jg_split 91 rfl ?_ ?_
  · refine jg_skip rfl rfl ?_
    refine jg_skip rfl rfl ?_
    refine jg_y (fun w hs => yv_pick_t rfl rfl) rfl rfl ?_
    refine jg_mv rfl rfl rfl ?_
    refine jg_skip rfl rfl ?_
    refine jg_skip rfl rfl ?_
    refine jg_y (fun w hs => yv_pick_t rfl rfl) rfl rfl ?_
    refine jg_mv rfl rfl rfl ?_
    refine jg_skip rfl rfl ?_
    refine jg_skip rfl rfl ?_
    refine jg_y (fun w hs => yv_pick_t rfl rfl) rfl rfl ?_
    refine jg_mv rfl rfl rfl ?_
    refine jg_skip rfl rfl ?_
    refine jg_skip rfl rfl ?_
    refine jg_skip rfl rfl ?_
    refine jg_skip rfl rfl ?_
    refine jg_skip rfl rfl ?_
    refine jg_skip rfl rfl ?_
    refine jg_y (fun w hs => yv_pick_t rfl rfl) rfl rfl ?_
    refine jg_mv rfl rfl rfl ?_
    refine jg_skip rfl rfl ?_
    refine jg_skip rfl rfl ?_
    refine jg_skip rfl rfl ?_
    refine jg_skip rfl rfl ?_
    refine jg_skip rfl rfl ?_
    refine jg_y (fun w hs => yv_pick_t rfl rfl) rfl rfl ?_
    refine jg_nils [(7, _), (9, _), (11, _), (13, _), (16, _), (117, _)] ⟨rfl, rfl, rfl, rfl, rfl, rfl, trivial⟩ ?_
    refine jk_sn ?_
    refine jn_ct rfl ?_
    refine jn_seq ?_
    refine jn_reg 12 ?_
    refine jg_as rfl rfl rfl ?_
    refine jg_nils [(2, _)] ⟨rfl, trivial⟩ ?_
    refine jk_sel (is := []) (s0 rfl) rfl ?_
    refine jk_sn ?_
    refine jn_ret ?_
    refine jk_sr ?_
    exact jk_ret1 rfl (fun w hs => .tmp rfl) (fun w hs => ⟨rfl, hs.drop⟩)
  refine jg_mv rfl rfl rfl ?_
  refine jg_y (fun w hs => yv_neq rfl rfl) rfl rfl ?_
  refine jg_y (fun w hs => yv_pick_f rfl rfl) rfl rfl ?_
  refine jg_mv rfl rfl rfl ?_
  refine jg_split 95 rfl ?_ ?_
  · refine jg_skip rfl rfl ?_
    refine jg_skip rfl rfl ?_
    refine jg_y (fun w hs => yv_pick_t rfl rfl) rfl rfl ?_
    refine jg_mv rfl rfl rfl ?_
    refine jg_skip rfl rfl ?_
    refine jg_skip rfl rfl ?_
    refine jg_y (fun w hs => yv_pick_t rfl rfl) rfl rfl ?_
    refine jg_mv rfl rfl rfl ?_
    refine jg_skip rfl rfl ?_
    refine jg_skip rfl rfl ?_
    refine jg_skip rfl rfl ?_
    refine jg_skip rfl rfl ?_
    refine jg_skip rfl rfl ?_
    refine jg_skip rfl rfl ?_
    refine jg_y (fun w hs => yv_pick_t rfl rfl) rfl rfl ?_
    refine jg_mv rfl rfl rfl ?_
    refine jg_skip rfl rfl ?_
    refine jg_skip rfl rfl ?_
    refine jg_skip rfl rfl ?_
    refine jg_skip rfl rfl ?_
    refine jg_skip rfl rfl ?_
    refine jg_y (fun w hs => yv_pick_t rfl rfl) rfl rfl ?_
    refine jg_nils [(7, _), (9, _), (11, _), (13, _), (16, _), (117, _)] ⟨rfl, rfl, rfl, rfl, rfl, rfl, trivial⟩ ?_
    refine jk_sn ?_
    refine jn_ct rfl ?_
    refine jn_seq ?_
    refine jn_reg 12 ?_
    refine jg_as rfl rfl rfl ?_
    refine jg_nils [(2, _)] ⟨rfl, trivial⟩ ?_
    refine jk_sel (is := []) (s0 rfl) rfl ?_
    refine jk_sn ?_
    refine jn_ret ?_
    refine jk_sr ?_
    exact jk_ret1 rfl (fun w hs => .tmp rfl) (fun w hs => ⟨rfl, hs.drop⟩)
  refine jg_mv rfl rfl rfl ?_
  refine jg_y (fun w hs => yv_neq rfl rfl) rfl rfl ?_
  refine jg_y (fun w hs => yv_pick_f rfl rfl) rfl rfl ?_
  refine jg_mv rfl rfl rfl ?_
  refine jg_split 99 rfl ?_ ?_
  · refine jg_skip rfl rfl ?_
    refine jg_skip rfl rfl ?_
    refine jg_y (fun w hs => yv_pick_t rfl rfl) rfl rfl ?_
    refine jg_mv rfl rfl rfl ?_
    refine jg_skip rfl rfl ?_
    refine jg_skip rfl rfl ?_
    refine jg_skip rfl rfl ?_
    refine jg_skip rfl rfl ?_
    refine jg_skip rfl rfl ?_
    refine jg_skip rfl rfl ?_
    refine jg_y (fun w hs => yv_pick_t rfl rfl) rfl rfl ?_
    refine jg_mv rfl rfl rfl ?_
    refine jg_skip rfl rfl ?_
    refine jg_skip rfl rfl ?_
    refine jg_skip rfl rfl ?_
    refine jg_skip rfl rfl ?_
    refine jg_skip rfl rfl ?_
    refine jg_y (fun w hs => yv_pick_t rfl rfl) rfl rfl ?_
    refine jg_nils [(7, _), (9, _), (11, _), (13, _), (16, _), (117, _)] ⟨rfl, rfl, rfl, rfl, rfl, rfl, trivial⟩ ?_
    refine jk_sn ?_
    refine jn_ct rfl ?_
    refine jn_seq ?_
    refine jn_reg 12 ?_
    refine jg_as rfl rfl rfl ?_
    refine jg_nils [(2, _)] ⟨rfl, trivial⟩ ?_
    refine jk_sel (is := []) (s0 rfl) rfl ?_
    refine jk_sn ?_
    refine jn_ret ?_
    refine jk_sr ?_
    exact jk_ret1 rfl (fun w hs => .tmp rfl) (fun w hs => ⟨rfl, hs.drop⟩)
  refine jg_mv rfl rfl rfl ?_
  refine jg_y (fun w hs => yv_neq rfl rfl) rfl rfl ?_
  refine jg_y (fun w hs => yv_pick_f rfl rfl) rfl rfl ?_
  refine jg_mv rfl rfl rfl ?_
  refine jg_split 103 rfl ?_ ?_
  · refine jg_skip rfl rfl ?_
    refine jg_skip rfl rfl ?_
    refine jg_skip rfl rfl ?_
    refine jg_skip rfl rfl ?_
    refine jg_skip rfl rfl ?_
    refine jg_skip rfl rfl ?_
    refine jg_y (fun w hs => yv_pick_t rfl rfl) rfl rfl ?_
    refine jg_mv rfl rfl rfl ?_
    refine jg_skip rfl rfl ?_
    refine jg_skip rfl rfl ?_
    refine jg_skip rfl rfl ?_
    refine jg_skip rfl rfl ?_
    refine jg_skip rfl rfl ?_
    refine jg_y (fun w hs => yv_pick_t rfl rfl) rfl rfl ?_
    refine jg_nils [(7, _), (9, _), (11, _), (13, _), (16, _), (117, _)] ⟨rfl, rfl, rfl, rfl, rfl, rfl, trivial⟩ ?_
    refine jk_sn ?_
    refine jn_ct rfl ?_
    refine jn_seq ?_
    refine jn_reg 12 ?_
    refine jg_as rfl rfl rfl ?_
    refine jg_nils [(2, _)] ⟨rfl, trivial⟩ ?_
    refine jk_sel (is := []) (s0 rfl) rfl ?_
    refine jk_sn ?_
    refine jn_ret ?_
    refine jk_sr ?_
    exact jk_ret1 rfl (fun w hs => .tmp rfl) (fun w hs => ⟨rfl, hs.drop⟩)
  refine jg_mv rfl rfl rfl ?_
  refine jg_y (fun w hs => yv_ln rfl (hs.row 3 rfl)) rfl rfl ?_
  refine jg_mv rfl rfl rfl ?_
  refine jg_y (fun w hs => yv_ln rfl (hs.row 4 rfl)) rfl rfl ?_
  refine jg_y (fun w hs => yv_add_w rfl rfl) rfl rfl ?_
  refine jg_y (fun w hs => yv_neq rfl rfl) rfl rfl ?_
  refine jg_y (fun w hs => yv_pick_f rfl rfl) rfl rfl ?_
  refine jg_mv rfl rfl rfl ?_
  refine jg_split 111 rfl ?_ ?_
  · refine jg_skip rfl rfl ?_
    refine jg_skip rfl rfl ?_
    refine jg_skip rfl rfl ?_
    refine jg_skip rfl rfl ?_
    refine jg_skip rfl rfl ?_
    refine jg_y (fun w hs => yv_pick_t rfl rfl) rfl rfl ?_
    refine jg_nils [(7, _), (9, _), (11, _), (13, _), (16, _), (117, _)] ⟨rfl, rfl, rfl, rfl, rfl, rfl, trivial⟩ ?_
    refine jk_sn ?_
    refine jn_ct rfl ?_
    refine jn_seq ?_
    refine jn_reg 12 ?_
    refine jg_as rfl rfl rfl ?_
    refine jg_nils [(2, _)] ⟨rfl, trivial⟩ ?_
    refine jk_sel (is := []) (s0 rfl) rfl ?_
    refine jk_sn ?_
    refine jn_ret ?_
    refine jk_sr ?_
    exact jk_ret1 rfl (fun w hs => .tmp rfl) (fun w hs => ⟨rfl, hs.drop⟩)
  refine jg_mv rfl rfl rfl ?_
  refine jg_y (fun w hs => yv_ln rfl (hs.row 1 rfl)) rfl rfl ?_
  refine jg_mv rfl rfl rfl ?_
  refine jg_y (fun w hs => yv_ln rfl (hs.row 0 rfl)) rfl rfl ?_
  refine jg_y (fun w hs => yv_lss rfl rfl) rfl rfl ?_
  refine jg_y (fun w hs => yv_pick_f rfl rfl) rfl rfl ?_
  refine jg_nils [(7, _), (9, _), (11, _), (13, _), (16, _), (117, _)] ⟨rfl, rfl, rfl, rfl, rfl, rfl, trivial⟩ ?_
  refine jk_sn ?_
  refine jn_cond rfl ?_ ?_
  · refine jn_seq ?_
    refine jn_reg 12 ?_
    refine jg_as rfl rfl rfl ?_
    refine jg_nils [(2, _)] ⟨rfl, trivial⟩ ?_
    refine jk_sel (is := []) (s0 rfl) rfl ?_
    refine jk_sn ?_
    refine jn_ret ?_
    refine jk_sr ?_
    exact jk_ret1 rfl (fun w hs => .tmp rfl) (fun w hs => ⟨rfl, hs.drop⟩)
  refine jn_skip ?_
  refine jk_sn ?_
  refine jn_seq ?_
  refine jn_reg 13 ?_
  refine jg_mv rfl rfl rfl ?_
  refine jg_mv rfl rfl rfl ?_
  refine jg_mv rfl rfl rfl ?_
  refine jg_y (fun w hs => yv_add_w rfl rfl) rfl rfl ?_
  refine jg_ck fun h29 => ?_
  refine jg_y (fun w hs => yv_hi rfl rfl (hs.row 3 rfl) (of_decide_eq_true h29)) rfl rfl ?_
  refine jg_c0 rfl (fun v w hs hm => gen_Passages_c hm (hs.row 2 rfl) (Sl.hi (hs.row 3 rfl) (of_decide_eq_true h29))) rfl rfl fun v30 => ?_
  refine jg_mv rfl rfl rfl ?_
  refine jg_split 124 rfl ?_ ?_
  rotate_left
  · refine jg_skip rfl rfl ?_
    refine jg_skip rfl rfl ?_
    refine jg_skip rfl rfl ?_
    refine jg_skip rfl rfl ?_
    refine jg_skip rfl rfl ?_
    refine jg_skip rfl rfl ?_
    refine jg_y (fun w hs => yv_pick_f rfl rfl) rfl rfl ?_
    refine jg_mv rfl rfl rfl ?_
    refine jg_skip rfl rfl ?_
    refine jg_skip rfl rfl ?_
    refine jg_skip rfl rfl ?_
    refine jg_skip rfl rfl ?_
    refine jg_skip rfl rfl ?_
    refine jg_skip rfl rfl ?_
    refine jg_skip rfl rfl ?_
    refine jg_skip rfl rfl ?_
    refine jg_skip rfl rfl ?_
    refine jg_skip rfl rfl ?_
    refine jg_skip rfl rfl ?_
    refine jg_skip rfl rfl ?_
    refine jg_y (fun w hs => yv_pick_f rfl rfl) rfl rfl ?_
    refine jg_mv rfl rfl rfl ?_
    refine jg_skip rfl rfl ?_
    refine jg_y (fun w hs => yv_pick_f rfl rfl) rfl rfl ?_
    refine jg_as rfl rfl rfl ?_
    refine jg_nils [(2, _)] ⟨rfl, trivial⟩ ?_
    refine jk_sel (is := []) (s0 rfl) rfl ?_
    refine jk_sn ?_
    refine jn_ret ?_
    exact jk_ret1 rfl (fun w hs => .tmp rfl) (fun w hs => ⟨rfl, hs.drop⟩)
  refine jg_mv rfl rfl rfl ?_
  refine jg_mv rfl rfl rfl ?_
  refine jg_mv rfl rfl rfl ?_
  refine jg_y (fun w hs => yv_ln rfl (hs.row 0 rfl)) rfl rfl ?_
  refine jg_ck fun h31 => ?_
  refine jg_y (fun w hs => yv_hi rfl rfl (hs.row 1 rfl) (of_decide_eq_true h31)) rfl rfl ?_
  refine jg_c0 rfl (fun v w hs hm => gen_Moments_c hm (hs.row 0 rfl) (Sl.hi (hs.row 1 rfl) (of_decide_eq_true h31))) rfl rfl fun v32 => ?_
  refine jg_y (fun w hs => yv_pick_t rfl rfl) rfl rfl ?_
  refine jg_mv rfl rfl rfl ?_
  refine jg_split 132 rfl ?_ ?_
  rotate_left
  · refine jg_skip rfl rfl ?_
    refine jg_skip rfl rfl ?_
    refine jg_skip rfl rfl ?_
    refine jg_skip rfl rfl ?_
    refine jg_skip rfl rfl ?_
    refine jg_skip rfl rfl ?_
    refine jg_skip rfl rfl ?_
    refine jg_skip rfl rfl ?_
    refine jg_skip rfl rfl ?_
    refine jg_skip rfl rfl ?_
    refine jg_skip rfl rfl ?_
    refine jg_skip rfl rfl ?_
    refine jg_y (fun w hs => yv_pick_f rfl rfl) rfl rfl ?_
    refine jg_mv rfl rfl rfl ?_
    refine jg_skip rfl rfl ?_
    refine jg_y (fun w hs => yv_pick_f rfl rfl) rfl rfl ?_
    refine jg_as rfl rfl rfl ?_
    refine jg_nils [(2, _)] ⟨rfl, trivial⟩ ?_
    refine jk_sel (is := []) (s0 rfl) rfl ?_
    refine jk_sn ?_
    refine jn_ret ?_
    exact jk_ret1 rfl (fun w hs => .tmp rfl) (fun w hs => ⟨rfl, hs.drop⟩)
  refine jg_mv rfl rfl rfl ?_
  refine jg_y (fun w hs => yv_ln rfl (hs.row 0 rfl)) rfl rfl ?_
  refine jg_mv rfl rfl rfl ?_
  refine jg_y (fun w hs => yv_ln rfl (hs.row 1 rfl)) rfl rfl ?_
  refine jg_y (fun w hs => yv_eql rfl rfl) rfl rfl ?_
  refine jg_mv rfl rfl rfl ?_
  refine jg_split 138 rfl ?_ ?_
  · refine jg_skip rfl rfl ?_
    refine jg_skip rfl rfl ?_
    refine jg_skip rfl rfl ?_
    refine jg_skip rfl rfl ?_
    refine jg_skip rfl rfl ?_
    refine jg_y (fun w hs => yv_pick_t rfl rfl) rfl rfl ?_
    refine jg_y (fun w hs => yv_pick_t rfl rfl) rfl rfl ?_
    refine jg_mv rfl rfl rfl ?_
    refine jg_c0 rfl (fun v w hs hm => law20_sane_c hm ) rfl rfl fun v33 => ?_
    refine jg_y (fun w hs => yv_pick_t rfl rfl) rfl rfl ?_
    refine jg_as rfl rfl rfl ?_
    refine jg_nils [(2, _)] ⟨rfl, trivial⟩ ?_
    refine jk_sel (is := []) (s0 rfl) rfl ?_
    refine jk_sn ?_
    refine jn_ret ?_
    exact jk_ret1 rfl (fun w hs => .tmp rfl) (fun w hs => ⟨rfl, hs.drop⟩)
  refine jg_mv rfl rfl rfl ?_
  refine jg_y (fun w hs => yv_ln rfl (hs.row 0 rfl)) rfl rfl ?_
  refine jg_mv rfl rfl rfl ?_
  refine jg_y (fun w hs => yv_add_w rfl rfl) rfl rfl ?_
  refine jg_y (fun w hs => yv_eql rfl rfl) rfl rfl ?_
  refine jg_y (fun w hs => yv_pick_f rfl rfl) rfl rfl ?_
  refine jg_y (fun w hs => yv_pick_t rfl rfl) rfl rfl ?_
  refine jg_mv rfl rfl rfl ?_
  refine jg_split 146 rfl ?_ ?_
  · refine jg_c0 rfl (fun v w hs hm => law20_sane_c hm ) rfl rfl fun v34 => ?_
    refine jg_y (fun w hs => yv_pick_t rfl rfl) rfl rfl ?_
    refine jg_as rfl rfl rfl ?_
    refine jg_nils [(2, _)] ⟨rfl, trivial⟩ ?_
    refine jk_sel (is := []) (s0 rfl) rfl ?_
    refine jk_sn ?_
    refine jn_ret ?_
    exact jk_ret1 rfl (fun w hs => .tmp rfl) (fun w hs => ⟨rfl, hs.drop⟩)
  refine jg_skip rfl rfl ?_
  refine jg_y (fun w hs => yv_pick_f rfl rfl) rfl rfl ?_
  refine jg_as rfl rfl rfl ?_
  refine jg_nils [(2, _)] ⟨rfl, trivial⟩ ?_
  refine jk_sel (is := []) (s0 rfl) rfl ?_
  refine jk_sn ?_
  refine jn_ret ?_
  exact jk_ret1 rfl (fun w hs => .tmp rfl) (fun w hs => ⟨rfl, hs.drop⟩)
theorem law20_RunoffBrakes_c {w : World} {a0 : (List Int)} {ha0 : Hd} {v : Bool} (hm : law20_RunoffBrakes a0 = some v) (Rha0 : Sl w ha0 encI a0) : Gives Try.prog 6 [ha0.v] w (.bool v) := by
  refine j_gives (vs := [ha0.v]) (U := fun (v : Bool) => .bool v) Try.func6 rfl Try.ntmps6 rfl rfl hm ?_
  unfold law20_RunoffBrakes
  clear hm
  refine jn_seq ?_
  refine jn_reg 0 ?_
  refine jg_as rfl rfl rfl ?_
  refine jg_nils [(0, _)] ⟨rfl, trivial⟩ ?_
  refine jk_sn ?_
  refine jn_seq ?_
  refine jn_reg 1 ?_
  refine jg_mv rfl rfl rfl ?_
  refine jg_c rfl (fun v w hs hm => gen_New_c hm (hs.arg Rha0)) rfl rfl fun v1 q2 => ?_
  refine jg_L (r1 rfl) ?_
  refine jg_as rfl rfl rfl ?_
  refine jg_nils [(3, _)] ⟨rfl, trivial⟩ ?_
  refine jk_sn ?_
  refine jn_seq ?_
  refine jn_reg 2 ?_
  refine jg_mv rfl rfl rfl ?_
  refine jl_c 0 rfl rfl (fun v w hs hm => gen_Maker_Pieces_c hm (hs.blkL (i := 0) rfl) (hs.arg Rha0) (hs.offAL 0 Rha0 rfl)) (fun _ => rfl) rfl rfl fun v3 q4 => ?_
  refine jg_L (r2 rfl) ?_
  refine jg_y (fun w hs => yv_build rfl (o5 rfl)) rfl rfl ?_
  refine jg_lit (enc := Piece.enc) [(Piece.mk 0 5000 500 0 1000000000)] rfl rfl rfl rfl rfl rfl rfl rfl fun hd5 => ?_
  refine jg_append 1 rfl rfl rfl (fun w hs => (hs.row 0 rfl)) rfl rfl rfl fun y6 hd7 => ?_
  refine jg_L (r3 rfl) ?_
  refine jg_as rfl rfl rfl ?_
  refine jg_nils [(3, _), (4, _)] ⟨rfl, rfl, trivial⟩ ?_
  refine jk_sn ?_
  refine jn_seq ?_
  refine jn_reg 3 ?_
  refine jg_mv rfl rfl rfl ?_
  refine jg_mv rfl rfl rfl ?_
  refine jl_c 2 rfl rfl (fun v w hs hm => gen_Maker_Motion_c hm (hs.blkL (i := 2) rfl) (hs.arg Rha0) (hs.offAL 2 Rha0 rfl) (hs.row 1 rfl) (hs.offLL 1 2 rfl rfl)) (fun _ => rfl) rfl rfl fun v8 q9 => ?_
  refine jg_L (r5 rfl) ?_
  refine jg_alloc (l5 rfl) rfl rfl fun g10 => ?_
  refine jg_store 0 rfl rfl rfl (l5 rfl) rfl rfl rfl rfl (l5 rfl) (r6 rfl) ?_
  refine jg_nils [(3, _), (4, _), (5, _)] ⟨rfl, rfl, rfl, trivial⟩ ?_
  refine jk_sn ?_
  refine jn_seq ?_
  refine jn_reg 4 ?_
  refine jg_y (fun w hs => yv_fieldAddr rfl) rfl rfl ?_
  refine jg_y (fun w hs => yv_load rfl (ld1B (hs.blkL (i := 0) rfl) rfl)) rfl rfl ?_
  refine jg_y (fun w hs => yv_ln rfl (hs.row 2 rfl)) rfl rfl ?_
  refine jg_yl (fun w hs => yv_sub_w rfl rfl) rfl rfl fun x11 => ?_
  refine jg_as rfl rfl rfl ?_
  refine jg_nils [(3, _), (4, _), (5, _), (6, _)] ⟨rfl, rfl, rfl, rfl, trivial⟩ ?_
  refine jk_sn ?_
  refine jn_seq ?_
  refine jn_draw (L' := [_, _, _, _]) 5 [0, 1, 2, 4] [0, 1, 2, 3, 4, 5, 6] 127 255 [0, 1, 0, 0, 0, 24, 63, 127] [0, 1, 0, 0, 0, 24, 63, 127] [(0, true), (1, true), (2, true), (3, true), (4, false), (5, false), (6, true), (7, false)] rfl (np_seq np_rt) (by kernel_rfl) (by kernel_rfl) (by kernel_rfl) (by kernel_rfl) (by kernel_rfl) (by kernel_rfl) (by kernel_rfl) (by kernel_rfl) ?_
  refine jd_y rfl (fun w hs => yv_fieldAddr rfl) rfl rfl ?_
  refine jd_y rfl (fun w hs => yv_load rfl (ld1B (hs.blk (i := 0) rfl) rfl)) rfl rfl ?_
  refine jd_mv rfl rfl rfl rfl ?_
  refine jd_mv rfl rfl rfl rfl ?_
  refine jd_h rfl ?_
  refine jg_lit (enc := encI) [0, 300, 1200, 2500] rfl rfl rfl rfl rfl rfl rfl rfl fun hd12 => ?_
  refine jg_nil ?_
  refine jk_dn [1, 2, 3, 5] rfl ?_
  refine jd_h rfl ?_
  refine jl_c 6 rfl rfl (fun v w hs hm => gen_Maker_Pick_c hm (hs.blkL (i := 6) rfl) (hs.arg Rha0) (hs.offAL 6 Rha0 rfl) (hs.row 0 rfl) (hs.offLL 0 6 rfl rfl)) (fun _ => rfl) rfl rfl fun v13 q14 => ?_
  refine jg_L (r7 rfl) ?_
  refine jg_nil ?_
  refine jk_dn [1, 2, 3, 5] rfl ?_
  refine jd_ix fun x15 h16 => ?_
  refine jd_y rfl (fun w hs => yv_ix rfl rfl (hs.row 2 rfl) h16) rfl rfl ?_
  refine jd_h rfl ?_
  refine jg_storeE 3 (a' := v13.1) rfl rfl h16.1 rfl (l1 rfl) rfl rfl rfl rfl fun y17 => ?_
  refine jg_L (r7 rfl) ?_
  refine jg_nil ?_
  refine jk_df rfl ?_
  refine jf_nils [(3, _), (4, _), (5, _), (6, _)] ⟨rfl, rfl, rfl, rfl, trivial⟩ ?_
  refine jk_sel (is := [1, 2, 3, 5, 6]) (s5 rfl) rfl ?_
  refine jk_sn ?_
  refine jn_seq ?_
  refine jn_reg 6 ?_
  refine jg_mv rfl rfl rfl ?_
  refine jg_y (fun w hs => yv_load rfl (ldBB (hs.blkL (i := 0) rfl) rfl)) rfl rfl ?_
  refine jg_c rfl (fun v w hs hm => runoff_Pass_c (a1 := (Motion.mk v8.1.Speed v8.1.Class v8.1.Error y17)) hm (hs.row 3 rfl) (hs.row 1 rfl) (hs.row 2 rfl)) rfl rfl fun v18 q19 => ?_
  refine jg_L (r6 rfl) ?_
  refine jg_mv rfl rfl rfl ?_
  refine jg_y (fun w hs => yv_extract rfl rfl) rfl rfl ?_
  refine jg_y (fun w hs => yv_extract rfl rfl) rfl rfl ?_
  refine jg_as rfl rfl rfl ?_
  refine jg_as rfl rfl rfl ?_
  refine jg_nils [(3, _), (4, _), (5, _), (6, _), (7, _), (8, _)] ⟨rfl, rfl, rfl, rfl, rfl, rfl, trivial⟩ ?_
  refine jk_sn ?_
  refine jn_seq ?_
  refine jn_reg 7 ?_
  refine jg_mv rfl rfl rfl ?_
  refine jg_y (fun w hs => yv_load rfl (ldBB (hs.blkL (i := 1) rfl) rfl)) rfl rfl ?_
  refine jl_c 5 rfl rfl (fun v w hs hm => gen_Maker_Run_c (a1 := (Motion.mk v8.1.Speed v8.1.Class v8.1.Error y17)) hm (hs.blkL (i := 5) rfl) (hs.arg Rha0) (hs.offAL 5 Rha0 rfl) (hs.row 2 rfl) (hs.offLL 2 5 rfl rfl) (hs.row 3 rfl) (hs.offLL 3 5 rfl rfl)) (fun _ => rfl) rfl rfl fun v20 q21 => ?_
  refine jg_L (r8 rfl) ?_
  refine jg_alloc (l3 rfl) rfl rfl fun g22 => ?_
  refine jg_store 0 rfl rfl rfl (l3 rfl) rfl rfl rfl rfl (l3 rfl) (r9 rfl) ?_
  refine jg_nils [(3, _), (4, _), (5, _), (6, _), (7, _), (8, _), (9, _)] ⟨rfl, rfl, rfl, rfl, rfl, rfl, rfl, trivial⟩ ?_
  refine jk_sn ?_
  refine jn_seq ?_
  refine jn_reg 8 ?_
  refine jg_y (fun w hs => yv_load rfl (ldBB (hs.blkL (i := 0) rfl) rfl)) rfl rfl ?_
  refine jg_alloc (l3 rfl) rfl rfl fun g23 => ?_
  refine jg_store 0 rfl rfl rfl (l3 rfl) rfl rfl rfl rfl (l3 rfl) (r10 rfl) ?_
  refine jg_nils [(3, _), (4, _), (5, _), (6, _), (7, _), (8, _), (9, _), (10, _)] ⟨rfl, rfl, rfl, rfl, rfl, rfl, rfl, rfl, trivial⟩ ?_
  refine jk_sn ?_
  refine jn_seq ?_
  refine jn_reg 9 ?_
  refine jg_lit0 (enc := encI) rfl rfl fun hd24 => ?_
  refine jg_y (fun w hs => yv_fieldAddr rfl) rfl rfl ?_
  refine jg_y (fun w hs => yv_load rfl (ld1B (hs.blkL (i := 2) rfl) rfl)) rfl rfl ?_
  refine jg_append 0 rfl rfl rfl (fun w hs => (hs.row 4 rfl)) rfl rfl rfl fun y25 hd26 => ?_
  refine jg_L (r11 rfl) ?_
  refine jg_y (fun w hs => yv_fieldAddr rfl) rfl rfl ?_
  refine jg_store 1 rfl rfl rfl (l1 rfl) rfl rfl rfl rfl (l3 rfl) (r11 rfl) ?_
  refine jg_nils [(3, _), (4, _), (5, _), (6, _), (7, _), (8, _), (9, _), (10, _)] ⟨rfl, rfl, rfl, rfl, rfl, rfl, rfl, rfl, trivial⟩ ?_
  refine jk_sn ?_
  refine jn_join (fun (s : (List Int)) (g : Unit) => [(4, hd7.v), (5, .pointer (some ⟨g10, 0, none⟩)), (6, .int .i64 x11), (7, q19.v), (8, .int .i64 v18.2), (9, .pointer (some ⟨g22, 0, none⟩)), (10, .pointer (some ⟨g23, 0, none⟩))]) (fun (s : (List Int)) (g : Unit) => []) (fun (s : (List Int)) (g : Unit) => [(rowH hd7 32 5 Piece.enc y6), (Res.blk g10 28 [.int .i64 v8.1.Speed.Lo, .int .i64 v8.1.Speed.Hi, q9.1.v, .int .i64 v8.1.Error, q9.2.v]), (rowH q9.1 24 2 Interval.enc v8.1.Class), (rowH q9.2 3 1 encI y17), (rowH q19 43 6 Passage.enc v18.1), (Res.blk g22 30 [.int .i64 v20.1.Speed, q21.1.v, q21.2.v]), (rowH q21.1 3 1 encI v20.1.Resist), (rowH q21.2 3 1 encI v20.1.Targets), (Res.blk g23 30 [.int .i64 v20.1.Speed, q21.1.v, hd26.v]), (rowH hd26 3 1 encI s)]) ?_ ?_
  rotate_left
  · intro k29 H30
    refine jn_seq ?_
    refine jn_reg 10 ?_
    refine jg_y (fun w hs => yv_fieldAddr rfl) rfl rfl ?_
    refine jg_y (fun w hs => yv_load rfl (ld1B (hs.blkL (i := 1) rfl) rfl)) rfl rfl ?_
    refine jg_y (fun w hs => yv_ln rfl (hs.row 0 rfl)) rfl rfl ?_
    refine jg_mv rfl rfl rfl ?_
    refine jg_nils [(3, _), (4, _), (5, _), (6, _), (7, _), (8, _), (9, _), (10, _), (59, _), (60, _)] ⟨rfl, rfl, rfl, rfl, rfl, rfl, rfl, rfl, rfl, rfl, trivial⟩ ?_
    refine jk_sn ?_
    refine jn_block ?_
    refine jn_lp (n := big) (fun (s : (Int × (List Int) × Int)) (g : Unit) => [(3, .pointer (some ⟨q2, 0, none⟩)), (4, hd7.v), (5, .pointer (some ⟨g10, 0, none⟩)), (6, .int .i64 x11), (7, q19.v), (8, .int .i64 v18.2), (9, .pointer (some ⟨g22, 0, none⟩)), (10, .pointer (some ⟨g23, 0, none⟩)), (59, .int .i64 (y25.length : Int)), (60, .int .i64 s.2.2)]) (fun (s : (Int × (List Int) × Int)) (g : Unit) => []) (fun (s : (Int × (List Int) × Int)) (g : Unit) => [(Res.blk q2 82 [ha0.v, .int .i64 s.1]), (rowH hd7 32 5 Piece.enc y6), (Res.blk g10 28 [.int .i64 v8.1.Speed.Lo, .int .i64 v8.1.Speed.Hi, q9.1.v, .int .i64 v8.1.Error, q9.2.v]), (rowH q9.1 24 2 Interval.enc v8.1.Class), (rowH q9.2 3 1 encI y17), (rowH q19 43 6 Passage.enc v18.1), (Res.blk g22 30 [.int .i64 v20.1.Speed, q21.1.v, q21.2.v]), (rowH q21.1 3 1 encI v20.1.Resist), (rowH q21.2 3 1 encI v20.1.Targets), (Res.blk g23 30 [.int .i64 v20.1.Speed, q21.1.v, hd26.v]), (rowH hd26 3 1 encI s.2.1)]) (v20.2, y25, 0) () [10, 9, 6, 7, 8, 5, 2, 3, 4, 1, 0] ⟨rfl, rfl, rfl, rfl, rfl, rfl, rfl, rfl, rfl, rfl, trivial⟩ rfl rfl rfl ?_
    intro z59 q60 n63 k61 H62
    refine jn_seq ?_
    refine jn_reg 11 ?_
    refine jg_y (fun w hs => yv_lss rfl rfl) rfl rfl ?_
    refine jg_nils [(3, _), (4, _), (5, _), (6, _), (7, _), (8, _), (9, _), (10, _), (59, _), (60, _), (61, _)] ⟨rfl, rfl, rfl, rfl, rfl, rfl, rfl, rfl, rfl, rfl, rfl, trivial⟩ ?_
    refine jk_sn ?_
    refine jn_seq ?_
    refine jn_cond rfl ?_ ?_
    rotate_left
    · refine jn_exit ?_
      refine jk_se (jk_le (jk_bh ?_))
      exact jk_use H30 z59.2.1 () [1, 2, 3, 4, 5, 6, 7, 8, 9, 10] ⟨rfl, rfl, rfl, rfl, rfl, rfl, rfl, trivial⟩ rfl rfl rfl
    refine jn_skip ?_
    refine jk_sn ?_
    refine jn_seq ?_
    refine jn_block ?_
    refine jn_seq ?_
    refine jn_reg 12 ?_
    refine jg_mv rfl rfl rfl ?_
    refine jg_as rfl rfl rfl ?_
    refine jg_nils [(3, _), (4, _), (5, _), (6, _), (7, _), (8, _), (9, _), (10, _), (11, _), (59, _), (60, _)] ⟨rfl, rfl, rfl, rfl, rfl, rfl, rfl, rfl, rfl, rfl, rfl, trivial⟩ ?_
    refine jk_sn ?_
    refine jn_seq ?_
    refine jn_reg 13 ?_
    refine jg_y (fun w hs => yv_fieldAddr rfl) rfl rfl ?_
    refine jg_y (fun w hs => yv_load rfl (ld1B (hs.blkL (i := 9) rfl) rfl)) rfl rfl ?_
    refine jg_mv rfl rfl rfl ?_
    refine jg_ix fun x64 h65 => ?_
    refine jg_y (fun w hs => yv_ix rfl rfl (hs.row 10 rfl) h65) rfl rfl ?_
    refine jg_y (fun w hs => yv_e1 rfl (hs.row 10 rfl) h65.1 rfl) rfl rfl ?_
    refine jg_y (fun w hs => yv_gtr rfl rfl) rfl rfl ?_
    refine jg_nils [(3, _), (4, _), (5, _), (6, _), (7, _), (8, _), (9, _), (10, _), (11, _), (59, _), (60, _), (68, _)] ⟨rfl, rfl, rfl, rfl, rfl, rfl, rfl, rfl, rfl, rfl, rfl, rfl, trivial⟩ ?_
    refine jk_sn ?_
    refine jn_cond rfl ?_ ?_
    rotate_left
    · refine jn_skip ?_
      refine jk_bn (jk_sn ?_)
      refine jn_reg 15 ?_
      refine jg_y (fun w hs => yv_add_w rfl rfl) rfl rfl ?_
      refine jg_mv rfl rfl rfl ?_
      refine jg_nils [(3, _), (4, _), (5, _), (6, _), (7, _), (8, _), (9, _), (10, _), (59, _), (60, _)] ⟨rfl, rfl, rfl, rfl, rfl, rfl, rfl, rfl, rfl, rfl, trivial⟩ ?_
      exact jk_use H62 (z59.1, z59.2.1, w64 (z59.2.2 + 1)) () [0, 1, 2, 3, 4, 5, 6, 7, 8, 9, 10] ⟨rfl, rfl, rfl, rfl, rfl, rfl, rfl, rfl, rfl, rfl, trivial⟩ rfl rfl rfl
    refine jn_draw (L' := [_, _, _, _, _, _, _, _, _, _]) 14 [1, 2, 3, 4, 5, 6, 7, 8, 9, 10] [0, 1, 2, 3, 4, 5, 6, 7, 8, 9, 10, 11, 12, 13] 16383 32767 [0, 1, 0, 6, 8, 0, 0, 64, 0, 384, 512, 1056, 2064, 8191, 16383] [0, 1, 0, 7, 15, 0, 0, 64, 0, 448, 960, 2016, 4095, 8191, 16383] [(0, true), (1, true), (2, true), (3, true), (4, true), (5, true), (6, true), (7, true), (8, true), (9, true), (10, true), (11, false), (12, true), (13, true), (14, false)] rfl (np_blk (np_seq (np_rnd (np_blk (np_seq np_rt))))) (by kernel_rfl) (by kernel_rfl) (by kernel_rfl) (by kernel_rfl) (by kernel_rfl) (by kernel_rfl) (by kernel_rfl) (by kernel_rfl) ?_
    refine jd_y rfl (fun w hs => yv_fieldAddr rfl) rfl rfl ?_
    refine jd_y rfl (fun w hs => yv_load rfl (ld1B (hs.blk (i := 8) rfl) rfl)) rfl rfl ?_
    refine jd_mv rfl rfl rfl rfl ?_
    refine jd_ix fun x66 h67 => ?_
    refine jd_y rfl (fun w hs => yv_ix rfl rfl (hs.row 9 rfl) h67) rfl rfl ?_
    refine jd_y rfl (fun w hs => yv_e1 rfl (hs.row 9 rfl) h67.1 rfl) rfl rfl ?_
    refine jd_mv rfl rfl rfl rfl ?_
    refine jd_y rfl (fun w hs => yv_fieldAddr rfl) rfl rfl ?_
    refine jd_y rfl (fun w hs => yv_load rfl (ld1B (hs.blk (i := 8) rfl) rfl)) rfl rfl ?_
    refine jd_mv rfl rfl rfl rfl ?_
    refine jd_ix fun x68 h69 => ?_
    refine jd_y rfl (fun w hs => yv_ix rfl rfl (hs.row 9 rfl) h69) rfl rfl ?_
    refine jd_y rfl (fun w hs => yv_e1 rfl (hs.row 9 rfl) h69.1 rfl) rfl rfl ?_
    refine jd_h rfl ?_
    refine jl_c 0 rfl rfl (fun v w hs hm => gen_Maker_Next_c hm (hs.blkL (i := 0) rfl) (hs.arg Rha0) (hs.offAL 0 Rha0 rfl)) (fun _ => rfl) rfl rfl fun v70 q71 => ?_
    refine jg_L (r11 rfl) ?_
    refine jg_nil ?_
    refine jk_dn [1, 2, 3, 4, 5, 6, 7, 8, 9, 10] rfl ?_
    refine jd_y rfl (fun w hs => yv_sub_w rfl rfl) rfl rfl ?_
    refine jd_ix fun x72 h73 => ?_
    refine jd_y rfl (fun w hs => yv_ix rfl rfl (hs.row 9 rfl) h73) rfl rfl ?_
    refine jd_h rfl ?_
    refine jg_storeE 10 (a' := w64 (x66 - v70.1)) rfl rfl h73.1 rfl (l1 rfl) rfl rfl rfl rfl fun y74 => ?_
    refine jg_L (r11 rfl) ?_
    refine jg_nil ?_
    refine jk_df rfl ?_
    refine jf_nils [(3, _), (4, _), (5, _), (6, _), (7, _), (8, _), (9, _), (10, _), (59, _), (60, _)] ⟨rfl, rfl, rfl, rfl, rfl, rfl, rfl, rfl, rfl, rfl, trivial⟩ ?_
    refine jk_bn (jk_sn ?_)
    refine jn_reg 15 ?_
    refine jg_y (fun w hs => yv_add_w rfl rfl) rfl rfl ?_
    refine jg_mv rfl rfl rfl ?_
    refine jg_nils [(3, _), (4, _), (5, _), (6, _), (7, _), (8, _), (9, _), (10, _), (59, _), (60, _)] ⟨rfl, rfl, rfl, rfl, rfl, rfl, rfl, rfl, rfl, rfl, trivial⟩ ?_
    exact jk_use H62 (v70.2, y74, w64 (z59.2.2 + 1)) () [0, 1, 2, 3, 4, 5, 6, 7, 8, 9, 10] ⟨rfl, rfl, rfl, rfl, rfl, rfl, rfl, rfl, rfl, rfl, trivial⟩ rfl rfl rfl
  intro z27 q28
  refine jn_seq ?_
  refine jn_reg 16 ?_
  refine jg_mv rfl rfl rfl ?_
  refine jg_y (fun w hs => yv_load rfl (ldBB (hs.blkL (i := 5) rfl) rfl)) rfl rfl ?_
  refine jg_c rfl (fun v w hs hm => runoff_Point_c (a1 := v20.1) hm (hs.row 0 rfl) (hs.row 6 rfl) (hs.row 7 rfl)) rfl rfl fun v31 q32 => ?_
  refine jg_L (r11 rfl) ?_
  refine jg_mv rfl rfl rfl ?_
  refine jg_y (fun w hs => yv_extract rfl rfl) rfl rfl ?_
  refine jg_y (fun w hs => yv_extract rfl rfl) rfl rfl ?_
  refine jg_y (fun w hs => yv_extract rfl rfl) rfl rfl ?_
  refine jg_as rfl rfl rfl ?_
  refine jg_as rfl rfl rfl ?_
  refine jg_as rfl rfl rfl ?_
  refine jg_nils [(4, _), (5, _), (6, _), (7, _), (8, _), (10, _), (12, _), (14, _)] ⟨rfl, rfl, rfl, rfl, rfl, rfl, rfl, rfl, trivial⟩ ?_
  refine jk_sel (is := [0, 1, 2, 3, 4, 5, 7, 9, 10]) (s9 rfl) rfl ?_
  refine jk_sn ?_
  refine jn_seq ?_
  refine jn_reg 17 ?_
  refine jg_mv rfl rfl rfl ?_
  refine jg_y (fun w hs => yv_load rfl (ldBB (hs.blkL (i := 7) rfl) rfl)) rfl rfl ?_
  refine jg_c rfl (fun v w hs hm => runoff_Point_c (a1 := (Run.mk v20.1.Speed v20.1.Resist z27)) hm (hs.row 1 rfl) (hs.row 6 rfl) (hs.row 8 rfl)) rfl rfl fun v33 q34 => ?_
  refine jg_L (r10 rfl) ?_
  refine jg_mv rfl rfl rfl ?_
  refine jg_y (fun w hs => yv_extract rfl rfl) rfl rfl ?_
  refine jg_y (fun w hs => yv_extract rfl rfl) rfl rfl ?_
  refine jg_y (fun w hs => yv_extract rfl rfl) rfl rfl ?_
  refine jg_as rfl rfl rfl ?_
  refine jg_as rfl rfl rfl ?_
  refine jg_as rfl rfl rfl ?_
  refine jg_nils [(4, _), (5, _), (6, _), (7, _), (8, _), (12, _), (14, _), (15, _), (17, _)] ⟨rfl, rfl, rfl, rfl, rfl, rfl, rfl, rfl, rfl, trivial⟩ ?_
  refine jk_sel (is := [0, 1, 2, 3, 4, 5, 6]) (s7 rfl) rfl ?_
  refine jk_sn ?_
  refine jn_seq ?_
  refine jn_seq ?_
  refine jn_reg 18 ?_
  refine jg_mv rfl rfl rfl ?_
  refine jg_y (fun w hs => yv_neq rfl rfl) rfl rfl ?_
  refine jg_mv rfl rfl rfl ?_
  refine jg_split 100 rfl ?_ ?_
  · refine jg_skip rfl rfl ?_
    refine jg_skip rfl rfl ?_
    refine jg_y (fun w hs => yv_pick_t rfl rfl) rfl rfl ?_
    refine jg_mv rfl rfl rfl ?_
    refine jg_skip rfl rfl ?_
    refine jg_skip rfl rfl ?_
    refine jg_y (fun w hs => yv_pick_t rfl rfl) rfl rfl ?_
    refine jg_mv rfl rfl rfl ?_
    refine jg_skip rfl rfl ?_
    refine jg_skip rfl rfl ?_
    refine jg_skip rfl rfl ?_
    refine jg_skip rfl rfl ?_
    refine jg_skip rfl rfl ?_
    refine jg_skip rfl rfl ?_
    refine jg_y (fun w hs => yv_pick_t rfl rfl) rfl rfl ?_
    refine jg_mv rfl rfl rfl ?_
    refine jg_skip rfl rfl ?_
    refine jg_skip rfl rfl ?_
    refine jg_skip rfl rfl ?_
    refine jg_skip rfl rfl ?_
    refine jg_skip rfl rfl ?_
    refine jg_y (fun w hs => yv_pick_t rfl rfl) rfl rfl ?_
    refine jg_nils [(4, _), (5, _), (6, _), (7, _), (12, _), (15, _), (122, _)] ⟨rfl, rfl, rfl, rfl, rfl, rfl, rfl, trivial⟩ ?_
    refine jk_sn ?_
    refine jn_ct rfl ?_
    refine jn_seq ?_
    refine jn_reg 19 ?_
    refine jg_as rfl rfl rfl ?_
    refine jg_nils [(2, _)] ⟨rfl, trivial⟩ ?_
    refine jk_sel (is := []) (s0 rfl) rfl ?_
    refine jk_sn ?_
    refine jn_ret ?_
    refine jk_sr ?_
    exact jk_ret1 rfl (fun w hs => .tmp rfl) (fun w hs => ⟨rfl, hs.drop⟩)
  refine jg_mv rfl rfl rfl ?_
  refine jg_y (fun w hs => yv_neq rfl rfl) rfl rfl ?_
  refine jg_y (fun w hs => yv_pick_f rfl rfl) rfl rfl ?_
  refine jg_mv rfl rfl rfl ?_
  refine jg_split 104 rfl ?_ ?_
  · refine jg_skip rfl rfl ?_
    refine jg_skip rfl rfl ?_
    refine jg_y (fun w hs => yv_pick_t rfl rfl) rfl rfl ?_
    refine jg_mv rfl rfl rfl ?_
    refine jg_skip rfl rfl ?_
    refine jg_skip rfl rfl ?_
    refine jg_skip rfl rfl ?_
    refine jg_skip rfl rfl ?_
    refine jg_skip rfl rfl ?_
    refine jg_skip rfl rfl ?_
    refine jg_y (fun w hs => yv_pick_t rfl rfl) rfl rfl ?_
    refine jg_mv rfl rfl rfl ?_
    refine jg_skip rfl rfl ?_
    refine jg_skip rfl rfl ?_
    refine jg_skip rfl rfl ?_
    refine jg_skip rfl rfl ?_
    refine jg_skip rfl rfl ?_
    refine jg_y (fun w hs => yv_pick_t rfl rfl) rfl rfl ?_
    refine jg_nils [(4, _), (5, _), (6, _), (7, _), (12, _), (15, _), (122, _)] ⟨rfl, rfl, rfl, rfl, rfl, rfl, rfl, trivial⟩ ?_
    refine jk_sn ?_
    refine jn_ct rfl ?_
    refine jn_seq ?_
    refine jn_reg 19 ?_
    refine jg_as rfl rfl rfl ?_
    refine jg_nils [(2, _)] ⟨rfl, trivial⟩ ?_
    refine jk_sel (is := []) (s0 rfl) rfl ?_
    refine jk_sn ?_
    refine jn_ret ?_
    refine jk_sr ?_
    exact jk_ret1 rfl (fun w hs => .tmp rfl) (fun w hs => ⟨rfl, hs.drop⟩)
  refine jg_mv rfl rfl rfl ?_
  refine jg_y (fun w hs => yv_neq rfl rfl) rfl rfl ?_
  refine jg_y (fun w hs => yv_pick_f rfl rfl) rfl rfl ?_
  refine jg_mv rfl rfl rfl ?_
  refine jg_split 108 rfl ?_ ?_
  · refine jg_skip rfl rfl ?_
    refine jg_skip rfl rfl ?_
    refine jg_skip rfl rfl ?_
    refine jg_skip rfl rfl ?_
    refine jg_skip rfl rfl ?_
    refine jg_skip rfl rfl ?_
    refine jg_y (fun w hs => yv_pick_t rfl rfl) rfl rfl ?_
    refine jg_mv rfl rfl rfl ?_
    refine jg_skip rfl rfl ?_
    refine jg_skip rfl rfl ?_
    refine jg_skip rfl rfl ?_
    refine jg_skip rfl rfl ?_
    refine jg_skip rfl rfl ?_
    refine jg_y (fun w hs => yv_pick_t rfl rfl) rfl rfl ?_
    refine jg_nils [(4, _), (5, _), (6, _), (7, _), (12, _), (15, _), (122, _)] ⟨rfl, rfl, rfl, rfl, rfl, rfl, rfl, trivial⟩ ?_
    refine jk_sn ?_
    refine jn_ct rfl ?_
    refine jn_seq ?_
    refine jn_reg 19 ?_
    refine jg_as rfl rfl rfl ?_
    refine jg_nils [(2, _)] ⟨rfl, trivial⟩ ?_
    refine jk_sel (is := []) (s0 rfl) rfl ?_
    refine jk_sn ?_
    refine jn_ret ?_
    refine jk_sr ?_
    exact jk_ret1 rfl (fun w hs => .tmp rfl) (fun w hs => ⟨rfl, hs.drop⟩)
  refine jg_mv rfl rfl rfl ?_
  refine jg_y (fun w hs => yv_ln rfl (hs.row 6 rfl)) rfl rfl ?_
  refine jg_mv rfl rfl rfl ?_
  refine jg_y (fun w hs => yv_ln rfl (hs.row 2 rfl)) rfl rfl ?_
  refine jg_y (fun w hs => yv_add_w rfl rfl) rfl rfl ?_
  refine jg_y (fun w hs => yv_neq rfl rfl) rfl rfl ?_
  refine jg_y (fun w hs => yv_pick_f rfl rfl) rfl rfl ?_
  refine jg_mv rfl rfl rfl ?_
  refine jg_split 116 rfl ?_ ?_
  · refine jg_skip rfl rfl ?_
    refine jg_skip rfl rfl ?_
    refine jg_skip rfl rfl ?_
    refine jg_skip rfl rfl ?_
    refine jg_skip rfl rfl ?_
    refine jg_y (fun w hs => yv_pick_t rfl rfl) rfl rfl ?_
    refine jg_nils [(4, _), (5, _), (6, _), (7, _), (12, _), (15, _), (122, _)] ⟨rfl, rfl, rfl, rfl, rfl, rfl, rfl, trivial⟩ ?_
    refine jk_sn ?_
    refine jn_ct rfl ?_
    refine jn_seq ?_
    refine jn_reg 19 ?_
    refine jg_as rfl rfl rfl ?_
    refine jg_nils [(2, _)] ⟨rfl, trivial⟩ ?_
    refine jk_sel (is := []) (s0 rfl) rfl ?_
    refine jk_sn ?_
    refine jn_ret ?_
    refine jk_sr ?_
    exact jk_ret1 rfl (fun w hs => .tmp rfl) (fun w hs => ⟨rfl, hs.drop⟩)
  refine jg_mv rfl rfl rfl ?_
  refine jg_y (fun w hs => yv_ln rfl (hs.row 0 rfl)) rfl rfl ?_
  refine jg_mv rfl rfl rfl ?_
  refine jg_y (fun w hs => yv_ln rfl (hs.row 1 rfl)) rfl rfl ?_
  refine jg_y (fun w hs => yv_gtr rfl rfl) rfl rfl ?_
  refine jg_y (fun w hs => yv_pick_f rfl rfl) rfl rfl ?_
  refine jg_nils [(4, _), (5, _), (6, _), (7, _), (12, _), (15, _), (122, _)] ⟨rfl, rfl, rfl, rfl, rfl, rfl, rfl, trivial⟩ ?_
  refine jk_sn ?_
  refine jn_cond rfl ?_ ?_
  · refine jn_seq ?_
    refine jn_reg 19 ?_
    refine jg_as rfl rfl rfl ?_
    refine jg_nils [(2, _)] ⟨rfl, trivial⟩ ?_
    refine jk_sel (is := []) (s0 rfl) rfl ?_
    refine jk_sn ?_
    refine jn_ret ?_
    refine jk_sr ?_
    exact jk_ret1 rfl (fun w hs => .tmp rfl) (fun w hs => ⟨rfl, hs.drop⟩)
  refine jn_skip ?_
  refine jk_sn ?_
  refine jn_seq ?_
  refine jn_draw (L' := [_, _, _, _, _, _, _]) 20 [0, 1, 2, 3, 4, 5, 6] [0, 1, 2, 3, 4, 5, 6, 7, 8] 511 511 [0, 1, 0, 6, 8, 0, 32, 80, 255] [0, 1, 0, 7, 15, 0, 32, 127, 255] [(0, true), (1, true), (2, true), (3, true), (4, true), (5, true), (6, true), (7, true), (8, true)] rfl (np_seq np_rt) (by kernel_rfl) (by kernel_rfl) (by kernel_rfl) (by kernel_rfl) (by kernel_rfl) (by kernel_rfl) (by kernel_rfl) (by kernel_rfl) ?_
  refine jd_y rfl (fun w hs => yv_fieldAddr rfl) rfl rfl ?_
  refine jd_y rfl (fun w hs => yv_load rfl (ld1B (hs.blk (i := 3) rfl) rfl)) rfl rfl ?_
  refine jd_mv rfl rfl rfl rfl ?_
  refine jd_ix fun x35 h36 => ?_
  refine jd_y rfl (fun w hs => yv_ix rfl rfl (hs.row 5 rfl) h36) rfl rfl ?_
  refine jd_y rfl (fun w hs => yv_e1 rfl (hs.row 5 rfl) h36.1 rfl) rfl rfl ?_
  refine jd_y rfl (fun w hs => yv_fieldAddr rfl) rfl rfl ?_
  refine jd_y rfl (fun w hs => yv_load rfl (ld1B (hs.blk (i := 3) rfl) rfl)) rfl rfl ?_
  refine jd_y rfl (fun w hs => yv_add_w rfl rfl) rfl rfl ?_
  refine jd_as rfl rfl rfl rfl ?_
  refine jd_nils [(4, _), (7, _), (12, _), (15, _), (18, _)] ⟨rfl, rfl, rfl, rfl, rfl, trivial⟩ ?_
  refine jk_sel (is := [0, 1, 2, 6]) (s4 rfl) rfl ?_
  refine jk_sn ?_
  refine jn_join (fun (s : Unit) (g : Unit) => [(12, q32.v), (15, q34.v)]) (fun (s : Unit) (g : Unit) => []) (fun (s : Unit) (g : Unit) => [(rowH q32 41 2 Moment.enc v31.1), (rowH q34 41 2 Moment.enc v33.1)]) ?_ ?_
  rotate_left
  · intro k39 H40
    refine jn_seq ?_
    refine jn_reg 21 ?_
    refine jg_mv rfl rfl rfl ?_
    refine jg_mv rfl rfl rfl ?_
    refine jg_y (fun w hs => yv_ln rfl (hs.row 2 rfl)) rfl rfl ?_
    refine jg_ix fun x55 h56 => ?_
    refine jg_y (fun w hs => yv_ix rfl rfl (hs.row 3 rfl) h56) rfl rfl ?_
    refine jg_y (fun w hs => yv_eS rfl (hs.row 3 rfl) h56.1 (l6 rfl) rfl) rfl rfl ?_
    refine jg_alloc (l6 rfl) rfl rfl fun g57 => ?_
    refine jg_store 0 rfl rfl rfl (l6 rfl) rfl rfl rfl rfl (l6 rfl) (r5 rfl) ?_
    refine jg_nils [(12, _), (15, _), (18, _), (19, _)] ⟨rfl, rfl, rfl, rfl, trivial⟩ ?_
    refine jk_sel (is := [0, 1, 2]) (s3 rfl) rfl ?_
    refine jk_sn ?_
    refine jn_seq ?_
    refine jn_reg 22 ?_
    refine jg_y (fun w hs => yv_fieldAddr rfl) rfl rfl ?_
    refine jg_y (fun w hs => yv_load rfl (ld1B (hs.blkL (i := 0) rfl) rfl)) rfl rfl ?_
    refine jg_y (fun w hs => yv_not rfl) rfl rfl ?_
    refine jg_mv rfl rfl rfl ?_
    refine jg_split 139 rfl ?_ ?_
    rotate_left
    · refine jg_skip rfl rfl ?_
      refine jg_skip rfl rfl ?_
      refine jg_skip rfl rfl ?_
      refine jg_skip rfl rfl ?_
      refine jg_skip rfl rfl ?_
      refine jg_skip rfl rfl ?_
      refine jg_skip rfl rfl ?_
      refine jg_y (fun w hs => yv_pick_f rfl rfl) rfl rfl ?_
      refine jg_nils [(12, _), (15, _), (147, _)] ⟨rfl, rfl, rfl, trivial⟩ ?_
      refine jk_sn ?_
      refine jn_cf rfl ?_
      refine jn_skip ?_
      exact jk_use H40 () () [2, 1] ⟨rfl, rfl, trivial⟩ rfl rfl rfl
    refine jg_y (fun w hs => yv_fieldAddr rfl) rfl rfl ?_
    refine jg_y (fun w hs => yv_fieldAddr rfl) rfl rfl ?_
    refine jg_y (fun w hs => yv_load rfl (ld1B (hs.blkL (i := 0) rfl) rfl)) rfl rfl ?_
    refine jg_mv rfl rfl rfl ?_
    refine jg_mv rfl rfl rfl ?_
    refine jg_yl (fun w hs => yv_mul_w rfl rfl) rfl rfl fun x58 => ?_
    refine jg_y (fun w hs => yv_gtr rfl rfl) rfl rfl ?_
    refine jg_y (fun w hs => yv_pick_t rfl rfl) rfl rfl ?_
    refine jg_nils [(12, _), (15, _), (147, _)] ⟨rfl, rfl, rfl, trivial⟩ ?_
    refine jk_sn ?_
    refine jn_cond rfl ?_ ?_
    rotate_left
    · refine jn_skip ?_
      exact jk_use H40 () () [2, 1] ⟨rfl, rfl, trivial⟩ rfl rfl rfl
    refine jn_seq ?_
    refine jn_reg 23 ?_
    refine jg_as rfl rfl rfl ?_
    refine jg_nils [(2, _)] ⟨rfl, trivial⟩ ?_
    refine jk_sel (is := []) (s0 rfl) rfl ?_
    refine jk_sn ?_
    refine jn_ret ?_
    refine jk_sr ?_
    exact jk_ret1 rfl (fun w hs => .tmp rfl) (fun w hs => ⟨rfl, hs.drop⟩)
  intro z37 q38
  refine jn_seq ?_
  refine jn_seq ?_
  refine jn_reg 24 ?_
  refine jg_mv rfl rfl rfl ?_
  refine jg_y (fun w hs => yv_ln rfl (hs.row 1 rfl)) rfl rfl ?_
  refine jg_mv rfl rfl rfl ?_
  refine jg_nils [(12, _), (15, _), (149, _), (150, _)] ⟨rfl, rfl, rfl, rfl, trivial⟩ ?_
  refine jk_sn ?_
  refine jn_block ?_
  refine jn_lp (n := big) (fun (s : Int) (g : Unit) => [(12, q32.v), (15, q34.v), (149, .int .i64 (v33.1.length : Int)), (150, .int .i64 s)]) (fun (s : Int) (g : Unit) => []) (fun (s : Int) (g : Unit) => [(rowH q32 41 2 Moment.enc v31.1), (rowH q34 41 2 Moment.enc v33.1)]) 0 () [0, 1] ⟨rfl, rfl, rfl, rfl, trivial⟩ rfl rfl rfl ?_
  intro z41 q42 n45 k43 H44
  refine jn_seq ?_
  refine jn_reg 25 ?_
  refine jg_y (fun w hs => yv_lss rfl rfl) rfl rfl ?_
  refine jg_nils [(12, _), (15, _), (149, _), (150, _), (151, _)] ⟨rfl, rfl, rfl, rfl, rfl, trivial⟩ ?_
  refine jk_sn ?_
  refine jn_seq ?_
  refine jn_cond rfl ?_ ?_
  rotate_left
  · refine jn_exit ?_
    refine jk_se (jk_le (jk_bh (jk_sn ?_)))
    refine jn_seq ?_
    refine jn_reg 30 ?_
    refine jg_c0 rfl (fun v w hs hm => law20_sane_c hm ) rfl rfl fun v54 => ?_
    refine jg_as rfl rfl rfl ?_
    refine jg_nils [(2, _)] ⟨rfl, trivial⟩ ?_
    refine jk_sel (is := []) (s0 rfl) rfl ?_
    refine jk_sn ?_
    refine jn_ret ?_
    exact jk_ret1 rfl (fun w hs => .tmp rfl) (fun w hs => ⟨rfl, hs.drop⟩)
  refine jn_skip ?_
  refine jk_sn ?_
  refine jn_seq ?_
  refine jn_block ?_
  refine jn_seq ?_
  refine jn_reg 26 ?_
  refine jg_mv rfl rfl rfl ?_
  refine jg_as rfl rfl rfl ?_
  refine jg_nils [(12, _), (15, _), (20, _), (149, _), (150, _)] ⟨rfl, rfl, rfl, rfl, rfl, trivial⟩ ?_
  refine jk_sn ?_
  refine jn_seq ?_
  refine jn_draw (L' := [_, _]) 27 [0, 1] [0, 1, 2, 3, 4, 5, 6, 7, 8, 9, 10, 11, 12, 13, 14, 15, 16, 17, 18, 19, 20, 21, 22, 23] 16777215 16777215 [0, 0, 3, 4, 8, 0, 0, 96, 128, 256, 528, 1024, 2048, 2048, 14336, 18432, 34816, 2048, 2048, 395264, 526336, 1050624, 2164736, 4196352] [0, 0, 3, 7, 15, 0, 0, 96, 224, 480, 1023, 2047, 4095, 4095, 16383, 32767, 65535, 4095, 4095, 397311, 921599, 1970175, 4194303, 8388607] [(0, true), (1, true), (2, true), (3, true), (4, true), (5, true), (6, true), (7, true), (8, true), (9, true), (10, true), (11, true), (12, true), (13, true), (14, true), (15, true), (16, true), (17, true), (18, true), (19, true), (20, true), (21, true), (22, true), (23, true)] rfl (np_seq (np_blk (np_seq (np_rnd (np_blk (np_seq np_rt)))))) (by kernel_rfl) (by kernel_rfl) (by kernel_rfl) (by kernel_rfl) (by kernel_rfl) (by kernel_rfl) (by kernel_rfl) (by kernel_rfl) ?_
  refine jd_mv rfl rfl rfl rfl ?_
  refine jd_mv rfl rfl rfl rfl ?_
  refine jd_ix fun x46 h47 => ?_
  refine jd_y rfl (fun w hs => yv_ix rfl rfl (hs.row 1 rfl) h47) rfl rfl ?_
  refine jd_y rfl (fun w hs => yv_ef rfl (hs.row 1 rfl) h47.1) rfl rfl ?_
  refine jd_y rfl (fun w hs => yv_e1 rfl (hs.row 1 rfl) h47.1 rfl) rfl rfl ?_
  refine jd_mv rfl rfl rfl rfl ?_
  refine jd_mv rfl rfl rfl rfl ?_
  refine jd_ix fun x48 h49 => ?_
  refine jd_y rfl (fun w hs => yv_ix rfl rfl (hs.row 0 rfl) h49) rfl rfl ?_
  refine jd_y rfl (fun w hs => yv_ef rfl (hs.row 0 rfl) h49.1) rfl rfl ?_
  refine jd_y rfl (fun w hs => yv_e1 rfl (hs.row 0 rfl) h49.1 rfl) rfl rfl ?_
  refine jd_y rfl (fun w hs => yv_gtr rfl rfl) rfl rfl ?_
  refine jd_mv rfl rfl rfl rfl ?_
  refine jd_split 164 rfl ?_ ?_
  · refine jd_skip rfl rfl rfl ?_
    refine jd_skip rfl rfl rfl ?_
    refine jd_skip rfl rfl rfl ?_
    refine jd_skip rfl rfl rfl ?_
    refine jd_skip rfl rfl rfl ?_
    refine jd_skip rfl rfl rfl ?_
    refine jd_skip rfl rfl rfl ?_
    refine jd_skip rfl rfl rfl ?_
    refine jd_skip rfl rfl rfl ?_
    refine jd_skip rfl rfl rfl ?_
    refine jd_skip rfl rfl rfl ?_
    refine jd_y rfl (fun w hs => yv_pick_t rfl rfl) rfl rfl ?_
    refine jd_nils [(12, _), (15, _), (149, _), (150, _), (176, _)] ⟨rfl, rfl, rfl, rfl, rfl, trivial⟩ ?_
    refine jk_sn ?_
    refine jn_ct rfl ?_
    refine jn_seq ?_
    refine jn_reg 28 ?_
    refine jg_as rfl rfl rfl ?_
    refine jg_nils [(2, _)] ⟨rfl, trivial⟩ ?_
    refine jk_sel (is := []) (s0 rfl) rfl ?_
    refine jk_sn ?_
    refine jn_ret ?_
    refine jk_br (jk_sr (jk_lr (jk_br (jk_sr ?_))))
    exact jk_ret1 rfl (fun w hs => .tmp rfl) (fun w hs => ⟨rfl, hs.drop⟩)
  refine jd_mv rfl rfl rfl rfl ?_
  refine jd_mv rfl rfl rfl rfl ?_
  refine jd_ix fun x50 h51 => ?_
  refine jd_y rfl (fun w hs => yv_ix rfl rfl (hs.row 1 rfl) h51) rfl rfl ?_
  refine jd_y rfl (fun w hs => yv_ef rfl (hs.row 1 rfl) h51.1) rfl rfl ?_
  refine jd_y rfl (fun w hs => yv_e1 rfl (hs.row 1 rfl) h51.1 rfl) rfl rfl ?_
  refine jd_mv rfl rfl rfl rfl ?_
  refine jd_mv rfl rfl rfl rfl ?_
  refine jd_ix fun x52 h53 => ?_
  refine jd_y rfl (fun w hs => yv_ix rfl rfl (hs.row 0 rfl) h53) rfl rfl ?_
  refine jd_y rfl (fun w hs => yv_ef rfl (hs.row 0 rfl) h53.1) rfl rfl ?_
  refine jd_y rfl (fun w hs => yv_e1 rfl (hs.row 0 rfl) h53.1 rfl) rfl rfl ?_
  refine jd_y rfl (fun w hs => yv_lss rfl rfl) rfl rfl ?_
  refine jd_y rfl (fun w hs => yv_pick_f rfl rfl) rfl rfl ?_
  refine jd_nils [(12, _), (15, _), (149, _), (150, _), (176, _)] ⟨rfl, rfl, rfl, rfl, rfl, trivial⟩ ?_
  refine jk_sn ?_
  refine jn_cond rfl ?_ ?_
  rotate_left
  · refine jn_skip ?_
    refine jk_bn (jk_sn ?_)
    refine jn_reg 29 ?_
    refine jg_y (fun w hs => yv_add_w rfl rfl) rfl rfl ?_
    refine jg_mv rfl rfl rfl ?_
    refine jg_nils [(12, _), (15, _), (149, _), (150, _)] ⟨rfl, rfl, rfl, rfl, trivial⟩ ?_
    exact jk_use H44 (w64 (z41 + 1)) () [0, 1] ⟨rfl, rfl, rfl, rfl, trivial⟩ rfl rfl rfl
  refine jn_seq ?_
  refine jn_reg 28 ?_
  refine jg_as rfl rfl rfl ?_
  refine jg_nils [(2, _)] ⟨rfl, trivial⟩ ?_
  refine jk_sel (is := []) (s0 rfl) rfl ?_
  refine jk_sn ?_
  refine jn_ret ?_
  refine jk_br (jk_sr (jk_lr (jk_br (jk_sr ?_))))
  exact jk_ret1 rfl (fun w hs => .tmp rfl) (fun w hs => ⟨rfl, hs.drop⟩)
theorem interval_Contains_c {w : World} {a0 : Interval} {a1 : Int}  {v : Bool} (hm : interval_Contains a0 a1 = some v) : Gives Try.prog 46 [.agg #[.int .i64 a0.Lo, .int .i64 a0.Hi], .int .i64 a1] w (.bool v) := by
  refine j_gives (vs := [.agg #[.int .i64 a0.Lo, .int .i64 a0.Hi], .int .i64 a1]) (U := fun (v : Bool) => .bool v) Try.func46 rfl Try.ntmps46 rfl rfl hm ?_
  unfold interval_Contains
  clear hm
  refine jn_seq ?_
  refine jn_reg 0 ?_
  refine jg_box rfl (l2 rfl) rfl rfl fun g1 => ?_
  refine jg_as rfl rfl rfl ?_
  refine jg_nils [(1, _), (2, _)] ⟨rfl, rfl, trivial⟩ ?_
  refine jk_sn ?_
  refine jn_seq ?_
  refine jn_reg 1 ?_
  refine jg_y (fun w hs => yv_load rfl (ldBB (hs.blkL (i := 0) rfl) rfl)) rfl rfl ?_
  refine jg_c0 rfl (fun v w hs hm => interval_Valid_c (a0 := a0) hm ) rfl rfl fun v2 => ?_
  refine jg_mv rfl rfl rfl ?_
  refine jg_split 7 rfl ?_ ?_
  rotate_left
  · refine jg_skip rfl rfl ?_
    refine jg_skip rfl rfl ?_
    refine jg_skip rfl rfl ?_
    refine jg_skip rfl rfl ?_
    refine jg_y (fun w hs => yv_pick_f rfl rfl) rfl rfl ?_
    refine jg_mv rfl rfl rfl ?_
    refine jg_skip rfl rfl ?_
    refine jg_skip rfl rfl ?_
    refine jg_skip rfl rfl ?_
    refine jg_skip rfl rfl ?_
    refine jg_y (fun w hs => yv_pick_f rfl rfl) rfl rfl ?_
    refine jg_as rfl rfl rfl ?_
    refine jg_nils [(4, _)] ⟨rfl, trivial⟩ ?_
    refine jk_sn ?_
    refine jn_ret ?_
    exact jk_ret1 rfl (fun w hs => .tmp rfl) (fun w hs => ⟨rfl, hs.drop⟩)
  refine jg_mv rfl rfl rfl ?_
  refine jg_y (fun w hs => yv_fieldAddr rfl) rfl rfl ?_
  refine jg_y (fun w hs => yv_load rfl (ld1B (hs.blkL (i := 0) rfl) rfl)) rfl rfl ?_
  refine jg_y (fun w hs => yv_geq rfl rfl) rfl rfl ?_
  refine jg_y (fun w hs => yv_pick_t rfl rfl) rfl rfl ?_
  refine jg_mv rfl rfl rfl ?_
  refine jg_split 13 rfl ?_ ?_
  · refine jg_mv rfl rfl rfl ?_
    refine jg_y (fun w hs => yv_fieldAddr rfl) rfl rfl ?_
    refine jg_y (fun w hs => yv_load rfl (ld1B (hs.blkL (i := 0) rfl) rfl)) rfl rfl ?_
    refine jg_y (fun w hs => yv_leq rfl rfl) rfl rfl ?_
    refine jg_y (fun w hs => yv_pick_t rfl rfl) rfl rfl ?_
    refine jg_as rfl rfl rfl ?_
    refine jg_nils [(4, _)] ⟨rfl, trivial⟩ ?_
    refine jk_sn ?_
    refine jn_ret ?_
    exact jk_ret1 rfl (fun w hs => .tmp rfl) (fun w hs => ⟨rfl, hs.drop⟩)
  refine jg_skip rfl rfl ?_
  refine jg_skip rfl rfl ?_
  refine jg_skip rfl rfl ?_
  refine jg_skip rfl rfl ?_
  refine jg_y (fun w hs => yv_pick_f rfl rfl) rfl rfl ?_
  refine jg_as rfl rfl rfl ?_
  refine jg_nils [(4, _)] ⟨rfl, trivial⟩ ?_
  refine jk_sn ?_
  refine jn_ret ?_
  exact jk_ret1 rfl (fun w hs => .tmp rfl) (fun w hs => ⟨rfl, hs.drop⟩)
theorem runoff_In_c {w : World} {a0 : Moment} {a1 : Passage}  {v : Bool} (hm : runoff_In a0 a1 = some v) : Gives Try.prog 28 [.agg #[.int .i64 a0.Time, .int .i64 a0.Energy], .agg #[.int .i64 a1.Time.Lo, .int .i64 a1.Time.Hi, .int .i64 a1.Energy.Lo, .int .i64 a1.Energy.Hi, .bool a1.Slow, .bool a1.Stops]] w (.bool v) := by
  refine j_gives (vs := [.agg #[.int .i64 a0.Time, .int .i64 a0.Energy], .agg #[.int .i64 a1.Time.Lo, .int .i64 a1.Time.Hi, .int .i64 a1.Energy.Lo, .int .i64 a1.Energy.Hi, .bool a1.Slow, .bool a1.Stops]]) (U := fun (v : Bool) => .bool v) Try.func28 rfl Try.ntmps28 rfl rfl hm ?_
  unfold runoff_In
  clear hm
  refine jn_seq ?_
  refine jn_reg 0 ?_
  refine jg_box rfl (l2 rfl) rfl rfl fun g1 => ?_
  refine jg_box rfl (l6 rfl) rfl rfl fun g2 => ?_
  refine jg_as rfl rfl rfl ?_
  refine jg_nils [(2, _), (3, _)] ⟨rfl, rfl, trivial⟩ ?_
  refine jk_sn ?_
  refine jn_seq ?_
  refine jn_reg 1 ?_
  refine jg_y (fun w hs => yv_fieldAddr rfl) rfl rfl ?_
  refine jg_y (fun w hs => yv_load rfl (ld1B (hs.blkL (i := 0) rfl) rfl)) rfl rfl ?_
  refine jg_y (fun w hs => yv_not rfl) rfl rfl ?_
  refine jg_mv rfl rfl rfl ?_
  refine jg_split 8 rfl ?_ ?_
  rotate_left
  · refine jg_skip rfl rfl ?_
    refine jg_skip rfl rfl ?_
    refine jg_skip rfl rfl ?_
    refine jg_skip rfl rfl ?_
    refine jg_skip rfl rfl ?_
    refine jg_y (fun w hs => yv_pick_f rfl rfl) rfl rfl ?_
    refine jg_mv rfl rfl rfl ?_
    refine jg_skip rfl rfl ?_
    refine jg_skip rfl rfl ?_
    refine jg_skip rfl rfl ?_
    refine jg_skip rfl rfl ?_
    refine jg_skip rfl rfl ?_
    refine jg_y (fun w hs => yv_pick_f rfl rfl) rfl rfl ?_
    refine jg_as rfl rfl rfl ?_
    refine jg_nils [(4, _)] ⟨rfl, trivial⟩ ?_
    refine jk_sel (is := []) (s0 rfl) rfl ?_
    refine jk_sn ?_
    refine jn_ret ?_
    exact jk_ret1 rfl (fun w hs => .tmp rfl) (fun w hs => ⟨rfl, hs.drop⟩)
  refine jg_y (fun w hs => yv_fieldAddr rfl) rfl rfl ?_
  refine jg_y (fun w hs => yv_load rfl (ldPB (hs.blkL (i := 0) rfl) (l2 rfl) rfl)) rfl rfl ?_
  refine jg_y (fun w hs => yv_fieldAddr rfl) rfl rfl ?_
  refine jg_y (fun w hs => yv_load rfl (ld1B (hs.blkL (i := 1) rfl) rfl)) rfl rfl ?_
  refine jg_c0 rfl (fun v w hs hm => interval_Contains_c (a0 := a1.Time) hm ) rfl rfl fun v3 => ?_
  refine jg_y (fun w hs => yv_pick_t rfl rfl) rfl rfl ?_
  refine jg_mv rfl rfl rfl ?_
  refine jg_split 15 rfl ?_ ?_
  · refine jg_y (fun w hs => yv_fieldAddr rfl) rfl rfl ?_
    refine jg_y (fun w hs => yv_load rfl (ldPB (hs.blkL (i := 0) rfl) (l2 rfl) rfl)) rfl rfl ?_
    refine jg_y (fun w hs => yv_fieldAddr rfl) rfl rfl ?_
    refine jg_y (fun w hs => yv_load rfl (ld1B (hs.blkL (i := 1) rfl) rfl)) rfl rfl ?_
    refine jg_c0 rfl (fun v w hs hm => interval_Contains_c (a0 := a1.Energy) hm ) rfl rfl fun v4 => ?_
    refine jg_y (fun w hs => yv_pick_t rfl rfl) rfl rfl ?_
    refine jg_as rfl rfl rfl ?_
    refine jg_nils [(4, _)] ⟨rfl, trivial⟩ ?_
    refine jk_sel (is := []) (s0 rfl) rfl ?_
    refine jk_sn ?_
    refine jn_ret ?_
    exact jk_ret1 rfl (fun w hs => .tmp rfl) (fun w hs => ⟨rfl, hs.drop⟩)
  refine jg_skip rfl rfl ?_
  refine jg_skip rfl rfl ?_
  refine jg_skip rfl rfl ?_
  refine jg_skip rfl rfl ?_
  refine jg_skip rfl rfl ?_
  refine jg_y (fun w hs => yv_pick_f rfl rfl) rfl rfl ?_
  refine jg_as rfl rfl rfl ?_
  refine jg_nils [(4, _)] ⟨rfl, trivial⟩ ?_
  refine jk_sel (is := []) (s0 rfl) rfl ?_
  refine jk_sn ?_
  refine jn_ret ?_
  exact jk_ret1 rfl (fun w hs => .tmp rfl) (fun w hs => ⟨rfl, hs.drop⟩)
end Go.Proofs.Ytbojnnefpapamaa
