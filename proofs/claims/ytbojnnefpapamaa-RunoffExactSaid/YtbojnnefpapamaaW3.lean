/-
  The functions give what their models give. Printed by a program.
-/
import Derived.Test.YtbojnnefpapamaaFacts
import Derived.Test.YtbojnnefpapamaaMod
import Derived.Test.YtbojnnefpapamaaW0
import Derived.Test.YtbojnnefpapamaaW1
import Derived.Test.YtbojnnefpapamaaW2
namespace Go.Proofs.Ytbojnnefpapamaa
open Go.Hy
set_option linter.unusedVariables false
set_option linter.unusedSimpArgs false
set_option maxHeartbeats 2000000
set_option maxRecDepth 100000
theorem law20_RunoffExact_c {w : World} {a0 : (List Int)} {a1 : (List Piece)} {a2 : Motion} {a3 : Run} {ha0 : Hd} {ha1 : Hd} {ha2_Class : Hd} {ha2_Targets : Hd} {ha3_Resist : Hd} {ha3_Targets : Hd} {v : Bool} (hm : law20_RunoffExact a0 a1 a2 a3 = some v) (Rha0 : Sl w ha0 encI a0) (Rha1 : Sl w ha1 Piece.enc a1) (Rha2_Class : Sl w ha2_Class Interval.enc a2.Class) (Rha2_Targets : Sl w ha2_Targets encI a2.Targets) (Rha3_Resist : Sl w ha3_Resist encI a3.Resist) (Rha3_Targets : Sl w ha3_Targets encI a3.Targets) : Gives Try.prog 4 [ha0.v, ha1.v, .agg #[.int .i64 a2.Speed.Lo, .int .i64 a2.Speed.Hi, ha2_Class.v, .int .i64 a2.Error, ha2_Targets.v], .agg #[.int .i64 a3.Speed, ha3_Resist.v, ha3_Targets.v]] w (.bool v) := by
  refine j_gives (vs := [ha0.v, ha1.v, .agg #[.int .i64 a2.Speed.Lo, .int .i64 a2.Speed.Hi, ha2_Class.v, .int .i64 a2.Error, ha2_Targets.v], .agg #[.int .i64 a3.Speed, ha3_Resist.v, ha3_Targets.v]]) (U := fun (v : Bool) => .bool v) Try.func4 rfl Try.ntmps4 rfl rfl hm ?_
  unfold law20_RunoffExact
  clear hm
  refine jn_seq ?_
  refine jn_reg 0 ?_
  refine jg_box rfl (l5 rfl) rfl rfl fun g1 => ?_
  refine jg_box rfl (l3 rfl) rfl rfl fun g2 => ?_
  refine jg_as rfl rfl rfl ?_
  refine jg_nils [(0, _), (1, _), (6, _), (7, _)] ⟨rfl, rfl, rfl, rfl, trivial⟩ ?_
  refine jk_sn ?_
  refine jn_seq ?_
  refine jn_reg 1 ?_
  refine jg_mv rfl rfl rfl ?_
  refine jg_c rfl (fun v w hs hm => gen_New_c hm (hs.arg Rha0)) rfl rfl fun v3 q4 => ?_
  refine jg_L (r3 rfl) ?_
  refine jg_as rfl rfl rfl ?_
  refine jg_nils [(1, _), (6, _), (7, _), (9, _)] ⟨rfl, rfl, rfl, rfl, trivial⟩ ?_
  refine jk_sn ?_
  refine jn_join (fun (s : Unit) (g : Unit) => [(1, ha1.v), (6, .pointer (some ⟨g1, 0, none⟩)), (7, .pointer (some ⟨g2, 0, none⟩))]) (fun (s : Unit) (g : Unit) => []) (fun (s : Unit) (g : Unit) => [(Res.blk g1 28 [.int .i64 a2.Speed.Lo, .int .i64 a2.Speed.Hi, ha2_Class.v, .int .i64 a2.Error, ha2_Targets.v]), (Res.blk g2 30 [.int .i64 a3.Speed, ha3_Resist.v, ha3_Targets.v])]) ?_ ?_
  · intro z5 q6
    refine jn_seq ?_
    refine jn_reg 24 ?_
    refine jg_mv rfl rfl rfl ?_
    refine jg_y (fun w hs => yv_ln rfl (hs.arg Rha1)) rfl rfl ?_
    refine jg_y (fun w hs => yv_gtr rfl rfl) rfl rfl ?_
    refine jg_mv rfl rfl rfl ?_
    refine jg_split 149 rfl ?_ ?_
    · refine jg_skip rfl rfl ?_
      refine jg_skip rfl rfl ?_
      refine jg_skip rfl rfl ?_
      refine jg_skip rfl rfl ?_
      refine jg_y (fun w hs => yv_pick_t rfl rfl) rfl rfl ?_
      refine jg_mv rfl rfl rfl ?_
      refine jg_skip rfl rfl ?_
      refine jg_skip rfl rfl ?_
      refine jg_skip rfl rfl ?_
      refine jg_skip rfl rfl ?_
      refine jg_y (fun w hs => yv_pick_t rfl rfl) rfl rfl ?_
      refine jg_mv rfl rfl rfl ?_
      refine jg_skip rfl rfl ?_
      refine jg_skip rfl rfl ?_
      refine jg_skip rfl rfl ?_
      refine jg_skip rfl rfl ?_
      refine jg_skip rfl rfl ?_
      refine jg_skip rfl rfl ?_
      refine jg_skip rfl rfl ?_
      refine jg_y (fun w hs => yv_pick_t rfl rfl) rfl rfl ?_
      refine jg_as rfl rfl rfl ?_
      refine jg_nils [(8, _)] ⟨rfl, trivial⟩ ?_
      refine jk_sel (is := []) (s0 rfl) rfl ?_
      refine jk_sn ?_
      refine jn_ret ?_
      exact jk_ret1 rfl (fun w hs => .tmp rfl) (fun w hs => ⟨rfl, hs.drop⟩)
    refine jg_y (fun w hs => yv_fieldAddr rfl) rfl rfl ?_
    refine jg_y (fun w hs => yv_load rfl (ld1B (hs.blkL (i := 0) rfl) rfl)) rfl rfl ?_
    refine jg_y (fun w hs => yv_ln rfl (hs.arg Rha2_Class)) rfl rfl ?_
    refine jg_y (fun w hs => yv_gtr rfl rfl) rfl rfl ?_
    refine jg_y (fun w hs => yv_pick_f rfl rfl) rfl rfl ?_
    refine jg_mv rfl rfl rfl ?_
    refine jg_split 155 rfl ?_ ?_
    · refine jg_skip rfl rfl ?_
      refine jg_skip rfl rfl ?_
      refine jg_skip rfl rfl ?_
      refine jg_skip rfl rfl ?_
      refine jg_y (fun w hs => yv_pick_t rfl rfl) rfl rfl ?_
      refine jg_mv rfl rfl rfl ?_
      refine jg_skip rfl rfl ?_
      refine jg_skip rfl rfl ?_
      refine jg_skip rfl rfl ?_
      refine jg_skip rfl rfl ?_
      refine jg_skip rfl rfl ?_
      refine jg_skip rfl rfl ?_
      refine jg_skip rfl rfl ?_
      refine jg_y (fun w hs => yv_pick_t rfl rfl) rfl rfl ?_
      refine jg_as rfl rfl rfl ?_
      refine jg_nils [(8, _)] ⟨rfl, trivial⟩ ?_
      refine jk_sel (is := []) (s0 rfl) rfl ?_
      refine jk_sn ?_
      refine jn_ret ?_
      exact jk_ret1 rfl (fun w hs => .tmp rfl) (fun w hs => ⟨rfl, hs.drop⟩)
    refine jg_y (fun w hs => yv_fieldAddr rfl) rfl rfl ?_
    refine jg_y (fun w hs => yv_load rfl (ld1B (hs.blkL (i := 1) rfl) rfl)) rfl rfl ?_
    refine jg_y (fun w hs => yv_ln rfl (hs.arg Rha3_Resist)) rfl rfl ?_
    refine jg_y (fun w hs => yv_gtr rfl rfl) rfl rfl ?_
    refine jg_y (fun w hs => yv_pick_f rfl rfl) rfl rfl ?_
    refine jg_mv rfl rfl rfl ?_
    refine jg_split 161 rfl ?_ ?_
    · refine jg_skip rfl rfl ?_
      refine jg_skip rfl rfl ?_
      refine jg_skip rfl rfl ?_
      refine jg_skip rfl rfl ?_
      refine jg_skip rfl rfl ?_
      refine jg_skip rfl rfl ?_
      refine jg_skip rfl rfl ?_
      refine jg_y (fun w hs => yv_pick_t rfl rfl) rfl rfl ?_
      refine jg_as rfl rfl rfl ?_
      refine jg_nils [(8, _)] ⟨rfl, trivial⟩ ?_
      refine jk_sel (is := []) (s0 rfl) rfl ?_
      refine jk_sn ?_
      refine jn_ret ?_
      exact jk_ret1 rfl (fun w hs => .tmp rfl) (fun w hs => ⟨rfl, hs.drop⟩)
    refine jg_mv rfl rfl rfl ?_
    refine jg_y (fun w hs => yv_load rfl (ldBB (hs.blkL (i := 0) rfl) rfl)) rfl rfl ?_
    refine jg_y (fun w hs => yv_load rfl (ldBB (hs.blkL (i := 1) rfl) rfl)) rfl rfl ?_
    refine jg_c0 rfl (fun v w hs hm => law20_exact_c (a1 := a2) (a2 := a3) hm (hs.arg Rha1) (hs.arg Rha2_Class) (hs.arg Rha2_Targets) (hs.arg Rha3_Resist) (hs.arg Rha3_Targets)) rfl rfl fun v9 => ?_
    refine jg_mv rfl rfl rfl ?_
    refine jg_split 166 rfl ?_ ?_
    · refine jg_c0 rfl (fun v w hs hm => law20_sane_c hm ) rfl rfl fun v10 => ?_
      refine jg_y (fun w hs => yv_pick_t rfl rfl) rfl rfl ?_
      refine jg_y (fun w hs => yv_pick_f rfl rfl) rfl rfl ?_
      refine jg_as rfl rfl rfl ?_
      refine jg_nils [(8, _)] ⟨rfl, trivial⟩ ?_
      refine jk_sel (is := []) (s0 rfl) rfl ?_
      refine jk_sn ?_
      refine jn_ret ?_
      exact jk_ret1 rfl (fun w hs => .tmp rfl) (fun w hs => ⟨rfl, hs.drop⟩)
    refine jg_skip rfl rfl ?_
    refine jg_y (fun w hs => yv_pick_f rfl rfl) rfl rfl ?_
    refine jg_y (fun w hs => yv_pick_f rfl rfl) rfl rfl ?_
    refine jg_as rfl rfl rfl ?_
    refine jg_nils [(8, _)] ⟨rfl, trivial⟩ ?_
    refine jk_sel (is := []) (s0 rfl) rfl ?_
    refine jk_sn ?_
    refine jn_ret ?_
    exact jk_ret1 rfl (fun w hs => .tmp rfl) (fun w hs => ⟨rfl, hs.drop⟩)
  intro k7 H8
  refine jn_seq ?_
  refine jn_reg 2 ?_
  refine jg_as rfl rfl rfl ?_
  refine jg_nils [(1, _), (6, _), (7, _), (9, _), (10, _)] ⟨rfl, rfl, rfl, rfl, rfl, trivial⟩ ?_
  refine jk_sn ?_
  refine jn_block ?_
  refine jn_lp (n := big) (fun (s : (Int × Int)) (g : Unit) => [(1, ha1.v), (6, .pointer (some ⟨g1, 0, none⟩)), (7, .pointer (some ⟨g2, 0, none⟩)), (9, .pointer (some ⟨q4, 0, none⟩)), (10, .int .i64 s.2)]) (fun (s : (Int × Int)) (g : Unit) => []) (fun (s : (Int × Int)) (g : Unit) => [(Res.blk g1 28 [.int .i64 a2.Speed.Lo, .int .i64 a2.Speed.Hi, ha2_Class.v, .int .i64 a2.Error, ha2_Targets.v]), (Res.blk g2 30 [.int .i64 a3.Speed, ha3_Resist.v, ha3_Targets.v]), (Res.blk q4 82 [ha0.v, .int .i64 s.1])]) (v3.fn, 0) () [2, 1, 0] ⟨rfl, rfl, rfl, rfl, rfl, trivial⟩ rfl rfl rfl ?_
  intro z11 q12 n15 k13 H14
  refine jn_seq ?_
  refine jn_seq ?_
  refine jn_reg 3 ?_
  refine jg_mv rfl rfl rfl ?_
  refine jg_y (fun w hs => yv_lss rfl rfl) rfl rfl ?_
  refine jg_nils [(1, _), (6, _), (7, _), (9, _), (10, _), (19, _)] ⟨rfl, rfl, rfl, rfl, rfl, rfl, trivial⟩ ?_
  refine jk_sn ?_
  refine jn_cond rfl ?_ ?_
  rotate_left
  · refine jn_exit ?_
    refine jk_se (jk_le (jk_bh ?_))
    exact jk_use H8 () () [0, 1] ⟨rfl, rfl, rfl, trivial⟩ rfl rfl rfl
  refine jn_skip ?_
  refine jk_sn ?_
  refine jn_seq ?_
  refine jn_block ?_
  refine jn_seq ?_
  refine jn_reg 5 ?_
  refine jg_mv rfl rfl rfl ?_
  refine jl_c 2 rfl rfl (fun v w hs hm => gen_Maker_Pieces_c hm (hs.blkL (i := 2) rfl) (hs.arg Rha0) (hs.offAL 2 Rha0 rfl)) (fun _ => rfl) rfl rfl fun v16 q17 => ?_
  refine jg_L (r4 rfl) ?_
  refine jg_as rfl rfl rfl ?_
  refine jg_nils [(1, _), (6, _), (7, _), (9, _), (10, _), (11, _)] ⟨rfl, rfl, rfl, rfl, rfl, rfl, trivial⟩ ?_
  refine jk_sn ?_
  refine jn_seq ?_
  refine jn_reg 6 ?_
  refine jg_mv rfl rfl rfl ?_
  refine jg_mv rfl rfl rfl ?_
  refine jl_c 3 rfl rfl (fun v w hs hm => gen_Maker_Motion_c hm (hs.blkL (i := 3) rfl) (hs.arg Rha0) (hs.offAL 3 Rha0 rfl) (hs.row 0 rfl) (hs.offLL 0 3 rfl rfl)) (fun _ => rfl) rfl rfl fun v18 q19 => ?_
  refine jg_L (r6 rfl) ?_
  refine jg_alloc (l5 rfl) rfl rfl fun g20 => ?_
  refine jg_store 0 rfl rfl rfl (l5 rfl) rfl rfl rfl rfl (l5 rfl) (r7 rfl) ?_
  refine jg_nils [(1, _), (6, _), (7, _), (9, _), (10, _), (11, _), (12, _)] ⟨rfl, rfl, rfl, rfl, rfl, rfl, rfl, trivial⟩ ?_
  refine jk_sn ?_
  refine jn_seq ?_
  refine jn_reg 7 ?_
  refine jg_mv rfl rfl rfl ?_
  refine jg_y (fun w hs => yv_load rfl (ldBB (hs.blkL (i := 0) rfl) rfl)) rfl rfl ?_
  refine jl_c 6 rfl rfl (fun v w hs hm => gen_Maker_Run_c (a1 := v18.1) hm (hs.blkL (i := 6) rfl) (hs.arg Rha0) (hs.offAL 6 Rha0 rfl) (hs.row 1 rfl) (hs.offLL 1 6 rfl rfl) (hs.row 2 rfl) (hs.offLL 2 6 rfl rfl)) (fun _ => rfl) rfl rfl fun v21 q22 => ?_
  refine jg_L (r9 rfl) ?_
  refine jg_alloc (l3 rfl) rfl rfl fun g23 => ?_
  refine jg_store 0 rfl rfl rfl (l3 rfl) rfl rfl rfl rfl (l3 rfl) (r10 rfl) ?_
  refine jg_nils [(1, _), (6, _), (7, _), (9, _), (10, _), (11, _), (12, _), (13, _)] ⟨rfl, rfl, rfl, rfl, rfl, rfl, rfl, rfl, trivial⟩ ?_
  refine jk_sn ?_
  refine jn_join (fun (s : (Int × (List Piece) × Int × (List Interval) × (List Int) × (List Int) × (List Int))) (g : (Hd × Hd)) => [(1, ha1.v), (6, .pointer (some ⟨g1, 0, none⟩)), (7, .pointer (some ⟨g2, 0, none⟩)), (9, .pointer (some ⟨q4, 0, none⟩)), (10, .int .i64 z11.2), (11, q17.v), (12, .pointer (some ⟨g20, 0, none⟩)), (13, .pointer (some ⟨g23, 0, none⟩))]) (fun (s : (Int × (List Piece) × Int × (List Interval) × (List Int) × (List Int) × (List Int))) (g : (Hd × Hd)) => []) (fun (s : (Int × (List Piece) × Int × (List Interval) × (List Int) × (List Int) × (List Int))) (g : (Hd × Hd)) => [(Res.blk g1 28 [.int .i64 a2.Speed.Lo, .int .i64 a2.Speed.Hi, ha2_Class.v, .int .i64 a2.Error, ha2_Targets.v]), (Res.blk g2 30 [.int .i64 a3.Speed, ha3_Resist.v, ha3_Targets.v]), (Res.blk q4 82 [ha0.v, .int .i64 s.1]), (rowH q17 32 5 Piece.enc s.2.1), (Res.blk g20 28 [.int .i64 v18.1.Speed.Lo, .int .i64 s.2.2.1, q19.1.v, .int .i64 v18.1.Error, g.1.v]), (rowH q19.1 24 2 Interval.enc s.2.2.2.1), (rowH g.1 3 1 encI s.2.2.2.2.1), (Res.blk g23 30 [.int .i64 v21.1.Speed, g.2.v, q22.2.v]), (rowH g.2 3 1 encI s.2.2.2.2.2.1), (rowH q22.2 3 1 encI s.2.2.2.2.2.2)]) ?_ ?_
  · intro z24 q25
    refine jn_seq ?_
    refine jn_reg 22 ?_
    refine jg_mv rfl rfl rfl ?_
    refine jg_y (fun w hs => yv_load rfl (ldBB (hs.blkL (i := 4) rfl) rfl)) rfl rfl ?_
    refine jg_y (fun w hs => yv_load rfl (ldBB (hs.blkL (i := 7) rfl) rfl)) rfl rfl ?_
    refine jg_c0 rfl (fun v w hs hm => law20_exact_c (a1 := (Motion.mk (Interval.mk v18.1.Speed.Lo z24.2.2.1) z24.2.2.2.1 v18.1.Error z24.2.2.2.2.1)) (a2 := (Run.mk v21.1.Speed z24.2.2.2.2.2.1 z24.2.2.2.2.2.2)) hm (hs.row 3 rfl) (hs.row 5 rfl) (hs.row 6 rfl) (hs.row 8 rfl) (hs.row 9 rfl)) rfl rfl fun v28 => ?_
    refine jg_y (fun w hs => yv_not rfl) rfl rfl ?_
    refine jg_nils [(1, _), (6, _), (7, _), (9, _), (10, _), (145, _)] ⟨rfl, rfl, rfl, rfl, rfl, rfl, trivial⟩ ?_
    refine jk_sel (is := [0, 1, 2]) (s3 rfl) rfl ?_
    refine jk_sn ?_
    refine jn_cond rfl ?_ ?_
    rotate_left
    · refine jn_skip ?_
      refine jk_bn (jk_sn ?_)
      refine jn_reg 4 ?_
      refine jg_mv rfl rfl rfl ?_
      refine jg_y (fun w hs => yv_add_w rfl rfl) rfl rfl ?_
      refine jg_as rfl rfl rfl ?_
      refine jg_nils [(1, _), (6, _), (7, _), (9, _), (10, _)] ⟨rfl, rfl, rfl, rfl, rfl, trivial⟩ ?_
      exact jk_use H14 (z24.1, w64 (z11.2 + 1)) () [0, 1, 2] ⟨rfl, rfl, rfl, rfl, rfl, trivial⟩ rfl rfl rfl
    refine jn_seq ?_
    refine jn_reg 23 ?_
    refine jg_as rfl rfl rfl ?_
    refine jg_nils [(8, _)] ⟨rfl, trivial⟩ ?_
    refine jk_sel (is := []) (s0 rfl) rfl ?_
    refine jk_sn ?_
    refine jn_ret ?_
    refine jk_br (jk_sr (jk_lr (jk_br (jk_sr ?_))))
    exact jk_ret1 rfl (fun w hs => .tmp rfl) (fun w hs => ⟨rfl, hs.drop⟩)
  intro k26 H27
  refine jn_seq ?_
  refine jn_reg 8 ?_
  refine jg_mv rfl rfl rfl ?_
  refine jg_nils [(1, _), (6, _), (7, _), (9, _), (10, _), (11, _), (12, _), (13, _), (30, _)] ⟨rfl, rfl, rfl, rfl, rfl, rfl, rfl, rfl, rfl, trivial⟩ ?_
  refine jk_sn ?_
  refine jn_block ?_
  refine jn_seq ?_
  refine jn_reg 9 ?_
  refine jg_y (fun w hs => yv_eql rfl rfl) rfl rfl ?_
  refine jg_as rfl rfl rfl ?_
  refine jg_nils [(1, _), (6, _), (7, _), (9, _), (10, _), (11, _), (12, _), (13, _), (30, _), (31, _)] ⟨rfl, rfl, rfl, rfl, rfl, rfl, rfl, rfl, rfl, rfl, trivial⟩ ?_
  refine jk_sn ?_
  refine jn_cond rfl ?_ ?_
  · refine jn_seq ?_
    refine jn_reg 10 ?_
    refine jg_mv rfl rfl rfl ?_
    refine jg_mv rfl rfl rfl ?_
    refine jg_y (fun w hs => yv_ln rfl (hs.row 6 rfl)) rfl rfl ?_
    refine jl_c 9 rfl rfl (fun v w hs hm => gen_Maker_Next_c hm (hs.blkL (i := 9) rfl) (hs.arg Rha0) (hs.offAL 9 Rha0 rfl)) (fun _ => rfl) rfl rfl fun v29 q30 => ?_
    refine jg_L (r10 rfl) ?_
    refine jg_as rfl rfl rfl ?_
    refine jg_nils [(1, _), (6, _), (7, _), (9, _), (10, _), (11, _), (12, _), (13, _), (14, _)] ⟨rfl, rfl, rfl, rfl, rfl, rfl, rfl, rfl, rfl, trivial⟩ ?_
    refine jk_sn ?_
    refine jn_drawA 11 [0, 1, 2, 3, 4, 5, 6, 7, 8, 9, 10, 11, 12, 13, 14, 15, 16, 17, 18, 19, 20, 21, 22, 23, 24, 25, 26, 27, 28, 29, 30, 31, 32, 33, 34, 35, 36, 37, 38] 549755813887 29475327 24 [0, 0, 0, 0, 0, 0, 0, 0, 0, 384, 512, 1024, 2048, 4160, 0, 0, 0, 98304, 131072, 262144, 524288, 1073152, 0, 0, 0, 25165824, 33554432, 67108864, 134217728, 274726912, 673726403, 1747468227, 2821210051, 8191475663, 16781410255, 25371344847, 68719476735, 137438953471, 206158430207] [0, 0, 0, 0, 0, 0, 0, 0, 0, 384, 896, 1920, 3968, 8128, 0, 0, 0, 98304, 229376, 491520, 1015808, 2097088, 0, 0, 0, 25165824, 58720256, 125829120, 260046848, 536870848, 1073741763, 2147483587, 4294967235, 8589934543, 17179869135, 34359738319, 68719476735, 137438953471, 274877906943] [(0, true), (1, true), (2, true), (3, true), (4, true), (5, true), (6, true), (7, true), (8, true), (14, true), (15, true), (16, true), (22, true), (23, true), (24, true)] (np_blk (np_seq (np_blk (np_seq (np_rnd (np_blk (np_seq np_rt))))))) (by kernel_rfl) (by kernel_rfl) (by kernel_rfl) (by kernel_rfl) (by kernel_rfl) (by kernel_rfl) (by kernel_rfl) (by kernel_rfl) ?_
    refine jt_mv rfl rfl rfl ?_
    refine jt_mv rfl rfl rfl ?_
    refine jt_mv rfl rfl rfl ?_
    refine jt_mv rfl rfl rfl ?_
    refine jt_mv rfl rfl rfl ?_
    refine jt_mv rfl rfl rfl ?_
    refine jt_mv rfl rfl rfl ?_
    refine jt_mv rfl rfl rfl ?_
    refine jt_mv rfl rfl rfl ?_
    refine jt_mv rfl rfl rfl ?_
    refine jt_mv rfl rfl rfl ?_
    refine jt_mv rfl rfl rfl ?_
    refine jt_mv rfl rfl rfl ?_
    refine jt_mv rfl rfl rfl ?_
    refine jt_mv rfl rfl rfl ?_
    refine jd_x ?_
    refine jx_to (L' := [_, _, _, _, _, _, _, _, _]) [9, 10, 11, 12, 13, 17, 18, 19, 20, 21, 25, 26, 27, 28, 29, 30, 31] [32, 35, 38] [0, 1, 2, 3, 4, 5, 6, 7, 8] rfl ?_
    refine jx_lin [0, 1, 2, 3, 4, 5, 6, 7, 8] 4265491968 265277439 15 [0, 0, 0, 0, 0, 0, 0, 0, 0, 384, 896, 1920, 3968, 8128, 0, 0, 0, 98304, 229376, 491520, 1015808, 2097088, 0, 0, 0, 25165824, 58720256, 125829120, 260046848, 536870848, 1073741763, 2147483587, 4294967235, 8589934543, 17179869135, 34359738319, 68719476735, 137438953471, 274877906943] [(9, true), (10, true), (11, true), (17, true), (18, true), (19, true), (25, true), (26, true), (27, true)] rfl (np_blk (np_seq (np_blk (np_seq (np_rnd (np_blk (np_seq np_rt))))))) (by kernel_rfl) (by kernel_rfl) (by kernel_rfl) (by kernel_rfl) (by kernel_rfl) (by kernel_rfl) (by kernel_rfl) (by kernel_rfl) (by kernel_rfl) ?_
    refine jd_ix fun x211 h212 => ?_
    refine jd_y rfl (fun w hs => yv_ix rfl rfl (hs.row 6 rfl) h212) rfl rfl ?_
    refine jd_y rfl (fun w hs => yv_ef rfl (hs.row 6 rfl) h212.1) rfl rfl ?_
    refine jd_y rfl (fun w hs => yv_e1 rfl (hs.row 6 rfl) h212.1 rfl) rfl rfl ?_
    refine jd_ix fun x371 h372 => ?_
    refine jd_y rfl (fun w hs => yv_ix rfl rfl (hs.row 6 rfl) h372) rfl rfl ?_
    refine jd_y rfl (fun w hs => yv_ef rfl (hs.row 6 rfl) h372.1) rfl rfl ?_
    refine jd_y rfl (fun w hs => yv_e1 rfl (hs.row 6 rfl) h372.1 rfl) rfl rfl ?_
    refine jd_ix fun x531 h532 => ?_
    refine jd_y rfl (fun w hs => yv_ix rfl rfl (hs.row 6 rfl) h532) rfl rfl ?_
    refine jd_y rfl (fun w hs => yv_ef rfl (hs.row 6 rfl) h532.1) rfl rfl ?_
    refine jd_y rfl (fun w hs => yv_e1 rfl (hs.row 6 rfl) h532.1 rfl) rfl rfl ?_
    refine jd_x ?_
    refine jx3 (i := 12) (i2 := 20) (i3 := 28) (by kernel_rfl) (by kernel_rfl) rfl rfl rfl ?_ ?_ ?_
    · refine jg_lit (enc := encI) [x211.Length, 0, 1000000, 1000001] rfl rfl rfl rfl rfl rfl rfl rfl fun hd271 => ?_
      refine jg_nil ?_
      refine jk_xn [1, 2, 3, 4, 5, 6, 7, 8, 9] rfl ?_
      refine jx3 (i := 13) (i2 := 20) (i3 := 28) (by kernel_rfl) (by kernel_rfl) rfl rfl rfl ?_ ?_ ?_
      · refine jl_c 10 rfl rfl (fun v w hs hm => gen_Maker_Pick_c hm (hs.blkL (i := 10) rfl) (hs.arg Rha0) (hs.offAL 10 Rha0 rfl) (hs.row 0 rfl) (hs.offLL 0 10 rfl rfl)) (fun _ => rfl) rfl rfl fun v291 q292 => ?_
        refine jg_L (r11 rfl) ?_
        refine jg_nil ?_
        refine jk_xn [1, 2, 3, 4, 5, 6, 7, 8, 9] rfl ?_
        refine jx2 (i := 20) (i2 := 28) (by kernel_rfl) (by kernel_rfl) rfl rfl ?_ ?_
        · refine jg_lit (enc := encI) [x371.Grade, 10000, (-10001)] rfl rfl rfl rfl rfl rfl rfl rfl fun hd431 => ?_
          refine jg_nil ?_
          refine jk_xn [2, 3, 4, 5, 6, 7, 8, 9, 10] rfl ?_
          refine jx2 (i := 21) (i2 := 28) (by kernel_rfl) (by kernel_rfl) rfl rfl ?_ ?_
          · refine jl_c 11 rfl rfl (fun v w hs hm => gen_Maker_Pick_c hm (hs.blkL (i := 11) rfl) (hs.arg Rha0) (hs.offAL 11 Rha0 rfl) (hs.row 0 rfl) (hs.offLL 0 11 rfl rfl)) (fun _ => rfl) rfl rfl fun v451 q452 => ?_
            refine jg_L (r12 rfl) ?_
            refine jg_nil ?_
            refine jk_xn [2, 3, 4, 5, 6, 7, 8, 9, 10] rfl ?_
            refine jx1 (i := 28) (by kernel_rfl) (by kernel_rfl) rfl ?_
            refine jg_lit (enc := encI) [x531.Power, (-1), 1000000000, 1000000001] rfl rfl rfl rfl rfl rfl rfl rfl fun hd591 => ?_
            refine jg_nil ?_
            refine jk_xn [3, 4, 5, 6, 7, 8, 9, 10, 11] rfl ?_
            refine jx1 (i := 29) (by kernel_rfl) (by kernel_rfl) rfl ?_
            refine jl_c 12 rfl rfl (fun v w hs hm => gen_Maker_Pick_c hm (hs.blkL (i := 12) rfl) (hs.arg Rha0) (hs.offAL 12 Rha0 rfl) (hs.row 0 rfl) (hs.offLL 0 12 rfl rfl)) (fun _ => rfl) rfl rfl fun v611 q612 => ?_
            refine jg_L (r13 rfl) ?_
            refine jg_nil ?_
            refine jk_xn [3, 4, 5, 6, 7, 8, 9, 10, 11] rfl ?_
            refine jx_lin [3, 4, 5, 6, 7, 8, 9, 10, 11] 4265491968 4294967295 7 [0, 0, 0, 0, 0, 0, 0, 0, 0, 384, 896, 1920, 3968, 8128, 0, 0, 0, 98304, 229376, 491520, 1015808, 2097088, 0, 0, 0, 25165824, 58720256, 125829120, 260046848, 536870848, 1073741763, 2147483587, 4294967235, 8589934543, 17179869135, 34359738319, 68719476735, 137438953471, 274877906943] [(30, true), (31, true)] rfl (np_blk (np_seq (np_blk (np_seq (np_rnd (np_blk (np_seq np_rt))))))) (by kernel_rfl) (by kernel_rfl) (by kernel_rfl) (by kernel_rfl) (by kernel_rfl) (by kernel_rfl) (by kernel_rfl) (by kernel_rfl) (by kernel_rfl) ?_
            refine jd_ix fun x631 h632 => ?_
            refine jd_y rfl (fun w hs => yv_ix rfl rfl (hs.row 6 rfl) h632) rfl rfl ?_
            refine jd_y rfl (fun w hs => yv_ef rfl (hs.row 6 rfl) h632.1) rfl rfl ?_
            refine jd_x ?_
            refine jx1 (i := 32) (by kernel_rfl) (by kernel_rfl) rfl ?_
            refine jg_storeE 9 (a' := (Piece.mk x631.Element v291.1 x631.Grade x631.Curve x631.Power)) rfl rfl h632.1 rfl (l1 rfl) rfl rfl rfl rfl fun y671 => ?_
            refine jg_L (r13 rfl) ?_
            refine jg_nil ?_
            refine jk_xf (by kernel_rfl) ?_
            refine jx1 (i := 33) (by kernel_rfl) (by kernel_rfl) rfl ?_
            refine jg_ix fun x691 h692 => ?_
            refine jg_y (fun w hs => yv_ix rfl rfl (hs.row 9 rfl) h692) rfl rfl ?_
            refine jg_nil ?_
            refine jk_xf (by kernel_rfl) ?_
            refine jx1 (i := 34) (by kernel_rfl) (by kernel_rfl) rfl ?_
            refine jg_y (fun w hs => yv_ef rfl (hs.row 9 rfl) h692.1) rfl rfl ?_
            refine jg_nil ?_
            refine jk_xf (by kernel_rfl) ?_
            refine jx1 (i := 35) (by kernel_rfl) (by kernel_rfl) rfl ?_
            refine jg_storeE 9 (a' := (Piece.mk x691.Element x691.Length v451.1 x691.Curve x691.Power)) rfl rfl h692.1 rfl (l1 rfl) rfl rfl rfl rfl fun y731 => ?_
            refine jg_L (r13 rfl) ?_
            refine jg_nil ?_
            refine jk_xf (by kernel_rfl) ?_
            refine jx1 (i := 36) (by kernel_rfl) (by kernel_rfl) rfl ?_
            refine jg_ix fun x751 h752 => ?_
            refine jg_y (fun w hs => yv_ix rfl rfl (hs.row 9 rfl) h752) rfl rfl ?_
            refine jg_nil ?_
            refine jk_xf (by kernel_rfl) ?_
            refine jx1 (i := 37) (by kernel_rfl) (by kernel_rfl) rfl ?_
            refine jg_y (fun w hs => yv_ef rfl (hs.row 9 rfl) h752.1) rfl rfl ?_
            refine jg_nil ?_
            refine jk_xf (by kernel_rfl) ?_
            refine jx1 (i := 38) (by kernel_rfl) (by kernel_rfl) rfl ?_
            refine jg_storeE 9 (a' := (Piece.mk x751.Element x751.Length x751.Grade x751.Curve v611.1)) rfl rfl h752.1 rfl (l1 rfl) rfl rfl rfl rfl fun y791 => ?_
            refine jg_L (r13 rfl) ?_
            refine jg_nil ?_
            refine jk_xf (by kernel_rfl) ?_
            refine jx0 [(1, _), (6, _), (7, _), (9, _), (10, _), (11, _), (12, _), (13, _)] ⟨rfl, rfl, rfl, rfl, rfl, rfl, rfl, rfl, trivial⟩ (by kernel_rfl) (by kernel_rfl) ?_
            refine jk_sel (is := [3, 4, 5, 6, 7, 8, 9, 10, 11, 12]) (s10 rfl) rfl ?_
            refine jk_bn ?_
            exact jk_use H27 (v611.2, y791, v18.1.Speed.Hi, v18.1.Class, v18.1.Targets, v21.1.Resist, v21.1.Targets) (q19.2, q22.1) [7, 8, 9, 6, 3, 4, 5, 0, 1, 2] ⟨rfl, rfl, rfl, rfl, rfl, rfl, rfl, rfl, trivial⟩ rfl rfl rfl
          refine jg_lit (enc := encI) [x531.Power, (-1), 1000000000, 1000000001] rfl rfl rfl rfl rfl rfl rfl rfl fun hd591 => ?_
          refine jg_nil ?_
          refine jk_xn [3, 4, 5, 6, 7, 8, 9, 10, 11] rfl ?_
          refine jx1 (i := 21) (by kernel_rfl) (by kernel_rfl) rfl ?_
          refine jl_c 12 rfl rfl (fun v w hs hm => gen_Maker_Pick_c hm (hs.blkL (i := 12) rfl) (hs.arg Rha0) (hs.offAL 12 Rha0 rfl) (hs.row 1 rfl) (hs.offLL 1 12 rfl rfl)) (fun _ => rfl) rfl rfl fun v451 q452 => ?_
          refine jg_L (r13 rfl) ?_
          refine jg_nil ?_
          refine jk_xn [3, 4, 5, 6, 7, 8, 9, 10, 11] rfl ?_
          refine jx1 (i := 29) (by kernel_rfl) (by kernel_rfl) rfl ?_
          refine jl_c 12 rfl rfl (fun v w hs hm => gen_Maker_Pick_c hm (hs.blkL (i := 12) rfl) (hs.arg Rha0) (hs.offAL 12 Rha0 rfl) (hs.row 0 rfl) (hs.offLL 0 12 rfl rfl)) (fun _ => rfl) rfl rfl fun v611 q612 => ?_
          refine jg_L (r13 rfl) ?_
          refine jg_nil ?_
          refine jk_xn [3, 4, 5, 6, 7, 8, 9, 10, 11] rfl ?_
          refine jx_lin [3, 4, 5, 6, 7, 8, 9, 10, 11] 4265491968 4294967295 7 [0, 0, 0, 0, 0, 0, 0, 0, 0, 384, 896, 1920, 3968, 8128, 0, 0, 0, 98304, 229376, 491520, 1015808, 2097088, 0, 0, 0, 25165824, 58720256, 125829120, 260046848, 536870848, 1073741763, 2147483587, 4294967235, 8589934543, 17179869135, 34359738319, 68719476735, 137438953471, 274877906943] [(30, true), (31, true)] rfl (np_blk (np_seq (np_blk (np_seq (np_rnd (np_blk (np_seq np_rt))))))) (by kernel_rfl) (by kernel_rfl) (by kernel_rfl) (by kernel_rfl) (by kernel_rfl) (by kernel_rfl) (by kernel_rfl) (by kernel_rfl) (by kernel_rfl) ?_
          refine jd_ix fun x631 h632 => ?_
          refine jd_y rfl (fun w hs => yv_ix rfl rfl (hs.row 6 rfl) h632) rfl rfl ?_
          refine jd_y rfl (fun w hs => yv_ef rfl (hs.row 6 rfl) h632.1) rfl rfl ?_
          refine jd_x ?_
          refine jx1 (i := 32) (by kernel_rfl) (by kernel_rfl) rfl ?_
          refine jg_storeE 9 (a' := (Piece.mk x631.Element v291.1 x631.Grade x631.Curve x631.Power)) rfl rfl h632.1 rfl (l1 rfl) rfl rfl rfl rfl fun y671 => ?_
          refine jg_L (r13 rfl) ?_
          refine jg_nil ?_
          refine jk_xf (by kernel_rfl) ?_
          refine jx1 (i := 33) (by kernel_rfl) (by kernel_rfl) rfl ?_
          refine jg_ix fun x691 h692 => ?_
          refine jg_y (fun w hs => yv_ix rfl rfl (hs.row 9 rfl) h692) rfl rfl ?_
          refine jg_nil ?_
          refine jk_xf (by kernel_rfl) ?_
          refine jx1 (i := 34) (by kernel_rfl) (by kernel_rfl) rfl ?_
          refine jg_y (fun w hs => yv_ef rfl (hs.row 9 rfl) h692.1) rfl rfl ?_
          refine jg_nil ?_
          refine jk_xf (by kernel_rfl) ?_
          refine jx1 (i := 35) (by kernel_rfl) (by kernel_rfl) rfl ?_
          refine jg_storeE 9 (a' := (Piece.mk x691.Element x691.Length v451.1 x691.Curve x691.Power)) rfl rfl h692.1 rfl (l1 rfl) rfl rfl rfl rfl fun y731 => ?_
          refine jg_L (r13 rfl) ?_
          refine jg_nil ?_
          refine jk_xf (by kernel_rfl) ?_
          refine jx1 (i := 36) (by kernel_rfl) (by kernel_rfl) rfl ?_
          refine jg_ix fun x751 h752 => ?_
          refine jg_y (fun w hs => yv_ix rfl rfl (hs.row 9 rfl) h752) rfl rfl ?_
          refine jg_nil ?_
          refine jk_xf (by kernel_rfl) ?_
          refine jx1 (i := 37) (by kernel_rfl) (by kernel_rfl) rfl ?_
          refine jg_y (fun w hs => yv_ef rfl (hs.row 9 rfl) h752.1) rfl rfl ?_
          refine jg_nil ?_
          refine jk_xf (by kernel_rfl) ?_
          refine jx1 (i := 38) (by kernel_rfl) (by kernel_rfl) rfl ?_
          refine jg_storeE 9 (a' := (Piece.mk x751.Element x751.Length x751.Grade x751.Curve v611.1)) rfl rfl h752.1 rfl (l1 rfl) rfl rfl rfl rfl fun y791 => ?_
          refine jg_L (r13 rfl) ?_
          refine jg_nil ?_
          refine jk_xf (by kernel_rfl) ?_
          refine jx0 [(1, _), (6, _), (7, _), (9, _), (10, _), (11, _), (12, _), (13, _)] ⟨rfl, rfl, rfl, rfl, rfl, rfl, rfl, rfl, trivial⟩ (by kernel_rfl) (by kernel_rfl) ?_
          refine jk_sel (is := [3, 4, 5, 6, 7, 8, 9, 10, 11, 12]) (s10 rfl) rfl ?_
          refine jk_bn ?_
          exact jk_use H27 (v611.2, y791, v18.1.Speed.Hi, v18.1.Class, v18.1.Targets, v21.1.Resist, v21.1.Targets) (q19.2, q22.1) [7, 8, 9, 6, 3, 4, 5, 0, 1, 2] ⟨rfl, rfl, rfl, rfl, rfl, rfl, rfl, rfl, trivial⟩ rfl rfl rfl
        refine jg_lit (enc := encI) [x531.Power, (-1), 1000000000, 1000000001] rfl rfl rfl rfl rfl rfl rfl rfl fun hd591 => ?_
        refine jg_nil ?_
        refine jk_xn [2, 3, 4, 5, 6, 7, 8, 9, 10] rfl ?_
        refine jx1 (i := 20) (by kernel_rfl) (by kernel_rfl) rfl ?_
        refine jg_lit (enc := encI) [x371.Grade, 10000, (-10001)] rfl rfl rfl rfl rfl rfl rfl rfl fun hd431 => ?_
        refine jg_nil ?_
        refine jk_xn [3, 4, 5, 6, 7, 8, 9, 10, 11] rfl ?_
        refine jx1 (i := 21) (by kernel_rfl) (by kernel_rfl) rfl ?_
        refine jl_c 12 rfl rfl (fun v w hs hm => gen_Maker_Pick_c hm (hs.blkL (i := 12) rfl) (hs.arg Rha0) (hs.offAL 12 Rha0 rfl) (hs.row 0 rfl) (hs.offLL 0 12 rfl rfl)) (fun _ => rfl) rfl rfl fun v451 q452 => ?_
        refine jg_L (r13 rfl) ?_
        refine jg_nil ?_
        refine jk_xn [3, 4, 5, 6, 7, 8, 9, 10, 11] rfl ?_
        refine jx1 (i := 29) (by kernel_rfl) (by kernel_rfl) rfl ?_
        refine jl_c 12 rfl rfl (fun v w hs hm => gen_Maker_Pick_c hm (hs.blkL (i := 12) rfl) (hs.arg Rha0) (hs.offAL 12 Rha0 rfl) (hs.row 1 rfl) (hs.offLL 1 12 rfl rfl)) (fun _ => rfl) rfl rfl fun v611 q612 => ?_
        refine jg_L (r13 rfl) ?_
        refine jg_nil ?_
        refine jk_xn [3, 4, 5, 6, 7, 8, 9, 10, 11] rfl ?_
        refine jx_lin [3, 4, 5, 6, 7, 8, 9, 10, 11] 4265491968 4294967295 7 [0, 0, 0, 0, 0, 0, 0, 0, 0, 384, 896, 1920, 3968, 8128, 0, 0, 0, 98304, 229376, 491520, 1015808, 2097088, 0, 0, 0, 25165824, 58720256, 125829120, 260046848, 536870848, 1073741763, 2147483587, 4294967235, 8589934543, 17179869135, 34359738319, 68719476735, 137438953471, 274877906943] [(30, true), (31, true)] rfl (np_blk (np_seq (np_blk (np_seq (np_rnd (np_blk (np_seq np_rt))))))) (by kernel_rfl) (by kernel_rfl) (by kernel_rfl) (by kernel_rfl) (by kernel_rfl) (by kernel_rfl) (by kernel_rfl) (by kernel_rfl) (by kernel_rfl) ?_
        refine jd_ix fun x631 h632 => ?_
        refine jd_y rfl (fun w hs => yv_ix rfl rfl (hs.row 6 rfl) h632) rfl rfl ?_
        refine jd_y rfl (fun w hs => yv_ef rfl (hs.row 6 rfl) h632.1) rfl rfl ?_
        refine jd_x ?_
        refine jx1 (i := 32) (by kernel_rfl) (by kernel_rfl) rfl ?_
        refine jg_storeE 9 (a' := (Piece.mk x631.Element v291.1 x631.Grade x631.Curve x631.Power)) rfl rfl h632.1 rfl (l1 rfl) rfl rfl rfl rfl fun y671 => ?_
        refine jg_L (r13 rfl) ?_
        refine jg_nil ?_
        refine jk_xf (by kernel_rfl) ?_
        refine jx1 (i := 33) (by kernel_rfl) (by kernel_rfl) rfl ?_
        refine jg_ix fun x691 h692 => ?_
        refine jg_y (fun w hs => yv_ix rfl rfl (hs.row 9 rfl) h692) rfl rfl ?_
        refine jg_nil ?_
        refine jk_xf (by kernel_rfl) ?_
        refine jx1 (i := 34) (by kernel_rfl) (by kernel_rfl) rfl ?_
        refine jg_y (fun w hs => yv_ef rfl (hs.row 9 rfl) h692.1) rfl rfl ?_
        refine jg_nil ?_
        refine jk_xf (by kernel_rfl) ?_
        refine jx1 (i := 35) (by kernel_rfl) (by kernel_rfl) rfl ?_
        refine jg_storeE 9 (a' := (Piece.mk x691.Element x691.Length v451.1 x691.Curve x691.Power)) rfl rfl h692.1 rfl (l1 rfl) rfl rfl rfl rfl fun y731 => ?_
        refine jg_L (r13 rfl) ?_
        refine jg_nil ?_
        refine jk_xf (by kernel_rfl) ?_
        refine jx1 (i := 36) (by kernel_rfl) (by kernel_rfl) rfl ?_
        refine jg_ix fun x751 h752 => ?_
        refine jg_y (fun w hs => yv_ix rfl rfl (hs.row 9 rfl) h752) rfl rfl ?_
        refine jg_nil ?_
        refine jk_xf (by kernel_rfl) ?_
        refine jx1 (i := 37) (by kernel_rfl) (by kernel_rfl) rfl ?_
        refine jg_y (fun w hs => yv_ef rfl (hs.row 9 rfl) h752.1) rfl rfl ?_
        refine jg_nil ?_
        refine jk_xf (by kernel_rfl) ?_
        refine jx1 (i := 38) (by kernel_rfl) (by kernel_rfl) rfl ?_
        refine jg_storeE 9 (a' := (Piece.mk x751.Element x751.Length x751.Grade x751.Curve v611.1)) rfl rfl h752.1 rfl (l1 rfl) rfl rfl rfl rfl fun y791 => ?_
        refine jg_L (r13 rfl) ?_
        refine jg_nil ?_
        refine jk_xf (by kernel_rfl) ?_
        refine jx0 [(1, _), (6, _), (7, _), (9, _), (10, _), (11, _), (12, _), (13, _)] ⟨rfl, rfl, rfl, rfl, rfl, rfl, rfl, rfl, trivial⟩ (by kernel_rfl) (by kernel_rfl) ?_
        refine jk_sel (is := [3, 4, 5, 6, 7, 8, 9, 10, 11, 12]) (s10 rfl) rfl ?_
        refine jk_bn ?_
        exact jk_use H27 (v611.2, y791, v18.1.Speed.Hi, v18.1.Class, v18.1.Targets, v21.1.Resist, v21.1.Targets) (q19.2, q22.1) [7, 8, 9, 6, 3, 4, 5, 0, 1, 2] ⟨rfl, rfl, rfl, rfl, rfl, rfl, rfl, rfl, trivial⟩ rfl rfl rfl
      · refine jg_lit (enc := encI) [x371.Grade, 10000, (-10001)] rfl rfl rfl rfl rfl rfl rfl rfl fun hd431 => ?_
        refine jg_nil ?_
        refine jk_xn [2, 3, 4, 5, 6, 7, 8, 9, 10] rfl ?_
        refine jx2 (i := 13) (i2 := 28) (by kernel_rfl) (by kernel_rfl) rfl rfl ?_ ?_
        · refine jl_c 11 rfl rfl (fun v w hs hm => gen_Maker_Pick_c hm (hs.blkL (i := 11) rfl) (hs.arg Rha0) (hs.offAL 11 Rha0 rfl) (hs.row 1 rfl) (hs.offLL 1 11 rfl rfl)) (fun _ => rfl) rfl rfl fun v291 q292 => ?_
          refine jg_L (r12 rfl) ?_
          refine jg_nil ?_
          refine jk_xn [2, 3, 4, 5, 6, 7, 8, 9, 10] rfl ?_
          refine jx2 (i := 21) (i2 := 28) (by kernel_rfl) (by kernel_rfl) rfl rfl ?_ ?_
          · refine jl_c 11 rfl rfl (fun v w hs hm => gen_Maker_Pick_c hm (hs.blkL (i := 11) rfl) (hs.arg Rha0) (hs.offAL 11 Rha0 rfl) (hs.row 0 rfl) (hs.offLL 0 11 rfl rfl)) (fun _ => rfl) rfl rfl fun v451 q452 => ?_
            refine jg_L (r12 rfl) ?_
            refine jg_nil ?_
            refine jk_xn [2, 3, 4, 5, 6, 7, 8, 9, 10] rfl ?_
            refine jx1 (i := 28) (by kernel_rfl) (by kernel_rfl) rfl ?_
            refine jg_lit (enc := encI) [x531.Power, (-1), 1000000000, 1000000001] rfl rfl rfl rfl rfl rfl rfl rfl fun hd591 => ?_
            refine jg_nil ?_
            refine jk_xn [3, 4, 5, 6, 7, 8, 9, 10, 11] rfl ?_
            refine jx1 (i := 29) (by kernel_rfl) (by kernel_rfl) rfl ?_
            refine jl_c 12 rfl rfl (fun v w hs hm => gen_Maker_Pick_c hm (hs.blkL (i := 12) rfl) (hs.arg Rha0) (hs.offAL 12 Rha0 rfl) (hs.row 0 rfl) (hs.offLL 0 12 rfl rfl)) (fun _ => rfl) rfl rfl fun v611 q612 => ?_
            refine jg_L (r13 rfl) ?_
            refine jg_nil ?_
            refine jk_xn [3, 4, 5, 6, 7, 8, 9, 10, 11] rfl ?_
            refine jx_lin [3, 4, 5, 6, 7, 8, 9, 10, 11] 4265491968 4294967295 7 [0, 0, 0, 0, 0, 0, 0, 0, 0, 384, 896, 1920, 3968, 8128, 0, 0, 0, 98304, 229376, 491520, 1015808, 2097088, 0, 0, 0, 25165824, 58720256, 125829120, 260046848, 536870848, 1073741763, 2147483587, 4294967235, 8589934543, 17179869135, 34359738319, 68719476735, 137438953471, 274877906943] [(30, true), (31, true)] rfl (np_blk (np_seq (np_blk (np_seq (np_rnd (np_blk (np_seq np_rt))))))) (by kernel_rfl) (by kernel_rfl) (by kernel_rfl) (by kernel_rfl) (by kernel_rfl) (by kernel_rfl) (by kernel_rfl) (by kernel_rfl) (by kernel_rfl) ?_
            refine jd_ix fun x631 h632 => ?_
            refine jd_y rfl (fun w hs => yv_ix rfl rfl (hs.row 6 rfl) h632) rfl rfl ?_
            refine jd_y rfl (fun w hs => yv_ef rfl (hs.row 6 rfl) h632.1) rfl rfl ?_
            refine jd_x ?_
            refine jx1 (i := 32) (by kernel_rfl) (by kernel_rfl) rfl ?_
            refine jg_storeE 9 (a' := (Piece.mk x631.Element v291.1 x631.Grade x631.Curve x631.Power)) rfl rfl h632.1 rfl (l1 rfl) rfl rfl rfl rfl fun y671 => ?_
            refine jg_L (r13 rfl) ?_
            refine jg_nil ?_
            refine jk_xf (by kernel_rfl) ?_
            refine jx1 (i := 33) (by kernel_rfl) (by kernel_rfl) rfl ?_
            refine jg_ix fun x691 h692 => ?_
            refine jg_y (fun w hs => yv_ix rfl rfl (hs.row 9 rfl) h692) rfl rfl ?_
            refine jg_nil ?_
            refine jk_xf (by kernel_rfl) ?_
            refine jx1 (i := 34) (by kernel_rfl) (by kernel_rfl) rfl ?_
            refine jg_y (fun w hs => yv_ef rfl (hs.row 9 rfl) h692.1) rfl rfl ?_
            refine jg_nil ?_
            refine jk_xf (by kernel_rfl) ?_
            refine jx1 (i := 35) (by kernel_rfl) (by kernel_rfl) rfl ?_
            refine jg_storeE 9 (a' := (Piece.mk x691.Element x691.Length v451.1 x691.Curve x691.Power)) rfl rfl h692.1 rfl (l1 rfl) rfl rfl rfl rfl fun y731 => ?_
            refine jg_L (r13 rfl) ?_
            refine jg_nil ?_
            refine jk_xf (by kernel_rfl) ?_
            refine jx1 (i := 36) (by kernel_rfl) (by kernel_rfl) rfl ?_
            refine jg_ix fun x751 h752 => ?_
            refine jg_y (fun w hs => yv_ix rfl rfl (hs.row 9 rfl) h752) rfl rfl ?_
            refine jg_nil ?_
            refine jk_xf (by kernel_rfl) ?_
            refine jx1 (i := 37) (by kernel_rfl) (by kernel_rfl) rfl ?_
            refine jg_y (fun w hs => yv_ef rfl (hs.row 9 rfl) h752.1) rfl rfl ?_
            refine jg_nil ?_
            refine jk_xf (by kernel_rfl) ?_
            refine jx1 (i := 38) (by kernel_rfl) (by kernel_rfl) rfl ?_
            refine jg_storeE 9 (a' := (Piece.mk x751.Element x751.Length x751.Grade x751.Curve v611.1)) rfl rfl h752.1 rfl (l1 rfl) rfl rfl rfl rfl fun y791 => ?_
            refine jg_L (r13 rfl) ?_
            refine jg_nil ?_
            refine jk_xf (by kernel_rfl) ?_
            refine jx0 [(1, _), (6, _), (7, _), (9, _), (10, _), (11, _), (12, _), (13, _)] ⟨rfl, rfl, rfl, rfl, rfl, rfl, rfl, rfl, trivial⟩ (by kernel_rfl) (by kernel_rfl) ?_
            refine jk_sel (is := [3, 4, 5, 6, 7, 8, 9, 10, 11, 12]) (s10 rfl) rfl ?_
            refine jk_bn ?_
            exact jk_use H27 (v611.2, y791, v18.1.Speed.Hi, v18.1.Class, v18.1.Targets, v21.1.Resist, v21.1.Targets) (q19.2, q22.1) [7, 8, 9, 6, 3, 4, 5, 0, 1, 2] ⟨rfl, rfl, rfl, rfl, rfl, rfl, rfl, rfl, trivial⟩ rfl rfl rfl
          refine jg_lit (enc := encI) [x531.Power, (-1), 1000000000, 1000000001] rfl rfl rfl rfl rfl rfl rfl rfl fun hd591 => ?_
          refine jg_nil ?_
          refine jk_xn [3, 4, 5, 6, 7, 8, 9, 10, 11] rfl ?_
          refine jx1 (i := 21) (by kernel_rfl) (by kernel_rfl) rfl ?_
          refine jl_c 12 rfl rfl (fun v w hs hm => gen_Maker_Pick_c hm (hs.blkL (i := 12) rfl) (hs.arg Rha0) (hs.offAL 12 Rha0 rfl) (hs.row 1 rfl) (hs.offLL 1 12 rfl rfl)) (fun _ => rfl) rfl rfl fun v451 q452 => ?_
          refine jg_L (r13 rfl) ?_
          refine jg_nil ?_
          refine jk_xn [3, 4, 5, 6, 7, 8, 9, 10, 11] rfl ?_
          refine jx1 (i := 29) (by kernel_rfl) (by kernel_rfl) rfl ?_
          refine jl_c 12 rfl rfl (fun v w hs hm => gen_Maker_Pick_c hm (hs.blkL (i := 12) rfl) (hs.arg Rha0) (hs.offAL 12 Rha0 rfl) (hs.row 0 rfl) (hs.offLL 0 12 rfl rfl)) (fun _ => rfl) rfl rfl fun v611 q612 => ?_
          refine jg_L (r13 rfl) ?_
          refine jg_nil ?_
          refine jk_xn [3, 4, 5, 6, 7, 8, 9, 10, 11] rfl ?_
          refine jx_lin [3, 4, 5, 6, 7, 8, 9, 10, 11] 4265491968 4294967295 7 [0, 0, 0, 0, 0, 0, 0, 0, 0, 384, 896, 1920, 3968, 8128, 0, 0, 0, 98304, 229376, 491520, 1015808, 2097088, 0, 0, 0, 25165824, 58720256, 125829120, 260046848, 536870848, 1073741763, 2147483587, 4294967235, 8589934543, 17179869135, 34359738319, 68719476735, 137438953471, 274877906943] [(30, true), (31, true)] rfl (np_blk (np_seq (np_blk (np_seq (np_rnd (np_blk (np_seq np_rt))))))) (by kernel_rfl) (by kernel_rfl) (by kernel_rfl) (by kernel_rfl) (by kernel_rfl) (by kernel_rfl) (by kernel_rfl) (by kernel_rfl) (by kernel_rfl) ?_
          refine jd_ix fun x631 h632 => ?_
          refine jd_y rfl (fun w hs => yv_ix rfl rfl (hs.row 6 rfl) h632) rfl rfl ?_
          refine jd_y rfl (fun w hs => yv_ef rfl (hs.row 6 rfl) h632.1) rfl rfl ?_
          refine jd_x ?_
          refine jx1 (i := 32) (by kernel_rfl) (by kernel_rfl) rfl ?_
          refine jg_storeE 9 (a' := (Piece.mk x631.Element v291.1 x631.Grade x631.Curve x631.Power)) rfl rfl h632.1 rfl (l1 rfl) rfl rfl rfl rfl fun y671 => ?_
          refine jg_L (r13 rfl) ?_
          refine jg_nil ?_
          refine jk_xf (by kernel_rfl) ?_
          refine jx1 (i := 33) (by kernel_rfl) (by kernel_rfl) rfl ?_
          refine jg_ix fun x691 h692 => ?_
          refine jg_y (fun w hs => yv_ix rfl rfl (hs.row 9 rfl) h692) rfl rfl ?_
          refine jg_nil ?_
          refine jk_xf (by kernel_rfl) ?_
          refine jx1 (i := 34) (by kernel_rfl) (by kernel_rfl) rfl ?_
          refine jg_y (fun w hs => yv_ef rfl (hs.row 9 rfl) h692.1) rfl rfl ?_
          refine jg_nil ?_
          refine jk_xf (by kernel_rfl) ?_
          refine jx1 (i := 35) (by kernel_rfl) (by kernel_rfl) rfl ?_
          refine jg_storeE 9 (a' := (Piece.mk x691.Element x691.Length v451.1 x691.Curve x691.Power)) rfl rfl h692.1 rfl (l1 rfl) rfl rfl rfl rfl fun y731 => ?_
          refine jg_L (r13 rfl) ?_
          refine jg_nil ?_
          refine jk_xf (by kernel_rfl) ?_
          refine jx1 (i := 36) (by kernel_rfl) (by kernel_rfl) rfl ?_
          refine jg_ix fun x751 h752 => ?_
          refine jg_y (fun w hs => yv_ix rfl rfl (hs.row 9 rfl) h752) rfl rfl ?_
          refine jg_nil ?_
          refine jk_xf (by kernel_rfl) ?_
          refine jx1 (i := 37) (by kernel_rfl) (by kernel_rfl) rfl ?_
          refine jg_y (fun w hs => yv_ef rfl (hs.row 9 rfl) h752.1) rfl rfl ?_
          refine jg_nil ?_
          refine jk_xf (by kernel_rfl) ?_
          refine jx1 (i := 38) (by kernel_rfl) (by kernel_rfl) rfl ?_
          refine jg_storeE 9 (a' := (Piece.mk x751.Element x751.Length x751.Grade x751.Curve v611.1)) rfl rfl h752.1 rfl (l1 rfl) rfl rfl rfl rfl fun y791 => ?_
          refine jg_L (r13 rfl) ?_
          refine jg_nil ?_
          refine jk_xf (by kernel_rfl) ?_
          refine jx0 [(1, _), (6, _), (7, _), (9, _), (10, _), (11, _), (12, _), (13, _)] ⟨rfl, rfl, rfl, rfl, rfl, rfl, rfl, rfl, trivial⟩ (by kernel_rfl) (by kernel_rfl) ?_
          refine jk_sel (is := [3, 4, 5, 6, 7, 8, 9, 10, 11, 12]) (s10 rfl) rfl ?_
          refine jk_bn ?_
          exact jk_use H27 (v611.2, y791, v18.1.Speed.Hi, v18.1.Class, v18.1.Targets, v21.1.Resist, v21.1.Targets) (q19.2, q22.1) [7, 8, 9, 6, 3, 4, 5, 0, 1, 2] ⟨rfl, rfl, rfl, rfl, rfl, rfl, rfl, rfl, trivial⟩ rfl rfl rfl
        refine jg_lit (enc := encI) [x531.Power, (-1), 1000000000, 1000000001] rfl rfl rfl rfl rfl rfl rfl rfl fun hd591 => ?_
        refine jg_nil ?_
        refine jk_xn [3, 4, 5, 6, 7, 8, 9, 10, 11] rfl ?_
        refine jx1 (i := 13) (by kernel_rfl) (by kernel_rfl) rfl ?_
        refine jl_c 12 rfl rfl (fun v w hs hm => gen_Maker_Pick_c hm (hs.blkL (i := 12) rfl) (hs.arg Rha0) (hs.offAL 12 Rha0 rfl) (hs.row 2 rfl) (hs.offLL 2 12 rfl rfl)) (fun _ => rfl) rfl rfl fun v291 q292 => ?_
        refine jg_L (r13 rfl) ?_
        refine jg_nil ?_
        refine jk_xn [3, 4, 5, 6, 7, 8, 9, 10, 11] rfl ?_
        refine jx1 (i := 21) (by kernel_rfl) (by kernel_rfl) rfl ?_
        refine jl_c 12 rfl rfl (fun v w hs hm => gen_Maker_Pick_c hm (hs.blkL (i := 12) rfl) (hs.arg Rha0) (hs.offAL 12 Rha0 rfl) (hs.row 1 rfl) (hs.offLL 1 12 rfl rfl)) (fun _ => rfl) rfl rfl fun v451 q452 => ?_
        refine jg_L (r13 rfl) ?_
        refine jg_nil ?_
        refine jk_xn [3, 4, 5, 6, 7, 8, 9, 10, 11] rfl ?_
        refine jx1 (i := 29) (by kernel_rfl) (by kernel_rfl) rfl ?_
        refine jl_c 12 rfl rfl (fun v w hs hm => gen_Maker_Pick_c hm (hs.blkL (i := 12) rfl) (hs.arg Rha0) (hs.offAL 12 Rha0 rfl) (hs.row 0 rfl) (hs.offLL 0 12 rfl rfl)) (fun _ => rfl) rfl rfl fun v611 q612 => ?_
        refine jg_L (r13 rfl) ?_
        refine jg_nil ?_
        refine jk_xn [3, 4, 5, 6, 7, 8, 9, 10, 11] rfl ?_
        refine jx_lin [3, 4, 5, 6, 7, 8, 9, 10, 11] 4265491968 4294967295 7 [0, 0, 0, 0, 0, 0, 0, 0, 0, 384, 896, 1920, 3968, 8128, 0, 0, 0, 98304, 229376, 491520, 1015808, 2097088, 0, 0, 0, 25165824, 58720256, 125829120, 260046848, 536870848, 1073741763, 2147483587, 4294967235, 8589934543, 17179869135, 34359738319, 68719476735, 137438953471, 274877906943] [(30, true), (31, true)] rfl (np_blk (np_seq (np_blk (np_seq (np_rnd (np_blk (np_seq np_rt))))))) (by kernel_rfl) (by kernel_rfl) (by kernel_rfl) (by kernel_rfl) (by kernel_rfl) (by kernel_rfl) (by kernel_rfl) (by kernel_rfl) (by kernel_rfl) ?_
        refine jd_ix fun x631 h632 => ?_
        refine jd_y rfl (fun w hs => yv_ix rfl rfl (hs.row 6 rfl) h632) rfl rfl ?_
        refine jd_y rfl (fun w hs => yv_ef rfl (hs.row 6 rfl) h632.1) rfl rfl ?_
        refine jd_x ?_
        refine jx1 (i := 32) (by kernel_rfl) (by kernel_rfl) rfl ?_
        refine jg_storeE 9 (a' := (Piece.mk x631.Element v291.1 x631.Grade x631.Curve x631.Power)) rfl rfl h632.1 rfl (l1 rfl) rfl rfl rfl rfl fun y671 => ?_
        refine jg_L (r13 rfl) ?_
        refine jg_nil ?_
        refine jk_xf (by kernel_rfl) ?_
        refine jx1 (i := 33) (by kernel_rfl) (by kernel_rfl) rfl ?_
        refine jg_ix fun x691 h692 => ?_
        refine jg_y (fun w hs => yv_ix rfl rfl (hs.row 9 rfl) h692) rfl rfl ?_
        refine jg_nil ?_
        refine jk_xf (by kernel_rfl) ?_
        refine jx1 (i := 34) (by kernel_rfl) (by kernel_rfl) rfl ?_
        refine jg_y (fun w hs => yv_ef rfl (hs.row 9 rfl) h692.1) rfl rfl ?_
        refine jg_nil ?_
        refine jk_xf (by kernel_rfl) ?_
        refine jx1 (i := 35) (by kernel_rfl) (by kernel_rfl) rfl ?_
        refine jg_storeE 9 (a' := (Piece.mk x691.Element x691.Length v451.1 x691.Curve x691.Power)) rfl rfl h692.1 rfl (l1 rfl) rfl rfl rfl rfl fun y731 => ?_
        refine jg_L (r13 rfl) ?_
        refine jg_nil ?_
        refine jk_xf (by kernel_rfl) ?_
        refine jx1 (i := 36) (by kernel_rfl) (by kernel_rfl) rfl ?_
        refine jg_ix fun x751 h752 => ?_
        refine jg_y (fun w hs => yv_ix rfl rfl (hs.row 9 rfl) h752) rfl rfl ?_
        refine jg_nil ?_
        refine jk_xf (by kernel_rfl) ?_
        refine jx1 (i := 37) (by kernel_rfl) (by kernel_rfl) rfl ?_
        refine jg_y (fun w hs => yv_ef rfl (hs.row 9 rfl) h752.1) rfl rfl ?_
        refine jg_nil ?_
        refine jk_xf (by kernel_rfl) ?_
        refine jx1 (i := 38) (by kernel_rfl) (by kernel_rfl) rfl ?_
        refine jg_storeE 9 (a' := (Piece.mk x751.Element x751.Length x751.Grade x751.Curve v611.1)) rfl rfl h752.1 rfl (l1 rfl) rfl rfl rfl rfl fun y791 => ?_
        refine jg_L (r13 rfl) ?_
        refine jg_nil ?_
        refine jk_xf (by kernel_rfl) ?_
        refine jx0 [(1, _), (6, _), (7, _), (9, _), (10, _), (11, _), (12, _), (13, _)] ⟨rfl, rfl, rfl, rfl, rfl, rfl, rfl, rfl, trivial⟩ (by kernel_rfl) (by kernel_rfl) ?_
        refine jk_sel (is := [3, 4, 5, 6, 7, 8, 9, 10, 11, 12]) (s10 rfl) rfl ?_
        refine jk_bn ?_
        exact jk_use H27 (v611.2, y791, v18.1.Speed.Hi, v18.1.Class, v18.1.Targets, v21.1.Resist, v21.1.Targets) (q19.2, q22.1) [7, 8, 9, 6, 3, 4, 5, 0, 1, 2] ⟨rfl, rfl, rfl, rfl, rfl, rfl, rfl, rfl, trivial⟩ rfl rfl rfl
      refine jg_lit (enc := encI) [x531.Power, (-1), 1000000000, 1000000001] rfl rfl rfl rfl rfl rfl rfl rfl fun hd591 => ?_
      refine jg_nil ?_
      refine jk_xn [2, 3, 4, 5, 6, 7, 8, 9, 10] rfl ?_
      refine jx2 (i := 13) (i2 := 20) (by kernel_rfl) (by kernel_rfl) rfl rfl ?_ ?_
      · refine jl_c 11 rfl rfl (fun v w hs hm => gen_Maker_Pick_c hm (hs.blkL (i := 11) rfl) (hs.arg Rha0) (hs.offAL 11 Rha0 rfl) (hs.row 1 rfl) (hs.offLL 1 11 rfl rfl)) (fun _ => rfl) rfl rfl fun v291 q292 => ?_
        refine jg_L (r12 rfl) ?_
        refine jg_nil ?_
        refine jk_xn [2, 3, 4, 5, 6, 7, 8, 9, 10] rfl ?_
        refine jx1 (i := 20) (by kernel_rfl) (by kernel_rfl) rfl ?_
        refine jg_lit (enc := encI) [x371.Grade, 10000, (-10001)] rfl rfl rfl rfl rfl rfl rfl rfl fun hd431 => ?_
        refine jg_nil ?_
        refine jk_xn [3, 4, 5, 6, 7, 8, 9, 10, 11] rfl ?_
        refine jx1 (i := 21) (by kernel_rfl) (by kernel_rfl) rfl ?_
        refine jl_c 12 rfl rfl (fun v w hs hm => gen_Maker_Pick_c hm (hs.blkL (i := 12) rfl) (hs.arg Rha0) (hs.offAL 12 Rha0 rfl) (hs.row 0 rfl) (hs.offLL 0 12 rfl rfl)) (fun _ => rfl) rfl rfl fun v451 q452 => ?_
        refine jg_L (r13 rfl) ?_
        refine jg_nil ?_
        refine jk_xn [3, 4, 5, 6, 7, 8, 9, 10, 11] rfl ?_
        refine jx1 (i := 29) (by kernel_rfl) (by kernel_rfl) rfl ?_
        refine jl_c 12 rfl rfl (fun v w hs hm => gen_Maker_Pick_c hm (hs.blkL (i := 12) rfl) (hs.arg Rha0) (hs.offAL 12 Rha0 rfl) (hs.row 1 rfl) (hs.offLL 1 12 rfl rfl)) (fun _ => rfl) rfl rfl fun v611 q612 => ?_
        refine jg_L (r13 rfl) ?_
        refine jg_nil ?_
        refine jk_xn [3, 4, 5, 6, 7, 8, 9, 10, 11] rfl ?_
        refine jx_lin [3, 4, 5, 6, 7, 8, 9, 10, 11] 4265491968 4294967295 7 [0, 0, 0, 0, 0, 0, 0, 0, 0, 384, 896, 1920, 3968, 8128, 0, 0, 0, 98304, 229376, 491520, 1015808, 2097088, 0, 0, 0, 25165824, 58720256, 125829120, 260046848, 536870848, 1073741763, 2147483587, 4294967235, 8589934543, 17179869135, 34359738319, 68719476735, 137438953471, 274877906943] [(30, true), (31, true)] rfl (np_blk (np_seq (np_blk (np_seq (np_rnd (np_blk (np_seq np_rt))))))) (by kernel_rfl) (by kernel_rfl) (by kernel_rfl) (by kernel_rfl) (by kernel_rfl) (by kernel_rfl) (by kernel_rfl) (by kernel_rfl) (by kernel_rfl) ?_
        refine jd_ix fun x631 h632 => ?_
        refine jd_y rfl (fun w hs => yv_ix rfl rfl (hs.row 6 rfl) h632) rfl rfl ?_
        refine jd_y rfl (fun w hs => yv_ef rfl (hs.row 6 rfl) h632.1) rfl rfl ?_
        refine jd_x ?_
        refine jx1 (i := 32) (by kernel_rfl) (by kernel_rfl) rfl ?_
        refine jg_storeE 9 (a' := (Piece.mk x631.Element v291.1 x631.Grade x631.Curve x631.Power)) rfl rfl h632.1 rfl (l1 rfl) rfl rfl rfl rfl fun y671 => ?_
        refine jg_L (r13 rfl) ?_
        refine jg_nil ?_
        refine jk_xf (by kernel_rfl) ?_
        refine jx1 (i := 33) (by kernel_rfl) (by kernel_rfl) rfl ?_
        refine jg_ix fun x691 h692 => ?_
        refine jg_y (fun w hs => yv_ix rfl rfl (hs.row 9 rfl) h692) rfl rfl ?_
        refine jg_nil ?_
        refine jk_xf (by kernel_rfl) ?_
        refine jx1 (i := 34) (by kernel_rfl) (by kernel_rfl) rfl ?_
        refine jg_y (fun w hs => yv_ef rfl (hs.row 9 rfl) h692.1) rfl rfl ?_
        refine jg_nil ?_
        refine jk_xf (by kernel_rfl) ?_
        refine jx1 (i := 35) (by kernel_rfl) (by kernel_rfl) rfl ?_
        refine jg_storeE 9 (a' := (Piece.mk x691.Element x691.Length v451.1 x691.Curve x691.Power)) rfl rfl h692.1 rfl (l1 rfl) rfl rfl rfl rfl fun y731 => ?_
        refine jg_L (r13 rfl) ?_
        refine jg_nil ?_
        refine jk_xf (by kernel_rfl) ?_
        refine jx1 (i := 36) (by kernel_rfl) (by kernel_rfl) rfl ?_
        refine jg_ix fun x751 h752 => ?_
        refine jg_y (fun w hs => yv_ix rfl rfl (hs.row 9 rfl) h752) rfl rfl ?_
        refine jg_nil ?_
        refine jk_xf (by kernel_rfl) ?_
        refine jx1 (i := 37) (by kernel_rfl) (by kernel_rfl) rfl ?_
        refine jg_y (fun w hs => yv_ef rfl (hs.row 9 rfl) h752.1) rfl rfl ?_
        refine jg_nil ?_
        refine jk_xf (by kernel_rfl) ?_
        refine jx1 (i := 38) (by kernel_rfl) (by kernel_rfl) rfl ?_
        refine jg_storeE 9 (a' := (Piece.mk x751.Element x751.Length x751.Grade x751.Curve v611.1)) rfl rfl h752.1 rfl (l1 rfl) rfl rfl rfl rfl fun y791 => ?_
        refine jg_L (r13 rfl) ?_
        refine jg_nil ?_
        refine jk_xf (by kernel_rfl) ?_
        refine jx0 [(1, _), (6, _), (7, _), (9, _), (10, _), (11, _), (12, _), (13, _)] ⟨rfl, rfl, rfl, rfl, rfl, rfl, rfl, rfl, trivial⟩ (by kernel_rfl) (by kernel_rfl) ?_
        refine jk_sel (is := [3, 4, 5, 6, 7, 8, 9, 10, 11, 12]) (s10 rfl) rfl ?_
        refine jk_bn ?_
        exact jk_use H27 (v611.2, y791, v18.1.Speed.Hi, v18.1.Class, v18.1.Targets, v21.1.Resist, v21.1.Targets) (q19.2, q22.1) [7, 8, 9, 6, 3, 4, 5, 0, 1, 2] ⟨rfl, rfl, rfl, rfl, rfl, rfl, rfl, rfl, trivial⟩ rfl rfl rfl
      refine jg_lit (enc := encI) [x371.Grade, 10000, (-10001)] rfl rfl rfl rfl rfl rfl rfl rfl fun hd431 => ?_
      refine jg_nil ?_
      refine jk_xn [3, 4, 5, 6, 7, 8, 9, 10, 11] rfl ?_
      refine jx1 (i := 13) (by kernel_rfl) (by kernel_rfl) rfl ?_
      refine jl_c 12 rfl rfl (fun v w hs hm => gen_Maker_Pick_c hm (hs.blkL (i := 12) rfl) (hs.arg Rha0) (hs.offAL 12 Rha0 rfl) (hs.row 2 rfl) (hs.offLL 2 12 rfl rfl)) (fun _ => rfl) rfl rfl fun v291 q292 => ?_
      refine jg_L (r13 rfl) ?_
      refine jg_nil ?_
      refine jk_xn [3, 4, 5, 6, 7, 8, 9, 10, 11] rfl ?_
      refine jx1 (i := 21) (by kernel_rfl) (by kernel_rfl) rfl ?_
      refine jl_c 12 rfl rfl (fun v w hs hm => gen_Maker_Pick_c hm (hs.blkL (i := 12) rfl) (hs.arg Rha0) (hs.offAL 12 Rha0 rfl) (hs.row 0 rfl) (hs.offLL 0 12 rfl rfl)) (fun _ => rfl) rfl rfl fun v451 q452 => ?_
      refine jg_L (r13 rfl) ?_
      refine jg_nil ?_
      refine jk_xn [3, 4, 5, 6, 7, 8, 9, 10, 11] rfl ?_
      refine jx1 (i := 29) (by kernel_rfl) (by kernel_rfl) rfl ?_
      refine jl_c 12 rfl rfl (fun v w hs hm => gen_Maker_Pick_c hm (hs.blkL (i := 12) rfl) (hs.arg Rha0) (hs.offAL 12 Rha0 rfl) (hs.row 1 rfl) (hs.offLL 1 12 rfl rfl)) (fun _ => rfl) rfl rfl fun v611 q612 => ?_
      refine jg_L (r13 rfl) ?_
      refine jg_nil ?_
      refine jk_xn [3, 4, 5, 6, 7, 8, 9, 10, 11] rfl ?_
      refine jx_lin [3, 4, 5, 6, 7, 8, 9, 10, 11] 4265491968 4294967295 7 [0, 0, 0, 0, 0, 0, 0, 0, 0, 384, 896, 1920, 3968, 8128, 0, 0, 0, 98304, 229376, 491520, 1015808, 2097088, 0, 0, 0, 25165824, 58720256, 125829120, 260046848, 536870848, 1073741763, 2147483587, 4294967235, 8589934543, 17179869135, 34359738319, 68719476735, 137438953471, 274877906943] [(30, true), (31, true)] rfl (np_blk (np_seq (np_blk (np_seq (np_rnd (np_blk (np_seq np_rt))))))) (by kernel_rfl) (by kernel_rfl) (by kernel_rfl) (by kernel_rfl) (by kernel_rfl) (by kernel_rfl) (by kernel_rfl) (by kernel_rfl) (by kernel_rfl) ?_
      refine jd_ix fun x631 h632 => ?_
      refine jd_y rfl (fun w hs => yv_ix rfl rfl (hs.row 6 rfl) h632) rfl rfl ?_
      refine jd_y rfl (fun w hs => yv_ef rfl (hs.row 6 rfl) h632.1) rfl rfl ?_
      refine jd_x ?_
      refine jx1 (i := 32) (by kernel_rfl) (by kernel_rfl) rfl ?_
      refine jg_storeE 9 (a' := (Piece.mk x631.Element v291.1 x631.Grade x631.Curve x631.Power)) rfl rfl h632.1 rfl (l1 rfl) rfl rfl rfl rfl fun y671 => ?_
      refine jg_L (r13 rfl) ?_
      refine jg_nil ?_
      refine jk_xf (by kernel_rfl) ?_
      refine jx1 (i := 33) (by kernel_rfl) (by kernel_rfl) rfl ?_
      refine jg_ix fun x691 h692 => ?_
      refine jg_y (fun w hs => yv_ix rfl rfl (hs.row 9 rfl) h692) rfl rfl ?_
      refine jg_nil ?_
      refine jk_xf (by kernel_rfl) ?_
      refine jx1 (i := 34) (by kernel_rfl) (by kernel_rfl) rfl ?_
      refine jg_y (fun w hs => yv_ef rfl (hs.row 9 rfl) h692.1) rfl rfl ?_
      refine jg_nil ?_
      refine jk_xf (by kernel_rfl) ?_
      refine jx1 (i := 35) (by kernel_rfl) (by kernel_rfl) rfl ?_
      refine jg_storeE 9 (a' := (Piece.mk x691.Element x691.Length v451.1 x691.Curve x691.Power)) rfl rfl h692.1 rfl (l1 rfl) rfl rfl rfl rfl fun y731 => ?_
      refine jg_L (r13 rfl) ?_
      refine jg_nil ?_
      refine jk_xf (by kernel_rfl) ?_
      refine jx1 (i := 36) (by kernel_rfl) (by kernel_rfl) rfl ?_
      refine jg_ix fun x751 h752 => ?_
      refine jg_y (fun w hs => yv_ix rfl rfl (hs.row 9 rfl) h752) rfl rfl ?_
      refine jg_nil ?_
      refine jk_xf (by kernel_rfl) ?_
      refine jx1 (i := 37) (by kernel_rfl) (by kernel_rfl) rfl ?_
      refine jg_y (fun w hs => yv_ef rfl (hs.row 9 rfl) h752.1) rfl rfl ?_
      refine jg_nil ?_
      refine jk_xf (by kernel_rfl) ?_
      refine jx1 (i := 38) (by kernel_rfl) (by kernel_rfl) rfl ?_
      refine jg_storeE 9 (a' := (Piece.mk x751.Element x751.Length x751.Grade x751.Curve v611.1)) rfl rfl h752.1 rfl (l1 rfl) rfl rfl rfl rfl fun y791 => ?_
      refine jg_L (r13 rfl) ?_
      refine jg_nil ?_
      refine jk_xf (by kernel_rfl) ?_
      refine jx0 [(1, _), (6, _), (7, _), (9, _), (10, _), (11, _), (12, _), (13, _)] ⟨rfl, rfl, rfl, rfl, rfl, rfl, rfl, rfl, trivial⟩ (by kernel_rfl) (by kernel_rfl) ?_
      refine jk_sel (is := [3, 4, 5, 6, 7, 8, 9, 10, 11, 12]) (s10 rfl) rfl ?_
      refine jk_bn ?_
      exact jk_use H27 (v611.2, y791, v18.1.Speed.Hi, v18.1.Class, v18.1.Targets, v21.1.Resist, v21.1.Targets) (q19.2, q22.1) [7, 8, 9, 6, 3, 4, 5, 0, 1, 2] ⟨rfl, rfl, rfl, rfl, rfl, rfl, rfl, rfl, trivial⟩ rfl rfl rfl
    · refine jg_lit (enc := encI) [x371.Grade, 10000, (-10001)] rfl rfl rfl rfl rfl rfl rfl rfl fun hd431 => ?_
      refine jg_nil ?_
      refine jk_xn [1, 2, 3, 4, 5, 6, 7, 8, 9] rfl ?_
      refine jx2 (i := 12) (i2 := 28) (by kernel_rfl) (by kernel_rfl) rfl rfl ?_ ?_
      · refine jg_lit (enc := encI) [x211.Length, 0, 1000000, 1000001] rfl rfl rfl rfl rfl rfl rfl rfl fun hd271 => ?_
        refine jg_nil ?_
        refine jk_xn [2, 3, 4, 5, 6, 7, 8, 9, 10] rfl ?_
        refine jx2 (i := 13) (i2 := 28) (by kernel_rfl) (by kernel_rfl) rfl rfl ?_ ?_
        · refine jl_c 11 rfl rfl (fun v w hs hm => gen_Maker_Pick_c hm (hs.blkL (i := 11) rfl) (hs.arg Rha0) (hs.offAL 11 Rha0 rfl) (hs.row 0 rfl) (hs.offLL 0 11 rfl rfl)) (fun _ => rfl) rfl rfl fun v291 q292 => ?_
          refine jg_L (r12 rfl) ?_
          refine jg_nil ?_
          refine jk_xn [2, 3, 4, 5, 6, 7, 8, 9, 10] rfl ?_
          refine jx2 (i := 21) (i2 := 28) (by kernel_rfl) (by kernel_rfl) rfl rfl ?_ ?_
          · refine jl_c 11 rfl rfl (fun v w hs hm => gen_Maker_Pick_c hm (hs.blkL (i := 11) rfl) (hs.arg Rha0) (hs.offAL 11 Rha0 rfl) (hs.row 1 rfl) (hs.offLL 1 11 rfl rfl)) (fun _ => rfl) rfl rfl fun v451 q452 => ?_
            refine jg_L (r12 rfl) ?_
            refine jg_nil ?_
            refine jk_xn [2, 3, 4, 5, 6, 7, 8, 9, 10] rfl ?_
            refine jx1 (i := 28) (by kernel_rfl) (by kernel_rfl) rfl ?_
            refine jg_lit (enc := encI) [x531.Power, (-1), 1000000000, 1000000001] rfl rfl rfl rfl rfl rfl rfl rfl fun hd591 => ?_
            refine jg_nil ?_
            refine jk_xn [3, 4, 5, 6, 7, 8, 9, 10, 11] rfl ?_
            refine jx1 (i := 29) (by kernel_rfl) (by kernel_rfl) rfl ?_
            refine jl_c 12 rfl rfl (fun v w hs hm => gen_Maker_Pick_c hm (hs.blkL (i := 12) rfl) (hs.arg Rha0) (hs.offAL 12 Rha0 rfl) (hs.row 0 rfl) (hs.offLL 0 12 rfl rfl)) (fun _ => rfl) rfl rfl fun v611 q612 => ?_
            refine jg_L (r13 rfl) ?_
            refine jg_nil ?_
            refine jk_xn [3, 4, 5, 6, 7, 8, 9, 10, 11] rfl ?_
            refine jx_lin [3, 4, 5, 6, 7, 8, 9, 10, 11] 4265491968 4294967295 7 [0, 0, 0, 0, 0, 0, 0, 0, 0, 384, 896, 1920, 3968, 8128, 0, 0, 0, 98304, 229376, 491520, 1015808, 2097088, 0, 0, 0, 25165824, 58720256, 125829120, 260046848, 536870848, 1073741763, 2147483587, 4294967235, 8589934543, 17179869135, 34359738319, 68719476735, 137438953471, 274877906943] [(30, true), (31, true)] rfl (np_blk (np_seq (np_blk (np_seq (np_rnd (np_blk (np_seq np_rt))))))) (by kernel_rfl) (by kernel_rfl) (by kernel_rfl) (by kernel_rfl) (by kernel_rfl) (by kernel_rfl) (by kernel_rfl) (by kernel_rfl) (by kernel_rfl) ?_
            refine jd_ix fun x631 h632 => ?_
            refine jd_y rfl (fun w hs => yv_ix rfl rfl (hs.row 6 rfl) h632) rfl rfl ?_
            refine jd_y rfl (fun w hs => yv_ef rfl (hs.row 6 rfl) h632.1) rfl rfl ?_
            refine jd_x ?_
            refine jx1 (i := 32) (by kernel_rfl) (by kernel_rfl) rfl ?_
            refine jg_storeE 9 (a' := (Piece.mk x631.Element v291.1 x631.Grade x631.Curve x631.Power)) rfl rfl h632.1 rfl (l1 rfl) rfl rfl rfl rfl fun y671 => ?_
            refine jg_L (r13 rfl) ?_
            refine jg_nil ?_
            refine jk_xf (by kernel_rfl) ?_
            refine jx1 (i := 33) (by kernel_rfl) (by kernel_rfl) rfl ?_
            refine jg_ix fun x691 h692 => ?_
            refine jg_y (fun w hs => yv_ix rfl rfl (hs.row 9 rfl) h692) rfl rfl ?_
            refine jg_nil ?_
            refine jk_xf (by kernel_rfl) ?_
            refine jx1 (i := 34) (by kernel_rfl) (by kernel_rfl) rfl ?_
            refine jg_y (fun w hs => yv_ef rfl (hs.row 9 rfl) h692.1) rfl rfl ?_
            refine jg_nil ?_
            refine jk_xf (by kernel_rfl) ?_
            refine jx1 (i := 35) (by kernel_rfl) (by kernel_rfl) rfl ?_
            refine jg_storeE 9 (a' := (Piece.mk x691.Element x691.Length v451.1 x691.Curve x691.Power)) rfl rfl h692.1 rfl (l1 rfl) rfl rfl rfl rfl fun y731 => ?_
            refine jg_L (r13 rfl) ?_
            refine jg_nil ?_
            refine jk_xf (by kernel_rfl) ?_
            refine jx1 (i := 36) (by kernel_rfl) (by kernel_rfl) rfl ?_
            refine jg_ix fun x751 h752 => ?_
            refine jg_y (fun w hs => yv_ix rfl rfl (hs.row 9 rfl) h752) rfl rfl ?_
            refine jg_nil ?_
            refine jk_xf (by kernel_rfl) ?_
            refine jx1 (i := 37) (by kernel_rfl) (by kernel_rfl) rfl ?_
            refine jg_y (fun w hs => yv_ef rfl (hs.row 9 rfl) h752.1) rfl rfl ?_
            refine jg_nil ?_
            refine jk_xf (by kernel_rfl) ?_
            refine jx1 (i := 38) (by kernel_rfl) (by kernel_rfl) rfl ?_
            refine jg_storeE 9 (a' := (Piece.mk x751.Element x751.Length x751.Grade x751.Curve v611.1)) rfl rfl h752.1 rfl (l1 rfl) rfl rfl rfl rfl fun y791 => ?_
            refine jg_L (r13 rfl) ?_
            refine jg_nil ?_
            refine jk_xf (by kernel_rfl) ?_
            refine jx0 [(1, _), (6, _), (7, _), (9, _), (10, _), (11, _), (12, _), (13, _)] ⟨rfl, rfl, rfl, rfl, rfl, rfl, rfl, rfl, trivial⟩ (by kernel_rfl) (by kernel_rfl) ?_
            refine jk_sel (is := [3, 4, 5, 6, 7, 8, 9, 10, 11, 12]) (s10 rfl) rfl ?_
            refine jk_bn ?_
            exact jk_use H27 (v611.2, y791, v18.1.Speed.Hi, v18.1.Class, v18.1.Targets, v21.1.Resist, v21.1.Targets) (q19.2, q22.1) [7, 8, 9, 6, 3, 4, 5, 0, 1, 2] ⟨rfl, rfl, rfl, rfl, rfl, rfl, rfl, rfl, trivial⟩ rfl rfl rfl
          refine jg_lit (enc := encI) [x531.Power, (-1), 1000000000, 1000000001] rfl rfl rfl rfl rfl rfl rfl rfl fun hd591 => ?_
          refine jg_nil ?_
          refine jk_xn [3, 4, 5, 6, 7, 8, 9, 10, 11] rfl ?_
          refine jx1 (i := 21) (by kernel_rfl) (by kernel_rfl) rfl ?_
          refine jl_c 12 rfl rfl (fun v w hs hm => gen_Maker_Pick_c hm (hs.blkL (i := 12) rfl) (hs.arg Rha0) (hs.offAL 12 Rha0 rfl) (hs.row 2 rfl) (hs.offLL 2 12 rfl rfl)) (fun _ => rfl) rfl rfl fun v451 q452 => ?_
          refine jg_L (r13 rfl) ?_
          refine jg_nil ?_
          refine jk_xn [3, 4, 5, 6, 7, 8, 9, 10, 11] rfl ?_
          refine jx1 (i := 29) (by kernel_rfl) (by kernel_rfl) rfl ?_
          refine jl_c 12 rfl rfl (fun v w hs hm => gen_Maker_Pick_c hm (hs.blkL (i := 12) rfl) (hs.arg Rha0) (hs.offAL 12 Rha0 rfl) (hs.row 0 rfl) (hs.offLL 0 12 rfl rfl)) (fun _ => rfl) rfl rfl fun v611 q612 => ?_
          refine jg_L (r13 rfl) ?_
          refine jg_nil ?_
          refine jk_xn [3, 4, 5, 6, 7, 8, 9, 10, 11] rfl ?_
          refine jx_lin [3, 4, 5, 6, 7, 8, 9, 10, 11] 4265491968 4294967295 7 [0, 0, 0, 0, 0, 0, 0, 0, 0, 384, 896, 1920, 3968, 8128, 0, 0, 0, 98304, 229376, 491520, 1015808, 2097088, 0, 0, 0, 25165824, 58720256, 125829120, 260046848, 536870848, 1073741763, 2147483587, 4294967235, 8589934543, 17179869135, 34359738319, 68719476735, 137438953471, 274877906943] [(30, true), (31, true)] rfl (np_blk (np_seq (np_blk (np_seq (np_rnd (np_blk (np_seq np_rt))))))) (by kernel_rfl) (by kernel_rfl) (by kernel_rfl) (by kernel_rfl) (by kernel_rfl) (by kernel_rfl) (by kernel_rfl) (by kernel_rfl) (by kernel_rfl) ?_
          refine jd_ix fun x631 h632 => ?_
          refine jd_y rfl (fun w hs => yv_ix rfl rfl (hs.row 6 rfl) h632) rfl rfl ?_
          refine jd_y rfl (fun w hs => yv_ef rfl (hs.row 6 rfl) h632.1) rfl rfl ?_
          refine jd_x ?_
          refine jx1 (i := 32) (by kernel_rfl) (by kernel_rfl) rfl ?_
          refine jg_storeE 9 (a' := (Piece.mk x631.Element v291.1 x631.Grade x631.Curve x631.Power)) rfl rfl h632.1 rfl (l1 rfl) rfl rfl rfl rfl fun y671 => ?_
          refine jg_L (r13 rfl) ?_
          refine jg_nil ?_
          refine jk_xf (by kernel_rfl) ?_
          refine jx1 (i := 33) (by kernel_rfl) (by kernel_rfl) rfl ?_
          refine jg_ix fun x691 h692 => ?_
          refine jg_y (fun w hs => yv_ix rfl rfl (hs.row 9 rfl) h692) rfl rfl ?_
          refine jg_nil ?_
          refine jk_xf (by kernel_rfl) ?_
          refine jx1 (i := 34) (by kernel_rfl) (by kernel_rfl) rfl ?_
          refine jg_y (fun w hs => yv_ef rfl (hs.row 9 rfl) h692.1) rfl rfl ?_
          refine jg_nil ?_
          refine jk_xf (by kernel_rfl) ?_
          refine jx1 (i := 35) (by kernel_rfl) (by kernel_rfl) rfl ?_
          refine jg_storeE 9 (a' := (Piece.mk x691.Element x691.Length v451.1 x691.Curve x691.Power)) rfl rfl h692.1 rfl (l1 rfl) rfl rfl rfl rfl fun y731 => ?_
          refine jg_L (r13 rfl) ?_
          refine jg_nil ?_
          refine jk_xf (by kernel_rfl) ?_
          refine jx1 (i := 36) (by kernel_rfl) (by kernel_rfl) rfl ?_
          refine jg_ix fun x751 h752 => ?_
          refine jg_y (fun w hs => yv_ix rfl rfl (hs.row 9 rfl) h752) rfl rfl ?_
          refine jg_nil ?_
          refine jk_xf (by kernel_rfl) ?_
          refine jx1 (i := 37) (by kernel_rfl) (by kernel_rfl) rfl ?_
          refine jg_y (fun w hs => yv_ef rfl (hs.row 9 rfl) h752.1) rfl rfl ?_
          refine jg_nil ?_
          refine jk_xf (by kernel_rfl) ?_
          refine jx1 (i := 38) (by kernel_rfl) (by kernel_rfl) rfl ?_
          refine jg_storeE 9 (a' := (Piece.mk x751.Element x751.Length x751.Grade x751.Curve v611.1)) rfl rfl h752.1 rfl (l1 rfl) rfl rfl rfl rfl fun y791 => ?_
          refine jg_L (r13 rfl) ?_
          refine jg_nil ?_
          refine jk_xf (by kernel_rfl) ?_
          refine jx0 [(1, _), (6, _), (7, _), (9, _), (10, _), (11, _), (12, _), (13, _)] ⟨rfl, rfl, rfl, rfl, rfl, rfl, rfl, rfl, trivial⟩ (by kernel_rfl) (by kernel_rfl) ?_
          refine jk_sel (is := [3, 4, 5, 6, 7, 8, 9, 10, 11, 12]) (s10 rfl) rfl ?_
          refine jk_bn ?_
          exact jk_use H27 (v611.2, y791, v18.1.Speed.Hi, v18.1.Class, v18.1.Targets, v21.1.Resist, v21.1.Targets) (q19.2, q22.1) [7, 8, 9, 6, 3, 4, 5, 0, 1, 2] ⟨rfl, rfl, rfl, rfl, rfl, rfl, rfl, rfl, trivial⟩ rfl rfl rfl
        refine jg_lit (enc := encI) [x531.Power, (-1), 1000000000, 1000000001] rfl rfl rfl rfl rfl rfl rfl rfl fun hd591 => ?_
        refine jg_nil ?_
        refine jk_xn [3, 4, 5, 6, 7, 8, 9, 10, 11] rfl ?_
        refine jx1 (i := 13) (by kernel_rfl) (by kernel_rfl) rfl ?_
        refine jl_c 12 rfl rfl (fun v w hs hm => gen_Maker_Pick_c hm (hs.blkL (i := 12) rfl) (hs.arg Rha0) (hs.offAL 12 Rha0 rfl) (hs.row 1 rfl) (hs.offLL 1 12 rfl rfl)) (fun _ => rfl) rfl rfl fun v291 q292 => ?_
        refine jg_L (r13 rfl) ?_
        refine jg_nil ?_
        refine jk_xn [3, 4, 5, 6, 7, 8, 9, 10, 11] rfl ?_
        refine jx1 (i := 21) (by kernel_rfl) (by kernel_rfl) rfl ?_
        refine jl_c 12 rfl rfl (fun v w hs hm => gen_Maker_Pick_c hm (hs.blkL (i := 12) rfl) (hs.arg Rha0) (hs.offAL 12 Rha0 rfl) (hs.row 2 rfl) (hs.offLL 2 12 rfl rfl)) (fun _ => rfl) rfl rfl fun v451 q452 => ?_
        refine jg_L (r13 rfl) ?_
        refine jg_nil ?_
        refine jk_xn [3, 4, 5, 6, 7, 8, 9, 10, 11] rfl ?_
        refine jx1 (i := 29) (by kernel_rfl) (by kernel_rfl) rfl ?_
        refine jl_c 12 rfl rfl (fun v w hs hm => gen_Maker_Pick_c hm (hs.blkL (i := 12) rfl) (hs.arg Rha0) (hs.offAL 12 Rha0 rfl) (hs.row 0 rfl) (hs.offLL 0 12 rfl rfl)) (fun _ => rfl) rfl rfl fun v611 q612 => ?_
        refine jg_L (r13 rfl) ?_
        refine jg_nil ?_
        refine jk_xn [3, 4, 5, 6, 7, 8, 9, 10, 11] rfl ?_
        refine jx_lin [3, 4, 5, 6, 7, 8, 9, 10, 11] 4265491968 4294967295 7 [0, 0, 0, 0, 0, 0, 0, 0, 0, 384, 896, 1920, 3968, 8128, 0, 0, 0, 98304, 229376, 491520, 1015808, 2097088, 0, 0, 0, 25165824, 58720256, 125829120, 260046848, 536870848, 1073741763, 2147483587, 4294967235, 8589934543, 17179869135, 34359738319, 68719476735, 137438953471, 274877906943] [(30, true), (31, true)] rfl (np_blk (np_seq (np_blk (np_seq (np_rnd (np_blk (np_seq np_rt))))))) (by kernel_rfl) (by kernel_rfl) (by kernel_rfl) (by kernel_rfl) (by kernel_rfl) (by kernel_rfl) (by kernel_rfl) (by kernel_rfl) (by kernel_rfl) ?_
        refine jd_ix fun x631 h632 => ?_
        refine jd_y rfl (fun w hs => yv_ix rfl rfl (hs.row 6 rfl) h632) rfl rfl ?_
        refine jd_y rfl (fun w hs => yv_ef rfl (hs.row 6 rfl) h632.1) rfl rfl ?_
        refine jd_x ?_
        refine jx1 (i := 32) (by kernel_rfl) (by kernel_rfl) rfl ?_
        refine jg_storeE 9 (a' := (Piece.mk x631.Element v291.1 x631.Grade x631.Curve x631.Power)) rfl rfl h632.1 rfl (l1 rfl) rfl rfl rfl rfl fun y671 => ?_
        refine jg_L (r13 rfl) ?_
        refine jg_nil ?_
        refine jk_xf (by kernel_rfl) ?_
        refine jx1 (i := 33) (by kernel_rfl) (by kernel_rfl) rfl ?_
        refine jg_ix fun x691 h692 => ?_
        refine jg_y (fun w hs => yv_ix rfl rfl (hs.row 9 rfl) h692) rfl rfl ?_
        refine jg_nil ?_
        refine jk_xf (by kernel_rfl) ?_
        refine jx1 (i := 34) (by kernel_rfl) (by kernel_rfl) rfl ?_
        refine jg_y (fun w hs => yv_ef rfl (hs.row 9 rfl) h692.1) rfl rfl ?_
        refine jg_nil ?_
        refine jk_xf (by kernel_rfl) ?_
        refine jx1 (i := 35) (by kernel_rfl) (by kernel_rfl) rfl ?_
        refine jg_storeE 9 (a' := (Piece.mk x691.Element x691.Length v451.1 x691.Curve x691.Power)) rfl rfl h692.1 rfl (l1 rfl) rfl rfl rfl rfl fun y731 => ?_
        refine jg_L (r13 rfl) ?_
        refine jg_nil ?_
        refine jk_xf (by kernel_rfl) ?_
        refine jx1 (i := 36) (by kernel_rfl) (by kernel_rfl) rfl ?_
        refine jg_ix fun x751 h752 => ?_
        refine jg_y (fun w hs => yv_ix rfl rfl (hs.row 9 rfl) h752) rfl rfl ?_
        refine jg_nil ?_
        refine jk_xf (by kernel_rfl) ?_
        refine jx1 (i := 37) (by kernel_rfl) (by kernel_rfl) rfl ?_
        refine jg_y (fun w hs => yv_ef rfl (hs.row 9 rfl) h752.1) rfl rfl ?_
        refine jg_nil ?_
        refine jk_xf (by kernel_rfl) ?_
        refine jx1 (i := 38) (by kernel_rfl) (by kernel_rfl) rfl ?_
        refine jg_storeE 9 (a' := (Piece.mk x751.Element x751.Length x751.Grade x751.Curve v611.1)) rfl rfl h752.1 rfl (l1 rfl) rfl rfl rfl rfl fun y791 => ?_
        refine jg_L (r13 rfl) ?_
        refine jg_nil ?_
        refine jk_xf (by kernel_rfl) ?_
        refine jx0 [(1, _), (6, _), (7, _), (9, _), (10, _), (11, _), (12, _), (13, _)] ⟨rfl, rfl, rfl, rfl, rfl, rfl, rfl, rfl, trivial⟩ (by kernel_rfl) (by kernel_rfl) ?_
        refine jk_sel (is := [3, 4, 5, 6, 7, 8, 9, 10, 11, 12]) (s10 rfl) rfl ?_
        refine jk_bn ?_
        exact jk_use H27 (v611.2, y791, v18.1.Speed.Hi, v18.1.Class, v18.1.Targets, v21.1.Resist, v21.1.Targets) (q19.2, q22.1) [7, 8, 9, 6, 3, 4, 5, 0, 1, 2] ⟨rfl, rfl, rfl, rfl, rfl, rfl, rfl, rfl, trivial⟩ rfl rfl rfl
      refine jg_lit (enc := encI) [x531.Power, (-1), 1000000000, 1000000001] rfl rfl rfl rfl rfl rfl rfl rfl fun hd591 => ?_
      refine jg_nil ?_
      refine jk_xn [2, 3, 4, 5, 6, 7, 8, 9, 10] rfl ?_
      refine jx1 (i := 12) (by kernel_rfl) (by kernel_rfl) rfl ?_
      refine jg_lit (enc := encI) [x211.Length, 0, 1000000, 1000001] rfl rfl rfl rfl rfl rfl rfl rfl fun hd271 => ?_
      refine jg_nil ?_
      refine jk_xn [3, 4, 5, 6, 7, 8, 9, 10, 11] rfl ?_
      refine jx1 (i := 13) (by kernel_rfl) (by kernel_rfl) rfl ?_
      refine jl_c 12 rfl rfl (fun v w hs hm => gen_Maker_Pick_c hm (hs.blkL (i := 12) rfl) (hs.arg Rha0) (hs.offAL 12 Rha0 rfl) (hs.row 0 rfl) (hs.offLL 0 12 rfl rfl)) (fun _ => rfl) rfl rfl fun v291 q292 => ?_
      refine jg_L (r13 rfl) ?_
      refine jg_nil ?_
      refine jk_xn [3, 4, 5, 6, 7, 8, 9, 10, 11] rfl ?_
      refine jx1 (i := 21) (by kernel_rfl) (by kernel_rfl) rfl ?_
      refine jl_c 12 rfl rfl (fun v w hs hm => gen_Maker_Pick_c hm (hs.blkL (i := 12) rfl) (hs.arg Rha0) (hs.offAL 12 Rha0 rfl) (hs.row 2 rfl) (hs.offLL 2 12 rfl rfl)) (fun _ => rfl) rfl rfl fun v451 q452 => ?_
      refine jg_L (r13 rfl) ?_
      refine jg_nil ?_
      refine jk_xn [3, 4, 5, 6, 7, 8, 9, 10, 11] rfl ?_
      refine jx1 (i := 29) (by kernel_rfl) (by kernel_rfl) rfl ?_
      refine jl_c 12 rfl rfl (fun v w hs hm => gen_Maker_Pick_c hm (hs.blkL (i := 12) rfl) (hs.arg Rha0) (hs.offAL 12 Rha0 rfl) (hs.row 1 rfl) (hs.offLL 1 12 rfl rfl)) (fun _ => rfl) rfl rfl fun v611 q612 => ?_
      refine jg_L (r13 rfl) ?_
      refine jg_nil ?_
      refine jk_xn [3, 4, 5, 6, 7, 8, 9, 10, 11] rfl ?_
      refine jx_lin [3, 4, 5, 6, 7, 8, 9, 10, 11] 4265491968 4294967295 7 [0, 0, 0, 0, 0, 0, 0, 0, 0, 384, 896, 1920, 3968, 8128, 0, 0, 0, 98304, 229376, 491520, 1015808, 2097088, 0, 0, 0, 25165824, 58720256, 125829120, 260046848, 536870848, 1073741763, 2147483587, 4294967235, 8589934543, 17179869135, 34359738319, 68719476735, 137438953471, 274877906943] [(30, true), (31, true)] rfl (np_blk (np_seq (np_blk (np_seq (np_rnd (np_blk (np_seq np_rt))))))) (by kernel_rfl) (by kernel_rfl) (by kernel_rfl) (by kernel_rfl) (by kernel_rfl) (by kernel_rfl) (by kernel_rfl) (by kernel_rfl) (by kernel_rfl) ?_
      refine jd_ix fun x631 h632 => ?_
      refine jd_y rfl (fun w hs => yv_ix rfl rfl (hs.row 6 rfl) h632) rfl rfl ?_
      refine jd_y rfl (fun w hs => yv_ef rfl (hs.row 6 rfl) h632.1) rfl rfl ?_
      refine jd_x ?_
      refine jx1 (i := 32) (by kernel_rfl) (by kernel_rfl) rfl ?_
      refine jg_storeE 9 (a' := (Piece.mk x631.Element v291.1 x631.Grade x631.Curve x631.Power)) rfl rfl h632.1 rfl (l1 rfl) rfl rfl rfl rfl fun y671 => ?_
      refine jg_L (r13 rfl) ?_
      refine jg_nil ?_
      refine jk_xf (by kernel_rfl) ?_
      refine jx1 (i := 33) (by kernel_rfl) (by kernel_rfl) rfl ?_
      refine jg_ix fun x691 h692 => ?_
      refine jg_y (fun w hs => yv_ix rfl rfl (hs.row 9 rfl) h692) rfl rfl ?_
      refine jg_nil ?_
      refine jk_xf (by kernel_rfl) ?_
      refine jx1 (i := 34) (by kernel_rfl) (by kernel_rfl) rfl ?_
      refine jg_y (fun w hs => yv_ef rfl (hs.row 9 rfl) h692.1) rfl rfl ?_
      refine jg_nil ?_
      refine jk_xf (by kernel_rfl) ?_
      refine jx1 (i := 35) (by kernel_rfl) (by kernel_rfl) rfl ?_
      refine jg_storeE 9 (a' := (Piece.mk x691.Element x691.Length v451.1 x691.Curve x691.Power)) rfl rfl h692.1 rfl (l1 rfl) rfl rfl rfl rfl fun y731 => ?_
      refine jg_L (r13 rfl) ?_
      refine jg_nil ?_
      refine jk_xf (by kernel_rfl) ?_
      refine jx1 (i := 36) (by kernel_rfl) (by kernel_rfl) rfl ?_
      refine jg_ix fun x751 h752 => ?_
      refine jg_y (fun w hs => yv_ix rfl rfl (hs.row 9 rfl) h752) rfl rfl ?_
      refine jg_nil ?_
      refine jk_xf (by kernel_rfl) ?_
      refine jx1 (i := 37) (by kernel_rfl) (by kernel_rfl) rfl ?_
      refine jg_y (fun w hs => yv_ef rfl (hs.row 9 rfl) h752.1) rfl rfl ?_
      refine jg_nil ?_
      refine jk_xf (by kernel_rfl) ?_
      refine jx1 (i := 38) (by kernel_rfl) (by kernel_rfl) rfl ?_
      refine jg_storeE 9 (a' := (Piece.mk x751.Element x751.Length x751.Grade x751.Curve v611.1)) rfl rfl h752.1 rfl (l1 rfl) rfl rfl rfl rfl fun y791 => ?_
      refine jg_L (r13 rfl) ?_
      refine jg_nil ?_
      refine jk_xf (by kernel_rfl) ?_
      refine jx0 [(1, _), (6, _), (7, _), (9, _), (10, _), (11, _), (12, _), (13, _)] ⟨rfl, rfl, rfl, rfl, rfl, rfl, rfl, rfl, trivial⟩ (by kernel_rfl) (by kernel_rfl) ?_
      refine jk_sel (is := [3, 4, 5, 6, 7, 8, 9, 10, 11, 12]) (s10 rfl) rfl ?_
      refine jk_bn ?_
      exact jk_use H27 (v611.2, y791, v18.1.Speed.Hi, v18.1.Class, v18.1.Targets, v21.1.Resist, v21.1.Targets) (q19.2, q22.1) [7, 8, 9, 6, 3, 4, 5, 0, 1, 2] ⟨rfl, rfl, rfl, rfl, rfl, rfl, rfl, rfl, trivial⟩ rfl rfl rfl
    refine jg_lit (enc := encI) [x531.Power, (-1), 1000000000, 1000000001] rfl rfl rfl rfl rfl rfl rfl rfl fun hd591 => ?_
    refine jg_nil ?_
    refine jk_xn [1, 2, 3, 4, 5, 6, 7, 8, 9] rfl ?_
    refine jx2 (i := 12) (i2 := 20) (by kernel_rfl) (by kernel_rfl) rfl rfl ?_ ?_
    · refine jg_lit (enc := encI) [x211.Length, 0, 1000000, 1000001] rfl rfl rfl rfl rfl rfl rfl rfl fun hd271 => ?_
      refine jg_nil ?_
      refine jk_xn [2, 3, 4, 5, 6, 7, 8, 9, 10] rfl ?_
      refine jx2 (i := 13) (i2 := 20) (by kernel_rfl) (by kernel_rfl) rfl rfl ?_ ?_
      · refine jl_c 11 rfl rfl (fun v w hs hm => gen_Maker_Pick_c hm (hs.blkL (i := 11) rfl) (hs.arg Rha0) (hs.offAL 11 Rha0 rfl) (hs.row 0 rfl) (hs.offLL 0 11 rfl rfl)) (fun _ => rfl) rfl rfl fun v291 q292 => ?_
        refine jg_L (r12 rfl) ?_
        refine jg_nil ?_
        refine jk_xn [2, 3, 4, 5, 6, 7, 8, 9, 10] rfl ?_
        refine jx1 (i := 20) (by kernel_rfl) (by kernel_rfl) rfl ?_
        refine jg_lit (enc := encI) [x371.Grade, 10000, (-10001)] rfl rfl rfl rfl rfl rfl rfl rfl fun hd431 => ?_
        refine jg_nil ?_
        refine jk_xn [3, 4, 5, 6, 7, 8, 9, 10, 11] rfl ?_
        refine jx1 (i := 21) (by kernel_rfl) (by kernel_rfl) rfl ?_
        refine jl_c 12 rfl rfl (fun v w hs hm => gen_Maker_Pick_c hm (hs.blkL (i := 12) rfl) (hs.arg Rha0) (hs.offAL 12 Rha0 rfl) (hs.row 0 rfl) (hs.offLL 0 12 rfl rfl)) (fun _ => rfl) rfl rfl fun v451 q452 => ?_
        refine jg_L (r13 rfl) ?_
        refine jg_nil ?_
        refine jk_xn [3, 4, 5, 6, 7, 8, 9, 10, 11] rfl ?_
        refine jx1 (i := 29) (by kernel_rfl) (by kernel_rfl) rfl ?_
        refine jl_c 12 rfl rfl (fun v w hs hm => gen_Maker_Pick_c hm (hs.blkL (i := 12) rfl) (hs.arg Rha0) (hs.offAL 12 Rha0 rfl) (hs.row 2 rfl) (hs.offLL 2 12 rfl rfl)) (fun _ => rfl) rfl rfl fun v611 q612 => ?_
        refine jg_L (r13 rfl) ?_
        refine jg_nil ?_
        refine jk_xn [3, 4, 5, 6, 7, 8, 9, 10, 11] rfl ?_
        refine jx_lin [3, 4, 5, 6, 7, 8, 9, 10, 11] 4265491968 4294967295 7 [0, 0, 0, 0, 0, 0, 0, 0, 0, 384, 896, 1920, 3968, 8128, 0, 0, 0, 98304, 229376, 491520, 1015808, 2097088, 0, 0, 0, 25165824, 58720256, 125829120, 260046848, 536870848, 1073741763, 2147483587, 4294967235, 8589934543, 17179869135, 34359738319, 68719476735, 137438953471, 274877906943] [(30, true), (31, true)] rfl (np_blk (np_seq (np_blk (np_seq (np_rnd (np_blk (np_seq np_rt))))))) (by kernel_rfl) (by kernel_rfl) (by kernel_rfl) (by kernel_rfl) (by kernel_rfl) (by kernel_rfl) (by kernel_rfl) (by kernel_rfl) (by kernel_rfl) ?_
        refine jd_ix fun x631 h632 => ?_
        refine jd_y rfl (fun w hs => yv_ix rfl rfl (hs.row 6 rfl) h632) rfl rfl ?_
        refine jd_y rfl (fun w hs => yv_ef rfl (hs.row 6 rfl) h632.1) rfl rfl ?_
        refine jd_x ?_
        refine jx1 (i := 32) (by kernel_rfl) (by kernel_rfl) rfl ?_
        refine jg_storeE 9 (a' := (Piece.mk x631.Element v291.1 x631.Grade x631.Curve x631.Power)) rfl rfl h632.1 rfl (l1 rfl) rfl rfl rfl rfl fun y671 => ?_
        refine jg_L (r13 rfl) ?_
        refine jg_nil ?_
        refine jk_xf (by kernel_rfl) ?_
        refine jx1 (i := 33) (by kernel_rfl) (by kernel_rfl) rfl ?_
        refine jg_ix fun x691 h692 => ?_
        refine jg_y (fun w hs => yv_ix rfl rfl (hs.row 9 rfl) h692) rfl rfl ?_
        refine jg_nil ?_
        refine jk_xf (by kernel_rfl) ?_
        refine jx1 (i := 34) (by kernel_rfl) (by kernel_rfl) rfl ?_
        refine jg_y (fun w hs => yv_ef rfl (hs.row 9 rfl) h692.1) rfl rfl ?_
        refine jg_nil ?_
        refine jk_xf (by kernel_rfl) ?_
        refine jx1 (i := 35) (by kernel_rfl) (by kernel_rfl) rfl ?_
        refine jg_storeE 9 (a' := (Piece.mk x691.Element x691.Length v451.1 x691.Curve x691.Power)) rfl rfl h692.1 rfl (l1 rfl) rfl rfl rfl rfl fun y731 => ?_
        refine jg_L (r13 rfl) ?_
        refine jg_nil ?_
        refine jk_xf (by kernel_rfl) ?_
        refine jx1 (i := 36) (by kernel_rfl) (by kernel_rfl) rfl ?_
        refine jg_ix fun x751 h752 => ?_
        refine jg_y (fun w hs => yv_ix rfl rfl (hs.row 9 rfl) h752) rfl rfl ?_
        refine jg_nil ?_
        refine jk_xf (by kernel_rfl) ?_
        refine jx1 (i := 37) (by kernel_rfl) (by kernel_rfl) rfl ?_
        refine jg_y (fun w hs => yv_ef rfl (hs.row 9 rfl) h752.1) rfl rfl ?_
        refine jg_nil ?_
        refine jk_xf (by kernel_rfl) ?_
        refine jx1 (i := 38) (by kernel_rfl) (by kernel_rfl) rfl ?_
        refine jg_storeE 9 (a' := (Piece.mk x751.Element x751.Length x751.Grade x751.Curve v611.1)) rfl rfl h752.1 rfl (l1 rfl) rfl rfl rfl rfl fun y791 => ?_
        refine jg_L (r13 rfl) ?_
        refine jg_nil ?_
        refine jk_xf (by kernel_rfl) ?_
        refine jx0 [(1, _), (6, _), (7, _), (9, _), (10, _), (11, _), (12, _), (13, _)] ⟨rfl, rfl, rfl, rfl, rfl, rfl, rfl, rfl, trivial⟩ (by kernel_rfl) (by kernel_rfl) ?_
        refine jk_sel (is := [3, 4, 5, 6, 7, 8, 9, 10, 11, 12]) (s10 rfl) rfl ?_
        refine jk_bn ?_
        exact jk_use H27 (v611.2, y791, v18.1.Speed.Hi, v18.1.Class, v18.1.Targets, v21.1.Resist, v21.1.Targets) (q19.2, q22.1) [7, 8, 9, 6, 3, 4, 5, 0, 1, 2] ⟨rfl, rfl, rfl, rfl, rfl, rfl, rfl, rfl, trivial⟩ rfl rfl rfl
      refine jg_lit (enc := encI) [x371.Grade, 10000, (-10001)] rfl rfl rfl rfl rfl rfl rfl rfl fun hd431 => ?_
      refine jg_nil ?_
      refine jk_xn [3, 4, 5, 6, 7, 8, 9, 10, 11] rfl ?_
      refine jx1 (i := 13) (by kernel_rfl) (by kernel_rfl) rfl ?_
      refine jl_c 12 rfl rfl (fun v w hs hm => gen_Maker_Pick_c hm (hs.blkL (i := 12) rfl) (hs.arg Rha0) (hs.offAL 12 Rha0 rfl) (hs.row 1 rfl) (hs.offLL 1 12 rfl rfl)) (fun _ => rfl) rfl rfl fun v291 q292 => ?_
      refine jg_L (r13 rfl) ?_
      refine jg_nil ?_
      refine jk_xn [3, 4, 5, 6, 7, 8, 9, 10, 11] rfl ?_
      refine jx1 (i := 21) (by kernel_rfl) (by kernel_rfl) rfl ?_
      refine jl_c 12 rfl rfl (fun v w hs hm => gen_Maker_Pick_c hm (hs.blkL (i := 12) rfl) (hs.arg Rha0) (hs.offAL 12 Rha0 rfl) (hs.row 0 rfl) (hs.offLL 0 12 rfl rfl)) (fun _ => rfl) rfl rfl fun v451 q452 => ?_
      refine jg_L (r13 rfl) ?_
      refine jg_nil ?_
      refine jk_xn [3, 4, 5, 6, 7, 8, 9, 10, 11] rfl ?_
      refine jx1 (i := 29) (by kernel_rfl) (by kernel_rfl) rfl ?_
      refine jl_c 12 rfl rfl (fun v w hs hm => gen_Maker_Pick_c hm (hs.blkL (i := 12) rfl) (hs.arg Rha0) (hs.offAL 12 Rha0 rfl) (hs.row 2 rfl) (hs.offLL 2 12 rfl rfl)) (fun _ => rfl) rfl rfl fun v611 q612 => ?_
      refine jg_L (r13 rfl) ?_
      refine jg_nil ?_
      refine jk_xn [3, 4, 5, 6, 7, 8, 9, 10, 11] rfl ?_
      refine jx_lin [3, 4, 5, 6, 7, 8, 9, 10, 11] 4265491968 4294967295 7 [0, 0, 0, 0, 0, 0, 0, 0, 0, 384, 896, 1920, 3968, 8128, 0, 0, 0, 98304, 229376, 491520, 1015808, 2097088, 0, 0, 0, 25165824, 58720256, 125829120, 260046848, 536870848, 1073741763, 2147483587, 4294967235, 8589934543, 17179869135, 34359738319, 68719476735, 137438953471, 274877906943] [(30, true), (31, true)] rfl (np_blk (np_seq (np_blk (np_seq (np_rnd (np_blk (np_seq np_rt))))))) (by kernel_rfl) (by kernel_rfl) (by kernel_rfl) (by kernel_rfl) (by kernel_rfl) (by kernel_rfl) (by kernel_rfl) (by kernel_rfl) (by kernel_rfl) ?_
      refine jd_ix fun x631 h632 => ?_
      refine jd_y rfl (fun w hs => yv_ix rfl rfl (hs.row 6 rfl) h632) rfl rfl ?_
      refine jd_y rfl (fun w hs => yv_ef rfl (hs.row 6 rfl) h632.1) rfl rfl ?_
      refine jd_x ?_
      refine jx1 (i := 32) (by kernel_rfl) (by kernel_rfl) rfl ?_
      refine jg_storeE 9 (a' := (Piece.mk x631.Element v291.1 x631.Grade x631.Curve x631.Power)) rfl rfl h632.1 rfl (l1 rfl) rfl rfl rfl rfl fun y671 => ?_
      refine jg_L (r13 rfl) ?_
      refine jg_nil ?_
      refine jk_xf (by kernel_rfl) ?_
      refine jx1 (i := 33) (by kernel_rfl) (by kernel_rfl) rfl ?_
      refine jg_ix fun x691 h692 => ?_
      refine jg_y (fun w hs => yv_ix rfl rfl (hs.row 9 rfl) h692) rfl rfl ?_
      refine jg_nil ?_
      refine jk_xf (by kernel_rfl) ?_
      refine jx1 (i := 34) (by kernel_rfl) (by kernel_rfl) rfl ?_
      refine jg_y (fun w hs => yv_ef rfl (hs.row 9 rfl) h692.1) rfl rfl ?_
      refine jg_nil ?_
      refine jk_xf (by kernel_rfl) ?_
      refine jx1 (i := 35) (by kernel_rfl) (by kernel_rfl) rfl ?_
      refine jg_storeE 9 (a' := (Piece.mk x691.Element x691.Length v451.1 x691.Curve x691.Power)) rfl rfl h692.1 rfl (l1 rfl) rfl rfl rfl rfl fun y731 => ?_
      refine jg_L (r13 rfl) ?_
      refine jg_nil ?_
      refine jk_xf (by kernel_rfl) ?_
      refine jx1 (i := 36) (by kernel_rfl) (by kernel_rfl) rfl ?_
      refine jg_ix fun x751 h752 => ?_
      refine jg_y (fun w hs => yv_ix rfl rfl (hs.row 9 rfl) h752) rfl rfl ?_
      refine jg_nil ?_
      refine jk_xf (by kernel_rfl) ?_
      refine jx1 (i := 37) (by kernel_rfl) (by kernel_rfl) rfl ?_
      refine jg_y (fun w hs => yv_ef rfl (hs.row 9 rfl) h752.1) rfl rfl ?_
      refine jg_nil ?_
      refine jk_xf (by kernel_rfl) ?_
      refine jx1 (i := 38) (by kernel_rfl) (by kernel_rfl) rfl ?_
      refine jg_storeE 9 (a' := (Piece.mk x751.Element x751.Length x751.Grade x751.Curve v611.1)) rfl rfl h752.1 rfl (l1 rfl) rfl rfl rfl rfl fun y791 => ?_
      refine jg_L (r13 rfl) ?_
      refine jg_nil ?_
      refine jk_xf (by kernel_rfl) ?_
      refine jx0 [(1, _), (6, _), (7, _), (9, _), (10, _), (11, _), (12, _), (13, _)] ⟨rfl, rfl, rfl, rfl, rfl, rfl, rfl, rfl, trivial⟩ (by kernel_rfl) (by kernel_rfl) ?_
      refine jk_sel (is := [3, 4, 5, 6, 7, 8, 9, 10, 11, 12]) (s10 rfl) rfl ?_
      refine jk_bn ?_
      exact jk_use H27 (v611.2, y791, v18.1.Speed.Hi, v18.1.Class, v18.1.Targets, v21.1.Resist, v21.1.Targets) (q19.2, q22.1) [7, 8, 9, 6, 3, 4, 5, 0, 1, 2] ⟨rfl, rfl, rfl, rfl, rfl, rfl, rfl, rfl, trivial⟩ rfl rfl rfl
    refine jg_lit (enc := encI) [x371.Grade, 10000, (-10001)] rfl rfl rfl rfl rfl rfl rfl rfl fun hd431 => ?_
    refine jg_nil ?_
    refine jk_xn [2, 3, 4, 5, 6, 7, 8, 9, 10] rfl ?_
    refine jx1 (i := 12) (by kernel_rfl) (by kernel_rfl) rfl ?_
    refine jg_lit (enc := encI) [x211.Length, 0, 1000000, 1000001] rfl rfl rfl rfl rfl rfl rfl rfl fun hd271 => ?_
    refine jg_nil ?_
    refine jk_xn [3, 4, 5, 6, 7, 8, 9, 10, 11] rfl ?_
    refine jx1 (i := 13) (by kernel_rfl) (by kernel_rfl) rfl ?_
    refine jl_c 12 rfl rfl (fun v w hs hm => gen_Maker_Pick_c hm (hs.blkL (i := 12) rfl) (hs.arg Rha0) (hs.offAL 12 Rha0 rfl) (hs.row 0 rfl) (hs.offLL 0 12 rfl rfl)) (fun _ => rfl) rfl rfl fun v291 q292 => ?_
    refine jg_L (r13 rfl) ?_
    refine jg_nil ?_
    refine jk_xn [3, 4, 5, 6, 7, 8, 9, 10, 11] rfl ?_
    refine jx1 (i := 21) (by kernel_rfl) (by kernel_rfl) rfl ?_
    refine jl_c 12 rfl rfl (fun v w hs hm => gen_Maker_Pick_c hm (hs.blkL (i := 12) rfl) (hs.arg Rha0) (hs.offAL 12 Rha0 rfl) (hs.row 1 rfl) (hs.offLL 1 12 rfl rfl)) (fun _ => rfl) rfl rfl fun v451 q452 => ?_
    refine jg_L (r13 rfl) ?_
    refine jg_nil ?_
    refine jk_xn [3, 4, 5, 6, 7, 8, 9, 10, 11] rfl ?_
    refine jx1 (i := 29) (by kernel_rfl) (by kernel_rfl) rfl ?_
    refine jl_c 12 rfl rfl (fun v w hs hm => gen_Maker_Pick_c hm (hs.blkL (i := 12) rfl) (hs.arg Rha0) (hs.offAL 12 Rha0 rfl) (hs.row 2 rfl) (hs.offLL 2 12 rfl rfl)) (fun _ => rfl) rfl rfl fun v611 q612 => ?_
    refine jg_L (r13 rfl) ?_
    refine jg_nil ?_
    refine jk_xn [3, 4, 5, 6, 7, 8, 9, 10, 11] rfl ?_
    refine jx_lin [3, 4, 5, 6, 7, 8, 9, 10, 11] 4265491968 4294967295 7 [0, 0, 0, 0, 0, 0, 0, 0, 0, 384, 896, 1920, 3968, 8128, 0, 0, 0, 98304, 229376, 491520, 1015808, 2097088, 0, 0, 0, 25165824, 58720256, 125829120, 260046848, 536870848, 1073741763, 2147483587, 4294967235, 8589934543, 17179869135, 34359738319, 68719476735, 137438953471, 274877906943] [(30, true), (31, true)] rfl (np_blk (np_seq (np_blk (np_seq (np_rnd (np_blk (np_seq np_rt))))))) (by kernel_rfl) (by kernel_rfl) (by kernel_rfl) (by kernel_rfl) (by kernel_rfl) (by kernel_rfl) (by kernel_rfl) (by kernel_rfl) (by kernel_rfl) ?_
    refine jd_ix fun x631 h632 => ?_
    refine jd_y rfl (fun w hs => yv_ix rfl rfl (hs.row 6 rfl) h632) rfl rfl ?_
    refine jd_y rfl (fun w hs => yv_ef rfl (hs.row 6 rfl) h632.1) rfl rfl ?_
    refine jd_x ?_
    refine jx1 (i := 32) (by kernel_rfl) (by kernel_rfl) rfl ?_
    refine jg_storeE 9 (a' := (Piece.mk x631.Element v291.1 x631.Grade x631.Curve x631.Power)) rfl rfl h632.1 rfl (l1 rfl) rfl rfl rfl rfl fun y671 => ?_
    refine jg_L (r13 rfl) ?_
    refine jg_nil ?_
    refine jk_xf (by kernel_rfl) ?_
    refine jx1 (i := 33) (by kernel_rfl) (by kernel_rfl) rfl ?_
    refine jg_ix fun x691 h692 => ?_
    refine jg_y (fun w hs => yv_ix rfl rfl (hs.row 9 rfl) h692) rfl rfl ?_
    refine jg_nil ?_
    refine jk_xf (by kernel_rfl) ?_
    refine jx1 (i := 34) (by kernel_rfl) (by kernel_rfl) rfl ?_
    refine jg_y (fun w hs => yv_ef rfl (hs.row 9 rfl) h692.1) rfl rfl ?_
    refine jg_nil ?_
    refine jk_xf (by kernel_rfl) ?_
    refine jx1 (i := 35) (by kernel_rfl) (by kernel_rfl) rfl ?_
    refine jg_storeE 9 (a' := (Piece.mk x691.Element x691.Length v451.1 x691.Curve x691.Power)) rfl rfl h692.1 rfl (l1 rfl) rfl rfl rfl rfl fun y731 => ?_
    refine jg_L (r13 rfl) ?_
    refine jg_nil ?_
    refine jk_xf (by kernel_rfl) ?_
    refine jx1 (i := 36) (by kernel_rfl) (by kernel_rfl) rfl ?_
    refine jg_ix fun x751 h752 => ?_
    refine jg_y (fun w hs => yv_ix rfl rfl (hs.row 9 rfl) h752) rfl rfl ?_
    refine jg_nil ?_
    refine jk_xf (by kernel_rfl) ?_
    refine jx1 (i := 37) (by kernel_rfl) (by kernel_rfl) rfl ?_
    refine jg_y (fun w hs => yv_ef rfl (hs.row 9 rfl) h752.1) rfl rfl ?_
    refine jg_nil ?_
    refine jk_xf (by kernel_rfl) ?_
    refine jx1 (i := 38) (by kernel_rfl) (by kernel_rfl) rfl ?_
    refine jg_storeE 9 (a' := (Piece.mk x751.Element x751.Length x751.Grade x751.Curve v611.1)) rfl rfl h752.1 rfl (l1 rfl) rfl rfl rfl rfl fun y791 => ?_
    refine jg_L (r13 rfl) ?_
    refine jg_nil ?_
    refine jk_xf (by kernel_rfl) ?_
    refine jx0 [(1, _), (6, _), (7, _), (9, _), (10, _), (11, _), (12, _), (13, _)] ⟨rfl, rfl, rfl, rfl, rfl, rfl, rfl, rfl, trivial⟩ (by kernel_rfl) (by kernel_rfl) ?_
    refine jk_sel (is := [3, 4, 5, 6, 7, 8, 9, 10, 11, 12]) (s10 rfl) rfl ?_
    refine jk_bn ?_
    exact jk_use H27 (v611.2, y791, v18.1.Speed.Hi, v18.1.Class, v18.1.Targets, v21.1.Resist, v21.1.Targets) (q19.2, q22.1) [7, 8, 9, 6, 3, 4, 5, 0, 1, 2] ⟨rfl, rfl, rfl, rfl, rfl, rfl, rfl, rfl, trivial⟩ rfl rfl rfl
  refine jn_seq ?_
  refine jn_reg 12 ?_
  refine jg_y (fun w hs => yv_eql rfl rfl) rfl rfl ?_
  refine jg_as rfl rfl rfl ?_
  refine jg_nils [(1, _), (6, _), (7, _), (9, _), (10, _), (11, _), (12, _), (13, _), (30, _), (73, _)] ⟨rfl, rfl, rfl, rfl, rfl, rfl, rfl, rfl, rfl, rfl, trivial⟩ ?_
  refine jk_sn ?_
  refine jn_cond rfl ?_ ?_
  rotate_left
  · refine jn_seq ?_
    refine jn_reg 19 ?_
    refine jg_y (fun w hs => yv_eql rfl rfl) rfl rfl ?_
    refine jg_as rfl rfl rfl ?_
    refine jg_nils [(1, _), (6, _), (7, _), (9, _), (10, _), (11, _), (12, _), (13, _), (126, _)] ⟨rfl, rfl, rfl, rfl, rfl, rfl, rfl, rfl, rfl, trivial⟩ ?_
    refine jk_sn ?_
    refine jn_cond rfl ?_ ?_
    rotate_left
    · refine jn_skip ?_
      refine jk_bn ?_
      exact jk_use H27 (v21.2, v16.1, v18.1.Speed.Hi, v18.1.Class, v18.1.Targets, v21.1.Resist, v21.1.Targets) (q19.2, q22.1) [7, 8, 9, 6, 3, 4, 5, 0, 1, 2] ⟨rfl, rfl, rfl, rfl, rfl, rfl, rfl, rfl, trivial⟩ rfl rfl rfl
    refine jn_seq ?_
    refine jn_reg 20 ?_
    refine jg_y (fun w hs => yv_fieldAddr rfl) rfl rfl ?_
    refine jg_y (fun w hs => yv_load rfl (ld1B (hs.blkL (i := 3) rfl) rfl)) rfl rfl ?_
    refine jg_lit (enc := encI) [5] rfl rfl rfl rfl rfl rfl rfl rfl fun hd1348 => ?_
    refine jg_append 6 rfl rfl rfl (fun w hs => (hs.row 0 rfl)) rfl rfl rfl fun y1349 hd1350 => ?_
    refine jg_L (r11 rfl) ?_
    refine jg_y (fun w hs => yv_fieldAddr rfl) rfl rfl ?_
    refine jg_store 4 rfl rfl rfl (l1 rfl) rfl rfl rfl rfl (l5 rfl) (r11 rfl) ?_
    refine jg_nils [(1, _), (6, _), (7, _), (9, _), (10, _), (11, _), (12, _), (13, _)] ⟨rfl, rfl, rfl, rfl, rfl, rfl, rfl, rfl, trivial⟩ ?_
    refine jk_sn ?_
    refine jn_reg 21 ?_
    refine jg_y (fun w hs => yv_fieldAddr rfl) rfl rfl ?_
    refine jg_y (fun w hs => yv_load rfl (ld1B (hs.blkL (i := 1) rfl) rfl)) rfl rfl ?_
    refine jg_y (fun w hs => yv_fieldAddr rfl) rfl rfl ?_
    refine jg_y (fun w hs => yv_load rfl (ld1B (hs.blkL (i := 1) rfl) rfl)) rfl rfl ?_
    refine jg_y (fun w hs => yv_ln rfl (hs.row 2 rfl)) rfl rfl ?_
    refine jg_yl (fun w hs => yv_sub_w rfl rfl) rfl rfl fun x1351 => ?_
    refine jg_ck fun h1352 => ?_
    refine jg_y (fun w hs => yv_hi rfl rfl (hs.row 2 rfl) (of_decide_eq_true h1352)) rfl rfl ?_
    refine jg_y (fun w hs => yv_fieldAddr rfl) rfl rfl ?_
    refine jg_store 1 rfl rfl rfl (l1 rfl) rfl rfl rfl rfl (l3 rfl) (r11 rfl) ?_
    refine jg_nils [(1, _), (6, _), (7, _), (9, _), (10, _), (11, _), (12, _), (13, _)] ⟨rfl, rfl, rfl, rfl, rfl, rfl, rfl, rfl, trivial⟩ ?_
    refine jk_rhi 2 rfl (of_decide_eq_true h1352) (r11 rfl) ?_
    refine jk_bn ?_
    exact jk_use H27 (v21.2, v16.1, v18.1.Speed.Hi, v18.1.Class, y1349, v21.1.Resist.take (Int.toNat x1351), v21.1.Targets) (hd1350, (⟨q22.1.A, (Int.toNat x1351), q22.1.c⟩ : Hd)) [8, 9, 10, 7, 4, 5, 6, 1, 2, 3] ⟨rfl, rfl, rfl, rfl, rfl, rfl, rfl, rfl, trivial⟩ rfl rfl rfl
  refine jn_seq ?_
  refine jn_reg 13 ?_
  refine jg_mv rfl rfl rfl ?_
  refine jg_mv rfl rfl rfl ?_
  refine jg_y (fun w hs => yv_ln rfl (hs.row 6 rfl)) rfl rfl ?_
  refine jl_c 9 rfl rfl (fun v w hs hm => gen_Maker_Next_c hm (hs.blkL (i := 9) rfl) (hs.arg Rha0) (hs.offAL 9 Rha0 rfl)) (fun _ => rfl) rfl rfl fun v811 q812 => ?_
  refine jg_L (r10 rfl) ?_
  refine jg_as rfl rfl rfl ?_
  refine jg_nils [(1, _), (6, _), (7, _), (9, _), (10, _), (11, _), (12, _), (13, _), (15, _)] ⟨rfl, rfl, rfl, rfl, rfl, rfl, rfl, rfl, rfl, trivial⟩ ?_
  refine jk_sn ?_
  refine jn_join (fun (s : (Int × (List Interval))) (g : Unit) => [(1, ha1.v), (6, .pointer (some ⟨g1, 0, none⟩)), (7, .pointer (some ⟨g2, 0, none⟩)), (9, .pointer (some ⟨q4, 0, none⟩)), (10, .int .i64 z11.2), (11, q17.v), (12, .pointer (some ⟨g20, 0, none⟩)), (13, .pointer (some ⟨g23, 0, none⟩)), (15, .int .i64 v811.1)]) (fun (s : (Int × (List Interval))) (g : Unit) => []) (fun (s : (Int × (List Interval))) (g : Unit) => [(Res.blk g1 28 [.int .i64 a2.Speed.Lo, .int .i64 a2.Speed.Hi, ha2_Class.v, .int .i64 a2.Error, ha2_Targets.v]), (Res.blk g2 30 [.int .i64 a3.Speed, ha3_Resist.v, ha3_Targets.v]), (Res.blk q4 82 [ha0.v, .int .i64 s.1]), (rowH q17 32 5 Piece.enc v16.1), (Res.blk g20 28 [.int .i64 v18.1.Speed.Lo, .int .i64 v18.1.Speed.Hi, q19.1.v, .int .i64 v18.1.Error, q19.2.v]), (rowH q19.1 24 2 Interval.enc s.2), (rowH q19.2 3 1 encI v18.1.Targets), (Res.blk g23 30 [.int .i64 v21.1.Speed, q22.1.v, q22.2.v]), (rowH q22.1 3 1 encI v21.1.Resist), (rowH q22.2 3 1 encI v21.1.Targets)]) ?_ ?_
  rotate_left
  · intro k815 H816
    refine jn_drawA 14 [0, 1, 2, 3, 4, 5, 6, 7, 8, 9, 10, 11] 4095 76 9 [0, 1, 0, 0, 0, 24, 0, 0, 224, 288, 1023, 2047] [0, 1, 0, 0, 0, 24, 0, 0, 248, 504, 1023, 2047] [(2, true), (3, true), (6, true)] (np_seq (np_blk (np_seq (np_blk (np_seq (np_rnd (np_blk (np_seq np_rt)))))))) (by kernel_rfl) (by kernel_rfl) (by kernel_rfl) (by kernel_rfl) (by kernel_rfl) (by kernel_rfl) (by kernel_rfl) (by kernel_rfl) ?_
    refine jt_mv rfl rfl rfl ?_
    refine jt_mv rfl rfl rfl ?_
    refine jt_mv rfl rfl rfl ?_
    refine jd_x ?_
    refine jx_to (L' := [_, _, _, _, _, _, _, _, _]) [0, 1, 4, 5, 7, 8, 9, 10] [11] [0, 1, 2, 3, 4, 5, 6, 7, 8] rfl ?_
    refine jx_lin [0, 1, 2, 3, 4, 5, 6, 7, 8] 1971 79 7 [0, 1, 0, 0, 0, 24, 0, 0, 248, 504, 1023, 2047] [(0, true), (1, true)] rfl (np_seq (np_blk (np_seq (np_blk (np_seq (np_rnd (np_blk (np_seq np_rt)))))))) (by kernel_rfl) (by kernel_rfl) (by kernel_rfl) (by kernel_rfl) (by kernel_rfl) (by kernel_rfl) (by kernel_rfl) (by kernel_rfl) (by kernel_rfl) ?_
    refine jd_y rfl (fun w hs => yv_fieldAddr rfl) rfl rfl ?_
    refine jd_y rfl (fun w hs => yv_load rfl (ld1B (hs.blk (i := 3) rfl) rfl)) rfl rfl ?_
    refine jd_x ?_
    refine jx2 (i := 4) (i2 := 7) (by kernel_rfl) (by kernel_rfl) rfl rfl ?_ ?_
    · refine jg_lit (enc := encI) [(-5000), (-5001), 0] rfl rfl rfl rfl rfl rfl rfl rfl fun hd1188 => ?_
      refine jg_nil ?_
      refine jk_xn [1, 2, 3, 4, 5, 6, 7, 8, 9] rfl ?_
      refine jx2 (i := 5) (i2 := 7) (by kernel_rfl) (by kernel_rfl) rfl rfl ?_ ?_
      · refine jl_c 10 rfl rfl (fun v w hs hm => gen_Maker_Pick_c hm (hs.blkL (i := 10) rfl) (hs.arg Rha0) (hs.offAL 10 Rha0 rfl) (hs.row 0 rfl) (hs.offLL 0 10 rfl rfl)) (fun _ => rfl) rfl rfl fun v1208 q1209 => ?_
        refine jg_L (r11 rfl) ?_
        refine jg_nil ?_
        refine jk_xn [1, 2, 3, 4, 5, 6, 7, 8, 9] rfl ?_
        refine jx1 (i := 7) (by kernel_rfl) (by kernel_rfl) rfl ?_
        refine jg_lit (enc := encI) [10000, 10001, 50] rfl rfl rfl rfl rfl rfl rfl rfl fun hd1248 => ?_
        refine jg_nil ?_
        refine jk_xn [2, 3, 4, 5, 6, 7, 8, 9, 10] rfl ?_
        refine jx1 (i := 8) (by kernel_rfl) (by kernel_rfl) rfl ?_
        refine jl_c 11 rfl rfl (fun v w hs hm => gen_Maker_Pick_c hm (hs.blkL (i := 11) rfl) (hs.arg Rha0) (hs.offAL 11 Rha0 rfl) (hs.row 0 rfl) (hs.offLL 0 11 rfl rfl)) (fun _ => rfl) rfl rfl fun v1268 q1269 => ?_
        refine jg_L (r12 rfl) ?_
        refine jg_nil ?_
        refine jk_xn [2, 3, 4, 5, 6, 7, 8, 9, 10] rfl ?_
        refine jx_lin [2, 3, 4, 5, 6, 7, 8, 9, 10] 1971 2047 1 [0, 1, 0, 0, 0, 24, 0, 0, 248, 504, 1023, 2047] [(9, true), (10, true)] rfl (np_seq (np_blk (np_seq (np_blk (np_seq (np_rnd (np_blk (np_seq np_rt)))))))) (by kernel_rfl) (by kernel_rfl) (by kernel_rfl) (by kernel_rfl) (by kernel_rfl) (by kernel_rfl) (by kernel_rfl) (by kernel_rfl) (by kernel_rfl) ?_
        refine jd_y rfl (fun w hs => yv_build rfl (o2 rfl)) rfl rfl ?_
        refine jd_ix fun x1308 h1309 => ?_
        refine jd_y rfl (fun w hs => yv_ix rfl rfl (hs.row 4 rfl) h1309) rfl rfl ?_
        refine jd_x ?_
        refine jx1 (i := 11) (by kernel_rfl) (by kernel_rfl) rfl ?_
        refine jg_storeE 6 (a' := (Interval.mk v1208.1 v1268.1)) rfl rfl h1309.1 rfl (l2 rfl) rfl rfl rfl rfl fun y1328 => ?_
        refine jg_L (r12 rfl) ?_
        refine jg_nil ?_
        refine jk_xf (by kernel_rfl) ?_
        refine jx0 [(1, _), (6, _), (7, _), (9, _), (10, _), (11, _), (12, _), (13, _), (15, _)] ⟨rfl, rfl, rfl, rfl, rfl, rfl, rfl, rfl, rfl, trivial⟩ (by kernel_rfl) (by kernel_rfl) ?_
        refine jk_sel (is := [2, 3, 4, 5, 6, 7, 8, 9, 10, 11]) (s10 rfl) rfl ?_
        exact jk_use H816 (v1268.2, y1328) () [7, 8, 9, 6, 3, 4, 5, 0, 1, 2] ⟨rfl, rfl, rfl, rfl, rfl, rfl, rfl, rfl, rfl, trivial⟩ rfl rfl rfl
      refine jg_lit (enc := encI) [10000, 10001, 50] rfl rfl rfl rfl rfl rfl rfl rfl fun hd1248 => ?_
      refine jg_nil ?_
      refine jk_xn [2, 3, 4, 5, 6, 7, 8, 9, 10] rfl ?_
      refine jx1 (i := 5) (by kernel_rfl) (by kernel_rfl) rfl ?_
      refine jl_c 11 rfl rfl (fun v w hs hm => gen_Maker_Pick_c hm (hs.blkL (i := 11) rfl) (hs.arg Rha0) (hs.offAL 11 Rha0 rfl) (hs.row 1 rfl) (hs.offLL 1 11 rfl rfl)) (fun _ => rfl) rfl rfl fun v1208 q1209 => ?_
      refine jg_L (r12 rfl) ?_
      refine jg_nil ?_
      refine jk_xn [2, 3, 4, 5, 6, 7, 8, 9, 10] rfl ?_
      refine jx1 (i := 8) (by kernel_rfl) (by kernel_rfl) rfl ?_
      refine jl_c 11 rfl rfl (fun v w hs hm => gen_Maker_Pick_c hm (hs.blkL (i := 11) rfl) (hs.arg Rha0) (hs.offAL 11 Rha0 rfl) (hs.row 0 rfl) (hs.offLL 0 11 rfl rfl)) (fun _ => rfl) rfl rfl fun v1268 q1269 => ?_
      refine jg_L (r12 rfl) ?_
      refine jg_nil ?_
      refine jk_xn [2, 3, 4, 5, 6, 7, 8, 9, 10] rfl ?_
      refine jx_lin [2, 3, 4, 5, 6, 7, 8, 9, 10] 1971 2047 1 [0, 1, 0, 0, 0, 24, 0, 0, 248, 504, 1023, 2047] [(9, true), (10, true)] rfl (np_seq (np_blk (np_seq (np_blk (np_seq (np_rnd (np_blk (np_seq np_rt)))))))) (by kernel_rfl) (by kernel_rfl) (by kernel_rfl) (by kernel_rfl) (by kernel_rfl) (by kernel_rfl) (by kernel_rfl) (by kernel_rfl) (by kernel_rfl) ?_
      refine jd_y rfl (fun w hs => yv_build rfl (o2 rfl)) rfl rfl ?_
      refine jd_ix fun x1308 h1309 => ?_
      refine jd_y rfl (fun w hs => yv_ix rfl rfl (hs.row 4 rfl) h1309) rfl rfl ?_
      refine jd_x ?_
      refine jx1 (i := 11) (by kernel_rfl) (by kernel_rfl) rfl ?_
      refine jg_storeE 6 (a' := (Interval.mk v1208.1 v1268.1)) rfl rfl h1309.1 rfl (l2 rfl) rfl rfl rfl rfl fun y1328 => ?_
      refine jg_L (r12 rfl) ?_
      refine jg_nil ?_
      refine jk_xf (by kernel_rfl) ?_
      refine jx0 [(1, _), (6, _), (7, _), (9, _), (10, _), (11, _), (12, _), (13, _), (15, _)] ⟨rfl, rfl, rfl, rfl, rfl, rfl, rfl, rfl, rfl, trivial⟩ (by kernel_rfl) (by kernel_rfl) ?_
      refine jk_sel (is := [2, 3, 4, 5, 6, 7, 8, 9, 10, 11]) (s10 rfl) rfl ?_
      exact jk_use H816 (v1268.2, y1328) () [7, 8, 9, 6, 3, 4, 5, 0, 1, 2] ⟨rfl, rfl, rfl, rfl, rfl, rfl, rfl, rfl, rfl, trivial⟩ rfl rfl rfl
    refine jg_lit (enc := encI) [10000, 10001, 50] rfl rfl rfl rfl rfl rfl rfl rfl fun hd1248 => ?_
    refine jg_nil ?_
    refine jk_xn [1, 2, 3, 4, 5, 6, 7, 8, 9] rfl ?_
    refine jx1 (i := 4) (by kernel_rfl) (by kernel_rfl) rfl ?_
    refine jg_lit (enc := encI) [(-5000), (-5001), 0] rfl rfl rfl rfl rfl rfl rfl rfl fun hd1188 => ?_
    refine jg_nil ?_
    refine jk_xn [2, 3, 4, 5, 6, 7, 8, 9, 10] rfl ?_
    refine jx1 (i := 5) (by kernel_rfl) (by kernel_rfl) rfl ?_
    refine jl_c 11 rfl rfl (fun v w hs hm => gen_Maker_Pick_c hm (hs.blkL (i := 11) rfl) (hs.arg Rha0) (hs.offAL 11 Rha0 rfl) (hs.row 0 rfl) (hs.offLL 0 11 rfl rfl)) (fun _ => rfl) rfl rfl fun v1208 q1209 => ?_
    refine jg_L (r12 rfl) ?_
    refine jg_nil ?_
    refine jk_xn [2, 3, 4, 5, 6, 7, 8, 9, 10] rfl ?_
    refine jx1 (i := 8) (by kernel_rfl) (by kernel_rfl) rfl ?_
    refine jl_c 11 rfl rfl (fun v w hs hm => gen_Maker_Pick_c hm (hs.blkL (i := 11) rfl) (hs.arg Rha0) (hs.offAL 11 Rha0 rfl) (hs.row 1 rfl) (hs.offLL 1 11 rfl rfl)) (fun _ => rfl) rfl rfl fun v1268 q1269 => ?_
    refine jg_L (r12 rfl) ?_
    refine jg_nil ?_
    refine jk_xn [2, 3, 4, 5, 6, 7, 8, 9, 10] rfl ?_
    refine jx_lin [2, 3, 4, 5, 6, 7, 8, 9, 10] 1971 2047 1 [0, 1, 0, 0, 0, 24, 0, 0, 248, 504, 1023, 2047] [(9, true), (10, true)] rfl (np_seq (np_blk (np_seq (np_blk (np_seq (np_rnd (np_blk (np_seq np_rt)))))))) (by kernel_rfl) (by kernel_rfl) (by kernel_rfl) (by kernel_rfl) (by kernel_rfl) (by kernel_rfl) (by kernel_rfl) (by kernel_rfl) (by kernel_rfl) ?_
    refine jd_y rfl (fun w hs => yv_build rfl (o2 rfl)) rfl rfl ?_
    refine jd_ix fun x1308 h1309 => ?_
    refine jd_y rfl (fun w hs => yv_ix rfl rfl (hs.row 4 rfl) h1309) rfl rfl ?_
    refine jd_x ?_
    refine jx1 (i := 11) (by kernel_rfl) (by kernel_rfl) rfl ?_
    refine jg_storeE 6 (a' := (Interval.mk v1208.1 v1268.1)) rfl rfl h1309.1 rfl (l2 rfl) rfl rfl rfl rfl fun y1328 => ?_
    refine jg_L (r12 rfl) ?_
    refine jg_nil ?_
    refine jk_xf (by kernel_rfl) ?_
    refine jx0 [(1, _), (6, _), (7, _), (9, _), (10, _), (11, _), (12, _), (13, _), (15, _)] ⟨rfl, rfl, rfl, rfl, rfl, rfl, rfl, rfl, rfl, trivial⟩ (by kernel_rfl) (by kernel_rfl) ?_
    refine jk_sel (is := [2, 3, 4, 5, 6, 7, 8, 9, 10, 11]) (s10 rfl) rfl ?_
    exact jk_use H816 (v1268.2, y1328) () [7, 8, 9, 6, 3, 4, 5, 0, 1, 2] ⟨rfl, rfl, rfl, rfl, rfl, rfl, rfl, rfl, rfl, trivial⟩ rfl rfl rfl
  intro z813 q814
  refine jn_seq ?_
  refine jn_reg 15 ?_
  refine jg_mv rfl rfl rfl ?_
  refine jg_y (fun w hs => yv_fieldAddr rfl) rfl rfl ?_
  refine jg_y (fun w hs => yv_fieldAddr rfl) rfl rfl ?_
  refine jg_y (fun w hs => yv_load rfl (ld1B (hs.blkL (i := 4) rfl) rfl)) rfl rfl ?_
  refine jg_lit (enc := encI) [v18.1.Speed.Hi, 20000, 20001] rfl rfl rfl rfl rfl rfl rfl rfl fun hd817 => ?_
  refine jl_c 3 rfl rfl (fun v w hs hm => gen_Maker_Pick_c hm (hs.blkL (i := 3) rfl) (hs.arg Rha0) (hs.offAL 3 Rha0 rfl) (hs.row 0 rfl) (hs.offLL 0 3 rfl rfl)) (fun _ => rfl) rfl rfl fun v818 q819 => ?_
  refine jg_L (r11 rfl) ?_
  refine jg_y (fun w hs => yv_fieldAddr rfl) rfl rfl ?_
  refine jg_y (fun w hs => yv_fieldAddr rfl) rfl rfl ?_
  refine jg_store 5 rfl rfl rfl (l1 rfl) rfl rfl rfl rfl (l5 rfl) (r11 rfl) ?_
  refine jg_nils [(1, _), (6, _), (7, _), (9, _), (10, _), (11, _), (12, _), (13, _), (15, _)] ⟨rfl, rfl, rfl, rfl, rfl, rfl, rfl, rfl, rfl, trivial⟩ ?_
  refine jk_sn ?_
  refine jn_seq ?_
  refine jn_draw (L' := [_, _, _, _, _, _, _, _, _]) 16 [1, 2, 4, 5, 6, 7, 8, 9, 10] [0, 1, 2, 3, 4, 5, 6, 7, 8, 9, 10, 11] 4095 8191 [0, 1, 0, 0, 0, 16, 0, 96, 128, 256, 520, 2047, 4095] [0, 1, 0, 0, 0, 16, 0, 112, 240, 496, 1016, 2047, 4095] [(0, true), (1, true), (2, true), (3, true), (4, true), (5, true), (6, true), (7, true), (8, true), (9, false), (10, false), (11, true), (12, false)] rfl (np_seq (np_blk (np_seq (np_blk (np_seq (np_rnd (np_blk (np_seq np_rt)))))))) (by kernel_rfl) (by kernel_rfl) (by kernel_rfl) (by kernel_rfl) (by kernel_rfl) (by kernel_rfl) (by kernel_rfl) (by kernel_rfl) ?_
  refine jd_y rfl (fun w hs => yv_fieldAddr rfl) rfl rfl ?_
  refine jd_y rfl (fun w hs => yv_load rfl (ld1B (hs.blk (i := 6) rfl) rfl)) rfl rfl ?_
  refine jd_mv rfl rfl rfl rfl ?_
  refine jd_mv rfl rfl rfl rfl ?_
  refine jd_y rfl (fun w hs => yv_fieldAddr rfl) rfl rfl ?_
  refine jd_y rfl (fun w hs => yv_load rfl (ld1B (hs.blk (i := 6) rfl) rfl)) rfl rfl ?_
  refine jd_mv rfl rfl rfl rfl ?_
  refine jd_ix fun x820 h821 => ?_
  refine jd_y rfl (fun w hs => yv_ix rfl rfl (hs.row 7 rfl) h821) rfl rfl ?_
  refine jd_y rfl (fun w hs => yv_e1 rfl (hs.row 7 rfl) h821.1 rfl) rfl rfl ?_
  refine jd_h rfl ?_
  refine jg_lit (enc := encI) [x820, (-5001), 10000] rfl rfl rfl rfl rfl rfl rfl rfl fun hd822 => ?_
  refine jg_nil ?_
  refine jk_dn [2, 3, 5, 6, 7, 8, 9, 10, 11] rfl ?_
  refine jd_h rfl ?_
  refine jl_c 4 rfl rfl (fun v w hs hm => gen_Maker_Pick_c hm (hs.blkL (i := 4) rfl) (hs.arg Rha0) (hs.offAL 4 Rha0 rfl) (hs.row 0 rfl) (hs.offLL 0 4 rfl rfl)) (fun _ => rfl) rfl rfl fun v823 q824 => ?_
  refine jg_L (r12 rfl) ?_
  refine jg_nil ?_
  refine jk_dn [2, 3, 5, 6, 7, 8, 9, 10, 11] rfl ?_
  refine jd_ix fun x825 h826 => ?_
  refine jd_y rfl (fun w hs => yv_ix rfl rfl (hs.row 7 rfl) h826) rfl rfl ?_
  refine jd_h rfl ?_
  refine jg_storeE 10 (a' := v823.1) rfl rfl h826.1 rfl (l1 rfl) rfl rfl rfl rfl fun y827 => ?_
  refine jg_L (r12 rfl) ?_
  refine jg_nil ?_
  refine jk_df rfl ?_
  refine jf_nils [(1, _), (6, _), (7, _), (9, _), (10, _), (11, _), (12, _), (13, _)] ⟨rfl, rfl, rfl, rfl, rfl, rfl, rfl, rfl, trivial⟩ ?_
  refine jk_sel (is := [2, 3, 4, 5, 6, 7, 8, 9, 10, 11]) (s10 rfl) rfl ?_
  refine jk_sn ?_
  refine jn_seq ?_
  refine jn_reg 17 ?_
  refine jg_y (fun w hs => yv_fieldAddr rfl) rfl rfl ?_
  refine jg_y (fun w hs => yv_load rfl (ld1B (hs.blkL (i := 7) rfl) rfl)) rfl rfl ?_
  refine jg_y (fun w hs => yv_ln rfl (hs.row 9 rfl)) rfl rfl ?_
  refine jg_y (fun w hs => yv_gtr rfl rfl) rfl rfl ?_
  refine jg_nils [(1, _), (6, _), (7, _), (9, _), (10, _), (11, _), (12, _), (13, _), (113, _)] ⟨rfl, rfl, rfl, rfl, rfl, rfl, rfl, rfl, rfl, trivial⟩ ?_
  refine jk_sn ?_
  refine jn_cond rfl ?_ ?_
  rotate_left
  · refine jn_skip ?_
    refine jk_bn ?_
    exact jk_use H27 (v823.2, v16.1, v818.1, z813.2, v18.1.Targets, y827, v21.1.Targets) (q19.2, q22.1) [0, 1, 2, 3, 4, 5, 6, 7, 8, 9] ⟨rfl, rfl, rfl, rfl, rfl, rfl, rfl, rfl, trivial⟩ rfl rfl rfl
  refine jn_drawA 18 [0, 1, 2, 3, 4, 5, 6, 7, 8, 9, 10, 11, 12, 13] 16383 144 12 [0, 1, 0, 4, 0, 0, 48, 0, 0, 448, 627, 1651, 4095, 8191] [0, 1, 0, 4, 0, 0, 48, 0, 0, 496, 1011, 2035, 4095, 8191] [(4, true), (7, true)] (np_blk (np_seq (np_blk (np_seq (np_rnd (np_blk (np_seq np_rt))))))) (by kernel_rfl) (by kernel_rfl) (by kernel_rfl) (by kernel_rfl) (by kernel_rfl) (by kernel_rfl) (by kernel_rfl) (by kernel_rfl) ?_
  refine jt_mv rfl rfl rfl ?_
  refine jt_mv rfl rfl rfl ?_
  refine jd_x ?_
  refine jx_to (L' := [_, _, _, _, _, _, _, _, _]) [0, 1, 2, 3, 5, 6, 8, 9, 10] [11, 13] [0, 1, 3, 4, 5, 6, 7, 8, 9] rfl ?_
  refine jx_lin [0, 1, 3, 4, 5, 6, 7, 8, 9] 1903 147 10 [0, 1, 0, 4, 0, 0, 48, 0, 0, 496, 1011, 2035, 4095, 8191] [(0, true), (1, true)] rfl (np_blk (np_seq (np_blk (np_seq (np_rnd (np_blk (np_seq np_rt))))))) (by kernel_rfl) (by kernel_rfl) (by kernel_rfl) (by kernel_rfl) (by kernel_rfl) (by kernel_rfl) (by kernel_rfl) (by kernel_rfl) (by kernel_rfl) ?_
  refine jd_y rfl (fun w hs => yv_fieldAddr rfl) rfl rfl ?_
  refine jd_y rfl (fun w hs => yv_load rfl (ld1B (hs.blk (i := 6) rfl) rfl)) rfl rfl ?_
  refine jd_x ?_
  refine jx3 (i := 2) (i2 := 5) (i3 := 8) (by kernel_rfl) (by kernel_rfl) rfl rfl rfl ?_ ?_ ?_
  · refine jg_y (fun w hs => yv_fieldAddr rfl) rfl rfl ?_
    refine jg_nil ?_
    refine jk_xn [0, 1, 3, 4, 5, 6, 7, 8, 9] rfl ?_
    refine jx3 (i := 3) (i2 := 5) (i3 := 8) (by kernel_rfl) (by kernel_rfl) rfl rfl rfl ?_ ?_ ?_
    · refine jg_y (fun w hs => yv_load rfl (ld1B (hs.blkL (i := 4) rfl) rfl)) rfl rfl ?_
      refine jg_nil ?_
      refine jk_xn [0, 1, 3, 4, 5, 6, 7, 8, 9] rfl ?_
      refine jx2 (i := 5) (i2 := 8) (by kernel_rfl) (by kernel_rfl) rfl rfl ?_ ?_
      · refine jg_lit (enc := encI) [(-2), 20001, 0] rfl rfl rfl rfl rfl rfl rfl rfl fun hd928 => ?_
        refine jg_nil ?_
        refine jk_xn [1, 2, 4, 5, 6, 7, 8, 9, 10] rfl ?_
        refine jx2 (i := 6) (i2 := 8) (by kernel_rfl) (by kernel_rfl) rfl rfl ?_ ?_
        · refine jl_c 3 rfl rfl (fun v w hs hm => gen_Maker_Pick_c hm (hs.blkL (i := 3) rfl) (hs.arg Rha0) (hs.offAL 3 Rha0 rfl) (hs.row 0 rfl) (hs.offLL 0 3 rfl rfl)) (fun _ => rfl) rfl rfl fun v948 q949 => ?_
          refine jg_L (r11 rfl) ?_
          refine jg_nil ?_
          refine jk_xn [1, 2, 4, 5, 6, 7, 8, 9, 10] rfl ?_
          refine jx1 (i := 8) (by kernel_rfl) (by kernel_rfl) rfl ?_
          refine jg_lit (enc := encI) [(-2), 20000, 700] rfl rfl rfl rfl rfl rfl rfl rfl fun hd988 => ?_
          refine jg_nil ?_
          refine jk_xn [2, 3, 5, 6, 7, 8, 9, 10, 11] rfl ?_
          refine jx1 (i := 9) (by kernel_rfl) (by kernel_rfl) rfl ?_
          refine jl_c 4 rfl rfl (fun v w hs hm => gen_Maker_Pick_c hm (hs.blkL (i := 4) rfl) (hs.arg Rha0) (hs.offAL 4 Rha0 rfl) (hs.row 0 rfl) (hs.offLL 0 4 rfl rfl)) (fun _ => rfl) rfl rfl fun v1008 q1009 => ?_
          refine jg_L (r12 rfl) ?_
          refine jg_nil ?_
          refine jk_xn [2, 3, 5, 6, 7, 8, 9, 10, 11] rfl ?_
          refine jx_lin [2, 3, 5, 6, 7, 8, 9, 10, 11] 1903 2047 3 [0, 1, 0, 4, 0, 0, 48, 0, 0, 496, 1011, 2035, 4095, 8191] [(10, true)] rfl (np_blk (np_seq (np_blk (np_seq (np_rnd (np_blk (np_seq np_rt))))))) (by kernel_rfl) (by kernel_rfl) (by kernel_rfl) (by kernel_rfl) (by kernel_rfl) (by kernel_rfl) (by kernel_rfl) (by kernel_rfl) (by kernel_rfl) ?_
          refine jd_ix fun x1028 h1029 => ?_
          refine jd_y rfl (fun w hs => yv_ix rfl rfl (hs.row 8 rfl) h1029) rfl rfl ?_
          refine jd_x ?_
          refine jx1 (i := 11) (by kernel_rfl) (by kernel_rfl) rfl ?_
          refine jg_storeE 11 (a' := v948.1) rfl rfl h1029.1 rfl (l1 rfl) rfl rfl rfl rfl fun y1048 => ?_
          refine jg_L (r12 rfl) ?_
          refine jg_nil ?_
          refine jk_xf (by kernel_rfl) ?_
          refine jx1 (i := 12) (by kernel_rfl) (by kernel_rfl) rfl ?_
          refine jg_ix fun x1068 h1069 => ?_
          refine jg_y (fun w hs => yv_ix rfl rfl (hs.row 8 rfl) h1069) rfl rfl ?_
          refine jg_nil ?_
          refine jk_xf (by kernel_rfl) ?_
          refine jx1 (i := 13) (by kernel_rfl) (by kernel_rfl) rfl ?_
          refine jg_storeE 8 (a' := v1008.1) rfl rfl h1069.1 rfl (l1 rfl) rfl rfl rfl rfl fun y1088 => ?_
          refine jg_L (r12 rfl) ?_
          refine jg_nil ?_
          refine jk_xf (by kernel_rfl) ?_
          refine jx0 [(1, _), (6, _), (7, _), (9, _), (10, _), (11, _), (12, _), (13, _)] ⟨rfl, rfl, rfl, rfl, rfl, rfl, rfl, rfl, trivial⟩ (by kernel_rfl) (by kernel_rfl) ?_
          refine jk_sel (is := [2, 3, 4, 5, 6, 7, 8, 9, 10, 11]) (s10 rfl) rfl ?_
          refine jk_bn ?_
          exact jk_use H27 (v1008.2, v16.1, v818.1, z813.2, y1088, y827, y1048) (q19.2, q22.1) [0, 1, 2, 3, 4, 5, 6, 7, 8, 9] ⟨rfl, rfl, rfl, rfl, rfl, rfl, rfl, rfl, trivial⟩ rfl rfl rfl
        refine jg_lit (enc := encI) [(-2), 20000, 700] rfl rfl rfl rfl rfl rfl rfl rfl fun hd988 => ?_
        refine jg_nil ?_
        refine jk_xn [2, 3, 5, 6, 7, 8, 9, 10, 11] rfl ?_
        refine jx1 (i := 6) (by kernel_rfl) (by kernel_rfl) rfl ?_
        refine jl_c 4 rfl rfl (fun v w hs hm => gen_Maker_Pick_c hm (hs.blkL (i := 4) rfl) (hs.arg Rha0) (hs.offAL 4 Rha0 rfl) (hs.row 1 rfl) (hs.offLL 1 4 rfl rfl)) (fun _ => rfl) rfl rfl fun v948 q949 => ?_
        refine jg_L (r12 rfl) ?_
        refine jg_nil ?_
        refine jk_xn [2, 3, 5, 6, 7, 8, 9, 10, 11] rfl ?_
        refine jx1 (i := 9) (by kernel_rfl) (by kernel_rfl) rfl ?_
        refine jl_c 4 rfl rfl (fun v w hs hm => gen_Maker_Pick_c hm (hs.blkL (i := 4) rfl) (hs.arg Rha0) (hs.offAL 4 Rha0 rfl) (hs.row 0 rfl) (hs.offLL 0 4 rfl rfl)) (fun _ => rfl) rfl rfl fun v1008 q1009 => ?_
        refine jg_L (r12 rfl) ?_
        refine jg_nil ?_
        refine jk_xn [2, 3, 5, 6, 7, 8, 9, 10, 11] rfl ?_
        refine jx_lin [2, 3, 5, 6, 7, 8, 9, 10, 11] 1903 2047 3 [0, 1, 0, 4, 0, 0, 48, 0, 0, 496, 1011, 2035, 4095, 8191] [(10, true)] rfl (np_blk (np_seq (np_blk (np_seq (np_rnd (np_blk (np_seq np_rt))))))) (by kernel_rfl) (by kernel_rfl) (by kernel_rfl) (by kernel_rfl) (by kernel_rfl) (by kernel_rfl) (by kernel_rfl) (by kernel_rfl) (by kernel_rfl) ?_
        refine jd_ix fun x1028 h1029 => ?_
        refine jd_y rfl (fun w hs => yv_ix rfl rfl (hs.row 8 rfl) h1029) rfl rfl ?_
        refine jd_x ?_
        refine jx1 (i := 11) (by kernel_rfl) (by kernel_rfl) rfl ?_
        refine jg_storeE 11 (a' := v948.1) rfl rfl h1029.1 rfl (l1 rfl) rfl rfl rfl rfl fun y1048 => ?_
        refine jg_L (r12 rfl) ?_
        refine jg_nil ?_
        refine jk_xf (by kernel_rfl) ?_
        refine jx1 (i := 12) (by kernel_rfl) (by kernel_rfl) rfl ?_
        refine jg_ix fun x1068 h1069 => ?_
        refine jg_y (fun w hs => yv_ix rfl rfl (hs.row 8 rfl) h1069) rfl rfl ?_
        refine jg_nil ?_
        refine jk_xf (by kernel_rfl) ?_
        refine jx1 (i := 13) (by kernel_rfl) (by kernel_rfl) rfl ?_
        refine jg_storeE 8 (a' := v1008.1) rfl rfl h1069.1 rfl (l1 rfl) rfl rfl rfl rfl fun y1088 => ?_
        refine jg_L (r12 rfl) ?_
        refine jg_nil ?_
        refine jk_xf (by kernel_rfl) ?_
        refine jx0 [(1, _), (6, _), (7, _), (9, _), (10, _), (11, _), (12, _), (13, _)] ⟨rfl, rfl, rfl, rfl, rfl, rfl, rfl, rfl, trivial⟩ (by kernel_rfl) (by kernel_rfl) ?_
        refine jk_sel (is := [2, 3, 4, 5, 6, 7, 8, 9, 10, 11]) (s10 rfl) rfl ?_
        refine jk_bn ?_
        exact jk_use H27 (v1008.2, v16.1, v818.1, z813.2, y1088, y827, y1048) (q19.2, q22.1) [0, 1, 2, 3, 4, 5, 6, 7, 8, 9] ⟨rfl, rfl, rfl, rfl, rfl, rfl, rfl, rfl, trivial⟩ rfl rfl rfl
      refine jg_lit (enc := encI) [(-2), 20000, 700] rfl rfl rfl rfl rfl rfl rfl rfl fun hd988 => ?_
      refine jg_nil ?_
      refine jk_xn [1, 2, 4, 5, 6, 7, 8, 9, 10] rfl ?_
      refine jx1 (i := 5) (by kernel_rfl) (by kernel_rfl) rfl ?_
      refine jg_lit (enc := encI) [(-2), 20001, 0] rfl rfl rfl rfl rfl rfl rfl rfl fun hd928 => ?_
      refine jg_nil ?_
      refine jk_xn [2, 3, 5, 6, 7, 8, 9, 10, 11] rfl ?_
      refine jx1 (i := 6) (by kernel_rfl) (by kernel_rfl) rfl ?_
      refine jl_c 4 rfl rfl (fun v w hs hm => gen_Maker_Pick_c hm (hs.blkL (i := 4) rfl) (hs.arg Rha0) (hs.offAL 4 Rha0 rfl) (hs.row 0 rfl) (hs.offLL 0 4 rfl rfl)) (fun _ => rfl) rfl rfl fun v948 q949 => ?_
      refine jg_L (r12 rfl) ?_
      refine jg_nil ?_
      refine jk_xn [2, 3, 5, 6, 7, 8, 9, 10, 11] rfl ?_
      refine jx1 (i := 9) (by kernel_rfl) (by kernel_rfl) rfl ?_
      refine jl_c 4 rfl rfl (fun v w hs hm => gen_Maker_Pick_c hm (hs.blkL (i := 4) rfl) (hs.arg Rha0) (hs.offAL 4 Rha0 rfl) (hs.row 1 rfl) (hs.offLL 1 4 rfl rfl)) (fun _ => rfl) rfl rfl fun v1008 q1009 => ?_
      refine jg_L (r12 rfl) ?_
      refine jg_nil ?_
      refine jk_xn [2, 3, 5, 6, 7, 8, 9, 10, 11] rfl ?_
      refine jx_lin [2, 3, 5, 6, 7, 8, 9, 10, 11] 1903 2047 3 [0, 1, 0, 4, 0, 0, 48, 0, 0, 496, 1011, 2035, 4095, 8191] [(10, true)] rfl (np_blk (np_seq (np_blk (np_seq (np_rnd (np_blk (np_seq np_rt))))))) (by kernel_rfl) (by kernel_rfl) (by kernel_rfl) (by kernel_rfl) (by kernel_rfl) (by kernel_rfl) (by kernel_rfl) (by kernel_rfl) (by kernel_rfl) ?_
      refine jd_ix fun x1028 h1029 => ?_
      refine jd_y rfl (fun w hs => yv_ix rfl rfl (hs.row 8 rfl) h1029) rfl rfl ?_
      refine jd_x ?_
      refine jx1 (i := 11) (by kernel_rfl) (by kernel_rfl) rfl ?_
      refine jg_storeE 11 (a' := v948.1) rfl rfl h1029.1 rfl (l1 rfl) rfl rfl rfl rfl fun y1048 => ?_
      refine jg_L (r12 rfl) ?_
      refine jg_nil ?_
      refine jk_xf (by kernel_rfl) ?_
      refine jx1 (i := 12) (by kernel_rfl) (by kernel_rfl) rfl ?_
      refine jg_ix fun x1068 h1069 => ?_
      refine jg_y (fun w hs => yv_ix rfl rfl (hs.row 8 rfl) h1069) rfl rfl ?_
      refine jg_nil ?_
      refine jk_xf (by kernel_rfl) ?_
      refine jx1 (i := 13) (by kernel_rfl) (by kernel_rfl) rfl ?_
      refine jg_storeE 8 (a' := v1008.1) rfl rfl h1069.1 rfl (l1 rfl) rfl rfl rfl rfl fun y1088 => ?_
      refine jg_L (r12 rfl) ?_
      refine jg_nil ?_
      refine jk_xf (by kernel_rfl) ?_
      refine jx0 [(1, _), (6, _), (7, _), (9, _), (10, _), (11, _), (12, _), (13, _)] ⟨rfl, rfl, rfl, rfl, rfl, rfl, rfl, rfl, trivial⟩ (by kernel_rfl) (by kernel_rfl) ?_
      refine jk_sel (is := [2, 3, 4, 5, 6, 7, 8, 9, 10, 11]) (s10 rfl) rfl ?_
      refine jk_bn ?_
      exact jk_use H27 (v1008.2, v16.1, v818.1, z813.2, y1088, y827, y1048) (q19.2, q22.1) [0, 1, 2, 3, 4, 5, 6, 7, 8, 9] ⟨rfl, rfl, rfl, rfl, rfl, rfl, rfl, rfl, trivial⟩ rfl rfl rfl
    · refine jg_lit (enc := encI) [(-2), 20001, 0] rfl rfl rfl rfl rfl rfl rfl rfl fun hd928 => ?_
      refine jg_nil ?_
      refine jk_xn [1, 2, 4, 5, 6, 7, 8, 9, 10] rfl ?_
      refine jx3 (i := 3) (i2 := 6) (i3 := 8) (by kernel_rfl) (by kernel_rfl) rfl rfl rfl ?_ ?_ ?_
      · refine jg_y (fun w hs => yv_load rfl (ld1B (hs.blkL (i := 5) rfl) rfl)) rfl rfl ?_
        refine jg_nil ?_
        refine jk_xn [1, 2, 4, 5, 6, 7, 8, 9, 10] rfl ?_
        refine jx2 (i := 6) (i2 := 8) (by kernel_rfl) (by kernel_rfl) rfl rfl ?_ ?_
        · refine jl_c 3 rfl rfl (fun v w hs hm => gen_Maker_Pick_c hm (hs.blkL (i := 3) rfl) (hs.arg Rha0) (hs.offAL 3 Rha0 rfl) (hs.row 0 rfl) (hs.offLL 0 3 rfl rfl)) (fun _ => rfl) rfl rfl fun v948 q949 => ?_
          refine jg_L (r11 rfl) ?_
          refine jg_nil ?_
          refine jk_xn [1, 2, 4, 5, 6, 7, 8, 9, 10] rfl ?_
          refine jx1 (i := 8) (by kernel_rfl) (by kernel_rfl) rfl ?_
          refine jg_lit (enc := encI) [(-2), 20000, 700] rfl rfl rfl rfl rfl rfl rfl rfl fun hd988 => ?_
          refine jg_nil ?_
          refine jk_xn [2, 3, 5, 6, 7, 8, 9, 10, 11] rfl ?_
          refine jx1 (i := 9) (by kernel_rfl) (by kernel_rfl) rfl ?_
          refine jl_c 4 rfl rfl (fun v w hs hm => gen_Maker_Pick_c hm (hs.blkL (i := 4) rfl) (hs.arg Rha0) (hs.offAL 4 Rha0 rfl) (hs.row 0 rfl) (hs.offLL 0 4 rfl rfl)) (fun _ => rfl) rfl rfl fun v1008 q1009 => ?_
          refine jg_L (r12 rfl) ?_
          refine jg_nil ?_
          refine jk_xn [2, 3, 5, 6, 7, 8, 9, 10, 11] rfl ?_
          refine jx_lin [2, 3, 5, 6, 7, 8, 9, 10, 11] 1903 2047 3 [0, 1, 0, 4, 0, 0, 48, 0, 0, 496, 1011, 2035, 4095, 8191] [(10, true)] rfl (np_blk (np_seq (np_blk (np_seq (np_rnd (np_blk (np_seq np_rt))))))) (by kernel_rfl) (by kernel_rfl) (by kernel_rfl) (by kernel_rfl) (by kernel_rfl) (by kernel_rfl) (by kernel_rfl) (by kernel_rfl) (by kernel_rfl) ?_
          refine jd_ix fun x1028 h1029 => ?_
          refine jd_y rfl (fun w hs => yv_ix rfl rfl (hs.row 8 rfl) h1029) rfl rfl ?_
          refine jd_x ?_
          refine jx1 (i := 11) (by kernel_rfl) (by kernel_rfl) rfl ?_
          refine jg_storeE 11 (a' := v948.1) rfl rfl h1029.1 rfl (l1 rfl) rfl rfl rfl rfl fun y1048 => ?_
          refine jg_L (r12 rfl) ?_
          refine jg_nil ?_
          refine jk_xf (by kernel_rfl) ?_
          refine jx1 (i := 12) (by kernel_rfl) (by kernel_rfl) rfl ?_
          refine jg_ix fun x1068 h1069 => ?_
          refine jg_y (fun w hs => yv_ix rfl rfl (hs.row 8 rfl) h1069) rfl rfl ?_
          refine jg_nil ?_
          refine jk_xf (by kernel_rfl) ?_
          refine jx1 (i := 13) (by kernel_rfl) (by kernel_rfl) rfl ?_
          refine jg_storeE 8 (a' := v1008.1) rfl rfl h1069.1 rfl (l1 rfl) rfl rfl rfl rfl fun y1088 => ?_
          refine jg_L (r12 rfl) ?_
          refine jg_nil ?_
          refine jk_xf (by kernel_rfl) ?_
          refine jx0 [(1, _), (6, _), (7, _), (9, _), (10, _), (11, _), (12, _), (13, _)] ⟨rfl, rfl, rfl, rfl, rfl, rfl, rfl, rfl, trivial⟩ (by kernel_rfl) (by kernel_rfl) ?_
          refine jk_sel (is := [2, 3, 4, 5, 6, 7, 8, 9, 10, 11]) (s10 rfl) rfl ?_
          refine jk_bn ?_
          exact jk_use H27 (v1008.2, v16.1, v818.1, z813.2, y1088, y827, y1048) (q19.2, q22.1) [0, 1, 2, 3, 4, 5, 6, 7, 8, 9] ⟨rfl, rfl, rfl, rfl, rfl, rfl, rfl, rfl, trivial⟩ rfl rfl rfl
        refine jg_lit (enc := encI) [(-2), 20000, 700] rfl rfl rfl rfl rfl rfl rfl rfl fun hd988 => ?_
        refine jg_nil ?_
        refine jk_xn [2, 3, 5, 6, 7, 8, 9, 10, 11] rfl ?_
        refine jx1 (i := 6) (by kernel_rfl) (by kernel_rfl) rfl ?_
        refine jl_c 4 rfl rfl (fun v w hs hm => gen_Maker_Pick_c hm (hs.blkL (i := 4) rfl) (hs.arg Rha0) (hs.offAL 4 Rha0 rfl) (hs.row 1 rfl) (hs.offLL 1 4 rfl rfl)) (fun _ => rfl) rfl rfl fun v948 q949 => ?_
        refine jg_L (r12 rfl) ?_
        refine jg_nil ?_
        refine jk_xn [2, 3, 5, 6, 7, 8, 9, 10, 11] rfl ?_
        refine jx1 (i := 9) (by kernel_rfl) (by kernel_rfl) rfl ?_
        refine jl_c 4 rfl rfl (fun v w hs hm => gen_Maker_Pick_c hm (hs.blkL (i := 4) rfl) (hs.arg Rha0) (hs.offAL 4 Rha0 rfl) (hs.row 0 rfl) (hs.offLL 0 4 rfl rfl)) (fun _ => rfl) rfl rfl fun v1008 q1009 => ?_
        refine jg_L (r12 rfl) ?_
        refine jg_nil ?_
        refine jk_xn [2, 3, 5, 6, 7, 8, 9, 10, 11] rfl ?_
        refine jx_lin [2, 3, 5, 6, 7, 8, 9, 10, 11] 1903 2047 3 [0, 1, 0, 4, 0, 0, 48, 0, 0, 496, 1011, 2035, 4095, 8191] [(10, true)] rfl (np_blk (np_seq (np_blk (np_seq (np_rnd (np_blk (np_seq np_rt))))))) (by kernel_rfl) (by kernel_rfl) (by kernel_rfl) (by kernel_rfl) (by kernel_rfl) (by kernel_rfl) (by kernel_rfl) (by kernel_rfl) (by kernel_rfl) ?_
        refine jd_ix fun x1028 h1029 => ?_
        refine jd_y rfl (fun w hs => yv_ix rfl rfl (hs.row 8 rfl) h1029) rfl rfl ?_
        refine jd_x ?_
        refine jx1 (i := 11) (by kernel_rfl) (by kernel_rfl) rfl ?_
        refine jg_storeE 11 (a' := v948.1) rfl rfl h1029.1 rfl (l1 rfl) rfl rfl rfl rfl fun y1048 => ?_
        refine jg_L (r12 rfl) ?_
        refine jg_nil ?_
        refine jk_xf (by kernel_rfl) ?_
        refine jx1 (i := 12) (by kernel_rfl) (by kernel_rfl) rfl ?_
        refine jg_ix fun x1068 h1069 => ?_
        refine jg_y (fun w hs => yv_ix rfl rfl (hs.row 8 rfl) h1069) rfl rfl ?_
        refine jg_nil ?_
        refine jk_xf (by kernel_rfl) ?_
        refine jx1 (i := 13) (by kernel_rfl) (by kernel_rfl) rfl ?_
        refine jg_storeE 8 (a' := v1008.1) rfl rfl h1069.1 rfl (l1 rfl) rfl rfl rfl rfl fun y1088 => ?_
        refine jg_L (r12 rfl) ?_
        refine jg_nil ?_
        refine jk_xf (by kernel_rfl) ?_
        refine jx0 [(1, _), (6, _), (7, _), (9, _), (10, _), (11, _), (12, _), (13, _)] ⟨rfl, rfl, rfl, rfl, rfl, rfl, rfl, rfl, trivial⟩ (by kernel_rfl) (by kernel_rfl) ?_
        refine jk_sel (is := [2, 3, 4, 5, 6, 7, 8, 9, 10, 11]) (s10 rfl) rfl ?_
        refine jk_bn ?_
        exact jk_use H27 (v1008.2, v16.1, v818.1, z813.2, y1088, y827, y1048) (q19.2, q22.1) [0, 1, 2, 3, 4, 5, 6, 7, 8, 9] ⟨rfl, rfl, rfl, rfl, rfl, rfl, rfl, rfl, trivial⟩ rfl rfl rfl
      · refine jl_c 3 rfl rfl (fun v w hs hm => gen_Maker_Pick_c hm (hs.blkL (i := 3) rfl) (hs.arg Rha0) (hs.offAL 3 Rha0 rfl) (hs.row 0 rfl) (hs.offLL 0 3 rfl rfl)) (fun _ => rfl) rfl rfl fun v948 q949 => ?_
        refine jg_L (r11 rfl) ?_
        refine jg_nil ?_
        refine jk_xn [1, 2, 4, 5, 6, 7, 8, 9, 10] rfl ?_
        refine jx2 (i := 3) (i2 := 8) (by kernel_rfl) (by kernel_rfl) rfl rfl ?_ ?_
        · refine jg_y (fun w hs => yv_load rfl (ld1B (hs.blkL (i := 5) rfl) rfl)) rfl rfl ?_
          refine jg_nil ?_
          refine jk_xn [1, 2, 4, 5, 6, 7, 8, 9, 10] rfl ?_
          refine jx1 (i := 8) (by kernel_rfl) (by kernel_rfl) rfl ?_
          refine jg_lit (enc := encI) [(-2), 20000, 700] rfl rfl rfl rfl rfl rfl rfl rfl fun hd988 => ?_
          refine jg_nil ?_
          refine jk_xn [2, 3, 5, 6, 7, 8, 9, 10, 11] rfl ?_
          refine jx1 (i := 9) (by kernel_rfl) (by kernel_rfl) rfl ?_
          refine jl_c 4 rfl rfl (fun v w hs hm => gen_Maker_Pick_c hm (hs.blkL (i := 4) rfl) (hs.arg Rha0) (hs.offAL 4 Rha0 rfl) (hs.row 0 rfl) (hs.offLL 0 4 rfl rfl)) (fun _ => rfl) rfl rfl fun v1008 q1009 => ?_
          refine jg_L (r12 rfl) ?_
          refine jg_nil ?_
          refine jk_xn [2, 3, 5, 6, 7, 8, 9, 10, 11] rfl ?_
          refine jx_lin [2, 3, 5, 6, 7, 8, 9, 10, 11] 1903 2047 3 [0, 1, 0, 4, 0, 0, 48, 0, 0, 496, 1011, 2035, 4095, 8191] [(10, true)] rfl (np_blk (np_seq (np_blk (np_seq (np_rnd (np_blk (np_seq np_rt))))))) (by kernel_rfl) (by kernel_rfl) (by kernel_rfl) (by kernel_rfl) (by kernel_rfl) (by kernel_rfl) (by kernel_rfl) (by kernel_rfl) (by kernel_rfl) ?_
          refine jd_ix fun x1028 h1029 => ?_
          refine jd_y rfl (fun w hs => yv_ix rfl rfl (hs.row 8 rfl) h1029) rfl rfl ?_
          refine jd_x ?_
          refine jx1 (i := 11) (by kernel_rfl) (by kernel_rfl) rfl ?_
          refine jg_storeE 11 (a' := v948.1) rfl rfl h1029.1 rfl (l1 rfl) rfl rfl rfl rfl fun y1048 => ?_
          refine jg_L (r12 rfl) ?_
          refine jg_nil ?_
          refine jk_xf (by kernel_rfl) ?_
          refine jx1 (i := 12) (by kernel_rfl) (by kernel_rfl) rfl ?_
          refine jg_ix fun x1068 h1069 => ?_
          refine jg_y (fun w hs => yv_ix rfl rfl (hs.row 8 rfl) h1069) rfl rfl ?_
          refine jg_nil ?_
          refine jk_xf (by kernel_rfl) ?_
          refine jx1 (i := 13) (by kernel_rfl) (by kernel_rfl) rfl ?_
          refine jg_storeE 8 (a' := v1008.1) rfl rfl h1069.1 rfl (l1 rfl) rfl rfl rfl rfl fun y1088 => ?_
          refine jg_L (r12 rfl) ?_
          refine jg_nil ?_
          refine jk_xf (by kernel_rfl) ?_
          refine jx0 [(1, _), (6, _), (7, _), (9, _), (10, _), (11, _), (12, _), (13, _)] ⟨rfl, rfl, rfl, rfl, rfl, rfl, rfl, rfl, trivial⟩ (by kernel_rfl) (by kernel_rfl) ?_
          refine jk_sel (is := [2, 3, 4, 5, 6, 7, 8, 9, 10, 11]) (s10 rfl) rfl ?_
          refine jk_bn ?_
          exact jk_use H27 (v1008.2, v16.1, v818.1, z813.2, y1088, y827, y1048) (q19.2, q22.1) [0, 1, 2, 3, 4, 5, 6, 7, 8, 9] ⟨rfl, rfl, rfl, rfl, rfl, rfl, rfl, rfl, trivial⟩ rfl rfl rfl
        refine jg_lit (enc := encI) [(-2), 20000, 700] rfl rfl rfl rfl rfl rfl rfl rfl fun hd988 => ?_
        refine jg_nil ?_
        refine jk_xn [2, 3, 5, 6, 7, 8, 9, 10, 11] rfl ?_
        refine jx2 (i := 3) (i2 := 9) (by kernel_rfl) (by kernel_rfl) rfl rfl ?_ ?_
        · refine jg_y (fun w hs => yv_load rfl (ld1B (hs.blkL (i := 6) rfl) rfl)) rfl rfl ?_
          refine jg_nil ?_
          refine jk_xn [2, 3, 5, 6, 7, 8, 9, 10, 11] rfl ?_
          refine jx1 (i := 9) (by kernel_rfl) (by kernel_rfl) rfl ?_
          refine jl_c 4 rfl rfl (fun v w hs hm => gen_Maker_Pick_c hm (hs.blkL (i := 4) rfl) (hs.arg Rha0) (hs.offAL 4 Rha0 rfl) (hs.row 0 rfl) (hs.offLL 0 4 rfl rfl)) (fun _ => rfl) rfl rfl fun v1008 q1009 => ?_
          refine jg_L (r12 rfl) ?_
          refine jg_nil ?_
          refine jk_xn [2, 3, 5, 6, 7, 8, 9, 10, 11] rfl ?_
          refine jx_lin [2, 3, 5, 6, 7, 8, 9, 10, 11] 1903 2047 3 [0, 1, 0, 4, 0, 0, 48, 0, 0, 496, 1011, 2035, 4095, 8191] [(10, true)] rfl (np_blk (np_seq (np_blk (np_seq (np_rnd (np_blk (np_seq np_rt))))))) (by kernel_rfl) (by kernel_rfl) (by kernel_rfl) (by kernel_rfl) (by kernel_rfl) (by kernel_rfl) (by kernel_rfl) (by kernel_rfl) (by kernel_rfl) ?_
          refine jd_ix fun x1028 h1029 => ?_
          refine jd_y rfl (fun w hs => yv_ix rfl rfl (hs.row 8 rfl) h1029) rfl rfl ?_
          refine jd_x ?_
          refine jx1 (i := 11) (by kernel_rfl) (by kernel_rfl) rfl ?_
          refine jg_storeE 11 (a' := v948.1) rfl rfl h1029.1 rfl (l1 rfl) rfl rfl rfl rfl fun y1048 => ?_
          refine jg_L (r12 rfl) ?_
          refine jg_nil ?_
          refine jk_xf (by kernel_rfl) ?_
          refine jx1 (i := 12) (by kernel_rfl) (by kernel_rfl) rfl ?_
          refine jg_ix fun x1068 h1069 => ?_
          refine jg_y (fun w hs => yv_ix rfl rfl (hs.row 8 rfl) h1069) rfl rfl ?_
          refine jg_nil ?_
          refine jk_xf (by kernel_rfl) ?_
          refine jx1 (i := 13) (by kernel_rfl) (by kernel_rfl) rfl ?_
          refine jg_storeE 8 (a' := v1008.1) rfl rfl h1069.1 rfl (l1 rfl) rfl rfl rfl rfl fun y1088 => ?_
          refine jg_L (r12 rfl) ?_
          refine jg_nil ?_
          refine jk_xf (by kernel_rfl) ?_
          refine jx0 [(1, _), (6, _), (7, _), (9, _), (10, _), (11, _), (12, _), (13, _)] ⟨rfl, rfl, rfl, rfl, rfl, rfl, rfl, rfl, trivial⟩ (by kernel_rfl) (by kernel_rfl) ?_
          refine jk_sel (is := [2, 3, 4, 5, 6, 7, 8, 9, 10, 11]) (s10 rfl) rfl ?_
          refine jk_bn ?_
          exact jk_use H27 (v1008.2, v16.1, v818.1, z813.2, y1088, y827, y1048) (q19.2, q22.1) [0, 1, 2, 3, 4, 5, 6, 7, 8, 9] ⟨rfl, rfl, rfl, rfl, rfl, rfl, rfl, rfl, trivial⟩ rfl rfl rfl
        refine jl_c 4 rfl rfl (fun v w hs hm => gen_Maker_Pick_c hm (hs.blkL (i := 4) rfl) (hs.arg Rha0) (hs.offAL 4 Rha0 rfl) (hs.row 0 rfl) (hs.offLL 0 4 rfl rfl)) (fun _ => rfl) rfl rfl fun v1008 q1009 => ?_
        refine jg_L (r12 rfl) ?_
        refine jg_nil ?_
        refine jk_xn [2, 3, 5, 6, 7, 8, 9, 10, 11] rfl ?_
        refine jx_lin [2, 3, 5, 6, 7, 8, 9, 10, 11] 1903 2039 4 [0, 1, 0, 4, 0, 0, 48, 0, 0, 496, 1011, 2035, 4095, 8191] [(10, true)] rfl (np_blk (np_seq (np_blk (np_seq (np_rnd (np_blk (np_seq np_rt))))))) (by kernel_rfl) (by kernel_rfl) (by kernel_rfl) (by kernel_rfl) (by kernel_rfl) (by kernel_rfl) (by kernel_rfl) (by kernel_rfl) (by kernel_rfl) ?_
        refine jd_ix fun x1028 h1029 => ?_
        refine jd_y rfl (fun w hs => yv_ix rfl rfl (hs.row 8 rfl) h1029) rfl rfl ?_
        refine jd_x ?_
        refine jx2 (i := 3) (i2 := 11) (by kernel_rfl) (by kernel_rfl) rfl rfl ?_ ?_
        · refine jg_y (fun w hs => yv_load rfl (ld1B (hs.blkL (i := 6) rfl) rfl)) rfl rfl ?_
          refine jg_nil ?_
          refine jk_xn [2, 3, 5, 6, 7, 8, 9, 10, 11] rfl ?_
          refine jx1 (i := 11) (by kernel_rfl) (by kernel_rfl) rfl ?_
          refine jg_storeE 11 (a' := v948.1) rfl rfl h1029.1 rfl (l1 rfl) rfl rfl rfl rfl fun y1048 => ?_
          refine jg_L (r12 rfl) ?_
          refine jg_nil ?_
          refine jk_xf (by kernel_rfl) ?_
          refine jx1 (i := 12) (by kernel_rfl) (by kernel_rfl) rfl ?_
          refine jg_ix fun x1068 h1069 => ?_
          refine jg_y (fun w hs => yv_ix rfl rfl (hs.row 8 rfl) h1069) rfl rfl ?_
          refine jg_nil ?_
          refine jk_xf (by kernel_rfl) ?_
          refine jx1 (i := 13) (by kernel_rfl) (by kernel_rfl) rfl ?_
          refine jg_storeE 8 (a' := v1008.1) rfl rfl h1069.1 rfl (l1 rfl) rfl rfl rfl rfl fun y1088 => ?_
          refine jg_L (r12 rfl) ?_
          refine jg_nil ?_
          refine jk_xf (by kernel_rfl) ?_
          refine jx0 [(1, _), (6, _), (7, _), (9, _), (10, _), (11, _), (12, _), (13, _)] ⟨rfl, rfl, rfl, rfl, rfl, rfl, rfl, rfl, trivial⟩ (by kernel_rfl) (by kernel_rfl) ?_
          refine jk_sel (is := [2, 3, 4, 5, 6, 7, 8, 9, 10, 11]) (s10 rfl) rfl ?_
          refine jk_bn ?_
          exact jk_use H27 (v1008.2, v16.1, v818.1, z813.2, y1088, y827, y1048) (q19.2, q22.1) [0, 1, 2, 3, 4, 5, 6, 7, 8, 9] ⟨rfl, rfl, rfl, rfl, rfl, rfl, rfl, rfl, trivial⟩ rfl rfl rfl
        refine jg_storeE 11 (a' := v948.1) rfl rfl h1029.1 rfl (l1 rfl) rfl rfl rfl rfl fun y1048 => ?_
        refine jg_L (r12 rfl) ?_
        refine jg_nil ?_
        refine jk_xf (by kernel_rfl) ?_
        refine jx1 (i := 3) (by kernel_rfl) (by kernel_rfl) rfl ?_
        refine jg_y (fun w hs => yv_load rfl (ld1B (hs.blkL (i := 6) rfl) rfl)) rfl rfl ?_
        refine jg_nil ?_
        refine jk_xf (by kernel_rfl) ?_
        refine jx1 (i := 12) (by kernel_rfl) (by kernel_rfl) rfl ?_
        refine jg_ix fun x1068 h1069 => ?_
        refine jg_y (fun w hs => yv_ix rfl rfl (hs.row 8 rfl) h1069) rfl rfl ?_
        refine jg_nil ?_
        refine jk_xf (by kernel_rfl) ?_
        refine jx1 (i := 13) (by kernel_rfl) (by kernel_rfl) rfl ?_
        refine jg_storeE 8 (a' := v1008.1) rfl rfl h1069.1 rfl (l1 rfl) rfl rfl rfl rfl fun y1088 => ?_
        refine jg_L (r12 rfl) ?_
        refine jg_nil ?_
        refine jk_xf (by kernel_rfl) ?_
        refine jx0 [(1, _), (6, _), (7, _), (9, _), (10, _), (11, _), (12, _), (13, _)] ⟨rfl, rfl, rfl, rfl, rfl, rfl, rfl, rfl, trivial⟩ (by kernel_rfl) (by kernel_rfl) ?_
        refine jk_sel (is := [2, 3, 4, 5, 6, 7, 8, 9, 10, 11]) (s10 rfl) rfl ?_
        refine jk_bn ?_
        exact jk_use H27 (v1008.2, v16.1, v818.1, z813.2, y1088, y827, y1048) (q19.2, q22.1) [0, 1, 2, 3, 4, 5, 6, 7, 8, 9] ⟨rfl, rfl, rfl, rfl, rfl, rfl, rfl, rfl, trivial⟩ rfl rfl rfl
      refine jg_lit (enc := encI) [(-2), 20000, 700] rfl rfl rfl rfl rfl rfl rfl rfl fun hd988 => ?_
      refine jg_nil ?_
      refine jk_xn [2, 3, 5, 6, 7, 8, 9, 10, 11] rfl ?_
      refine jx2 (i := 3) (i2 := 6) (by kernel_rfl) (by kernel_rfl) rfl rfl ?_ ?_
      · refine jg_y (fun w hs => yv_load rfl (ld1B (hs.blkL (i := 6) rfl) rfl)) rfl rfl ?_
        refine jg_nil ?_
        refine jk_xn [2, 3, 5, 6, 7, 8, 9, 10, 11] rfl ?_
        refine jx1 (i := 6) (by kernel_rfl) (by kernel_rfl) rfl ?_
        refine jl_c 4 rfl rfl (fun v w hs hm => gen_Maker_Pick_c hm (hs.blkL (i := 4) rfl) (hs.arg Rha0) (hs.offAL 4 Rha0 rfl) (hs.row 1 rfl) (hs.offLL 1 4 rfl rfl)) (fun _ => rfl) rfl rfl fun v948 q949 => ?_
        refine jg_L (r12 rfl) ?_
        refine jg_nil ?_
        refine jk_xn [2, 3, 5, 6, 7, 8, 9, 10, 11] rfl ?_
        refine jx1 (i := 9) (by kernel_rfl) (by kernel_rfl) rfl ?_
        refine jl_c 4 rfl rfl (fun v w hs hm => gen_Maker_Pick_c hm (hs.blkL (i := 4) rfl) (hs.arg Rha0) (hs.offAL 4 Rha0 rfl) (hs.row 0 rfl) (hs.offLL 0 4 rfl rfl)) (fun _ => rfl) rfl rfl fun v1008 q1009 => ?_
        refine jg_L (r12 rfl) ?_
        refine jg_nil ?_
        refine jk_xn [2, 3, 5, 6, 7, 8, 9, 10, 11] rfl ?_
        refine jx_lin [2, 3, 5, 6, 7, 8, 9, 10, 11] 1903 2047 3 [0, 1, 0, 4, 0, 0, 48, 0, 0, 496, 1011, 2035, 4095, 8191] [(10, true)] rfl (np_blk (np_seq (np_blk (np_seq (np_rnd (np_blk (np_seq np_rt))))))) (by kernel_rfl) (by kernel_rfl) (by kernel_rfl) (by kernel_rfl) (by kernel_rfl) (by kernel_rfl) (by kernel_rfl) (by kernel_rfl) (by kernel_rfl) ?_
        refine jd_ix fun x1028 h1029 => ?_
        refine jd_y rfl (fun w hs => yv_ix rfl rfl (hs.row 8 rfl) h1029) rfl rfl ?_
        refine jd_x ?_
        refine jx1 (i := 11) (by kernel_rfl) (by kernel_rfl) rfl ?_
        refine jg_storeE 11 (a' := v948.1) rfl rfl h1029.1 rfl (l1 rfl) rfl rfl rfl rfl fun y1048 => ?_
        refine jg_L (r12 rfl) ?_
        refine jg_nil ?_
        refine jk_xf (by kernel_rfl) ?_
        refine jx1 (i := 12) (by kernel_rfl) (by kernel_rfl) rfl ?_
        refine jg_ix fun x1068 h1069 => ?_
        refine jg_y (fun w hs => yv_ix rfl rfl (hs.row 8 rfl) h1069) rfl rfl ?_
        refine jg_nil ?_
        refine jk_xf (by kernel_rfl) ?_
        refine jx1 (i := 13) (by kernel_rfl) (by kernel_rfl) rfl ?_
        refine jg_storeE 8 (a' := v1008.1) rfl rfl h1069.1 rfl (l1 rfl) rfl rfl rfl rfl fun y1088 => ?_
        refine jg_L (r12 rfl) ?_
        refine jg_nil ?_
        refine jk_xf (by kernel_rfl) ?_
        refine jx0 [(1, _), (6, _), (7, _), (9, _), (10, _), (11, _), (12, _), (13, _)] ⟨rfl, rfl, rfl, rfl, rfl, rfl, rfl, rfl, trivial⟩ (by kernel_rfl) (by kernel_rfl) ?_
        refine jk_sel (is := [2, 3, 4, 5, 6, 7, 8, 9, 10, 11]) (s10 rfl) rfl ?_
        refine jk_bn ?_
        exact jk_use H27 (v1008.2, v16.1, v818.1, z813.2, y1088, y827, y1048) (q19.2, q22.1) [0, 1, 2, 3, 4, 5, 6, 7, 8, 9] ⟨rfl, rfl, rfl, rfl, rfl, rfl, rfl, rfl, trivial⟩ rfl rfl rfl
      refine jl_c 4 rfl rfl (fun v w hs hm => gen_Maker_Pick_c hm (hs.blkL (i := 4) rfl) (hs.arg Rha0) (hs.offAL 4 Rha0 rfl) (hs.row 1 rfl) (hs.offLL 1 4 rfl rfl)) (fun _ => rfl) rfl rfl fun v948 q949 => ?_
      refine jg_L (r12 rfl) ?_
      refine jg_nil ?_
      refine jk_xn [2, 3, 5, 6, 7, 8, 9, 10, 11] rfl ?_
      refine jx2 (i := 3) (i2 := 9) (by kernel_rfl) (by kernel_rfl) rfl rfl ?_ ?_
      · refine jg_y (fun w hs => yv_load rfl (ld1B (hs.blkL (i := 6) rfl) rfl)) rfl rfl ?_
        refine jg_nil ?_
        refine jk_xn [2, 3, 5, 6, 7, 8, 9, 10, 11] rfl ?_
        refine jx1 (i := 9) (by kernel_rfl) (by kernel_rfl) rfl ?_
        refine jl_c 4 rfl rfl (fun v w hs hm => gen_Maker_Pick_c hm (hs.blkL (i := 4) rfl) (hs.arg Rha0) (hs.offAL 4 Rha0 rfl) (hs.row 0 rfl) (hs.offLL 0 4 rfl rfl)) (fun _ => rfl) rfl rfl fun v1008 q1009 => ?_
        refine jg_L (r12 rfl) ?_
        refine jg_nil ?_
        refine jk_xn [2, 3, 5, 6, 7, 8, 9, 10, 11] rfl ?_
        refine jx_lin [2, 3, 5, 6, 7, 8, 9, 10, 11] 1903 2047 3 [0, 1, 0, 4, 0, 0, 48, 0, 0, 496, 1011, 2035, 4095, 8191] [(10, true)] rfl (np_blk (np_seq (np_blk (np_seq (np_rnd (np_blk (np_seq np_rt))))))) (by kernel_rfl) (by kernel_rfl) (by kernel_rfl) (by kernel_rfl) (by kernel_rfl) (by kernel_rfl) (by kernel_rfl) (by kernel_rfl) (by kernel_rfl) ?_
        refine jd_ix fun x1028 h1029 => ?_
        refine jd_y rfl (fun w hs => yv_ix rfl rfl (hs.row 8 rfl) h1029) rfl rfl ?_
        refine jd_x ?_
        refine jx1 (i := 11) (by kernel_rfl) (by kernel_rfl) rfl ?_
        refine jg_storeE 11 (a' := v948.1) rfl rfl h1029.1 rfl (l1 rfl) rfl rfl rfl rfl fun y1048 => ?_
        refine jg_L (r12 rfl) ?_
        refine jg_nil ?_
        refine jk_xf (by kernel_rfl) ?_
        refine jx1 (i := 12) (by kernel_rfl) (by kernel_rfl) rfl ?_
        refine jg_ix fun x1068 h1069 => ?_
        refine jg_y (fun w hs => yv_ix rfl rfl (hs.row 8 rfl) h1069) rfl rfl ?_
        refine jg_nil ?_
        refine jk_xf (by kernel_rfl) ?_
        refine jx1 (i := 13) (by kernel_rfl) (by kernel_rfl) rfl ?_
        refine jg_storeE 8 (a' := v1008.1) rfl rfl h1069.1 rfl (l1 rfl) rfl rfl rfl rfl fun y1088 => ?_
        refine jg_L (r12 rfl) ?_
        refine jg_nil ?_
        refine jk_xf (by kernel_rfl) ?_
        refine jx0 [(1, _), (6, _), (7, _), (9, _), (10, _), (11, _), (12, _), (13, _)] ⟨rfl, rfl, rfl, rfl, rfl, rfl, rfl, rfl, trivial⟩ (by kernel_rfl) (by kernel_rfl) ?_
        refine jk_sel (is := [2, 3, 4, 5, 6, 7, 8, 9, 10, 11]) (s10 rfl) rfl ?_
        refine jk_bn ?_
        exact jk_use H27 (v1008.2, v16.1, v818.1, z813.2, y1088, y827, y1048) (q19.2, q22.1) [0, 1, 2, 3, 4, 5, 6, 7, 8, 9] ⟨rfl, rfl, rfl, rfl, rfl, rfl, rfl, rfl, trivial⟩ rfl rfl rfl
      refine jl_c 4 rfl rfl (fun v w hs hm => gen_Maker_Pick_c hm (hs.blkL (i := 4) rfl) (hs.arg Rha0) (hs.offAL 4 Rha0 rfl) (hs.row 0 rfl) (hs.offLL 0 4 rfl rfl)) (fun _ => rfl) rfl rfl fun v1008 q1009 => ?_
      refine jg_L (r12 rfl) ?_
      refine jg_nil ?_
      refine jk_xn [2, 3, 5, 6, 7, 8, 9, 10, 11] rfl ?_
      refine jx_lin [2, 3, 5, 6, 7, 8, 9, 10, 11] 1903 2039 4 [0, 1, 0, 4, 0, 0, 48, 0, 0, 496, 1011, 2035, 4095, 8191] [(10, true)] rfl (np_blk (np_seq (np_blk (np_seq (np_rnd (np_blk (np_seq np_rt))))))) (by kernel_rfl) (by kernel_rfl) (by kernel_rfl) (by kernel_rfl) (by kernel_rfl) (by kernel_rfl) (by kernel_rfl) (by kernel_rfl) (by kernel_rfl) ?_
      refine jd_ix fun x1028 h1029 => ?_
      refine jd_y rfl (fun w hs => yv_ix rfl rfl (hs.row 8 rfl) h1029) rfl rfl ?_
      refine jd_x ?_
      refine jx2 (i := 3) (i2 := 11) (by kernel_rfl) (by kernel_rfl) rfl rfl ?_ ?_
      · refine jg_y (fun w hs => yv_load rfl (ld1B (hs.blkL (i := 6) rfl) rfl)) rfl rfl ?_
        refine jg_nil ?_
        refine jk_xn [2, 3, 5, 6, 7, 8, 9, 10, 11] rfl ?_
        refine jx1 (i := 11) (by kernel_rfl) (by kernel_rfl) rfl ?_
        refine jg_storeE 11 (a' := v948.1) rfl rfl h1029.1 rfl (l1 rfl) rfl rfl rfl rfl fun y1048 => ?_
        refine jg_L (r12 rfl) ?_
        refine jg_nil ?_
        refine jk_xf (by kernel_rfl) ?_
        refine jx1 (i := 12) (by kernel_rfl) (by kernel_rfl) rfl ?_
        refine jg_ix fun x1068 h1069 => ?_
        refine jg_y (fun w hs => yv_ix rfl rfl (hs.row 8 rfl) h1069) rfl rfl ?_
        refine jg_nil ?_
        refine jk_xf (by kernel_rfl) ?_
        refine jx1 (i := 13) (by kernel_rfl) (by kernel_rfl) rfl ?_
        refine jg_storeE 8 (a' := v1008.1) rfl rfl h1069.1 rfl (l1 rfl) rfl rfl rfl rfl fun y1088 => ?_
        refine jg_L (r12 rfl) ?_
        refine jg_nil ?_
        refine jk_xf (by kernel_rfl) ?_
        refine jx0 [(1, _), (6, _), (7, _), (9, _), (10, _), (11, _), (12, _), (13, _)] ⟨rfl, rfl, rfl, rfl, rfl, rfl, rfl, rfl, trivial⟩ (by kernel_rfl) (by kernel_rfl) ?_
        refine jk_sel (is := [2, 3, 4, 5, 6, 7, 8, 9, 10, 11]) (s10 rfl) rfl ?_
        refine jk_bn ?_
        exact jk_use H27 (v1008.2, v16.1, v818.1, z813.2, y1088, y827, y1048) (q19.2, q22.1) [0, 1, 2, 3, 4, 5, 6, 7, 8, 9] ⟨rfl, rfl, rfl, rfl, rfl, rfl, rfl, rfl, trivial⟩ rfl rfl rfl
      refine jg_storeE 11 (a' := v948.1) rfl rfl h1029.1 rfl (l1 rfl) rfl rfl rfl rfl fun y1048 => ?_
      refine jg_L (r12 rfl) ?_
      refine jg_nil ?_
      refine jk_xf (by kernel_rfl) ?_
      refine jx1 (i := 3) (by kernel_rfl) (by kernel_rfl) rfl ?_
      refine jg_y (fun w hs => yv_load rfl (ld1B (hs.blkL (i := 6) rfl) rfl)) rfl rfl ?_
      refine jg_nil ?_
      refine jk_xf (by kernel_rfl) ?_
      refine jx1 (i := 12) (by kernel_rfl) (by kernel_rfl) rfl ?_
      refine jg_ix fun x1068 h1069 => ?_
      refine jg_y (fun w hs => yv_ix rfl rfl (hs.row 8 rfl) h1069) rfl rfl ?_
      refine jg_nil ?_
      refine jk_xf (by kernel_rfl) ?_
      refine jx1 (i := 13) (by kernel_rfl) (by kernel_rfl) rfl ?_
      refine jg_storeE 8 (a' := v1008.1) rfl rfl h1069.1 rfl (l1 rfl) rfl rfl rfl rfl fun y1088 => ?_
      refine jg_L (r12 rfl) ?_
      refine jg_nil ?_
      refine jk_xf (by kernel_rfl) ?_
      refine jx0 [(1, _), (6, _), (7, _), (9, _), (10, _), (11, _), (12, _), (13, _)] ⟨rfl, rfl, rfl, rfl, rfl, rfl, rfl, rfl, trivial⟩ (by kernel_rfl) (by kernel_rfl) ?_
      refine jk_sel (is := [2, 3, 4, 5, 6, 7, 8, 9, 10, 11]) (s10 rfl) rfl ?_
      refine jk_bn ?_
      exact jk_use H27 (v1008.2, v16.1, v818.1, z813.2, y1088, y827, y1048) (q19.2, q22.1) [0, 1, 2, 3, 4, 5, 6, 7, 8, 9] ⟨rfl, rfl, rfl, rfl, rfl, rfl, rfl, rfl, trivial⟩ rfl rfl rfl
    refine jg_lit (enc := encI) [(-2), 20000, 700] rfl rfl rfl rfl rfl rfl rfl rfl fun hd988 => ?_
    refine jg_nil ?_
    refine jk_xn [1, 2, 4, 5, 6, 7, 8, 9, 10] rfl ?_
    refine jx2 (i := 3) (i2 := 5) (by kernel_rfl) (by kernel_rfl) rfl rfl ?_ ?_
    · refine jg_y (fun w hs => yv_load rfl (ld1B (hs.blkL (i := 5) rfl) rfl)) rfl rfl ?_
      refine jg_nil ?_
      refine jk_xn [1, 2, 4, 5, 6, 7, 8, 9, 10] rfl ?_
      refine jx1 (i := 5) (by kernel_rfl) (by kernel_rfl) rfl ?_
      refine jg_lit (enc := encI) [(-2), 20001, 0] rfl rfl rfl rfl rfl rfl rfl rfl fun hd928 => ?_
      refine jg_nil ?_
      refine jk_xn [2, 3, 5, 6, 7, 8, 9, 10, 11] rfl ?_
      refine jx1 (i := 6) (by kernel_rfl) (by kernel_rfl) rfl ?_
      refine jl_c 4 rfl rfl (fun v w hs hm => gen_Maker_Pick_c hm (hs.blkL (i := 4) rfl) (hs.arg Rha0) (hs.offAL 4 Rha0 rfl) (hs.row 0 rfl) (hs.offLL 0 4 rfl rfl)) (fun _ => rfl) rfl rfl fun v948 q949 => ?_
      refine jg_L (r12 rfl) ?_
      refine jg_nil ?_
      refine jk_xn [2, 3, 5, 6, 7, 8, 9, 10, 11] rfl ?_
      refine jx1 (i := 9) (by kernel_rfl) (by kernel_rfl) rfl ?_
      refine jl_c 4 rfl rfl (fun v w hs hm => gen_Maker_Pick_c hm (hs.blkL (i := 4) rfl) (hs.arg Rha0) (hs.offAL 4 Rha0 rfl) (hs.row 1 rfl) (hs.offLL 1 4 rfl rfl)) (fun _ => rfl) rfl rfl fun v1008 q1009 => ?_
      refine jg_L (r12 rfl) ?_
      refine jg_nil ?_
      refine jk_xn [2, 3, 5, 6, 7, 8, 9, 10, 11] rfl ?_
      refine jx_lin [2, 3, 5, 6, 7, 8, 9, 10, 11] 1903 2047 3 [0, 1, 0, 4, 0, 0, 48, 0, 0, 496, 1011, 2035, 4095, 8191] [(10, true)] rfl (np_blk (np_seq (np_blk (np_seq (np_rnd (np_blk (np_seq np_rt))))))) (by kernel_rfl) (by kernel_rfl) (by kernel_rfl) (by kernel_rfl) (by kernel_rfl) (by kernel_rfl) (by kernel_rfl) (by kernel_rfl) (by kernel_rfl) ?_
      refine jd_ix fun x1028 h1029 => ?_
      refine jd_y rfl (fun w hs => yv_ix rfl rfl (hs.row 8 rfl) h1029) rfl rfl ?_
      refine jd_x ?_
      refine jx1 (i := 11) (by kernel_rfl) (by kernel_rfl) rfl ?_
      refine jg_storeE 11 (a' := v948.1) rfl rfl h1029.1 rfl (l1 rfl) rfl rfl rfl rfl fun y1048 => ?_
      refine jg_L (r12 rfl) ?_
      refine jg_nil ?_
      refine jk_xf (by kernel_rfl) ?_
      refine jx1 (i := 12) (by kernel_rfl) (by kernel_rfl) rfl ?_
      refine jg_ix fun x1068 h1069 => ?_
      refine jg_y (fun w hs => yv_ix rfl rfl (hs.row 8 rfl) h1069) rfl rfl ?_
      refine jg_nil ?_
      refine jk_xf (by kernel_rfl) ?_
      refine jx1 (i := 13) (by kernel_rfl) (by kernel_rfl) rfl ?_
      refine jg_storeE 8 (a' := v1008.1) rfl rfl h1069.1 rfl (l1 rfl) rfl rfl rfl rfl fun y1088 => ?_
      refine jg_L (r12 rfl) ?_
      refine jg_nil ?_
      refine jk_xf (by kernel_rfl) ?_
      refine jx0 [(1, _), (6, _), (7, _), (9, _), (10, _), (11, _), (12, _), (13, _)] ⟨rfl, rfl, rfl, rfl, rfl, rfl, rfl, rfl, trivial⟩ (by kernel_rfl) (by kernel_rfl) ?_
      refine jk_sel (is := [2, 3, 4, 5, 6, 7, 8, 9, 10, 11]) (s10 rfl) rfl ?_
      refine jk_bn ?_
      exact jk_use H27 (v1008.2, v16.1, v818.1, z813.2, y1088, y827, y1048) (q19.2, q22.1) [0, 1, 2, 3, 4, 5, 6, 7, 8, 9] ⟨rfl, rfl, rfl, rfl, rfl, rfl, rfl, rfl, trivial⟩ rfl rfl rfl
    refine jg_lit (enc := encI) [(-2), 20001, 0] rfl rfl rfl rfl rfl rfl rfl rfl fun hd928 => ?_
    refine jg_nil ?_
    refine jk_xn [2, 3, 5, 6, 7, 8, 9, 10, 11] rfl ?_
    refine jx2 (i := 3) (i2 := 6) (by kernel_rfl) (by kernel_rfl) rfl rfl ?_ ?_
    · refine jg_y (fun w hs => yv_load rfl (ld1B (hs.blkL (i := 6) rfl) rfl)) rfl rfl ?_
      refine jg_nil ?_
      refine jk_xn [2, 3, 5, 6, 7, 8, 9, 10, 11] rfl ?_
      refine jx1 (i := 6) (by kernel_rfl) (by kernel_rfl) rfl ?_
      refine jl_c 4 rfl rfl (fun v w hs hm => gen_Maker_Pick_c hm (hs.blkL (i := 4) rfl) (hs.arg Rha0) (hs.offAL 4 Rha0 rfl) (hs.row 0 rfl) (hs.offLL 0 4 rfl rfl)) (fun _ => rfl) rfl rfl fun v948 q949 => ?_
      refine jg_L (r12 rfl) ?_
      refine jg_nil ?_
      refine jk_xn [2, 3, 5, 6, 7, 8, 9, 10, 11] rfl ?_
      refine jx1 (i := 9) (by kernel_rfl) (by kernel_rfl) rfl ?_
      refine jl_c 4 rfl rfl (fun v w hs hm => gen_Maker_Pick_c hm (hs.blkL (i := 4) rfl) (hs.arg Rha0) (hs.offAL 4 Rha0 rfl) (hs.row 1 rfl) (hs.offLL 1 4 rfl rfl)) (fun _ => rfl) rfl rfl fun v1008 q1009 => ?_
      refine jg_L (r12 rfl) ?_
      refine jg_nil ?_
      refine jk_xn [2, 3, 5, 6, 7, 8, 9, 10, 11] rfl ?_
      refine jx_lin [2, 3, 5, 6, 7, 8, 9, 10, 11] 1903 2047 3 [0, 1, 0, 4, 0, 0, 48, 0, 0, 496, 1011, 2035, 4095, 8191] [(10, true)] rfl (np_blk (np_seq (np_blk (np_seq (np_rnd (np_blk (np_seq np_rt))))))) (by kernel_rfl) (by kernel_rfl) (by kernel_rfl) (by kernel_rfl) (by kernel_rfl) (by kernel_rfl) (by kernel_rfl) (by kernel_rfl) (by kernel_rfl) ?_
      refine jd_ix fun x1028 h1029 => ?_
      refine jd_y rfl (fun w hs => yv_ix rfl rfl (hs.row 8 rfl) h1029) rfl rfl ?_
      refine jd_x ?_
      refine jx1 (i := 11) (by kernel_rfl) (by kernel_rfl) rfl ?_
      refine jg_storeE 11 (a' := v948.1) rfl rfl h1029.1 rfl (l1 rfl) rfl rfl rfl rfl fun y1048 => ?_
      refine jg_L (r12 rfl) ?_
      refine jg_nil ?_
      refine jk_xf (by kernel_rfl) ?_
      refine jx1 (i := 12) (by kernel_rfl) (by kernel_rfl) rfl ?_
      refine jg_ix fun x1068 h1069 => ?_
      refine jg_y (fun w hs => yv_ix rfl rfl (hs.row 8 rfl) h1069) rfl rfl ?_
      refine jg_nil ?_
      refine jk_xf (by kernel_rfl) ?_
      refine jx1 (i := 13) (by kernel_rfl) (by kernel_rfl) rfl ?_
      refine jg_storeE 8 (a' := v1008.1) rfl rfl h1069.1 rfl (l1 rfl) rfl rfl rfl rfl fun y1088 => ?_
      refine jg_L (r12 rfl) ?_
      refine jg_nil ?_
      refine jk_xf (by kernel_rfl) ?_
      refine jx0 [(1, _), (6, _), (7, _), (9, _), (10, _), (11, _), (12, _), (13, _)] ⟨rfl, rfl, rfl, rfl, rfl, rfl, rfl, rfl, trivial⟩ (by kernel_rfl) (by kernel_rfl) ?_
      refine jk_sel (is := [2, 3, 4, 5, 6, 7, 8, 9, 10, 11]) (s10 rfl) rfl ?_
      refine jk_bn ?_
      exact jk_use H27 (v1008.2, v16.1, v818.1, z813.2, y1088, y827, y1048) (q19.2, q22.1) [0, 1, 2, 3, 4, 5, 6, 7, 8, 9] ⟨rfl, rfl, rfl, rfl, rfl, rfl, rfl, rfl, trivial⟩ rfl rfl rfl
    refine jl_c 4 rfl rfl (fun v w hs hm => gen_Maker_Pick_c hm (hs.blkL (i := 4) rfl) (hs.arg Rha0) (hs.offAL 4 Rha0 rfl) (hs.row 0 rfl) (hs.offLL 0 4 rfl rfl)) (fun _ => rfl) rfl rfl fun v948 q949 => ?_
    refine jg_L (r12 rfl) ?_
    refine jg_nil ?_
    refine jk_xn [2, 3, 5, 6, 7, 8, 9, 10, 11] rfl ?_
    refine jx2 (i := 3) (i2 := 9) (by kernel_rfl) (by kernel_rfl) rfl rfl ?_ ?_
    · refine jg_y (fun w hs => yv_load rfl (ld1B (hs.blkL (i := 6) rfl) rfl)) rfl rfl ?_
      refine jg_nil ?_
      refine jk_xn [2, 3, 5, 6, 7, 8, 9, 10, 11] rfl ?_
      refine jx1 (i := 9) (by kernel_rfl) (by kernel_rfl) rfl ?_
      refine jl_c 4 rfl rfl (fun v w hs hm => gen_Maker_Pick_c hm (hs.blkL (i := 4) rfl) (hs.arg Rha0) (hs.offAL 4 Rha0 rfl) (hs.row 1 rfl) (hs.offLL 1 4 rfl rfl)) (fun _ => rfl) rfl rfl fun v1008 q1009 => ?_
      refine jg_L (r12 rfl) ?_
      refine jg_nil ?_
      refine jk_xn [2, 3, 5, 6, 7, 8, 9, 10, 11] rfl ?_
      refine jx_lin [2, 3, 5, 6, 7, 8, 9, 10, 11] 1903 2047 3 [0, 1, 0, 4, 0, 0, 48, 0, 0, 496, 1011, 2035, 4095, 8191] [(10, true)] rfl (np_blk (np_seq (np_blk (np_seq (np_rnd (np_blk (np_seq np_rt))))))) (by kernel_rfl) (by kernel_rfl) (by kernel_rfl) (by kernel_rfl) (by kernel_rfl) (by kernel_rfl) (by kernel_rfl) (by kernel_rfl) (by kernel_rfl) ?_
      refine jd_ix fun x1028 h1029 => ?_
      refine jd_y rfl (fun w hs => yv_ix rfl rfl (hs.row 8 rfl) h1029) rfl rfl ?_
      refine jd_x ?_
      refine jx1 (i := 11) (by kernel_rfl) (by kernel_rfl) rfl ?_
      refine jg_storeE 11 (a' := v948.1) rfl rfl h1029.1 rfl (l1 rfl) rfl rfl rfl rfl fun y1048 => ?_
      refine jg_L (r12 rfl) ?_
      refine jg_nil ?_
      refine jk_xf (by kernel_rfl) ?_
      refine jx1 (i := 12) (by kernel_rfl) (by kernel_rfl) rfl ?_
      refine jg_ix fun x1068 h1069 => ?_
      refine jg_y (fun w hs => yv_ix rfl rfl (hs.row 8 rfl) h1069) rfl rfl ?_
      refine jg_nil ?_
      refine jk_xf (by kernel_rfl) ?_
      refine jx1 (i := 13) (by kernel_rfl) (by kernel_rfl) rfl ?_
      refine jg_storeE 8 (a' := v1008.1) rfl rfl h1069.1 rfl (l1 rfl) rfl rfl rfl rfl fun y1088 => ?_
      refine jg_L (r12 rfl) ?_
      refine jg_nil ?_
      refine jk_xf (by kernel_rfl) ?_
      refine jx0 [(1, _), (6, _), (7, _), (9, _), (10, _), (11, _), (12, _), (13, _)] ⟨rfl, rfl, rfl, rfl, rfl, rfl, rfl, rfl, trivial⟩ (by kernel_rfl) (by kernel_rfl) ?_
      refine jk_sel (is := [2, 3, 4, 5, 6, 7, 8, 9, 10, 11]) (s10 rfl) rfl ?_
      refine jk_bn ?_
      exact jk_use H27 (v1008.2, v16.1, v818.1, z813.2, y1088, y827, y1048) (q19.2, q22.1) [0, 1, 2, 3, 4, 5, 6, 7, 8, 9] ⟨rfl, rfl, rfl, rfl, rfl, rfl, rfl, rfl, trivial⟩ rfl rfl rfl
    refine jl_c 4 rfl rfl (fun v w hs hm => gen_Maker_Pick_c hm (hs.blkL (i := 4) rfl) (hs.arg Rha0) (hs.offAL 4 Rha0 rfl) (hs.row 1 rfl) (hs.offLL 1 4 rfl rfl)) (fun _ => rfl) rfl rfl fun v1008 q1009 => ?_
    refine jg_L (r12 rfl) ?_
    refine jg_nil ?_
    refine jk_xn [2, 3, 5, 6, 7, 8, 9, 10, 11] rfl ?_
    refine jx_lin [2, 3, 5, 6, 7, 8, 9, 10, 11] 1903 2039 4 [0, 1, 0, 4, 0, 0, 48, 0, 0, 496, 1011, 2035, 4095, 8191] [(10, true)] rfl (np_blk (np_seq (np_blk (np_seq (np_rnd (np_blk (np_seq np_rt))))))) (by kernel_rfl) (by kernel_rfl) (by kernel_rfl) (by kernel_rfl) (by kernel_rfl) (by kernel_rfl) (by kernel_rfl) (by kernel_rfl) (by kernel_rfl) ?_
    refine jd_ix fun x1028 h1029 => ?_
    refine jd_y rfl (fun w hs => yv_ix rfl rfl (hs.row 8 rfl) h1029) rfl rfl ?_
    refine jd_x ?_
    refine jx2 (i := 3) (i2 := 11) (by kernel_rfl) (by kernel_rfl) rfl rfl ?_ ?_
    · refine jg_y (fun w hs => yv_load rfl (ld1B (hs.blkL (i := 6) rfl) rfl)) rfl rfl ?_
      refine jg_nil ?_
      refine jk_xn [2, 3, 5, 6, 7, 8, 9, 10, 11] rfl ?_
      refine jx1 (i := 11) (by kernel_rfl) (by kernel_rfl) rfl ?_
      refine jg_storeE 11 (a' := v948.1) rfl rfl h1029.1 rfl (l1 rfl) rfl rfl rfl rfl fun y1048 => ?_
      refine jg_L (r12 rfl) ?_
      refine jg_nil ?_
      refine jk_xf (by kernel_rfl) ?_
      refine jx1 (i := 12) (by kernel_rfl) (by kernel_rfl) rfl ?_
      refine jg_ix fun x1068 h1069 => ?_
      refine jg_y (fun w hs => yv_ix rfl rfl (hs.row 8 rfl) h1069) rfl rfl ?_
      refine jg_nil ?_
      refine jk_xf (by kernel_rfl) ?_
      refine jx1 (i := 13) (by kernel_rfl) (by kernel_rfl) rfl ?_
      refine jg_storeE 8 (a' := v1008.1) rfl rfl h1069.1 rfl (l1 rfl) rfl rfl rfl rfl fun y1088 => ?_
      refine jg_L (r12 rfl) ?_
      refine jg_nil ?_
      refine jk_xf (by kernel_rfl) ?_
      refine jx0 [(1, _), (6, _), (7, _), (9, _), (10, _), (11, _), (12, _), (13, _)] ⟨rfl, rfl, rfl, rfl, rfl, rfl, rfl, rfl, trivial⟩ (by kernel_rfl) (by kernel_rfl) ?_
      refine jk_sel (is := [2, 3, 4, 5, 6, 7, 8, 9, 10, 11]) (s10 rfl) rfl ?_
      refine jk_bn ?_
      exact jk_use H27 (v1008.2, v16.1, v818.1, z813.2, y1088, y827, y1048) (q19.2, q22.1) [0, 1, 2, 3, 4, 5, 6, 7, 8, 9] ⟨rfl, rfl, rfl, rfl, rfl, rfl, rfl, rfl, trivial⟩ rfl rfl rfl
    refine jg_storeE 11 (a' := v948.1) rfl rfl h1029.1 rfl (l1 rfl) rfl rfl rfl rfl fun y1048 => ?_
    refine jg_L (r12 rfl) ?_
    refine jg_nil ?_
    refine jk_xf (by kernel_rfl) ?_
    refine jx1 (i := 3) (by kernel_rfl) (by kernel_rfl) rfl ?_
    refine jg_y (fun w hs => yv_load rfl (ld1B (hs.blkL (i := 6) rfl) rfl)) rfl rfl ?_
    refine jg_nil ?_
    refine jk_xf (by kernel_rfl) ?_
    refine jx1 (i := 12) (by kernel_rfl) (by kernel_rfl) rfl ?_
    refine jg_ix fun x1068 h1069 => ?_
    refine jg_y (fun w hs => yv_ix rfl rfl (hs.row 8 rfl) h1069) rfl rfl ?_
    refine jg_nil ?_
    refine jk_xf (by kernel_rfl) ?_
    refine jx1 (i := 13) (by kernel_rfl) (by kernel_rfl) rfl ?_
    refine jg_storeE 8 (a' := v1008.1) rfl rfl h1069.1 rfl (l1 rfl) rfl rfl rfl rfl fun y1088 => ?_
    refine jg_L (r12 rfl) ?_
    refine jg_nil ?_
    refine jk_xf (by kernel_rfl) ?_
    refine jx0 [(1, _), (6, _), (7, _), (9, _), (10, _), (11, _), (12, _), (13, _)] ⟨rfl, rfl, rfl, rfl, rfl, rfl, rfl, rfl, trivial⟩ (by kernel_rfl) (by kernel_rfl) ?_
    refine jk_sel (is := [2, 3, 4, 5, 6, 7, 8, 9, 10, 11]) (s10 rfl) rfl ?_
    refine jk_bn ?_
    exact jk_use H27 (v1008.2, v16.1, v818.1, z813.2, y1088, y827, y1048) (q19.2, q22.1) [0, 1, 2, 3, 4, 5, 6, 7, 8, 9] ⟨rfl, rfl, rfl, rfl, rfl, rfl, rfl, rfl, trivial⟩ rfl rfl rfl
  · refine jg_lit (enc := encI) [(-2), 20001, 0] rfl rfl rfl rfl rfl rfl rfl rfl fun hd928 => ?_
    refine jg_nil ?_
    refine jk_xn [1, 2, 4, 5, 6, 7, 8, 9, 10] rfl ?_
    refine jx3 (i := 2) (i2 := 6) (i3 := 8) (by kernel_rfl) (by kernel_rfl) rfl rfl rfl ?_ ?_ ?_
    · refine jg_y (fun w hs => yv_fieldAddr rfl) rfl rfl ?_
      refine jg_nil ?_
      refine jk_xn [1, 2, 4, 5, 6, 7, 8, 9, 10] rfl ?_
      refine jx3 (i := 3) (i2 := 6) (i3 := 8) (by kernel_rfl) (by kernel_rfl) rfl rfl rfl ?_ ?_ ?_
      · refine jg_y (fun w hs => yv_load rfl (ld1B (hs.blkL (i := 5) rfl) rfl)) rfl rfl ?_
        refine jg_nil ?_
        refine jk_xn [1, 2, 4, 5, 6, 7, 8, 9, 10] rfl ?_
        refine jx2 (i := 6) (i2 := 8) (by kernel_rfl) (by kernel_rfl) rfl rfl ?_ ?_
        · refine jl_c 3 rfl rfl (fun v w hs hm => gen_Maker_Pick_c hm (hs.blkL (i := 3) rfl) (hs.arg Rha0) (hs.offAL 3 Rha0 rfl) (hs.row 0 rfl) (hs.offLL 0 3 rfl rfl)) (fun _ => rfl) rfl rfl fun v948 q949 => ?_
          refine jg_L (r11 rfl) ?_
          refine jg_nil ?_
          refine jk_xn [1, 2, 4, 5, 6, 7, 8, 9, 10] rfl ?_
          refine jx1 (i := 8) (by kernel_rfl) (by kernel_rfl) rfl ?_
          refine jg_lit (enc := encI) [(-2), 20000, 700] rfl rfl rfl rfl rfl rfl rfl rfl fun hd988 => ?_
          refine jg_nil ?_
          refine jk_xn [2, 3, 5, 6, 7, 8, 9, 10, 11] rfl ?_
          refine jx1 (i := 9) (by kernel_rfl) (by kernel_rfl) rfl ?_
          refine jl_c 4 rfl rfl (fun v w hs hm => gen_Maker_Pick_c hm (hs.blkL (i := 4) rfl) (hs.arg Rha0) (hs.offAL 4 Rha0 rfl) (hs.row 0 rfl) (hs.offLL 0 4 rfl rfl)) (fun _ => rfl) rfl rfl fun v1008 q1009 => ?_
          refine jg_L (r12 rfl) ?_
          refine jg_nil ?_
          refine jk_xn [2, 3, 5, 6, 7, 8, 9, 10, 11] rfl ?_
          refine jx_lin [2, 3, 5, 6, 7, 8, 9, 10, 11] 1903 2047 3 [0, 1, 0, 4, 0, 0, 48, 0, 0, 496, 1011, 2035, 4095, 8191] [(10, true)] rfl (np_blk (np_seq (np_blk (np_seq (np_rnd (np_blk (np_seq np_rt))))))) (by kernel_rfl) (by kernel_rfl) (by kernel_rfl) (by kernel_rfl) (by kernel_rfl) (by kernel_rfl) (by kernel_rfl) (by kernel_rfl) (by kernel_rfl) ?_
          refine jd_ix fun x1028 h1029 => ?_
          refine jd_y rfl (fun w hs => yv_ix rfl rfl (hs.row 8 rfl) h1029) rfl rfl ?_
          refine jd_x ?_
          refine jx1 (i := 11) (by kernel_rfl) (by kernel_rfl) rfl ?_
          refine jg_storeE 11 (a' := v948.1) rfl rfl h1029.1 rfl (l1 rfl) rfl rfl rfl rfl fun y1048 => ?_
          refine jg_L (r12 rfl) ?_
          refine jg_nil ?_
          refine jk_xf (by kernel_rfl) ?_
          refine jx1 (i := 12) (by kernel_rfl) (by kernel_rfl) rfl ?_
          refine jg_ix fun x1068 h1069 => ?_
          refine jg_y (fun w hs => yv_ix rfl rfl (hs.row 8 rfl) h1069) rfl rfl ?_
          refine jg_nil ?_
          refine jk_xf (by kernel_rfl) ?_
          refine jx1 (i := 13) (by kernel_rfl) (by kernel_rfl) rfl ?_
          refine jg_storeE 8 (a' := v1008.1) rfl rfl h1069.1 rfl (l1 rfl) rfl rfl rfl rfl fun y1088 => ?_
          refine jg_L (r12 rfl) ?_
          refine jg_nil ?_
          refine jk_xf (by kernel_rfl) ?_
          refine jx0 [(1, _), (6, _), (7, _), (9, _), (10, _), (11, _), (12, _), (13, _)] ⟨rfl, rfl, rfl, rfl, rfl, rfl, rfl, rfl, trivial⟩ (by kernel_rfl) (by kernel_rfl) ?_
          refine jk_sel (is := [2, 3, 4, 5, 6, 7, 8, 9, 10, 11]) (s10 rfl) rfl ?_
          refine jk_bn ?_
          exact jk_use H27 (v1008.2, v16.1, v818.1, z813.2, y1088, y827, y1048) (q19.2, q22.1) [0, 1, 2, 3, 4, 5, 6, 7, 8, 9] ⟨rfl, rfl, rfl, rfl, rfl, rfl, rfl, rfl, trivial⟩ rfl rfl rfl
        refine jg_lit (enc := encI) [(-2), 20000, 700] rfl rfl rfl rfl rfl rfl rfl rfl fun hd988 => ?_
        refine jg_nil ?_
        refine jk_xn [2, 3, 5, 6, 7, 8, 9, 10, 11] rfl ?_
        refine jx1 (i := 6) (by kernel_rfl) (by kernel_rfl) rfl ?_
        refine jl_c 4 rfl rfl (fun v w hs hm => gen_Maker_Pick_c hm (hs.blkL (i := 4) rfl) (hs.arg Rha0) (hs.offAL 4 Rha0 rfl) (hs.row 1 rfl) (hs.offLL 1 4 rfl rfl)) (fun _ => rfl) rfl rfl fun v948 q949 => ?_
        refine jg_L (r12 rfl) ?_
        refine jg_nil ?_
        refine jk_xn [2, 3, 5, 6, 7, 8, 9, 10, 11] rfl ?_
        refine jx1 (i := 9) (by kernel_rfl) (by kernel_rfl) rfl ?_
        refine jl_c 4 rfl rfl (fun v w hs hm => gen_Maker_Pick_c hm (hs.blkL (i := 4) rfl) (hs.arg Rha0) (hs.offAL 4 Rha0 rfl) (hs.row 0 rfl) (hs.offLL 0 4 rfl rfl)) (fun _ => rfl) rfl rfl fun v1008 q1009 => ?_
        refine jg_L (r12 rfl) ?_
        refine jg_nil ?_
        refine jk_xn [2, 3, 5, 6, 7, 8, 9, 10, 11] rfl ?_
        refine jx_lin [2, 3, 5, 6, 7, 8, 9, 10, 11] 1903 2047 3 [0, 1, 0, 4, 0, 0, 48, 0, 0, 496, 1011, 2035, 4095, 8191] [(10, true)] rfl (np_blk (np_seq (np_blk (np_seq (np_rnd (np_blk (np_seq np_rt))))))) (by kernel_rfl) (by kernel_rfl) (by kernel_rfl) (by kernel_rfl) (by kernel_rfl) (by kernel_rfl) (by kernel_rfl) (by kernel_rfl) (by kernel_rfl) ?_
        refine jd_ix fun x1028 h1029 => ?_
        refine jd_y rfl (fun w hs => yv_ix rfl rfl (hs.row 8 rfl) h1029) rfl rfl ?_
        refine jd_x ?_
        refine jx1 (i := 11) (by kernel_rfl) (by kernel_rfl) rfl ?_
        refine jg_storeE 11 (a' := v948.1) rfl rfl h1029.1 rfl (l1 rfl) rfl rfl rfl rfl fun y1048 => ?_
        refine jg_L (r12 rfl) ?_
        refine jg_nil ?_
        refine jk_xf (by kernel_rfl) ?_
        refine jx1 (i := 12) (by kernel_rfl) (by kernel_rfl) rfl ?_
        refine jg_ix fun x1068 h1069 => ?_
        refine jg_y (fun w hs => yv_ix rfl rfl (hs.row 8 rfl) h1069) rfl rfl ?_
        refine jg_nil ?_
        refine jk_xf (by kernel_rfl) ?_
        refine jx1 (i := 13) (by kernel_rfl) (by kernel_rfl) rfl ?_
        refine jg_storeE 8 (a' := v1008.1) rfl rfl h1069.1 rfl (l1 rfl) rfl rfl rfl rfl fun y1088 => ?_
        refine jg_L (r12 rfl) ?_
        refine jg_nil ?_
        refine jk_xf (by kernel_rfl) ?_
        refine jx0 [(1, _), (6, _), (7, _), (9, _), (10, _), (11, _), (12, _), (13, _)] ⟨rfl, rfl, rfl, rfl, rfl, rfl, rfl, rfl, trivial⟩ (by kernel_rfl) (by kernel_rfl) ?_
        refine jk_sel (is := [2, 3, 4, 5, 6, 7, 8, 9, 10, 11]) (s10 rfl) rfl ?_
        refine jk_bn ?_
        exact jk_use H27 (v1008.2, v16.1, v818.1, z813.2, y1088, y827, y1048) (q19.2, q22.1) [0, 1, 2, 3, 4, 5, 6, 7, 8, 9] ⟨rfl, rfl, rfl, rfl, rfl, rfl, rfl, rfl, trivial⟩ rfl rfl rfl
      · refine jl_c 3 rfl rfl (fun v w hs hm => gen_Maker_Pick_c hm (hs.blkL (i := 3) rfl) (hs.arg Rha0) (hs.offAL 3 Rha0 rfl) (hs.row 0 rfl) (hs.offLL 0 3 rfl rfl)) (fun _ => rfl) rfl rfl fun v948 q949 => ?_
        refine jg_L (r11 rfl) ?_
        refine jg_nil ?_
        refine jk_xn [1, 2, 4, 5, 6, 7, 8, 9, 10] rfl ?_
        refine jx2 (i := 3) (i2 := 8) (by kernel_rfl) (by kernel_rfl) rfl rfl ?_ ?_
        · refine jg_y (fun w hs => yv_load rfl (ld1B (hs.blkL (i := 5) rfl) rfl)) rfl rfl ?_
          refine jg_nil ?_
          refine jk_xn [1, 2, 4, 5, 6, 7, 8, 9, 10] rfl ?_
          refine jx1 (i := 8) (by kernel_rfl) (by kernel_rfl) rfl ?_
          refine jg_lit (enc := encI) [(-2), 20000, 700] rfl rfl rfl rfl rfl rfl rfl rfl fun hd988 => ?_
          refine jg_nil ?_
          refine jk_xn [2, 3, 5, 6, 7, 8, 9, 10, 11] rfl ?_
          refine jx1 (i := 9) (by kernel_rfl) (by kernel_rfl) rfl ?_
          refine jl_c 4 rfl rfl (fun v w hs hm => gen_Maker_Pick_c hm (hs.blkL (i := 4) rfl) (hs.arg Rha0) (hs.offAL 4 Rha0 rfl) (hs.row 0 rfl) (hs.offLL 0 4 rfl rfl)) (fun _ => rfl) rfl rfl fun v1008 q1009 => ?_
          refine jg_L (r12 rfl) ?_
          refine jg_nil ?_
          refine jk_xn [2, 3, 5, 6, 7, 8, 9, 10, 11] rfl ?_
          refine jx_lin [2, 3, 5, 6, 7, 8, 9, 10, 11] 1903 2047 3 [0, 1, 0, 4, 0, 0, 48, 0, 0, 496, 1011, 2035, 4095, 8191] [(10, true)] rfl (np_blk (np_seq (np_blk (np_seq (np_rnd (np_blk (np_seq np_rt))))))) (by kernel_rfl) (by kernel_rfl) (by kernel_rfl) (by kernel_rfl) (by kernel_rfl) (by kernel_rfl) (by kernel_rfl) (by kernel_rfl) (by kernel_rfl) ?_
          refine jd_ix fun x1028 h1029 => ?_
          refine jd_y rfl (fun w hs => yv_ix rfl rfl (hs.row 8 rfl) h1029) rfl rfl ?_
          refine jd_x ?_
          refine jx1 (i := 11) (by kernel_rfl) (by kernel_rfl) rfl ?_
          refine jg_storeE 11 (a' := v948.1) rfl rfl h1029.1 rfl (l1 rfl) rfl rfl rfl rfl fun y1048 => ?_
          refine jg_L (r12 rfl) ?_
          refine jg_nil ?_
          refine jk_xf (by kernel_rfl) ?_
          refine jx1 (i := 12) (by kernel_rfl) (by kernel_rfl) rfl ?_
          refine jg_ix fun x1068 h1069 => ?_
          refine jg_y (fun w hs => yv_ix rfl rfl (hs.row 8 rfl) h1069) rfl rfl ?_
          refine jg_nil ?_
          refine jk_xf (by kernel_rfl) ?_
          refine jx1 (i := 13) (by kernel_rfl) (by kernel_rfl) rfl ?_
          refine jg_storeE 8 (a' := v1008.1) rfl rfl h1069.1 rfl (l1 rfl) rfl rfl rfl rfl fun y1088 => ?_
          refine jg_L (r12 rfl) ?_
          refine jg_nil ?_
          refine jk_xf (by kernel_rfl) ?_
          refine jx0 [(1, _), (6, _), (7, _), (9, _), (10, _), (11, _), (12, _), (13, _)] ⟨rfl, rfl, rfl, rfl, rfl, rfl, rfl, rfl, trivial⟩ (by kernel_rfl) (by kernel_rfl) ?_
          refine jk_sel (is := [2, 3, 4, 5, 6, 7, 8, 9, 10, 11]) (s10 rfl) rfl ?_
          refine jk_bn ?_
          exact jk_use H27 (v1008.2, v16.1, v818.1, z813.2, y1088, y827, y1048) (q19.2, q22.1) [0, 1, 2, 3, 4, 5, 6, 7, 8, 9] ⟨rfl, rfl, rfl, rfl, rfl, rfl, rfl, rfl, trivial⟩ rfl rfl rfl
        refine jg_lit (enc := encI) [(-2), 20000, 700] rfl rfl rfl rfl rfl rfl rfl rfl fun hd988 => ?_
        refine jg_nil ?_
        refine jk_xn [2, 3, 5, 6, 7, 8, 9, 10, 11] rfl ?_
        refine jx2 (i := 3) (i2 := 9) (by kernel_rfl) (by kernel_rfl) rfl rfl ?_ ?_
        · refine jg_y (fun w hs => yv_load rfl (ld1B (hs.blkL (i := 6) rfl) rfl)) rfl rfl ?_
          refine jg_nil ?_
          refine jk_xn [2, 3, 5, 6, 7, 8, 9, 10, 11] rfl ?_
          refine jx1 (i := 9) (by kernel_rfl) (by kernel_rfl) rfl ?_
          refine jl_c 4 rfl rfl (fun v w hs hm => gen_Maker_Pick_c hm (hs.blkL (i := 4) rfl) (hs.arg Rha0) (hs.offAL 4 Rha0 rfl) (hs.row 0 rfl) (hs.offLL 0 4 rfl rfl)) (fun _ => rfl) rfl rfl fun v1008 q1009 => ?_
          refine jg_L (r12 rfl) ?_
          refine jg_nil ?_
          refine jk_xn [2, 3, 5, 6, 7, 8, 9, 10, 11] rfl ?_
          refine jx_lin [2, 3, 5, 6, 7, 8, 9, 10, 11] 1903 2047 3 [0, 1, 0, 4, 0, 0, 48, 0, 0, 496, 1011, 2035, 4095, 8191] [(10, true)] rfl (np_blk (np_seq (np_blk (np_seq (np_rnd (np_blk (np_seq np_rt))))))) (by kernel_rfl) (by kernel_rfl) (by kernel_rfl) (by kernel_rfl) (by kernel_rfl) (by kernel_rfl) (by kernel_rfl) (by kernel_rfl) (by kernel_rfl) ?_
          refine jd_ix fun x1028 h1029 => ?_
          refine jd_y rfl (fun w hs => yv_ix rfl rfl (hs.row 8 rfl) h1029) rfl rfl ?_
          refine jd_x ?_
          refine jx1 (i := 11) (by kernel_rfl) (by kernel_rfl) rfl ?_
          refine jg_storeE 11 (a' := v948.1) rfl rfl h1029.1 rfl (l1 rfl) rfl rfl rfl rfl fun y1048 => ?_
          refine jg_L (r12 rfl) ?_
          refine jg_nil ?_
          refine jk_xf (by kernel_rfl) ?_
          refine jx1 (i := 12) (by kernel_rfl) (by kernel_rfl) rfl ?_
          refine jg_ix fun x1068 h1069 => ?_
          refine jg_y (fun w hs => yv_ix rfl rfl (hs.row 8 rfl) h1069) rfl rfl ?_
          refine jg_nil ?_
          refine jk_xf (by kernel_rfl) ?_
          refine jx1 (i := 13) (by kernel_rfl) (by kernel_rfl) rfl ?_
          refine jg_storeE 8 (a' := v1008.1) rfl rfl h1069.1 rfl (l1 rfl) rfl rfl rfl rfl fun y1088 => ?_
          refine jg_L (r12 rfl) ?_
          refine jg_nil ?_
          refine jk_xf (by kernel_rfl) ?_
          refine jx0 [(1, _), (6, _), (7, _), (9, _), (10, _), (11, _), (12, _), (13, _)] ⟨rfl, rfl, rfl, rfl, rfl, rfl, rfl, rfl, trivial⟩ (by kernel_rfl) (by kernel_rfl) ?_
          refine jk_sel (is := [2, 3, 4, 5, 6, 7, 8, 9, 10, 11]) (s10 rfl) rfl ?_
          refine jk_bn ?_
          exact jk_use H27 (v1008.2, v16.1, v818.1, z813.2, y1088, y827, y1048) (q19.2, q22.1) [0, 1, 2, 3, 4, 5, 6, 7, 8, 9] ⟨rfl, rfl, rfl, rfl, rfl, rfl, rfl, rfl, trivial⟩ rfl rfl rfl
        refine jl_c 4 rfl rfl (fun v w hs hm => gen_Maker_Pick_c hm (hs.blkL (i := 4) rfl) (hs.arg Rha0) (hs.offAL 4 Rha0 rfl) (hs.row 0 rfl) (hs.offLL 0 4 rfl rfl)) (fun _ => rfl) rfl rfl fun v1008 q1009 => ?_
        refine jg_L (r12 rfl) ?_
        refine jg_nil ?_
        refine jk_xn [2, 3, 5, 6, 7, 8, 9, 10, 11] rfl ?_
        refine jx_lin [2, 3, 5, 6, 7, 8, 9, 10, 11] 1903 2039 4 [0, 1, 0, 4, 0, 0, 48, 0, 0, 496, 1011, 2035, 4095, 8191] [(10, true)] rfl (np_blk (np_seq (np_blk (np_seq (np_rnd (np_blk (np_seq np_rt))))))) (by kernel_rfl) (by kernel_rfl) (by kernel_rfl) (by kernel_rfl) (by kernel_rfl) (by kernel_rfl) (by kernel_rfl) (by kernel_rfl) (by kernel_rfl) ?_
        refine jd_ix fun x1028 h1029 => ?_
        refine jd_y rfl (fun w hs => yv_ix rfl rfl (hs.row 8 rfl) h1029) rfl rfl ?_
        refine jd_x ?_
        refine jx2 (i := 3) (i2 := 11) (by kernel_rfl) (by kernel_rfl) rfl rfl ?_ ?_
        · refine jg_y (fun w hs => yv_load rfl (ld1B (hs.blkL (i := 6) rfl) rfl)) rfl rfl ?_
          refine jg_nil ?_
          refine jk_xn [2, 3, 5, 6, 7, 8, 9, 10, 11] rfl ?_
          refine jx1 (i := 11) (by kernel_rfl) (by kernel_rfl) rfl ?_
          refine jg_storeE 11 (a' := v948.1) rfl rfl h1029.1 rfl (l1 rfl) rfl rfl rfl rfl fun y1048 => ?_
          refine jg_L (r12 rfl) ?_
          refine jg_nil ?_
          refine jk_xf (by kernel_rfl) ?_
          refine jx1 (i := 12) (by kernel_rfl) (by kernel_rfl) rfl ?_
          refine jg_ix fun x1068 h1069 => ?_
          refine jg_y (fun w hs => yv_ix rfl rfl (hs.row 8 rfl) h1069) rfl rfl ?_
          refine jg_nil ?_
          refine jk_xf (by kernel_rfl) ?_
          refine jx1 (i := 13) (by kernel_rfl) (by kernel_rfl) rfl ?_
          refine jg_storeE 8 (a' := v1008.1) rfl rfl h1069.1 rfl (l1 rfl) rfl rfl rfl rfl fun y1088 => ?_
          refine jg_L (r12 rfl) ?_
          refine jg_nil ?_
          refine jk_xf (by kernel_rfl) ?_
          refine jx0 [(1, _), (6, _), (7, _), (9, _), (10, _), (11, _), (12, _), (13, _)] ⟨rfl, rfl, rfl, rfl, rfl, rfl, rfl, rfl, trivial⟩ (by kernel_rfl) (by kernel_rfl) ?_
          refine jk_sel (is := [2, 3, 4, 5, 6, 7, 8, 9, 10, 11]) (s10 rfl) rfl ?_
          refine jk_bn ?_
          exact jk_use H27 (v1008.2, v16.1, v818.1, z813.2, y1088, y827, y1048) (q19.2, q22.1) [0, 1, 2, 3, 4, 5, 6, 7, 8, 9] ⟨rfl, rfl, rfl, rfl, rfl, rfl, rfl, rfl, trivial⟩ rfl rfl rfl
        refine jg_storeE 11 (a' := v948.1) rfl rfl h1029.1 rfl (l1 rfl) rfl rfl rfl rfl fun y1048 => ?_
        refine jg_L (r12 rfl) ?_
        refine jg_nil ?_
        refine jk_xf (by kernel_rfl) ?_
        refine jx1 (i := 3) (by kernel_rfl) (by kernel_rfl) rfl ?_
        refine jg_y (fun w hs => yv_load rfl (ld1B (hs.blkL (i := 6) rfl) rfl)) rfl rfl ?_
        refine jg_nil ?_
        refine jk_xf (by kernel_rfl) ?_
        refine jx1 (i := 12) (by kernel_rfl) (by kernel_rfl) rfl ?_
        refine jg_ix fun x1068 h1069 => ?_
        refine jg_y (fun w hs => yv_ix rfl rfl (hs.row 8 rfl) h1069) rfl rfl ?_
        refine jg_nil ?_
        refine jk_xf (by kernel_rfl) ?_
        refine jx1 (i := 13) (by kernel_rfl) (by kernel_rfl) rfl ?_
        refine jg_storeE 8 (a' := v1008.1) rfl rfl h1069.1 rfl (l1 rfl) rfl rfl rfl rfl fun y1088 => ?_
        refine jg_L (r12 rfl) ?_
        refine jg_nil ?_
        refine jk_xf (by kernel_rfl) ?_
        refine jx0 [(1, _), (6, _), (7, _), (9, _), (10, _), (11, _), (12, _), (13, _)] ⟨rfl, rfl, rfl, rfl, rfl, rfl, rfl, rfl, trivial⟩ (by kernel_rfl) (by kernel_rfl) ?_
        refine jk_sel (is := [2, 3, 4, 5, 6, 7, 8, 9, 10, 11]) (s10 rfl) rfl ?_
        refine jk_bn ?_
        exact jk_use H27 (v1008.2, v16.1, v818.1, z813.2, y1088, y827, y1048) (q19.2, q22.1) [0, 1, 2, 3, 4, 5, 6, 7, 8, 9] ⟨rfl, rfl, rfl, rfl, rfl, rfl, rfl, rfl, trivial⟩ rfl rfl rfl
      refine jg_lit (enc := encI) [(-2), 20000, 700] rfl rfl rfl rfl rfl rfl rfl rfl fun hd988 => ?_
      refine jg_nil ?_
      refine jk_xn [2, 3, 5, 6, 7, 8, 9, 10, 11] rfl ?_
      refine jx2 (i := 3) (i2 := 6) (by kernel_rfl) (by kernel_rfl) rfl rfl ?_ ?_
      · refine jg_y (fun w hs => yv_load rfl (ld1B (hs.blkL (i := 6) rfl) rfl)) rfl rfl ?_
        refine jg_nil ?_
        refine jk_xn [2, 3, 5, 6, 7, 8, 9, 10, 11] rfl ?_
        refine jx1 (i := 6) (by kernel_rfl) (by kernel_rfl) rfl ?_
        refine jl_c 4 rfl rfl (fun v w hs hm => gen_Maker_Pick_c hm (hs.blkL (i := 4) rfl) (hs.arg Rha0) (hs.offAL 4 Rha0 rfl) (hs.row 1 rfl) (hs.offLL 1 4 rfl rfl)) (fun _ => rfl) rfl rfl fun v948 q949 => ?_
        refine jg_L (r12 rfl) ?_
        refine jg_nil ?_
        refine jk_xn [2, 3, 5, 6, 7, 8, 9, 10, 11] rfl ?_
        refine jx1 (i := 9) (by kernel_rfl) (by kernel_rfl) rfl ?_
        refine jl_c 4 rfl rfl (fun v w hs hm => gen_Maker_Pick_c hm (hs.blkL (i := 4) rfl) (hs.arg Rha0) (hs.offAL 4 Rha0 rfl) (hs.row 0 rfl) (hs.offLL 0 4 rfl rfl)) (fun _ => rfl) rfl rfl fun v1008 q1009 => ?_
        refine jg_L (r12 rfl) ?_
        refine jg_nil ?_
        refine jk_xn [2, 3, 5, 6, 7, 8, 9, 10, 11] rfl ?_
        refine jx_lin [2, 3, 5, 6, 7, 8, 9, 10, 11] 1903 2047 3 [0, 1, 0, 4, 0, 0, 48, 0, 0, 496, 1011, 2035, 4095, 8191] [(10, true)] rfl (np_blk (np_seq (np_blk (np_seq (np_rnd (np_blk (np_seq np_rt))))))) (by kernel_rfl) (by kernel_rfl) (by kernel_rfl) (by kernel_rfl) (by kernel_rfl) (by kernel_rfl) (by kernel_rfl) (by kernel_rfl) (by kernel_rfl) ?_
        refine jd_ix fun x1028 h1029 => ?_
        refine jd_y rfl (fun w hs => yv_ix rfl rfl (hs.row 8 rfl) h1029) rfl rfl ?_
        refine jd_x ?_
        refine jx1 (i := 11) (by kernel_rfl) (by kernel_rfl) rfl ?_
        refine jg_storeE 11 (a' := v948.1) rfl rfl h1029.1 rfl (l1 rfl) rfl rfl rfl rfl fun y1048 => ?_
        refine jg_L (r12 rfl) ?_
        refine jg_nil ?_
        refine jk_xf (by kernel_rfl) ?_
        refine jx1 (i := 12) (by kernel_rfl) (by kernel_rfl) rfl ?_
        refine jg_ix fun x1068 h1069 => ?_
        refine jg_y (fun w hs => yv_ix rfl rfl (hs.row 8 rfl) h1069) rfl rfl ?_
        refine jg_nil ?_
        refine jk_xf (by kernel_rfl) ?_
        refine jx1 (i := 13) (by kernel_rfl) (by kernel_rfl) rfl ?_
        refine jg_storeE 8 (a' := v1008.1) rfl rfl h1069.1 rfl (l1 rfl) rfl rfl rfl rfl fun y1088 => ?_
        refine jg_L (r12 rfl) ?_
        refine jg_nil ?_
        refine jk_xf (by kernel_rfl) ?_
        refine jx0 [(1, _), (6, _), (7, _), (9, _), (10, _), (11, _), (12, _), (13, _)] ⟨rfl, rfl, rfl, rfl, rfl, rfl, rfl, rfl, trivial⟩ (by kernel_rfl) (by kernel_rfl) ?_
        refine jk_sel (is := [2, 3, 4, 5, 6, 7, 8, 9, 10, 11]) (s10 rfl) rfl ?_
        refine jk_bn ?_
        exact jk_use H27 (v1008.2, v16.1, v818.1, z813.2, y1088, y827, y1048) (q19.2, q22.1) [0, 1, 2, 3, 4, 5, 6, 7, 8, 9] ⟨rfl, rfl, rfl, rfl, rfl, rfl, rfl, rfl, trivial⟩ rfl rfl rfl
      refine jl_c 4 rfl rfl (fun v w hs hm => gen_Maker_Pick_c hm (hs.blkL (i := 4) rfl) (hs.arg Rha0) (hs.offAL 4 Rha0 rfl) (hs.row 1 rfl) (hs.offLL 1 4 rfl rfl)) (fun _ => rfl) rfl rfl fun v948 q949 => ?_
      refine jg_L (r12 rfl) ?_
      refine jg_nil ?_
      refine jk_xn [2, 3, 5, 6, 7, 8, 9, 10, 11] rfl ?_
      refine jx2 (i := 3) (i2 := 9) (by kernel_rfl) (by kernel_rfl) rfl rfl ?_ ?_
      · refine jg_y (fun w hs => yv_load rfl (ld1B (hs.blkL (i := 6) rfl) rfl)) rfl rfl ?_
        refine jg_nil ?_
        refine jk_xn [2, 3, 5, 6, 7, 8, 9, 10, 11] rfl ?_
        refine jx1 (i := 9) (by kernel_rfl) (by kernel_rfl) rfl ?_
        refine jl_c 4 rfl rfl (fun v w hs hm => gen_Maker_Pick_c hm (hs.blkL (i := 4) rfl) (hs.arg Rha0) (hs.offAL 4 Rha0 rfl) (hs.row 0 rfl) (hs.offLL 0 4 rfl rfl)) (fun _ => rfl) rfl rfl fun v1008 q1009 => ?_
        refine jg_L (r12 rfl) ?_
        refine jg_nil ?_
        refine jk_xn [2, 3, 5, 6, 7, 8, 9, 10, 11] rfl ?_
        refine jx_lin [2, 3, 5, 6, 7, 8, 9, 10, 11] 1903 2047 3 [0, 1, 0, 4, 0, 0, 48, 0, 0, 496, 1011, 2035, 4095, 8191] [(10, true)] rfl (np_blk (np_seq (np_blk (np_seq (np_rnd (np_blk (np_seq np_rt))))))) (by kernel_rfl) (by kernel_rfl) (by kernel_rfl) (by kernel_rfl) (by kernel_rfl) (by kernel_rfl) (by kernel_rfl) (by kernel_rfl) (by kernel_rfl) ?_
        refine jd_ix fun x1028 h1029 => ?_
        refine jd_y rfl (fun w hs => yv_ix rfl rfl (hs.row 8 rfl) h1029) rfl rfl ?_
        refine jd_x ?_
        refine jx1 (i := 11) (by kernel_rfl) (by kernel_rfl) rfl ?_
        refine jg_storeE 11 (a' := v948.1) rfl rfl h1029.1 rfl (l1 rfl) rfl rfl rfl rfl fun y1048 => ?_
        refine jg_L (r12 rfl) ?_
        refine jg_nil ?_
        refine jk_xf (by kernel_rfl) ?_
        refine jx1 (i := 12) (by kernel_rfl) (by kernel_rfl) rfl ?_
        refine jg_ix fun x1068 h1069 => ?_
        refine jg_y (fun w hs => yv_ix rfl rfl (hs.row 8 rfl) h1069) rfl rfl ?_
        refine jg_nil ?_
        refine jk_xf (by kernel_rfl) ?_
        refine jx1 (i := 13) (by kernel_rfl) (by kernel_rfl) rfl ?_
        refine jg_storeE 8 (a' := v1008.1) rfl rfl h1069.1 rfl (l1 rfl) rfl rfl rfl rfl fun y1088 => ?_
        refine jg_L (r12 rfl) ?_
        refine jg_nil ?_
        refine jk_xf (by kernel_rfl) ?_
        refine jx0 [(1, _), (6, _), (7, _), (9, _), (10, _), (11, _), (12, _), (13, _)] ⟨rfl, rfl, rfl, rfl, rfl, rfl, rfl, rfl, trivial⟩ (by kernel_rfl) (by kernel_rfl) ?_
        refine jk_sel (is := [2, 3, 4, 5, 6, 7, 8, 9, 10, 11]) (s10 rfl) rfl ?_
        refine jk_bn ?_
        exact jk_use H27 (v1008.2, v16.1, v818.1, z813.2, y1088, y827, y1048) (q19.2, q22.1) [0, 1, 2, 3, 4, 5, 6, 7, 8, 9] ⟨rfl, rfl, rfl, rfl, rfl, rfl, rfl, rfl, trivial⟩ rfl rfl rfl
      refine jl_c 4 rfl rfl (fun v w hs hm => gen_Maker_Pick_c hm (hs.blkL (i := 4) rfl) (hs.arg Rha0) (hs.offAL 4 Rha0 rfl) (hs.row 0 rfl) (hs.offLL 0 4 rfl rfl)) (fun _ => rfl) rfl rfl fun v1008 q1009 => ?_
      refine jg_L (r12 rfl) ?_
      refine jg_nil ?_
      refine jk_xn [2, 3, 5, 6, 7, 8, 9, 10, 11] rfl ?_
      refine jx_lin [2, 3, 5, 6, 7, 8, 9, 10, 11] 1903 2039 4 [0, 1, 0, 4, 0, 0, 48, 0, 0, 496, 1011, 2035, 4095, 8191] [(10, true)] rfl (np_blk (np_seq (np_blk (np_seq (np_rnd (np_blk (np_seq np_rt))))))) (by kernel_rfl) (by kernel_rfl) (by kernel_rfl) (by kernel_rfl) (by kernel_rfl) (by kernel_rfl) (by kernel_rfl) (by kernel_rfl) (by kernel_rfl) ?_
      refine jd_ix fun x1028 h1029 => ?_
      refine jd_y rfl (fun w hs => yv_ix rfl rfl (hs.row 8 rfl) h1029) rfl rfl ?_
      refine jd_x ?_
      refine jx2 (i := 3) (i2 := 11) (by kernel_rfl) (by kernel_rfl) rfl rfl ?_ ?_
      · refine jg_y (fun w hs => yv_load rfl (ld1B (hs.blkL (i := 6) rfl) rfl)) rfl rfl ?_
        refine jg_nil ?_
        refine jk_xn [2, 3, 5, 6, 7, 8, 9, 10, 11] rfl ?_
        refine jx1 (i := 11) (by kernel_rfl) (by kernel_rfl) rfl ?_
        refine jg_storeE 11 (a' := v948.1) rfl rfl h1029.1 rfl (l1 rfl) rfl rfl rfl rfl fun y1048 => ?_
        refine jg_L (r12 rfl) ?_
        refine jg_nil ?_
        refine jk_xf (by kernel_rfl) ?_
        refine jx1 (i := 12) (by kernel_rfl) (by kernel_rfl) rfl ?_
        refine jg_ix fun x1068 h1069 => ?_
        refine jg_y (fun w hs => yv_ix rfl rfl (hs.row 8 rfl) h1069) rfl rfl ?_
        refine jg_nil ?_
        refine jk_xf (by kernel_rfl) ?_
        refine jx1 (i := 13) (by kernel_rfl) (by kernel_rfl) rfl ?_
        refine jg_storeE 8 (a' := v1008.1) rfl rfl h1069.1 rfl (l1 rfl) rfl rfl rfl rfl fun y1088 => ?_
        refine jg_L (r12 rfl) ?_
        refine jg_nil ?_
        refine jk_xf (by kernel_rfl) ?_
        refine jx0 [(1, _), (6, _), (7, _), (9, _), (10, _), (11, _), (12, _), (13, _)] ⟨rfl, rfl, rfl, rfl, rfl, rfl, rfl, rfl, trivial⟩ (by kernel_rfl) (by kernel_rfl) ?_
        refine jk_sel (is := [2, 3, 4, 5, 6, 7, 8, 9, 10, 11]) (s10 rfl) rfl ?_
        refine jk_bn ?_
        exact jk_use H27 (v1008.2, v16.1, v818.1, z813.2, y1088, y827, y1048) (q19.2, q22.1) [0, 1, 2, 3, 4, 5, 6, 7, 8, 9] ⟨rfl, rfl, rfl, rfl, rfl, rfl, rfl, rfl, trivial⟩ rfl rfl rfl
      refine jg_storeE 11 (a' := v948.1) rfl rfl h1029.1 rfl (l1 rfl) rfl rfl rfl rfl fun y1048 => ?_
      refine jg_L (r12 rfl) ?_
      refine jg_nil ?_
      refine jk_xf (by kernel_rfl) ?_
      refine jx1 (i := 3) (by kernel_rfl) (by kernel_rfl) rfl ?_
      refine jg_y (fun w hs => yv_load rfl (ld1B (hs.blkL (i := 6) rfl) rfl)) rfl rfl ?_
      refine jg_nil ?_
      refine jk_xf (by kernel_rfl) ?_
      refine jx1 (i := 12) (by kernel_rfl) (by kernel_rfl) rfl ?_
      refine jg_ix fun x1068 h1069 => ?_
      refine jg_y (fun w hs => yv_ix rfl rfl (hs.row 8 rfl) h1069) rfl rfl ?_
      refine jg_nil ?_
      refine jk_xf (by kernel_rfl) ?_
      refine jx1 (i := 13) (by kernel_rfl) (by kernel_rfl) rfl ?_
      refine jg_storeE 8 (a' := v1008.1) rfl rfl h1069.1 rfl (l1 rfl) rfl rfl rfl rfl fun y1088 => ?_
      refine jg_L (r12 rfl) ?_
      refine jg_nil ?_
      refine jk_xf (by kernel_rfl) ?_
      refine jx0 [(1, _), (6, _), (7, _), (9, _), (10, _), (11, _), (12, _), (13, _)] ⟨rfl, rfl, rfl, rfl, rfl, rfl, rfl, rfl, trivial⟩ (by kernel_rfl) (by kernel_rfl) ?_
      refine jk_sel (is := [2, 3, 4, 5, 6, 7, 8, 9, 10, 11]) (s10 rfl) rfl ?_
      refine jk_bn ?_
      exact jk_use H27 (v1008.2, v16.1, v818.1, z813.2, y1088, y827, y1048) (q19.2, q22.1) [0, 1, 2, 3, 4, 5, 6, 7, 8, 9] ⟨rfl, rfl, rfl, rfl, rfl, rfl, rfl, rfl, trivial⟩ rfl rfl rfl
    · refine jl_c 3 rfl rfl (fun v w hs hm => gen_Maker_Pick_c hm (hs.blkL (i := 3) rfl) (hs.arg Rha0) (hs.offAL 3 Rha0 rfl) (hs.row 0 rfl) (hs.offLL 0 3 rfl rfl)) (fun _ => rfl) rfl rfl fun v948 q949 => ?_
      refine jg_L (r11 rfl) ?_
      refine jg_nil ?_
      refine jk_xn [1, 2, 4, 5, 6, 7, 8, 9, 10] rfl ?_
      refine jx2 (i := 2) (i2 := 8) (by kernel_rfl) (by kernel_rfl) rfl rfl ?_ ?_
      · refine jg_y (fun w hs => yv_fieldAddr rfl) rfl rfl ?_
        refine jg_nil ?_
        refine jk_xn [1, 2, 4, 5, 6, 7, 8, 9, 10] rfl ?_
        refine jx2 (i := 3) (i2 := 8) (by kernel_rfl) (by kernel_rfl) rfl rfl ?_ ?_
        · refine jg_y (fun w hs => yv_load rfl (ld1B (hs.blkL (i := 5) rfl) rfl)) rfl rfl ?_
          refine jg_nil ?_
          refine jk_xn [1, 2, 4, 5, 6, 7, 8, 9, 10] rfl ?_
          refine jx1 (i := 8) (by kernel_rfl) (by kernel_rfl) rfl ?_
          refine jg_lit (enc := encI) [(-2), 20000, 700] rfl rfl rfl rfl rfl rfl rfl rfl fun hd988 => ?_
          refine jg_nil ?_
          refine jk_xn [2, 3, 5, 6, 7, 8, 9, 10, 11] rfl ?_
          refine jx1 (i := 9) (by kernel_rfl) (by kernel_rfl) rfl ?_
          refine jl_c 4 rfl rfl (fun v w hs hm => gen_Maker_Pick_c hm (hs.blkL (i := 4) rfl) (hs.arg Rha0) (hs.offAL 4 Rha0 rfl) (hs.row 0 rfl) (hs.offLL 0 4 rfl rfl)) (fun _ => rfl) rfl rfl fun v1008 q1009 => ?_
          refine jg_L (r12 rfl) ?_
          refine jg_nil ?_
          refine jk_xn [2, 3, 5, 6, 7, 8, 9, 10, 11] rfl ?_
          refine jx_lin [2, 3, 5, 6, 7, 8, 9, 10, 11] 1903 2047 3 [0, 1, 0, 4, 0, 0, 48, 0, 0, 496, 1011, 2035, 4095, 8191] [(10, true)] rfl (np_blk (np_seq (np_blk (np_seq (np_rnd (np_blk (np_seq np_rt))))))) (by kernel_rfl) (by kernel_rfl) (by kernel_rfl) (by kernel_rfl) (by kernel_rfl) (by kernel_rfl) (by kernel_rfl) (by kernel_rfl) (by kernel_rfl) ?_
          refine jd_ix fun x1028 h1029 => ?_
          refine jd_y rfl (fun w hs => yv_ix rfl rfl (hs.row 8 rfl) h1029) rfl rfl ?_
          refine jd_x ?_
          refine jx1 (i := 11) (by kernel_rfl) (by kernel_rfl) rfl ?_
          refine jg_storeE 11 (a' := v948.1) rfl rfl h1029.1 rfl (l1 rfl) rfl rfl rfl rfl fun y1048 => ?_
          refine jg_L (r12 rfl) ?_
          refine jg_nil ?_
          refine jk_xf (by kernel_rfl) ?_
          refine jx1 (i := 12) (by kernel_rfl) (by kernel_rfl) rfl ?_
          refine jg_ix fun x1068 h1069 => ?_
          refine jg_y (fun w hs => yv_ix rfl rfl (hs.row 8 rfl) h1069) rfl rfl ?_
          refine jg_nil ?_
          refine jk_xf (by kernel_rfl) ?_
          refine jx1 (i := 13) (by kernel_rfl) (by kernel_rfl) rfl ?_
          refine jg_storeE 8 (a' := v1008.1) rfl rfl h1069.1 rfl (l1 rfl) rfl rfl rfl rfl fun y1088 => ?_
          refine jg_L (r12 rfl) ?_
          refine jg_nil ?_
          refine jk_xf (by kernel_rfl) ?_
          refine jx0 [(1, _), (6, _), (7, _), (9, _), (10, _), (11, _), (12, _), (13, _)] ⟨rfl, rfl, rfl, rfl, rfl, rfl, rfl, rfl, trivial⟩ (by kernel_rfl) (by kernel_rfl) ?_
          refine jk_sel (is := [2, 3, 4, 5, 6, 7, 8, 9, 10, 11]) (s10 rfl) rfl ?_
          refine jk_bn ?_
          exact jk_use H27 (v1008.2, v16.1, v818.1, z813.2, y1088, y827, y1048) (q19.2, q22.1) [0, 1, 2, 3, 4, 5, 6, 7, 8, 9] ⟨rfl, rfl, rfl, rfl, rfl, rfl, rfl, rfl, trivial⟩ rfl rfl rfl
        refine jg_lit (enc := encI) [(-2), 20000, 700] rfl rfl rfl rfl rfl rfl rfl rfl fun hd988 => ?_
        refine jg_nil ?_
        refine jk_xn [2, 3, 5, 6, 7, 8, 9, 10, 11] rfl ?_
        refine jx2 (i := 3) (i2 := 9) (by kernel_rfl) (by kernel_rfl) rfl rfl ?_ ?_
        · refine jg_y (fun w hs => yv_load rfl (ld1B (hs.blkL (i := 6) rfl) rfl)) rfl rfl ?_
          refine jg_nil ?_
          refine jk_xn [2, 3, 5, 6, 7, 8, 9, 10, 11] rfl ?_
          refine jx1 (i := 9) (by kernel_rfl) (by kernel_rfl) rfl ?_
          refine jl_c 4 rfl rfl (fun v w hs hm => gen_Maker_Pick_c hm (hs.blkL (i := 4) rfl) (hs.arg Rha0) (hs.offAL 4 Rha0 rfl) (hs.row 0 rfl) (hs.offLL 0 4 rfl rfl)) (fun _ => rfl) rfl rfl fun v1008 q1009 => ?_
          refine jg_L (r12 rfl) ?_
          refine jg_nil ?_
          refine jk_xn [2, 3, 5, 6, 7, 8, 9, 10, 11] rfl ?_
          refine jx_lin [2, 3, 5, 6, 7, 8, 9, 10, 11] 1903 2047 3 [0, 1, 0, 4, 0, 0, 48, 0, 0, 496, 1011, 2035, 4095, 8191] [(10, true)] rfl (np_blk (np_seq (np_blk (np_seq (np_rnd (np_blk (np_seq np_rt))))))) (by kernel_rfl) (by kernel_rfl) (by kernel_rfl) (by kernel_rfl) (by kernel_rfl) (by kernel_rfl) (by kernel_rfl) (by kernel_rfl) (by kernel_rfl) ?_
          refine jd_ix fun x1028 h1029 => ?_
          refine jd_y rfl (fun w hs => yv_ix rfl rfl (hs.row 8 rfl) h1029) rfl rfl ?_
          refine jd_x ?_
          refine jx1 (i := 11) (by kernel_rfl) (by kernel_rfl) rfl ?_
          refine jg_storeE 11 (a' := v948.1) rfl rfl h1029.1 rfl (l1 rfl) rfl rfl rfl rfl fun y1048 => ?_
          refine jg_L (r12 rfl) ?_
          refine jg_nil ?_
          refine jk_xf (by kernel_rfl) ?_
          refine jx1 (i := 12) (by kernel_rfl) (by kernel_rfl) rfl ?_
          refine jg_ix fun x1068 h1069 => ?_
          refine jg_y (fun w hs => yv_ix rfl rfl (hs.row 8 rfl) h1069) rfl rfl ?_
          refine jg_nil ?_
          refine jk_xf (by kernel_rfl) ?_
          refine jx1 (i := 13) (by kernel_rfl) (by kernel_rfl) rfl ?_
          refine jg_storeE 8 (a' := v1008.1) rfl rfl h1069.1 rfl (l1 rfl) rfl rfl rfl rfl fun y1088 => ?_
          refine jg_L (r12 rfl) ?_
          refine jg_nil ?_
          refine jk_xf (by kernel_rfl) ?_
          refine jx0 [(1, _), (6, _), (7, _), (9, _), (10, _), (11, _), (12, _), (13, _)] ⟨rfl, rfl, rfl, rfl, rfl, rfl, rfl, rfl, trivial⟩ (by kernel_rfl) (by kernel_rfl) ?_
          refine jk_sel (is := [2, 3, 4, 5, 6, 7, 8, 9, 10, 11]) (s10 rfl) rfl ?_
          refine jk_bn ?_
          exact jk_use H27 (v1008.2, v16.1, v818.1, z813.2, y1088, y827, y1048) (q19.2, q22.1) [0, 1, 2, 3, 4, 5, 6, 7, 8, 9] ⟨rfl, rfl, rfl, rfl, rfl, rfl, rfl, rfl, trivial⟩ rfl rfl rfl
        refine jl_c 4 rfl rfl (fun v w hs hm => gen_Maker_Pick_c hm (hs.blkL (i := 4) rfl) (hs.arg Rha0) (hs.offAL 4 Rha0 rfl) (hs.row 0 rfl) (hs.offLL 0 4 rfl rfl)) (fun _ => rfl) rfl rfl fun v1008 q1009 => ?_
        refine jg_L (r12 rfl) ?_
        refine jg_nil ?_
        refine jk_xn [2, 3, 5, 6, 7, 8, 9, 10, 11] rfl ?_
        refine jx_lin [2, 3, 5, 6, 7, 8, 9, 10, 11] 1903 2039 4 [0, 1, 0, 4, 0, 0, 48, 0, 0, 496, 1011, 2035, 4095, 8191] [(10, true)] rfl (np_blk (np_seq (np_blk (np_seq (np_rnd (np_blk (np_seq np_rt))))))) (by kernel_rfl) (by kernel_rfl) (by kernel_rfl) (by kernel_rfl) (by kernel_rfl) (by kernel_rfl) (by kernel_rfl) (by kernel_rfl) (by kernel_rfl) ?_
        refine jd_ix fun x1028 h1029 => ?_
        refine jd_y rfl (fun w hs => yv_ix rfl rfl (hs.row 8 rfl) h1029) rfl rfl ?_
        refine jd_x ?_
        refine jx2 (i := 3) (i2 := 11) (by kernel_rfl) (by kernel_rfl) rfl rfl ?_ ?_
        · refine jg_y (fun w hs => yv_load rfl (ld1B (hs.blkL (i := 6) rfl) rfl)) rfl rfl ?_
          refine jg_nil ?_
          refine jk_xn [2, 3, 5, 6, 7, 8, 9, 10, 11] rfl ?_
          refine jx1 (i := 11) (by kernel_rfl) (by kernel_rfl) rfl ?_
          refine jg_storeE 11 (a' := v948.1) rfl rfl h1029.1 rfl (l1 rfl) rfl rfl rfl rfl fun y1048 => ?_
          refine jg_L (r12 rfl) ?_
          refine jg_nil ?_
          refine jk_xf (by kernel_rfl) ?_
          refine jx1 (i := 12) (by kernel_rfl) (by kernel_rfl) rfl ?_
          refine jg_ix fun x1068 h1069 => ?_
          refine jg_y (fun w hs => yv_ix rfl rfl (hs.row 8 rfl) h1069) rfl rfl ?_
          refine jg_nil ?_
          refine jk_xf (by kernel_rfl) ?_
          refine jx1 (i := 13) (by kernel_rfl) (by kernel_rfl) rfl ?_
          refine jg_storeE 8 (a' := v1008.1) rfl rfl h1069.1 rfl (l1 rfl) rfl rfl rfl rfl fun y1088 => ?_
          refine jg_L (r12 rfl) ?_
          refine jg_nil ?_
          refine jk_xf (by kernel_rfl) ?_
          refine jx0 [(1, _), (6, _), (7, _), (9, _), (10, _), (11, _), (12, _), (13, _)] ⟨rfl, rfl, rfl, rfl, rfl, rfl, rfl, rfl, trivial⟩ (by kernel_rfl) (by kernel_rfl) ?_
          refine jk_sel (is := [2, 3, 4, 5, 6, 7, 8, 9, 10, 11]) (s10 rfl) rfl ?_
          refine jk_bn ?_
          exact jk_use H27 (v1008.2, v16.1, v818.1, z813.2, y1088, y827, y1048) (q19.2, q22.1) [0, 1, 2, 3, 4, 5, 6, 7, 8, 9] ⟨rfl, rfl, rfl, rfl, rfl, rfl, rfl, rfl, trivial⟩ rfl rfl rfl
        refine jg_storeE 11 (a' := v948.1) rfl rfl h1029.1 rfl (l1 rfl) rfl rfl rfl rfl fun y1048 => ?_
        refine jg_L (r12 rfl) ?_
        refine jg_nil ?_
        refine jk_xf (by kernel_rfl) ?_
        refine jx1 (i := 3) (by kernel_rfl) (by kernel_rfl) rfl ?_
        refine jg_y (fun w hs => yv_load rfl (ld1B (hs.blkL (i := 6) rfl) rfl)) rfl rfl ?_
        refine jg_nil ?_
        refine jk_xf (by kernel_rfl) ?_
        refine jx1 (i := 12) (by kernel_rfl) (by kernel_rfl) rfl ?_
        refine jg_ix fun x1068 h1069 => ?_
        refine jg_y (fun w hs => yv_ix rfl rfl (hs.row 8 rfl) h1069) rfl rfl ?_
        refine jg_nil ?_
        refine jk_xf (by kernel_rfl) ?_
        refine jx1 (i := 13) (by kernel_rfl) (by kernel_rfl) rfl ?_
        refine jg_storeE 8 (a' := v1008.1) rfl rfl h1069.1 rfl (l1 rfl) rfl rfl rfl rfl fun y1088 => ?_
        refine jg_L (r12 rfl) ?_
        refine jg_nil ?_
        refine jk_xf (by kernel_rfl) ?_
        refine jx0 [(1, _), (6, _), (7, _), (9, _), (10, _), (11, _), (12, _), (13, _)] ⟨rfl, rfl, rfl, rfl, rfl, rfl, rfl, rfl, trivial⟩ (by kernel_rfl) (by kernel_rfl) ?_
        refine jk_sel (is := [2, 3, 4, 5, 6, 7, 8, 9, 10, 11]) (s10 rfl) rfl ?_
        refine jk_bn ?_
        exact jk_use H27 (v1008.2, v16.1, v818.1, z813.2, y1088, y827, y1048) (q19.2, q22.1) [0, 1, 2, 3, 4, 5, 6, 7, 8, 9] ⟨rfl, rfl, rfl, rfl, rfl, rfl, rfl, rfl, trivial⟩ rfl rfl rfl
      refine jg_lit (enc := encI) [(-2), 20000, 700] rfl rfl rfl rfl rfl rfl rfl rfl fun hd988 => ?_
      refine jg_nil ?_
      refine jk_xn [2, 3, 5, 6, 7, 8, 9, 10, 11] rfl ?_
      refine jx2 (i := 2) (i2 := 9) (by kernel_rfl) (by kernel_rfl) rfl rfl ?_ ?_
      · refine jg_y (fun w hs => yv_fieldAddr rfl) rfl rfl ?_
        refine jg_nil ?_
        refine jk_xn [2, 3, 5, 6, 7, 8, 9, 10, 11] rfl ?_
        refine jx2 (i := 3) (i2 := 9) (by kernel_rfl) (by kernel_rfl) rfl rfl ?_ ?_
        · refine jg_y (fun w hs => yv_load rfl (ld1B (hs.blkL (i := 6) rfl) rfl)) rfl rfl ?_
          refine jg_nil ?_
          refine jk_xn [2, 3, 5, 6, 7, 8, 9, 10, 11] rfl ?_
          refine jx1 (i := 9) (by kernel_rfl) (by kernel_rfl) rfl ?_
          refine jl_c 4 rfl rfl (fun v w hs hm => gen_Maker_Pick_c hm (hs.blkL (i := 4) rfl) (hs.arg Rha0) (hs.offAL 4 Rha0 rfl) (hs.row 0 rfl) (hs.offLL 0 4 rfl rfl)) (fun _ => rfl) rfl rfl fun v1008 q1009 => ?_
          refine jg_L (r12 rfl) ?_
          refine jg_nil ?_
          refine jk_xn [2, 3, 5, 6, 7, 8, 9, 10, 11] rfl ?_
          refine jx_lin [2, 3, 5, 6, 7, 8, 9, 10, 11] 1903 2047 3 [0, 1, 0, 4, 0, 0, 48, 0, 0, 496, 1011, 2035, 4095, 8191] [(10, true)] rfl (np_blk (np_seq (np_blk (np_seq (np_rnd (np_blk (np_seq np_rt))))))) (by kernel_rfl) (by kernel_rfl) (by kernel_rfl) (by kernel_rfl) (by kernel_rfl) (by kernel_rfl) (by kernel_rfl) (by kernel_rfl) (by kernel_rfl) ?_
          refine jd_ix fun x1028 h1029 => ?_
          refine jd_y rfl (fun w hs => yv_ix rfl rfl (hs.row 8 rfl) h1029) rfl rfl ?_
          refine jd_x ?_
          refine jx1 (i := 11) (by kernel_rfl) (by kernel_rfl) rfl ?_
          refine jg_storeE 11 (a' := v948.1) rfl rfl h1029.1 rfl (l1 rfl) rfl rfl rfl rfl fun y1048 => ?_
          refine jg_L (r12 rfl) ?_
          refine jg_nil ?_
          refine jk_xf (by kernel_rfl) ?_
          refine jx1 (i := 12) (by kernel_rfl) (by kernel_rfl) rfl ?_
          refine jg_ix fun x1068 h1069 => ?_
          refine jg_y (fun w hs => yv_ix rfl rfl (hs.row 8 rfl) h1069) rfl rfl ?_
          refine jg_nil ?_
          refine jk_xf (by kernel_rfl) ?_
          refine jx1 (i := 13) (by kernel_rfl) (by kernel_rfl) rfl ?_
          refine jg_storeE 8 (a' := v1008.1) rfl rfl h1069.1 rfl (l1 rfl) rfl rfl rfl rfl fun y1088 => ?_
          refine jg_L (r12 rfl) ?_
          refine jg_nil ?_
          refine jk_xf (by kernel_rfl) ?_
          refine jx0 [(1, _), (6, _), (7, _), (9, _), (10, _), (11, _), (12, _), (13, _)] ⟨rfl, rfl, rfl, rfl, rfl, rfl, rfl, rfl, trivial⟩ (by kernel_rfl) (by kernel_rfl) ?_
          refine jk_sel (is := [2, 3, 4, 5, 6, 7, 8, 9, 10, 11]) (s10 rfl) rfl ?_
          refine jk_bn ?_
          exact jk_use H27 (v1008.2, v16.1, v818.1, z813.2, y1088, y827, y1048) (q19.2, q22.1) [0, 1, 2, 3, 4, 5, 6, 7, 8, 9] ⟨rfl, rfl, rfl, rfl, rfl, rfl, rfl, rfl, trivial⟩ rfl rfl rfl
        refine jl_c 4 rfl rfl (fun v w hs hm => gen_Maker_Pick_c hm (hs.blkL (i := 4) rfl) (hs.arg Rha0) (hs.offAL 4 Rha0 rfl) (hs.row 0 rfl) (hs.offLL 0 4 rfl rfl)) (fun _ => rfl) rfl rfl fun v1008 q1009 => ?_
        refine jg_L (r12 rfl) ?_
        refine jg_nil ?_
        refine jk_xn [2, 3, 5, 6, 7, 8, 9, 10, 11] rfl ?_
        refine jx_lin [2, 3, 5, 6, 7, 8, 9, 10, 11] 1903 2039 4 [0, 1, 0, 4, 0, 0, 48, 0, 0, 496, 1011, 2035, 4095, 8191] [(10, true)] rfl (np_blk (np_seq (np_blk (np_seq (np_rnd (np_blk (np_seq np_rt))))))) (by kernel_rfl) (by kernel_rfl) (by kernel_rfl) (by kernel_rfl) (by kernel_rfl) (by kernel_rfl) (by kernel_rfl) (by kernel_rfl) (by kernel_rfl) ?_
        refine jd_ix fun x1028 h1029 => ?_
        refine jd_y rfl (fun w hs => yv_ix rfl rfl (hs.row 8 rfl) h1029) rfl rfl ?_
        refine jd_x ?_
        refine jx2 (i := 3) (i2 := 11) (by kernel_rfl) (by kernel_rfl) rfl rfl ?_ ?_
        · refine jg_y (fun w hs => yv_load rfl (ld1B (hs.blkL (i := 6) rfl) rfl)) rfl rfl ?_
          refine jg_nil ?_
          refine jk_xn [2, 3, 5, 6, 7, 8, 9, 10, 11] rfl ?_
          refine jx1 (i := 11) (by kernel_rfl) (by kernel_rfl) rfl ?_
          refine jg_storeE 11 (a' := v948.1) rfl rfl h1029.1 rfl (l1 rfl) rfl rfl rfl rfl fun y1048 => ?_
          refine jg_L (r12 rfl) ?_
          refine jg_nil ?_
          refine jk_xf (by kernel_rfl) ?_
          refine jx1 (i := 12) (by kernel_rfl) (by kernel_rfl) rfl ?_
          refine jg_ix fun x1068 h1069 => ?_
          refine jg_y (fun w hs => yv_ix rfl rfl (hs.row 8 rfl) h1069) rfl rfl ?_
          refine jg_nil ?_
          refine jk_xf (by kernel_rfl) ?_
          refine jx1 (i := 13) (by kernel_rfl) (by kernel_rfl) rfl ?_
          refine jg_storeE 8 (a' := v1008.1) rfl rfl h1069.1 rfl (l1 rfl) rfl rfl rfl rfl fun y1088 => ?_
          refine jg_L (r12 rfl) ?_
          refine jg_nil ?_
          refine jk_xf (by kernel_rfl) ?_
          refine jx0 [(1, _), (6, _), (7, _), (9, _), (10, _), (11, _), (12, _), (13, _)] ⟨rfl, rfl, rfl, rfl, rfl, rfl, rfl, rfl, trivial⟩ (by kernel_rfl) (by kernel_rfl) ?_
          refine jk_sel (is := [2, 3, 4, 5, 6, 7, 8, 9, 10, 11]) (s10 rfl) rfl ?_
          refine jk_bn ?_
          exact jk_use H27 (v1008.2, v16.1, v818.1, z813.2, y1088, y827, y1048) (q19.2, q22.1) [0, 1, 2, 3, 4, 5, 6, 7, 8, 9] ⟨rfl, rfl, rfl, rfl, rfl, rfl, rfl, rfl, trivial⟩ rfl rfl rfl
        refine jg_storeE 11 (a' := v948.1) rfl rfl h1029.1 rfl (l1 rfl) rfl rfl rfl rfl fun y1048 => ?_
        refine jg_L (r12 rfl) ?_
        refine jg_nil ?_
        refine jk_xf (by kernel_rfl) ?_
        refine jx1 (i := 3) (by kernel_rfl) (by kernel_rfl) rfl ?_
        refine jg_y (fun w hs => yv_load rfl (ld1B (hs.blkL (i := 6) rfl) rfl)) rfl rfl ?_
        refine jg_nil ?_
        refine jk_xf (by kernel_rfl) ?_
        refine jx1 (i := 12) (by kernel_rfl) (by kernel_rfl) rfl ?_
        refine jg_ix fun x1068 h1069 => ?_
        refine jg_y (fun w hs => yv_ix rfl rfl (hs.row 8 rfl) h1069) rfl rfl ?_
        refine jg_nil ?_
        refine jk_xf (by kernel_rfl) ?_
        refine jx1 (i := 13) (by kernel_rfl) (by kernel_rfl) rfl ?_
        refine jg_storeE 8 (a' := v1008.1) rfl rfl h1069.1 rfl (l1 rfl) rfl rfl rfl rfl fun y1088 => ?_
        refine jg_L (r12 rfl) ?_
        refine jg_nil ?_
        refine jk_xf (by kernel_rfl) ?_
        refine jx0 [(1, _), (6, _), (7, _), (9, _), (10, _), (11, _), (12, _), (13, _)] ⟨rfl, rfl, rfl, rfl, rfl, rfl, rfl, rfl, trivial⟩ (by kernel_rfl) (by kernel_rfl) ?_
        refine jk_sel (is := [2, 3, 4, 5, 6, 7, 8, 9, 10, 11]) (s10 rfl) rfl ?_
        refine jk_bn ?_
        exact jk_use H27 (v1008.2, v16.1, v818.1, z813.2, y1088, y827, y1048) (q19.2, q22.1) [0, 1, 2, 3, 4, 5, 6, 7, 8, 9] ⟨rfl, rfl, rfl, rfl, rfl, rfl, rfl, rfl, trivial⟩ rfl rfl rfl
      refine jl_c 4 rfl rfl (fun v w hs hm => gen_Maker_Pick_c hm (hs.blkL (i := 4) rfl) (hs.arg Rha0) (hs.offAL 4 Rha0 rfl) (hs.row 0 rfl) (hs.offLL 0 4 rfl rfl)) (fun _ => rfl) rfl rfl fun v1008 q1009 => ?_
      refine jg_L (r12 rfl) ?_
      refine jg_nil ?_
      refine jk_xn [2, 3, 5, 6, 7, 8, 9, 10, 11] rfl ?_
      refine jx_lin [2, 3, 5, 6, 7, 8, 9, 10, 11] 1903 2035 5 [0, 1, 0, 4, 0, 0, 48, 0, 0, 496, 1011, 2035, 4095, 8191] [(10, true)] rfl (np_blk (np_seq (np_blk (np_seq (np_rnd (np_blk (np_seq np_rt))))))) (by kernel_rfl) (by kernel_rfl) (by kernel_rfl) (by kernel_rfl) (by kernel_rfl) (by kernel_rfl) (by kernel_rfl) (by kernel_rfl) (by kernel_rfl) ?_
      refine jd_ix fun x1028 h1029 => ?_
      refine jd_y rfl (fun w hs => yv_ix rfl rfl (hs.row 8 rfl) h1029) rfl rfl ?_
      refine jd_x ?_
      refine jx2 (i := 2) (i2 := 11) (by kernel_rfl) (by kernel_rfl) rfl rfl ?_ ?_
      · refine jg_y (fun w hs => yv_fieldAddr rfl) rfl rfl ?_
        refine jg_nil ?_
        refine jk_xn [2, 3, 5, 6, 7, 8, 9, 10, 11] rfl ?_
        refine jx2 (i := 3) (i2 := 11) (by kernel_rfl) (by kernel_rfl) rfl rfl ?_ ?_
        · refine jg_y (fun w hs => yv_load rfl (ld1B (hs.blkL (i := 6) rfl) rfl)) rfl rfl ?_
          refine jg_nil ?_
          refine jk_xn [2, 3, 5, 6, 7, 8, 9, 10, 11] rfl ?_
          refine jx1 (i := 11) (by kernel_rfl) (by kernel_rfl) rfl ?_
          refine jg_storeE 11 (a' := v948.1) rfl rfl h1029.1 rfl (l1 rfl) rfl rfl rfl rfl fun y1048 => ?_
          refine jg_L (r12 rfl) ?_
          refine jg_nil ?_
          refine jk_xf (by kernel_rfl) ?_
          refine jx1 (i := 12) (by kernel_rfl) (by kernel_rfl) rfl ?_
          refine jg_ix fun x1068 h1069 => ?_
          refine jg_y (fun w hs => yv_ix rfl rfl (hs.row 8 rfl) h1069) rfl rfl ?_
          refine jg_nil ?_
          refine jk_xf (by kernel_rfl) ?_
          refine jx1 (i := 13) (by kernel_rfl) (by kernel_rfl) rfl ?_
          refine jg_storeE 8 (a' := v1008.1) rfl rfl h1069.1 rfl (l1 rfl) rfl rfl rfl rfl fun y1088 => ?_
          refine jg_L (r12 rfl) ?_
          refine jg_nil ?_
          refine jk_xf (by kernel_rfl) ?_
          refine jx0 [(1, _), (6, _), (7, _), (9, _), (10, _), (11, _), (12, _), (13, _)] ⟨rfl, rfl, rfl, rfl, rfl, rfl, rfl, rfl, trivial⟩ (by kernel_rfl) (by kernel_rfl) ?_
          refine jk_sel (is := [2, 3, 4, 5, 6, 7, 8, 9, 10, 11]) (s10 rfl) rfl ?_
          refine jk_bn ?_
          exact jk_use H27 (v1008.2, v16.1, v818.1, z813.2, y1088, y827, y1048) (q19.2, q22.1) [0, 1, 2, 3, 4, 5, 6, 7, 8, 9] ⟨rfl, rfl, rfl, rfl, rfl, rfl, rfl, rfl, trivial⟩ rfl rfl rfl
        refine jg_storeE 11 (a' := v948.1) rfl rfl h1029.1 rfl (l1 rfl) rfl rfl rfl rfl fun y1048 => ?_
        refine jg_L (r12 rfl) ?_
        refine jg_nil ?_
        refine jk_xf (by kernel_rfl) ?_
        refine jx1 (i := 3) (by kernel_rfl) (by kernel_rfl) rfl ?_
        refine jg_y (fun w hs => yv_load rfl (ld1B (hs.blkL (i := 6) rfl) rfl)) rfl rfl ?_
        refine jg_nil ?_
        refine jk_xf (by kernel_rfl) ?_
        refine jx1 (i := 12) (by kernel_rfl) (by kernel_rfl) rfl ?_
        refine jg_ix fun x1068 h1069 => ?_
        refine jg_y (fun w hs => yv_ix rfl rfl (hs.row 8 rfl) h1069) rfl rfl ?_
        refine jg_nil ?_
        refine jk_xf (by kernel_rfl) ?_
        refine jx1 (i := 13) (by kernel_rfl) (by kernel_rfl) rfl ?_
        refine jg_storeE 8 (a' := v1008.1) rfl rfl h1069.1 rfl (l1 rfl) rfl rfl rfl rfl fun y1088 => ?_
        refine jg_L (r12 rfl) ?_
        refine jg_nil ?_
        refine jk_xf (by kernel_rfl) ?_
        refine jx0 [(1, _), (6, _), (7, _), (9, _), (10, _), (11, _), (12, _), (13, _)] ⟨rfl, rfl, rfl, rfl, rfl, rfl, rfl, rfl, trivial⟩ (by kernel_rfl) (by kernel_rfl) ?_
        refine jk_sel (is := [2, 3, 4, 5, 6, 7, 8, 9, 10, 11]) (s10 rfl) rfl ?_
        refine jk_bn ?_
        exact jk_use H27 (v1008.2, v16.1, v818.1, z813.2, y1088, y827, y1048) (q19.2, q22.1) [0, 1, 2, 3, 4, 5, 6, 7, 8, 9] ⟨rfl, rfl, rfl, rfl, rfl, rfl, rfl, rfl, trivial⟩ rfl rfl rfl
      refine jg_storeE 11 (a' := v948.1) rfl rfl h1029.1 rfl (l1 rfl) rfl rfl rfl rfl fun y1048 => ?_
      refine jg_L (r12 rfl) ?_
      refine jg_nil ?_
      refine jk_xf (by kernel_rfl) ?_
      refine jx1 (i := 2) (by kernel_rfl) (by kernel_rfl) rfl ?_
      refine jg_y (fun w hs => yv_fieldAddr rfl) rfl rfl ?_
      refine jg_nil ?_
      refine jk_xf (by kernel_rfl) ?_
      refine jx1 (i := 3) (by kernel_rfl) (by kernel_rfl) rfl ?_
      refine jg_y (fun w hs => yv_load rfl (ld1B (hs.blkL (i := 6) rfl) rfl)) rfl rfl ?_
      refine jg_nil ?_
      refine jk_xf (by kernel_rfl) ?_
      refine jx1 (i := 12) (by kernel_rfl) (by kernel_rfl) rfl ?_
      refine jg_ix fun x1068 h1069 => ?_
      refine jg_y (fun w hs => yv_ix rfl rfl (hs.row 8 rfl) h1069) rfl rfl ?_
      refine jg_nil ?_
      refine jk_xf (by kernel_rfl) ?_
      refine jx1 (i := 13) (by kernel_rfl) (by kernel_rfl) rfl ?_
      refine jg_storeE 8 (a' := v1008.1) rfl rfl h1069.1 rfl (l1 rfl) rfl rfl rfl rfl fun y1088 => ?_
      refine jg_L (r12 rfl) ?_
      refine jg_nil ?_
      refine jk_xf (by kernel_rfl) ?_
      refine jx0 [(1, _), (6, _), (7, _), (9, _), (10, _), (11, _), (12, _), (13, _)] ⟨rfl, rfl, rfl, rfl, rfl, rfl, rfl, rfl, trivial⟩ (by kernel_rfl) (by kernel_rfl) ?_
      refine jk_sel (is := [2, 3, 4, 5, 6, 7, 8, 9, 10, 11]) (s10 rfl) rfl ?_
      refine jk_bn ?_
      exact jk_use H27 (v1008.2, v16.1, v818.1, z813.2, y1088, y827, y1048) (q19.2, q22.1) [0, 1, 2, 3, 4, 5, 6, 7, 8, 9] ⟨rfl, rfl, rfl, rfl, rfl, rfl, rfl, rfl, trivial⟩ rfl rfl rfl
    refine jg_lit (enc := encI) [(-2), 20000, 700] rfl rfl rfl rfl rfl rfl rfl rfl fun hd988 => ?_
    refine jg_nil ?_
    refine jk_xn [2, 3, 5, 6, 7, 8, 9, 10, 11] rfl ?_
    refine jx2 (i := 2) (i2 := 6) (by kernel_rfl) (by kernel_rfl) rfl rfl ?_ ?_
    · refine jg_y (fun w hs => yv_fieldAddr rfl) rfl rfl ?_
      refine jg_nil ?_
      refine jk_xn [2, 3, 5, 6, 7, 8, 9, 10, 11] rfl ?_
      refine jx2 (i := 3) (i2 := 6) (by kernel_rfl) (by kernel_rfl) rfl rfl ?_ ?_
      · refine jg_y (fun w hs => yv_load rfl (ld1B (hs.blkL (i := 6) rfl) rfl)) rfl rfl ?_
        refine jg_nil ?_
        refine jk_xn [2, 3, 5, 6, 7, 8, 9, 10, 11] rfl ?_
        refine jx1 (i := 6) (by kernel_rfl) (by kernel_rfl) rfl ?_
        refine jl_c 4 rfl rfl (fun v w hs hm => gen_Maker_Pick_c hm (hs.blkL (i := 4) rfl) (hs.arg Rha0) (hs.offAL 4 Rha0 rfl) (hs.row 1 rfl) (hs.offLL 1 4 rfl rfl)) (fun _ => rfl) rfl rfl fun v948 q949 => ?_
        refine jg_L (r12 rfl) ?_
        refine jg_nil ?_
        refine jk_xn [2, 3, 5, 6, 7, 8, 9, 10, 11] rfl ?_
        refine jx1 (i := 9) (by kernel_rfl) (by kernel_rfl) rfl ?_
        refine jl_c 4 rfl rfl (fun v w hs hm => gen_Maker_Pick_c hm (hs.blkL (i := 4) rfl) (hs.arg Rha0) (hs.offAL 4 Rha0 rfl) (hs.row 0 rfl) (hs.offLL 0 4 rfl rfl)) (fun _ => rfl) rfl rfl fun v1008 q1009 => ?_
        refine jg_L (r12 rfl) ?_
        refine jg_nil ?_
        refine jk_xn [2, 3, 5, 6, 7, 8, 9, 10, 11] rfl ?_
        refine jx_lin [2, 3, 5, 6, 7, 8, 9, 10, 11] 1903 2047 3 [0, 1, 0, 4, 0, 0, 48, 0, 0, 496, 1011, 2035, 4095, 8191] [(10, true)] rfl (np_blk (np_seq (np_blk (np_seq (np_rnd (np_blk (np_seq np_rt))))))) (by kernel_rfl) (by kernel_rfl) (by kernel_rfl) (by kernel_rfl) (by kernel_rfl) (by kernel_rfl) (by kernel_rfl) (by kernel_rfl) (by kernel_rfl) ?_
        refine jd_ix fun x1028 h1029 => ?_
        refine jd_y rfl (fun w hs => yv_ix rfl rfl (hs.row 8 rfl) h1029) rfl rfl ?_
        refine jd_x ?_
        refine jx1 (i := 11) (by kernel_rfl) (by kernel_rfl) rfl ?_
        refine jg_storeE 11 (a' := v948.1) rfl rfl h1029.1 rfl (l1 rfl) rfl rfl rfl rfl fun y1048 => ?_
        refine jg_L (r12 rfl) ?_
        refine jg_nil ?_
        refine jk_xf (by kernel_rfl) ?_
        refine jx1 (i := 12) (by kernel_rfl) (by kernel_rfl) rfl ?_
        refine jg_ix fun x1068 h1069 => ?_
        refine jg_y (fun w hs => yv_ix rfl rfl (hs.row 8 rfl) h1069) rfl rfl ?_
        refine jg_nil ?_
        refine jk_xf (by kernel_rfl) ?_
        refine jx1 (i := 13) (by kernel_rfl) (by kernel_rfl) rfl ?_
        refine jg_storeE 8 (a' := v1008.1) rfl rfl h1069.1 rfl (l1 rfl) rfl rfl rfl rfl fun y1088 => ?_
        refine jg_L (r12 rfl) ?_
        refine jg_nil ?_
        refine jk_xf (by kernel_rfl) ?_
        refine jx0 [(1, _), (6, _), (7, _), (9, _), (10, _), (11, _), (12, _), (13, _)] ⟨rfl, rfl, rfl, rfl, rfl, rfl, rfl, rfl, trivial⟩ (by kernel_rfl) (by kernel_rfl) ?_
        refine jk_sel (is := [2, 3, 4, 5, 6, 7, 8, 9, 10, 11]) (s10 rfl) rfl ?_
        refine jk_bn ?_
        exact jk_use H27 (v1008.2, v16.1, v818.1, z813.2, y1088, y827, y1048) (q19.2, q22.1) [0, 1, 2, 3, 4, 5, 6, 7, 8, 9] ⟨rfl, rfl, rfl, rfl, rfl, rfl, rfl, rfl, trivial⟩ rfl rfl rfl
      refine jl_c 4 rfl rfl (fun v w hs hm => gen_Maker_Pick_c hm (hs.blkL (i := 4) rfl) (hs.arg Rha0) (hs.offAL 4 Rha0 rfl) (hs.row 1 rfl) (hs.offLL 1 4 rfl rfl)) (fun _ => rfl) rfl rfl fun v948 q949 => ?_
      refine jg_L (r12 rfl) ?_
      refine jg_nil ?_
      refine jk_xn [2, 3, 5, 6, 7, 8, 9, 10, 11] rfl ?_
      refine jx2 (i := 3) (i2 := 9) (by kernel_rfl) (by kernel_rfl) rfl rfl ?_ ?_
      · refine jg_y (fun w hs => yv_load rfl (ld1B (hs.blkL (i := 6) rfl) rfl)) rfl rfl ?_
        refine jg_nil ?_
        refine jk_xn [2, 3, 5, 6, 7, 8, 9, 10, 11] rfl ?_
        refine jx1 (i := 9) (by kernel_rfl) (by kernel_rfl) rfl ?_
        refine jl_c 4 rfl rfl (fun v w hs hm => gen_Maker_Pick_c hm (hs.blkL (i := 4) rfl) (hs.arg Rha0) (hs.offAL 4 Rha0 rfl) (hs.row 0 rfl) (hs.offLL 0 4 rfl rfl)) (fun _ => rfl) rfl rfl fun v1008 q1009 => ?_
        refine jg_L (r12 rfl) ?_
        refine jg_nil ?_
        refine jk_xn [2, 3, 5, 6, 7, 8, 9, 10, 11] rfl ?_
        refine jx_lin [2, 3, 5, 6, 7, 8, 9, 10, 11] 1903 2047 3 [0, 1, 0, 4, 0, 0, 48, 0, 0, 496, 1011, 2035, 4095, 8191] [(10, true)] rfl (np_blk (np_seq (np_blk (np_seq (np_rnd (np_blk (np_seq np_rt))))))) (by kernel_rfl) (by kernel_rfl) (by kernel_rfl) (by kernel_rfl) (by kernel_rfl) (by kernel_rfl) (by kernel_rfl) (by kernel_rfl) (by kernel_rfl) ?_
        refine jd_ix fun x1028 h1029 => ?_
        refine jd_y rfl (fun w hs => yv_ix rfl rfl (hs.row 8 rfl) h1029) rfl rfl ?_
        refine jd_x ?_
        refine jx1 (i := 11) (by kernel_rfl) (by kernel_rfl) rfl ?_
        refine jg_storeE 11 (a' := v948.1) rfl rfl h1029.1 rfl (l1 rfl) rfl rfl rfl rfl fun y1048 => ?_
        refine jg_L (r12 rfl) ?_
        refine jg_nil ?_
        refine jk_xf (by kernel_rfl) ?_
        refine jx1 (i := 12) (by kernel_rfl) (by kernel_rfl) rfl ?_
        refine jg_ix fun x1068 h1069 => ?_
        refine jg_y (fun w hs => yv_ix rfl rfl (hs.row 8 rfl) h1069) rfl rfl ?_
        refine jg_nil ?_
        refine jk_xf (by kernel_rfl) ?_
        refine jx1 (i := 13) (by kernel_rfl) (by kernel_rfl) rfl ?_
        refine jg_storeE 8 (a' := v1008.1) rfl rfl h1069.1 rfl (l1 rfl) rfl rfl rfl rfl fun y1088 => ?_
        refine jg_L (r12 rfl) ?_
        refine jg_nil ?_
        refine jk_xf (by kernel_rfl) ?_
        refine jx0 [(1, _), (6, _), (7, _), (9, _), (10, _), (11, _), (12, _), (13, _)] ⟨rfl, rfl, rfl, rfl, rfl, rfl, rfl, rfl, trivial⟩ (by kernel_rfl) (by kernel_rfl) ?_
        refine jk_sel (is := [2, 3, 4, 5, 6, 7, 8, 9, 10, 11]) (s10 rfl) rfl ?_
        refine jk_bn ?_
        exact jk_use H27 (v1008.2, v16.1, v818.1, z813.2, y1088, y827, y1048) (q19.2, q22.1) [0, 1, 2, 3, 4, 5, 6, 7, 8, 9] ⟨rfl, rfl, rfl, rfl, rfl, rfl, rfl, rfl, trivial⟩ rfl rfl rfl
      refine jl_c 4 rfl rfl (fun v w hs hm => gen_Maker_Pick_c hm (hs.blkL (i := 4) rfl) (hs.arg Rha0) (hs.offAL 4 Rha0 rfl) (hs.row 0 rfl) (hs.offLL 0 4 rfl rfl)) (fun _ => rfl) rfl rfl fun v1008 q1009 => ?_
      refine jg_L (r12 rfl) ?_
      refine jg_nil ?_
      refine jk_xn [2, 3, 5, 6, 7, 8, 9, 10, 11] rfl ?_
      refine jx_lin [2, 3, 5, 6, 7, 8, 9, 10, 11] 1903 2039 4 [0, 1, 0, 4, 0, 0, 48, 0, 0, 496, 1011, 2035, 4095, 8191] [(10, true)] rfl (np_blk (np_seq (np_blk (np_seq (np_rnd (np_blk (np_seq np_rt))))))) (by kernel_rfl) (by kernel_rfl) (by kernel_rfl) (by kernel_rfl) (by kernel_rfl) (by kernel_rfl) (by kernel_rfl) (by kernel_rfl) (by kernel_rfl) ?_
      refine jd_ix fun x1028 h1029 => ?_
      refine jd_y rfl (fun w hs => yv_ix rfl rfl (hs.row 8 rfl) h1029) rfl rfl ?_
      refine jd_x ?_
      refine jx2 (i := 3) (i2 := 11) (by kernel_rfl) (by kernel_rfl) rfl rfl ?_ ?_
      · refine jg_y (fun w hs => yv_load rfl (ld1B (hs.blkL (i := 6) rfl) rfl)) rfl rfl ?_
        refine jg_nil ?_
        refine jk_xn [2, 3, 5, 6, 7, 8, 9, 10, 11] rfl ?_
        refine jx1 (i := 11) (by kernel_rfl) (by kernel_rfl) rfl ?_
        refine jg_storeE 11 (a' := v948.1) rfl rfl h1029.1 rfl (l1 rfl) rfl rfl rfl rfl fun y1048 => ?_
        refine jg_L (r12 rfl) ?_
        refine jg_nil ?_
        refine jk_xf (by kernel_rfl) ?_
        refine jx1 (i := 12) (by kernel_rfl) (by kernel_rfl) rfl ?_
        refine jg_ix fun x1068 h1069 => ?_
        refine jg_y (fun w hs => yv_ix rfl rfl (hs.row 8 rfl) h1069) rfl rfl ?_
        refine jg_nil ?_
        refine jk_xf (by kernel_rfl) ?_
        refine jx1 (i := 13) (by kernel_rfl) (by kernel_rfl) rfl ?_
        refine jg_storeE 8 (a' := v1008.1) rfl rfl h1069.1 rfl (l1 rfl) rfl rfl rfl rfl fun y1088 => ?_
        refine jg_L (r12 rfl) ?_
        refine jg_nil ?_
        refine jk_xf (by kernel_rfl) ?_
        refine jx0 [(1, _), (6, _), (7, _), (9, _), (10, _), (11, _), (12, _), (13, _)] ⟨rfl, rfl, rfl, rfl, rfl, rfl, rfl, rfl, trivial⟩ (by kernel_rfl) (by kernel_rfl) ?_
        refine jk_sel (is := [2, 3, 4, 5, 6, 7, 8, 9, 10, 11]) (s10 rfl) rfl ?_
        refine jk_bn ?_
        exact jk_use H27 (v1008.2, v16.1, v818.1, z813.2, y1088, y827, y1048) (q19.2, q22.1) [0, 1, 2, 3, 4, 5, 6, 7, 8, 9] ⟨rfl, rfl, rfl, rfl, rfl, rfl, rfl, rfl, trivial⟩ rfl rfl rfl
      refine jg_storeE 11 (a' := v948.1) rfl rfl h1029.1 rfl (l1 rfl) rfl rfl rfl rfl fun y1048 => ?_
      refine jg_L (r12 rfl) ?_
      refine jg_nil ?_
      refine jk_xf (by kernel_rfl) ?_
      refine jx1 (i := 3) (by kernel_rfl) (by kernel_rfl) rfl ?_
      refine jg_y (fun w hs => yv_load rfl (ld1B (hs.blkL (i := 6) rfl) rfl)) rfl rfl ?_
      refine jg_nil ?_
      refine jk_xf (by kernel_rfl) ?_
      refine jx1 (i := 12) (by kernel_rfl) (by kernel_rfl) rfl ?_
      refine jg_ix fun x1068 h1069 => ?_
      refine jg_y (fun w hs => yv_ix rfl rfl (hs.row 8 rfl) h1069) rfl rfl ?_
      refine jg_nil ?_
      refine jk_xf (by kernel_rfl) ?_
      refine jx1 (i := 13) (by kernel_rfl) (by kernel_rfl) rfl ?_
      refine jg_storeE 8 (a' := v1008.1) rfl rfl h1069.1 rfl (l1 rfl) rfl rfl rfl rfl fun y1088 => ?_
      refine jg_L (r12 rfl) ?_
      refine jg_nil ?_
      refine jk_xf (by kernel_rfl) ?_
      refine jx0 [(1, _), (6, _), (7, _), (9, _), (10, _), (11, _), (12, _), (13, _)] ⟨rfl, rfl, rfl, rfl, rfl, rfl, rfl, rfl, trivial⟩ (by kernel_rfl) (by kernel_rfl) ?_
      refine jk_sel (is := [2, 3, 4, 5, 6, 7, 8, 9, 10, 11]) (s10 rfl) rfl ?_
      refine jk_bn ?_
      exact jk_use H27 (v1008.2, v16.1, v818.1, z813.2, y1088, y827, y1048) (q19.2, q22.1) [0, 1, 2, 3, 4, 5, 6, 7, 8, 9] ⟨rfl, rfl, rfl, rfl, rfl, rfl, rfl, rfl, trivial⟩ rfl rfl rfl
    refine jl_c 4 rfl rfl (fun v w hs hm => gen_Maker_Pick_c hm (hs.blkL (i := 4) rfl) (hs.arg Rha0) (hs.offAL 4 Rha0 rfl) (hs.row 1 rfl) (hs.offLL 1 4 rfl rfl)) (fun _ => rfl) rfl rfl fun v948 q949 => ?_
    refine jg_L (r12 rfl) ?_
    refine jg_nil ?_
    refine jk_xn [2, 3, 5, 6, 7, 8, 9, 10, 11] rfl ?_
    refine jx2 (i := 2) (i2 := 9) (by kernel_rfl) (by kernel_rfl) rfl rfl ?_ ?_
    · refine jg_y (fun w hs => yv_fieldAddr rfl) rfl rfl ?_
      refine jg_nil ?_
      refine jk_xn [2, 3, 5, 6, 7, 8, 9, 10, 11] rfl ?_
      refine jx2 (i := 3) (i2 := 9) (by kernel_rfl) (by kernel_rfl) rfl rfl ?_ ?_
      · refine jg_y (fun w hs => yv_load rfl (ld1B (hs.blkL (i := 6) rfl) rfl)) rfl rfl ?_
        refine jg_nil ?_
        refine jk_xn [2, 3, 5, 6, 7, 8, 9, 10, 11] rfl ?_
        refine jx1 (i := 9) (by kernel_rfl) (by kernel_rfl) rfl ?_
        refine jl_c 4 rfl rfl (fun v w hs hm => gen_Maker_Pick_c hm (hs.blkL (i := 4) rfl) (hs.arg Rha0) (hs.offAL 4 Rha0 rfl) (hs.row 0 rfl) (hs.offLL 0 4 rfl rfl)) (fun _ => rfl) rfl rfl fun v1008 q1009 => ?_
        refine jg_L (r12 rfl) ?_
        refine jg_nil ?_
        refine jk_xn [2, 3, 5, 6, 7, 8, 9, 10, 11] rfl ?_
        refine jx_lin [2, 3, 5, 6, 7, 8, 9, 10, 11] 1903 2047 3 [0, 1, 0, 4, 0, 0, 48, 0, 0, 496, 1011, 2035, 4095, 8191] [(10, true)] rfl (np_blk (np_seq (np_blk (np_seq (np_rnd (np_blk (np_seq np_rt))))))) (by kernel_rfl) (by kernel_rfl) (by kernel_rfl) (by kernel_rfl) (by kernel_rfl) (by kernel_rfl) (by kernel_rfl) (by kernel_rfl) (by kernel_rfl) ?_
        refine jd_ix fun x1028 h1029 => ?_
        refine jd_y rfl (fun w hs => yv_ix rfl rfl (hs.row 8 rfl) h1029) rfl rfl ?_
        refine jd_x ?_
        refine jx1 (i := 11) (by kernel_rfl) (by kernel_rfl) rfl ?_
        refine jg_storeE 11 (a' := v948.1) rfl rfl h1029.1 rfl (l1 rfl) rfl rfl rfl rfl fun y1048 => ?_
        refine jg_L (r12 rfl) ?_
        refine jg_nil ?_
        refine jk_xf (by kernel_rfl) ?_
        refine jx1 (i := 12) (by kernel_rfl) (by kernel_rfl) rfl ?_
        refine jg_ix fun x1068 h1069 => ?_
        refine jg_y (fun w hs => yv_ix rfl rfl (hs.row 8 rfl) h1069) rfl rfl ?_
        refine jg_nil ?_
        refine jk_xf (by kernel_rfl) ?_
        refine jx1 (i := 13) (by kernel_rfl) (by kernel_rfl) rfl ?_
        refine jg_storeE 8 (a' := v1008.1) rfl rfl h1069.1 rfl (l1 rfl) rfl rfl rfl rfl fun y1088 => ?_
        refine jg_L (r12 rfl) ?_
        refine jg_nil ?_
        refine jk_xf (by kernel_rfl) ?_
        refine jx0 [(1, _), (6, _), (7, _), (9, _), (10, _), (11, _), (12, _), (13, _)] ⟨rfl, rfl, rfl, rfl, rfl, rfl, rfl, rfl, trivial⟩ (by kernel_rfl) (by kernel_rfl) ?_
        refine jk_sel (is := [2, 3, 4, 5, 6, 7, 8, 9, 10, 11]) (s10 rfl) rfl ?_
        refine jk_bn ?_
        exact jk_use H27 (v1008.2, v16.1, v818.1, z813.2, y1088, y827, y1048) (q19.2, q22.1) [0, 1, 2, 3, 4, 5, 6, 7, 8, 9] ⟨rfl, rfl, rfl, rfl, rfl, rfl, rfl, rfl, trivial⟩ rfl rfl rfl
      refine jl_c 4 rfl rfl (fun v w hs hm => gen_Maker_Pick_c hm (hs.blkL (i := 4) rfl) (hs.arg Rha0) (hs.offAL 4 Rha0 rfl) (hs.row 0 rfl) (hs.offLL 0 4 rfl rfl)) (fun _ => rfl) rfl rfl fun v1008 q1009 => ?_
      refine jg_L (r12 rfl) ?_
      refine jg_nil ?_
      refine jk_xn [2, 3, 5, 6, 7, 8, 9, 10, 11] rfl ?_
      refine jx_lin [2, 3, 5, 6, 7, 8, 9, 10, 11] 1903 2039 4 [0, 1, 0, 4, 0, 0, 48, 0, 0, 496, 1011, 2035, 4095, 8191] [(10, true)] rfl (np_blk (np_seq (np_blk (np_seq (np_rnd (np_blk (np_seq np_rt))))))) (by kernel_rfl) (by kernel_rfl) (by kernel_rfl) (by kernel_rfl) (by kernel_rfl) (by kernel_rfl) (by kernel_rfl) (by kernel_rfl) (by kernel_rfl) ?_
      refine jd_ix fun x1028 h1029 => ?_
      refine jd_y rfl (fun w hs => yv_ix rfl rfl (hs.row 8 rfl) h1029) rfl rfl ?_
      refine jd_x ?_
      refine jx2 (i := 3) (i2 := 11) (by kernel_rfl) (by kernel_rfl) rfl rfl ?_ ?_
      · refine jg_y (fun w hs => yv_load rfl (ld1B (hs.blkL (i := 6) rfl) rfl)) rfl rfl ?_
        refine jg_nil ?_
        refine jk_xn [2, 3, 5, 6, 7, 8, 9, 10, 11] rfl ?_
        refine jx1 (i := 11) (by kernel_rfl) (by kernel_rfl) rfl ?_
        refine jg_storeE 11 (a' := v948.1) rfl rfl h1029.1 rfl (l1 rfl) rfl rfl rfl rfl fun y1048 => ?_
        refine jg_L (r12 rfl) ?_
        refine jg_nil ?_
        refine jk_xf (by kernel_rfl) ?_
        refine jx1 (i := 12) (by kernel_rfl) (by kernel_rfl) rfl ?_
        refine jg_ix fun x1068 h1069 => ?_
        refine jg_y (fun w hs => yv_ix rfl rfl (hs.row 8 rfl) h1069) rfl rfl ?_
        refine jg_nil ?_
        refine jk_xf (by kernel_rfl) ?_
        refine jx1 (i := 13) (by kernel_rfl) (by kernel_rfl) rfl ?_
        refine jg_storeE 8 (a' := v1008.1) rfl rfl h1069.1 rfl (l1 rfl) rfl rfl rfl rfl fun y1088 => ?_
        refine jg_L (r12 rfl) ?_
        refine jg_nil ?_
        refine jk_xf (by kernel_rfl) ?_
        refine jx0 [(1, _), (6, _), (7, _), (9, _), (10, _), (11, _), (12, _), (13, _)] ⟨rfl, rfl, rfl, rfl, rfl, rfl, rfl, rfl, trivial⟩ (by kernel_rfl) (by kernel_rfl) ?_
        refine jk_sel (is := [2, 3, 4, 5, 6, 7, 8, 9, 10, 11]) (s10 rfl) rfl ?_
        refine jk_bn ?_
        exact jk_use H27 (v1008.2, v16.1, v818.1, z813.2, y1088, y827, y1048) (q19.2, q22.1) [0, 1, 2, 3, 4, 5, 6, 7, 8, 9] ⟨rfl, rfl, rfl, rfl, rfl, rfl, rfl, rfl, trivial⟩ rfl rfl rfl
      refine jg_storeE 11 (a' := v948.1) rfl rfl h1029.1 rfl (l1 rfl) rfl rfl rfl rfl fun y1048 => ?_
      refine jg_L (r12 rfl) ?_
      refine jg_nil ?_
      refine jk_xf (by kernel_rfl) ?_
      refine jx1 (i := 3) (by kernel_rfl) (by kernel_rfl) rfl ?_
      refine jg_y (fun w hs => yv_load rfl (ld1B (hs.blkL (i := 6) rfl) rfl)) rfl rfl ?_
      refine jg_nil ?_
      refine jk_xf (by kernel_rfl) ?_
      refine jx1 (i := 12) (by kernel_rfl) (by kernel_rfl) rfl ?_
      refine jg_ix fun x1068 h1069 => ?_
      refine jg_y (fun w hs => yv_ix rfl rfl (hs.row 8 rfl) h1069) rfl rfl ?_
      refine jg_nil ?_
      refine jk_xf (by kernel_rfl) ?_
      refine jx1 (i := 13) (by kernel_rfl) (by kernel_rfl) rfl ?_
      refine jg_storeE 8 (a' := v1008.1) rfl rfl h1069.1 rfl (l1 rfl) rfl rfl rfl rfl fun y1088 => ?_
      refine jg_L (r12 rfl) ?_
      refine jg_nil ?_
      refine jk_xf (by kernel_rfl) ?_
      refine jx0 [(1, _), (6, _), (7, _), (9, _), (10, _), (11, _), (12, _), (13, _)] ⟨rfl, rfl, rfl, rfl, rfl, rfl, rfl, rfl, trivial⟩ (by kernel_rfl) (by kernel_rfl) ?_
      refine jk_sel (is := [2, 3, 4, 5, 6, 7, 8, 9, 10, 11]) (s10 rfl) rfl ?_
      refine jk_bn ?_
      exact jk_use H27 (v1008.2, v16.1, v818.1, z813.2, y1088, y827, y1048) (q19.2, q22.1) [0, 1, 2, 3, 4, 5, 6, 7, 8, 9] ⟨rfl, rfl, rfl, rfl, rfl, rfl, rfl, rfl, trivial⟩ rfl rfl rfl
    refine jl_c 4 rfl rfl (fun v w hs hm => gen_Maker_Pick_c hm (hs.blkL (i := 4) rfl) (hs.arg Rha0) (hs.offAL 4 Rha0 rfl) (hs.row 0 rfl) (hs.offLL 0 4 rfl rfl)) (fun _ => rfl) rfl rfl fun v1008 q1009 => ?_
    refine jg_L (r12 rfl) ?_
    refine jg_nil ?_
    refine jk_xn [2, 3, 5, 6, 7, 8, 9, 10, 11] rfl ?_
    refine jx_lin [2, 3, 5, 6, 7, 8, 9, 10, 11] 1903 2035 5 [0, 1, 0, 4, 0, 0, 48, 0, 0, 496, 1011, 2035, 4095, 8191] [(10, true)] rfl (np_blk (np_seq (np_blk (np_seq (np_rnd (np_blk (np_seq np_rt))))))) (by kernel_rfl) (by kernel_rfl) (by kernel_rfl) (by kernel_rfl) (by kernel_rfl) (by kernel_rfl) (by kernel_rfl) (by kernel_rfl) (by kernel_rfl) ?_
    refine jd_ix fun x1028 h1029 => ?_
    refine jd_y rfl (fun w hs => yv_ix rfl rfl (hs.row 8 rfl) h1029) rfl rfl ?_
    refine jd_x ?_
    refine jx2 (i := 2) (i2 := 11) (by kernel_rfl) (by kernel_rfl) rfl rfl ?_ ?_
    · refine jg_y (fun w hs => yv_fieldAddr rfl) rfl rfl ?_
      refine jg_nil ?_
      refine jk_xn [2, 3, 5, 6, 7, 8, 9, 10, 11] rfl ?_
      refine jx2 (i := 3) (i2 := 11) (by kernel_rfl) (by kernel_rfl) rfl rfl ?_ ?_
      · refine jg_y (fun w hs => yv_load rfl (ld1B (hs.blkL (i := 6) rfl) rfl)) rfl rfl ?_
        refine jg_nil ?_
        refine jk_xn [2, 3, 5, 6, 7, 8, 9, 10, 11] rfl ?_
        refine jx1 (i := 11) (by kernel_rfl) (by kernel_rfl) rfl ?_
        refine jg_storeE 11 (a' := v948.1) rfl rfl h1029.1 rfl (l1 rfl) rfl rfl rfl rfl fun y1048 => ?_
        refine jg_L (r12 rfl) ?_
        refine jg_nil ?_
        refine jk_xf (by kernel_rfl) ?_
        refine jx1 (i := 12) (by kernel_rfl) (by kernel_rfl) rfl ?_
        refine jg_ix fun x1068 h1069 => ?_
        refine jg_y (fun w hs => yv_ix rfl rfl (hs.row 8 rfl) h1069) rfl rfl ?_
        refine jg_nil ?_
        refine jk_xf (by kernel_rfl) ?_
        refine jx1 (i := 13) (by kernel_rfl) (by kernel_rfl) rfl ?_
        refine jg_storeE 8 (a' := v1008.1) rfl rfl h1069.1 rfl (l1 rfl) rfl rfl rfl rfl fun y1088 => ?_
        refine jg_L (r12 rfl) ?_
        refine jg_nil ?_
        refine jk_xf (by kernel_rfl) ?_
        refine jx0 [(1, _), (6, _), (7, _), (9, _), (10, _), (11, _), (12, _), (13, _)] ⟨rfl, rfl, rfl, rfl, rfl, rfl, rfl, rfl, trivial⟩ (by kernel_rfl) (by kernel_rfl) ?_
        refine jk_sel (is := [2, 3, 4, 5, 6, 7, 8, 9, 10, 11]) (s10 rfl) rfl ?_
        refine jk_bn ?_
        exact jk_use H27 (v1008.2, v16.1, v818.1, z813.2, y1088, y827, y1048) (q19.2, q22.1) [0, 1, 2, 3, 4, 5, 6, 7, 8, 9] ⟨rfl, rfl, rfl, rfl, rfl, rfl, rfl, rfl, trivial⟩ rfl rfl rfl
      refine jg_storeE 11 (a' := v948.1) rfl rfl h1029.1 rfl (l1 rfl) rfl rfl rfl rfl fun y1048 => ?_
      refine jg_L (r12 rfl) ?_
      refine jg_nil ?_
      refine jk_xf (by kernel_rfl) ?_
      refine jx1 (i := 3) (by kernel_rfl) (by kernel_rfl) rfl ?_
      refine jg_y (fun w hs => yv_load rfl (ld1B (hs.blkL (i := 6) rfl) rfl)) rfl rfl ?_
      refine jg_nil ?_
      refine jk_xf (by kernel_rfl) ?_
      refine jx1 (i := 12) (by kernel_rfl) (by kernel_rfl) rfl ?_
      refine jg_ix fun x1068 h1069 => ?_
      refine jg_y (fun w hs => yv_ix rfl rfl (hs.row 8 rfl) h1069) rfl rfl ?_
      refine jg_nil ?_
      refine jk_xf (by kernel_rfl) ?_
      refine jx1 (i := 13) (by kernel_rfl) (by kernel_rfl) rfl ?_
      refine jg_storeE 8 (a' := v1008.1) rfl rfl h1069.1 rfl (l1 rfl) rfl rfl rfl rfl fun y1088 => ?_
      refine jg_L (r12 rfl) ?_
      refine jg_nil ?_
      refine jk_xf (by kernel_rfl) ?_
      refine jx0 [(1, _), (6, _), (7, _), (9, _), (10, _), (11, _), (12, _), (13, _)] ⟨rfl, rfl, rfl, rfl, rfl, rfl, rfl, rfl, trivial⟩ (by kernel_rfl) (by kernel_rfl) ?_
      refine jk_sel (is := [2, 3, 4, 5, 6, 7, 8, 9, 10, 11]) (s10 rfl) rfl ?_
      refine jk_bn ?_
      exact jk_use H27 (v1008.2, v16.1, v818.1, z813.2, y1088, y827, y1048) (q19.2, q22.1) [0, 1, 2, 3, 4, 5, 6, 7, 8, 9] ⟨rfl, rfl, rfl, rfl, rfl, rfl, rfl, rfl, trivial⟩ rfl rfl rfl
    refine jg_storeE 11 (a' := v948.1) rfl rfl h1029.1 rfl (l1 rfl) rfl rfl rfl rfl fun y1048 => ?_
    refine jg_L (r12 rfl) ?_
    refine jg_nil ?_
    refine jk_xf (by kernel_rfl) ?_
    refine jx1 (i := 2) (by kernel_rfl) (by kernel_rfl) rfl ?_
    refine jg_y (fun w hs => yv_fieldAddr rfl) rfl rfl ?_
    refine jg_nil ?_
    refine jk_xf (by kernel_rfl) ?_
    refine jx1 (i := 3) (by kernel_rfl) (by kernel_rfl) rfl ?_
    refine jg_y (fun w hs => yv_load rfl (ld1B (hs.blkL (i := 6) rfl) rfl)) rfl rfl ?_
    refine jg_nil ?_
    refine jk_xf (by kernel_rfl) ?_
    refine jx1 (i := 12) (by kernel_rfl) (by kernel_rfl) rfl ?_
    refine jg_ix fun x1068 h1069 => ?_
    refine jg_y (fun w hs => yv_ix rfl rfl (hs.row 8 rfl) h1069) rfl rfl ?_
    refine jg_nil ?_
    refine jk_xf (by kernel_rfl) ?_
    refine jx1 (i := 13) (by kernel_rfl) (by kernel_rfl) rfl ?_
    refine jg_storeE 8 (a' := v1008.1) rfl rfl h1069.1 rfl (l1 rfl) rfl rfl rfl rfl fun y1088 => ?_
    refine jg_L (r12 rfl) ?_
    refine jg_nil ?_
    refine jk_xf (by kernel_rfl) ?_
    refine jx0 [(1, _), (6, _), (7, _), (9, _), (10, _), (11, _), (12, _), (13, _)] ⟨rfl, rfl, rfl, rfl, rfl, rfl, rfl, rfl, trivial⟩ (by kernel_rfl) (by kernel_rfl) ?_
    refine jk_sel (is := [2, 3, 4, 5, 6, 7, 8, 9, 10, 11]) (s10 rfl) rfl ?_
    refine jk_bn ?_
    exact jk_use H27 (v1008.2, v16.1, v818.1, z813.2, y1088, y827, y1048) (q19.2, q22.1) [0, 1, 2, 3, 4, 5, 6, 7, 8, 9] ⟨rfl, rfl, rfl, rfl, rfl, rfl, rfl, rfl, trivial⟩ rfl rfl rfl
  refine jg_lit (enc := encI) [(-2), 20000, 700] rfl rfl rfl rfl rfl rfl rfl rfl fun hd988 => ?_
  refine jg_nil ?_
  refine jk_xn [1, 2, 4, 5, 6, 7, 8, 9, 10] rfl ?_
  refine jx2 (i := 2) (i2 := 5) (by kernel_rfl) (by kernel_rfl) rfl rfl ?_ ?_
  · refine jg_y (fun w hs => yv_fieldAddr rfl) rfl rfl ?_
    refine jg_nil ?_
    refine jk_xn [1, 2, 4, 5, 6, 7, 8, 9, 10] rfl ?_
    refine jx2 (i := 3) (i2 := 5) (by kernel_rfl) (by kernel_rfl) rfl rfl ?_ ?_
    · refine jg_y (fun w hs => yv_load rfl (ld1B (hs.blkL (i := 5) rfl) rfl)) rfl rfl ?_
      refine jg_nil ?_
      refine jk_xn [1, 2, 4, 5, 6, 7, 8, 9, 10] rfl ?_
      refine jx1 (i := 5) (by kernel_rfl) (by kernel_rfl) rfl ?_
      refine jg_lit (enc := encI) [(-2), 20001, 0] rfl rfl rfl rfl rfl rfl rfl rfl fun hd928 => ?_
      refine jg_nil ?_
      refine jk_xn [2, 3, 5, 6, 7, 8, 9, 10, 11] rfl ?_
      refine jx1 (i := 6) (by kernel_rfl) (by kernel_rfl) rfl ?_
      refine jl_c 4 rfl rfl (fun v w hs hm => gen_Maker_Pick_c hm (hs.blkL (i := 4) rfl) (hs.arg Rha0) (hs.offAL 4 Rha0 rfl) (hs.row 0 rfl) (hs.offLL 0 4 rfl rfl)) (fun _ => rfl) rfl rfl fun v948 q949 => ?_
      refine jg_L (r12 rfl) ?_
      refine jg_nil ?_
      refine jk_xn [2, 3, 5, 6, 7, 8, 9, 10, 11] rfl ?_
      refine jx1 (i := 9) (by kernel_rfl) (by kernel_rfl) rfl ?_
      refine jl_c 4 rfl rfl (fun v w hs hm => gen_Maker_Pick_c hm (hs.blkL (i := 4) rfl) (hs.arg Rha0) (hs.offAL 4 Rha0 rfl) (hs.row 1 rfl) (hs.offLL 1 4 rfl rfl)) (fun _ => rfl) rfl rfl fun v1008 q1009 => ?_
      refine jg_L (r12 rfl) ?_
      refine jg_nil ?_
      refine jk_xn [2, 3, 5, 6, 7, 8, 9, 10, 11] rfl ?_
      refine jx_lin [2, 3, 5, 6, 7, 8, 9, 10, 11] 1903 2047 3 [0, 1, 0, 4, 0, 0, 48, 0, 0, 496, 1011, 2035, 4095, 8191] [(10, true)] rfl (np_blk (np_seq (np_blk (np_seq (np_rnd (np_blk (np_seq np_rt))))))) (by kernel_rfl) (by kernel_rfl) (by kernel_rfl) (by kernel_rfl) (by kernel_rfl) (by kernel_rfl) (by kernel_rfl) (by kernel_rfl) (by kernel_rfl) ?_
      refine jd_ix fun x1028 h1029 => ?_
      refine jd_y rfl (fun w hs => yv_ix rfl rfl (hs.row 8 rfl) h1029) rfl rfl ?_
      refine jd_x ?_
      refine jx1 (i := 11) (by kernel_rfl) (by kernel_rfl) rfl ?_
      refine jg_storeE 11 (a' := v948.1) rfl rfl h1029.1 rfl (l1 rfl) rfl rfl rfl rfl fun y1048 => ?_
      refine jg_L (r12 rfl) ?_
      refine jg_nil ?_
      refine jk_xf (by kernel_rfl) ?_
      refine jx1 (i := 12) (by kernel_rfl) (by kernel_rfl) rfl ?_
      refine jg_ix fun x1068 h1069 => ?_
      refine jg_y (fun w hs => yv_ix rfl rfl (hs.row 8 rfl) h1069) rfl rfl ?_
      refine jg_nil ?_
      refine jk_xf (by kernel_rfl) ?_
      refine jx1 (i := 13) (by kernel_rfl) (by kernel_rfl) rfl ?_
      refine jg_storeE 8 (a' := v1008.1) rfl rfl h1069.1 rfl (l1 rfl) rfl rfl rfl rfl fun y1088 => ?_
      refine jg_L (r12 rfl) ?_
      refine jg_nil ?_
      refine jk_xf (by kernel_rfl) ?_
      refine jx0 [(1, _), (6, _), (7, _), (9, _), (10, _), (11, _), (12, _), (13, _)] ⟨rfl, rfl, rfl, rfl, rfl, rfl, rfl, rfl, trivial⟩ (by kernel_rfl) (by kernel_rfl) ?_
      refine jk_sel (is := [2, 3, 4, 5, 6, 7, 8, 9, 10, 11]) (s10 rfl) rfl ?_
      refine jk_bn ?_
      exact jk_use H27 (v1008.2, v16.1, v818.1, z813.2, y1088, y827, y1048) (q19.2, q22.1) [0, 1, 2, 3, 4, 5, 6, 7, 8, 9] ⟨rfl, rfl, rfl, rfl, rfl, rfl, rfl, rfl, trivial⟩ rfl rfl rfl
    refine jg_lit (enc := encI) [(-2), 20001, 0] rfl rfl rfl rfl rfl rfl rfl rfl fun hd928 => ?_
    refine jg_nil ?_
    refine jk_xn [2, 3, 5, 6, 7, 8, 9, 10, 11] rfl ?_
    refine jx2 (i := 3) (i2 := 6) (by kernel_rfl) (by kernel_rfl) rfl rfl ?_ ?_
    · refine jg_y (fun w hs => yv_load rfl (ld1B (hs.blkL (i := 6) rfl) rfl)) rfl rfl ?_
      refine jg_nil ?_
      refine jk_xn [2, 3, 5, 6, 7, 8, 9, 10, 11] rfl ?_
      refine jx1 (i := 6) (by kernel_rfl) (by kernel_rfl) rfl ?_
      refine jl_c 4 rfl rfl (fun v w hs hm => gen_Maker_Pick_c hm (hs.blkL (i := 4) rfl) (hs.arg Rha0) (hs.offAL 4 Rha0 rfl) (hs.row 0 rfl) (hs.offLL 0 4 rfl rfl)) (fun _ => rfl) rfl rfl fun v948 q949 => ?_
      refine jg_L (r12 rfl) ?_
      refine jg_nil ?_
      refine jk_xn [2, 3, 5, 6, 7, 8, 9, 10, 11] rfl ?_
      refine jx1 (i := 9) (by kernel_rfl) (by kernel_rfl) rfl ?_
      refine jl_c 4 rfl rfl (fun v w hs hm => gen_Maker_Pick_c hm (hs.blkL (i := 4) rfl) (hs.arg Rha0) (hs.offAL 4 Rha0 rfl) (hs.row 1 rfl) (hs.offLL 1 4 rfl rfl)) (fun _ => rfl) rfl rfl fun v1008 q1009 => ?_
      refine jg_L (r12 rfl) ?_
      refine jg_nil ?_
      refine jk_xn [2, 3, 5, 6, 7, 8, 9, 10, 11] rfl ?_
      refine jx_lin [2, 3, 5, 6, 7, 8, 9, 10, 11] 1903 2047 3 [0, 1, 0, 4, 0, 0, 48, 0, 0, 496, 1011, 2035, 4095, 8191] [(10, true)] rfl (np_blk (np_seq (np_blk (np_seq (np_rnd (np_blk (np_seq np_rt))))))) (by kernel_rfl) (by kernel_rfl) (by kernel_rfl) (by kernel_rfl) (by kernel_rfl) (by kernel_rfl) (by kernel_rfl) (by kernel_rfl) (by kernel_rfl) ?_
      refine jd_ix fun x1028 h1029 => ?_
      refine jd_y rfl (fun w hs => yv_ix rfl rfl (hs.row 8 rfl) h1029) rfl rfl ?_
      refine jd_x ?_
      refine jx1 (i := 11) (by kernel_rfl) (by kernel_rfl) rfl ?_
      refine jg_storeE 11 (a' := v948.1) rfl rfl h1029.1 rfl (l1 rfl) rfl rfl rfl rfl fun y1048 => ?_
      refine jg_L (r12 rfl) ?_
      refine jg_nil ?_
      refine jk_xf (by kernel_rfl) ?_
      refine jx1 (i := 12) (by kernel_rfl) (by kernel_rfl) rfl ?_
      refine jg_ix fun x1068 h1069 => ?_
      refine jg_y (fun w hs => yv_ix rfl rfl (hs.row 8 rfl) h1069) rfl rfl ?_
      refine jg_nil ?_
      refine jk_xf (by kernel_rfl) ?_
      refine jx1 (i := 13) (by kernel_rfl) (by kernel_rfl) rfl ?_
      refine jg_storeE 8 (a' := v1008.1) rfl rfl h1069.1 rfl (l1 rfl) rfl rfl rfl rfl fun y1088 => ?_
      refine jg_L (r12 rfl) ?_
      refine jg_nil ?_
      refine jk_xf (by kernel_rfl) ?_
      refine jx0 [(1, _), (6, _), (7, _), (9, _), (10, _), (11, _), (12, _), (13, _)] ⟨rfl, rfl, rfl, rfl, rfl, rfl, rfl, rfl, trivial⟩ (by kernel_rfl) (by kernel_rfl) ?_
      refine jk_sel (is := [2, 3, 4, 5, 6, 7, 8, 9, 10, 11]) (s10 rfl) rfl ?_
      refine jk_bn ?_
      exact jk_use H27 (v1008.2, v16.1, v818.1, z813.2, y1088, y827, y1048) (q19.2, q22.1) [0, 1, 2, 3, 4, 5, 6, 7, 8, 9] ⟨rfl, rfl, rfl, rfl, rfl, rfl, rfl, rfl, trivial⟩ rfl rfl rfl
    refine jl_c 4 rfl rfl (fun v w hs hm => gen_Maker_Pick_c hm (hs.blkL (i := 4) rfl) (hs.arg Rha0) (hs.offAL 4 Rha0 rfl) (hs.row 0 rfl) (hs.offLL 0 4 rfl rfl)) (fun _ => rfl) rfl rfl fun v948 q949 => ?_
    refine jg_L (r12 rfl) ?_
    refine jg_nil ?_
    refine jk_xn [2, 3, 5, 6, 7, 8, 9, 10, 11] rfl ?_
    refine jx2 (i := 3) (i2 := 9) (by kernel_rfl) (by kernel_rfl) rfl rfl ?_ ?_
    · refine jg_y (fun w hs => yv_load rfl (ld1B (hs.blkL (i := 6) rfl) rfl)) rfl rfl ?_
      refine jg_nil ?_
      refine jk_xn [2, 3, 5, 6, 7, 8, 9, 10, 11] rfl ?_
      refine jx1 (i := 9) (by kernel_rfl) (by kernel_rfl) rfl ?_
      refine jl_c 4 rfl rfl (fun v w hs hm => gen_Maker_Pick_c hm (hs.blkL (i := 4) rfl) (hs.arg Rha0) (hs.offAL 4 Rha0 rfl) (hs.row 1 rfl) (hs.offLL 1 4 rfl rfl)) (fun _ => rfl) rfl rfl fun v1008 q1009 => ?_
      refine jg_L (r12 rfl) ?_
      refine jg_nil ?_
      refine jk_xn [2, 3, 5, 6, 7, 8, 9, 10, 11] rfl ?_
      refine jx_lin [2, 3, 5, 6, 7, 8, 9, 10, 11] 1903 2047 3 [0, 1, 0, 4, 0, 0, 48, 0, 0, 496, 1011, 2035, 4095, 8191] [(10, true)] rfl (np_blk (np_seq (np_blk (np_seq (np_rnd (np_blk (np_seq np_rt))))))) (by kernel_rfl) (by kernel_rfl) (by kernel_rfl) (by kernel_rfl) (by kernel_rfl) (by kernel_rfl) (by kernel_rfl) (by kernel_rfl) (by kernel_rfl) ?_
      refine jd_ix fun x1028 h1029 => ?_
      refine jd_y rfl (fun w hs => yv_ix rfl rfl (hs.row 8 rfl) h1029) rfl rfl ?_
      refine jd_x ?_
      refine jx1 (i := 11) (by kernel_rfl) (by kernel_rfl) rfl ?_
      refine jg_storeE 11 (a' := v948.1) rfl rfl h1029.1 rfl (l1 rfl) rfl rfl rfl rfl fun y1048 => ?_
      refine jg_L (r12 rfl) ?_
      refine jg_nil ?_
      refine jk_xf (by kernel_rfl) ?_
      refine jx1 (i := 12) (by kernel_rfl) (by kernel_rfl) rfl ?_
      refine jg_ix fun x1068 h1069 => ?_
      refine jg_y (fun w hs => yv_ix rfl rfl (hs.row 8 rfl) h1069) rfl rfl ?_
      refine jg_nil ?_
      refine jk_xf (by kernel_rfl) ?_
      refine jx1 (i := 13) (by kernel_rfl) (by kernel_rfl) rfl ?_
      refine jg_storeE 8 (a' := v1008.1) rfl rfl h1069.1 rfl (l1 rfl) rfl rfl rfl rfl fun y1088 => ?_
      refine jg_L (r12 rfl) ?_
      refine jg_nil ?_
      refine jk_xf (by kernel_rfl) ?_
      refine jx0 [(1, _), (6, _), (7, _), (9, _), (10, _), (11, _), (12, _), (13, _)] ⟨rfl, rfl, rfl, rfl, rfl, rfl, rfl, rfl, trivial⟩ (by kernel_rfl) (by kernel_rfl) ?_
      refine jk_sel (is := [2, 3, 4, 5, 6, 7, 8, 9, 10, 11]) (s10 rfl) rfl ?_
      refine jk_bn ?_
      exact jk_use H27 (v1008.2, v16.1, v818.1, z813.2, y1088, y827, y1048) (q19.2, q22.1) [0, 1, 2, 3, 4, 5, 6, 7, 8, 9] ⟨rfl, rfl, rfl, rfl, rfl, rfl, rfl, rfl, trivial⟩ rfl rfl rfl
    refine jl_c 4 rfl rfl (fun v w hs hm => gen_Maker_Pick_c hm (hs.blkL (i := 4) rfl) (hs.arg Rha0) (hs.offAL 4 Rha0 rfl) (hs.row 1 rfl) (hs.offLL 1 4 rfl rfl)) (fun _ => rfl) rfl rfl fun v1008 q1009 => ?_
    refine jg_L (r12 rfl) ?_
    refine jg_nil ?_
    refine jk_xn [2, 3, 5, 6, 7, 8, 9, 10, 11] rfl ?_
    refine jx_lin [2, 3, 5, 6, 7, 8, 9, 10, 11] 1903 2039 4 [0, 1, 0, 4, 0, 0, 48, 0, 0, 496, 1011, 2035, 4095, 8191] [(10, true)] rfl (np_blk (np_seq (np_blk (np_seq (np_rnd (np_blk (np_seq np_rt))))))) (by kernel_rfl) (by kernel_rfl) (by kernel_rfl) (by kernel_rfl) (by kernel_rfl) (by kernel_rfl) (by kernel_rfl) (by kernel_rfl) (by kernel_rfl) ?_
    refine jd_ix fun x1028 h1029 => ?_
    refine jd_y rfl (fun w hs => yv_ix rfl rfl (hs.row 8 rfl) h1029) rfl rfl ?_
    refine jd_x ?_
    refine jx2 (i := 3) (i2 := 11) (by kernel_rfl) (by kernel_rfl) rfl rfl ?_ ?_
    · refine jg_y (fun w hs => yv_load rfl (ld1B (hs.blkL (i := 6) rfl) rfl)) rfl rfl ?_
      refine jg_nil ?_
      refine jk_xn [2, 3, 5, 6, 7, 8, 9, 10, 11] rfl ?_
      refine jx1 (i := 11) (by kernel_rfl) (by kernel_rfl) rfl ?_
      refine jg_storeE 11 (a' := v948.1) rfl rfl h1029.1 rfl (l1 rfl) rfl rfl rfl rfl fun y1048 => ?_
      refine jg_L (r12 rfl) ?_
      refine jg_nil ?_
      refine jk_xf (by kernel_rfl) ?_
      refine jx1 (i := 12) (by kernel_rfl) (by kernel_rfl) rfl ?_
      refine jg_ix fun x1068 h1069 => ?_
      refine jg_y (fun w hs => yv_ix rfl rfl (hs.row 8 rfl) h1069) rfl rfl ?_
      refine jg_nil ?_
      refine jk_xf (by kernel_rfl) ?_
      refine jx1 (i := 13) (by kernel_rfl) (by kernel_rfl) rfl ?_
      refine jg_storeE 8 (a' := v1008.1) rfl rfl h1069.1 rfl (l1 rfl) rfl rfl rfl rfl fun y1088 => ?_
      refine jg_L (r12 rfl) ?_
      refine jg_nil ?_
      refine jk_xf (by kernel_rfl) ?_
      refine jx0 [(1, _), (6, _), (7, _), (9, _), (10, _), (11, _), (12, _), (13, _)] ⟨rfl, rfl, rfl, rfl, rfl, rfl, rfl, rfl, trivial⟩ (by kernel_rfl) (by kernel_rfl) ?_
      refine jk_sel (is := [2, 3, 4, 5, 6, 7, 8, 9, 10, 11]) (s10 rfl) rfl ?_
      refine jk_bn ?_
      exact jk_use H27 (v1008.2, v16.1, v818.1, z813.2, y1088, y827, y1048) (q19.2, q22.1) [0, 1, 2, 3, 4, 5, 6, 7, 8, 9] ⟨rfl, rfl, rfl, rfl, rfl, rfl, rfl, rfl, trivial⟩ rfl rfl rfl
    refine jg_storeE 11 (a' := v948.1) rfl rfl h1029.1 rfl (l1 rfl) rfl rfl rfl rfl fun y1048 => ?_
    refine jg_L (r12 rfl) ?_
    refine jg_nil ?_
    refine jk_xf (by kernel_rfl) ?_
    refine jx1 (i := 3) (by kernel_rfl) (by kernel_rfl) rfl ?_
    refine jg_y (fun w hs => yv_load rfl (ld1B (hs.blkL (i := 6) rfl) rfl)) rfl rfl ?_
    refine jg_nil ?_
    refine jk_xf (by kernel_rfl) ?_
    refine jx1 (i := 12) (by kernel_rfl) (by kernel_rfl) rfl ?_
    refine jg_ix fun x1068 h1069 => ?_
    refine jg_y (fun w hs => yv_ix rfl rfl (hs.row 8 rfl) h1069) rfl rfl ?_
    refine jg_nil ?_
    refine jk_xf (by kernel_rfl) ?_
    refine jx1 (i := 13) (by kernel_rfl) (by kernel_rfl) rfl ?_
    refine jg_storeE 8 (a' := v1008.1) rfl rfl h1069.1 rfl (l1 rfl) rfl rfl rfl rfl fun y1088 => ?_
    refine jg_L (r12 rfl) ?_
    refine jg_nil ?_
    refine jk_xf (by kernel_rfl) ?_
    refine jx0 [(1, _), (6, _), (7, _), (9, _), (10, _), (11, _), (12, _), (13, _)] ⟨rfl, rfl, rfl, rfl, rfl, rfl, rfl, rfl, trivial⟩ (by kernel_rfl) (by kernel_rfl) ?_
    refine jk_sel (is := [2, 3, 4, 5, 6, 7, 8, 9, 10, 11]) (s10 rfl) rfl ?_
    refine jk_bn ?_
    exact jk_use H27 (v1008.2, v16.1, v818.1, z813.2, y1088, y827, y1048) (q19.2, q22.1) [0, 1, 2, 3, 4, 5, 6, 7, 8, 9] ⟨rfl, rfl, rfl, rfl, rfl, rfl, rfl, rfl, trivial⟩ rfl rfl rfl
  refine jg_lit (enc := encI) [(-2), 20001, 0] rfl rfl rfl rfl rfl rfl rfl rfl fun hd928 => ?_
  refine jg_nil ?_
  refine jk_xn [2, 3, 5, 6, 7, 8, 9, 10, 11] rfl ?_
  refine jx2 (i := 2) (i2 := 6) (by kernel_rfl) (by kernel_rfl) rfl rfl ?_ ?_
  · refine jg_y (fun w hs => yv_fieldAddr rfl) rfl rfl ?_
    refine jg_nil ?_
    refine jk_xn [2, 3, 5, 6, 7, 8, 9, 10, 11] rfl ?_
    refine jx2 (i := 3) (i2 := 6) (by kernel_rfl) (by kernel_rfl) rfl rfl ?_ ?_
    · refine jg_y (fun w hs => yv_load rfl (ld1B (hs.blkL (i := 6) rfl) rfl)) rfl rfl ?_
      refine jg_nil ?_
      refine jk_xn [2, 3, 5, 6, 7, 8, 9, 10, 11] rfl ?_
      refine jx1 (i := 6) (by kernel_rfl) (by kernel_rfl) rfl ?_
      refine jl_c 4 rfl rfl (fun v w hs hm => gen_Maker_Pick_c hm (hs.blkL (i := 4) rfl) (hs.arg Rha0) (hs.offAL 4 Rha0 rfl) (hs.row 0 rfl) (hs.offLL 0 4 rfl rfl)) (fun _ => rfl) rfl rfl fun v948 q949 => ?_
      refine jg_L (r12 rfl) ?_
      refine jg_nil ?_
      refine jk_xn [2, 3, 5, 6, 7, 8, 9, 10, 11] rfl ?_
      refine jx1 (i := 9) (by kernel_rfl) (by kernel_rfl) rfl ?_
      refine jl_c 4 rfl rfl (fun v w hs hm => gen_Maker_Pick_c hm (hs.blkL (i := 4) rfl) (hs.arg Rha0) (hs.offAL 4 Rha0 rfl) (hs.row 1 rfl) (hs.offLL 1 4 rfl rfl)) (fun _ => rfl) rfl rfl fun v1008 q1009 => ?_
      refine jg_L (r12 rfl) ?_
      refine jg_nil ?_
      refine jk_xn [2, 3, 5, 6, 7, 8, 9, 10, 11] rfl ?_
      refine jx_lin [2, 3, 5, 6, 7, 8, 9, 10, 11] 1903 2047 3 [0, 1, 0, 4, 0, 0, 48, 0, 0, 496, 1011, 2035, 4095, 8191] [(10, true)] rfl (np_blk (np_seq (np_blk (np_seq (np_rnd (np_blk (np_seq np_rt))))))) (by kernel_rfl) (by kernel_rfl) (by kernel_rfl) (by kernel_rfl) (by kernel_rfl) (by kernel_rfl) (by kernel_rfl) (by kernel_rfl) (by kernel_rfl) ?_
      refine jd_ix fun x1028 h1029 => ?_
      refine jd_y rfl (fun w hs => yv_ix rfl rfl (hs.row 8 rfl) h1029) rfl rfl ?_
      refine jd_x ?_
      refine jx1 (i := 11) (by kernel_rfl) (by kernel_rfl) rfl ?_
      refine jg_storeE 11 (a' := v948.1) rfl rfl h1029.1 rfl (l1 rfl) rfl rfl rfl rfl fun y1048 => ?_
      refine jg_L (r12 rfl) ?_
      refine jg_nil ?_
      refine jk_xf (by kernel_rfl) ?_
      refine jx1 (i := 12) (by kernel_rfl) (by kernel_rfl) rfl ?_
      refine jg_ix fun x1068 h1069 => ?_
      refine jg_y (fun w hs => yv_ix rfl rfl (hs.row 8 rfl) h1069) rfl rfl ?_
      refine jg_nil ?_
      refine jk_xf (by kernel_rfl) ?_
      refine jx1 (i := 13) (by kernel_rfl) (by kernel_rfl) rfl ?_
      refine jg_storeE 8 (a' := v1008.1) rfl rfl h1069.1 rfl (l1 rfl) rfl rfl rfl rfl fun y1088 => ?_
      refine jg_L (r12 rfl) ?_
      refine jg_nil ?_
      refine jk_xf (by kernel_rfl) ?_
      refine jx0 [(1, _), (6, _), (7, _), (9, _), (10, _), (11, _), (12, _), (13, _)] ⟨rfl, rfl, rfl, rfl, rfl, rfl, rfl, rfl, trivial⟩ (by kernel_rfl) (by kernel_rfl) ?_
      refine jk_sel (is := [2, 3, 4, 5, 6, 7, 8, 9, 10, 11]) (s10 rfl) rfl ?_
      refine jk_bn ?_
      exact jk_use H27 (v1008.2, v16.1, v818.1, z813.2, y1088, y827, y1048) (q19.2, q22.1) [0, 1, 2, 3, 4, 5, 6, 7, 8, 9] ⟨rfl, rfl, rfl, rfl, rfl, rfl, rfl, rfl, trivial⟩ rfl rfl rfl
    refine jl_c 4 rfl rfl (fun v w hs hm => gen_Maker_Pick_c hm (hs.blkL (i := 4) rfl) (hs.arg Rha0) (hs.offAL 4 Rha0 rfl) (hs.row 0 rfl) (hs.offLL 0 4 rfl rfl)) (fun _ => rfl) rfl rfl fun v948 q949 => ?_
    refine jg_L (r12 rfl) ?_
    refine jg_nil ?_
    refine jk_xn [2, 3, 5, 6, 7, 8, 9, 10, 11] rfl ?_
    refine jx2 (i := 3) (i2 := 9) (by kernel_rfl) (by kernel_rfl) rfl rfl ?_ ?_
    · refine jg_y (fun w hs => yv_load rfl (ld1B (hs.blkL (i := 6) rfl) rfl)) rfl rfl ?_
      refine jg_nil ?_
      refine jk_xn [2, 3, 5, 6, 7, 8, 9, 10, 11] rfl ?_
      refine jx1 (i := 9) (by kernel_rfl) (by kernel_rfl) rfl ?_
      refine jl_c 4 rfl rfl (fun v w hs hm => gen_Maker_Pick_c hm (hs.blkL (i := 4) rfl) (hs.arg Rha0) (hs.offAL 4 Rha0 rfl) (hs.row 1 rfl) (hs.offLL 1 4 rfl rfl)) (fun _ => rfl) rfl rfl fun v1008 q1009 => ?_
      refine jg_L (r12 rfl) ?_
      refine jg_nil ?_
      refine jk_xn [2, 3, 5, 6, 7, 8, 9, 10, 11] rfl ?_
      refine jx_lin [2, 3, 5, 6, 7, 8, 9, 10, 11] 1903 2047 3 [0, 1, 0, 4, 0, 0, 48, 0, 0, 496, 1011, 2035, 4095, 8191] [(10, true)] rfl (np_blk (np_seq (np_blk (np_seq (np_rnd (np_blk (np_seq np_rt))))))) (by kernel_rfl) (by kernel_rfl) (by kernel_rfl) (by kernel_rfl) (by kernel_rfl) (by kernel_rfl) (by kernel_rfl) (by kernel_rfl) (by kernel_rfl) ?_
      refine jd_ix fun x1028 h1029 => ?_
      refine jd_y rfl (fun w hs => yv_ix rfl rfl (hs.row 8 rfl) h1029) rfl rfl ?_
      refine jd_x ?_
      refine jx1 (i := 11) (by kernel_rfl) (by kernel_rfl) rfl ?_
      refine jg_storeE 11 (a' := v948.1) rfl rfl h1029.1 rfl (l1 rfl) rfl rfl rfl rfl fun y1048 => ?_
      refine jg_L (r12 rfl) ?_
      refine jg_nil ?_
      refine jk_xf (by kernel_rfl) ?_
      refine jx1 (i := 12) (by kernel_rfl) (by kernel_rfl) rfl ?_
      refine jg_ix fun x1068 h1069 => ?_
      refine jg_y (fun w hs => yv_ix rfl rfl (hs.row 8 rfl) h1069) rfl rfl ?_
      refine jg_nil ?_
      refine jk_xf (by kernel_rfl) ?_
      refine jx1 (i := 13) (by kernel_rfl) (by kernel_rfl) rfl ?_
      refine jg_storeE 8 (a' := v1008.1) rfl rfl h1069.1 rfl (l1 rfl) rfl rfl rfl rfl fun y1088 => ?_
      refine jg_L (r12 rfl) ?_
      refine jg_nil ?_
      refine jk_xf (by kernel_rfl) ?_
      refine jx0 [(1, _), (6, _), (7, _), (9, _), (10, _), (11, _), (12, _), (13, _)] ⟨rfl, rfl, rfl, rfl, rfl, rfl, rfl, rfl, trivial⟩ (by kernel_rfl) (by kernel_rfl) ?_
      refine jk_sel (is := [2, 3, 4, 5, 6, 7, 8, 9, 10, 11]) (s10 rfl) rfl ?_
      refine jk_bn ?_
      exact jk_use H27 (v1008.2, v16.1, v818.1, z813.2, y1088, y827, y1048) (q19.2, q22.1) [0, 1, 2, 3, 4, 5, 6, 7, 8, 9] ⟨rfl, rfl, rfl, rfl, rfl, rfl, rfl, rfl, trivial⟩ rfl rfl rfl
    refine jl_c 4 rfl rfl (fun v w hs hm => gen_Maker_Pick_c hm (hs.blkL (i := 4) rfl) (hs.arg Rha0) (hs.offAL 4 Rha0 rfl) (hs.row 1 rfl) (hs.offLL 1 4 rfl rfl)) (fun _ => rfl) rfl rfl fun v1008 q1009 => ?_
    refine jg_L (r12 rfl) ?_
    refine jg_nil ?_
    refine jk_xn [2, 3, 5, 6, 7, 8, 9, 10, 11] rfl ?_
    refine jx_lin [2, 3, 5, 6, 7, 8, 9, 10, 11] 1903 2039 4 [0, 1, 0, 4, 0, 0, 48, 0, 0, 496, 1011, 2035, 4095, 8191] [(10, true)] rfl (np_blk (np_seq (np_blk (np_seq (np_rnd (np_blk (np_seq np_rt))))))) (by kernel_rfl) (by kernel_rfl) (by kernel_rfl) (by kernel_rfl) (by kernel_rfl) (by kernel_rfl) (by kernel_rfl) (by kernel_rfl) (by kernel_rfl) ?_
    refine jd_ix fun x1028 h1029 => ?_
    refine jd_y rfl (fun w hs => yv_ix rfl rfl (hs.row 8 rfl) h1029) rfl rfl ?_
    refine jd_x ?_
    refine jx2 (i := 3) (i2 := 11) (by kernel_rfl) (by kernel_rfl) rfl rfl ?_ ?_
    · refine jg_y (fun w hs => yv_load rfl (ld1B (hs.blkL (i := 6) rfl) rfl)) rfl rfl ?_
      refine jg_nil ?_
      refine jk_xn [2, 3, 5, 6, 7, 8, 9, 10, 11] rfl ?_
      refine jx1 (i := 11) (by kernel_rfl) (by kernel_rfl) rfl ?_
      refine jg_storeE 11 (a' := v948.1) rfl rfl h1029.1 rfl (l1 rfl) rfl rfl rfl rfl fun y1048 => ?_
      refine jg_L (r12 rfl) ?_
      refine jg_nil ?_
      refine jk_xf (by kernel_rfl) ?_
      refine jx1 (i := 12) (by kernel_rfl) (by kernel_rfl) rfl ?_
      refine jg_ix fun x1068 h1069 => ?_
      refine jg_y (fun w hs => yv_ix rfl rfl (hs.row 8 rfl) h1069) rfl rfl ?_
      refine jg_nil ?_
      refine jk_xf (by kernel_rfl) ?_
      refine jx1 (i := 13) (by kernel_rfl) (by kernel_rfl) rfl ?_
      refine jg_storeE 8 (a' := v1008.1) rfl rfl h1069.1 rfl (l1 rfl) rfl rfl rfl rfl fun y1088 => ?_
      refine jg_L (r12 rfl) ?_
      refine jg_nil ?_
      refine jk_xf (by kernel_rfl) ?_
      refine jx0 [(1, _), (6, _), (7, _), (9, _), (10, _), (11, _), (12, _), (13, _)] ⟨rfl, rfl, rfl, rfl, rfl, rfl, rfl, rfl, trivial⟩ (by kernel_rfl) (by kernel_rfl) ?_
      refine jk_sel (is := [2, 3, 4, 5, 6, 7, 8, 9, 10, 11]) (s10 rfl) rfl ?_
      refine jk_bn ?_
      exact jk_use H27 (v1008.2, v16.1, v818.1, z813.2, y1088, y827, y1048) (q19.2, q22.1) [0, 1, 2, 3, 4, 5, 6, 7, 8, 9] ⟨rfl, rfl, rfl, rfl, rfl, rfl, rfl, rfl, trivial⟩ rfl rfl rfl
    refine jg_storeE 11 (a' := v948.1) rfl rfl h1029.1 rfl (l1 rfl) rfl rfl rfl rfl fun y1048 => ?_
    refine jg_L (r12 rfl) ?_
    refine jg_nil ?_
    refine jk_xf (by kernel_rfl) ?_
    refine jx1 (i := 3) (by kernel_rfl) (by kernel_rfl) rfl ?_
    refine jg_y (fun w hs => yv_load rfl (ld1B (hs.blkL (i := 6) rfl) rfl)) rfl rfl ?_
    refine jg_nil ?_
    refine jk_xf (by kernel_rfl) ?_
    refine jx1 (i := 12) (by kernel_rfl) (by kernel_rfl) rfl ?_
    refine jg_ix fun x1068 h1069 => ?_
    refine jg_y (fun w hs => yv_ix rfl rfl (hs.row 8 rfl) h1069) rfl rfl ?_
    refine jg_nil ?_
    refine jk_xf (by kernel_rfl) ?_
    refine jx1 (i := 13) (by kernel_rfl) (by kernel_rfl) rfl ?_
    refine jg_storeE 8 (a' := v1008.1) rfl rfl h1069.1 rfl (l1 rfl) rfl rfl rfl rfl fun y1088 => ?_
    refine jg_L (r12 rfl) ?_
    refine jg_nil ?_
    refine jk_xf (by kernel_rfl) ?_
    refine jx0 [(1, _), (6, _), (7, _), (9, _), (10, _), (11, _), (12, _), (13, _)] ⟨rfl, rfl, rfl, rfl, rfl, rfl, rfl, rfl, trivial⟩ (by kernel_rfl) (by kernel_rfl) ?_
    refine jk_sel (is := [2, 3, 4, 5, 6, 7, 8, 9, 10, 11]) (s10 rfl) rfl ?_
    refine jk_bn ?_
    exact jk_use H27 (v1008.2, v16.1, v818.1, z813.2, y1088, y827, y1048) (q19.2, q22.1) [0, 1, 2, 3, 4, 5, 6, 7, 8, 9] ⟨rfl, rfl, rfl, rfl, rfl, rfl, rfl, rfl, trivial⟩ rfl rfl rfl
  refine jl_c 4 rfl rfl (fun v w hs hm => gen_Maker_Pick_c hm (hs.blkL (i := 4) rfl) (hs.arg Rha0) (hs.offAL 4 Rha0 rfl) (hs.row 0 rfl) (hs.offLL 0 4 rfl rfl)) (fun _ => rfl) rfl rfl fun v948 q949 => ?_
  refine jg_L (r12 rfl) ?_
  refine jg_nil ?_
  refine jk_xn [2, 3, 5, 6, 7, 8, 9, 10, 11] rfl ?_
  refine jx2 (i := 2) (i2 := 9) (by kernel_rfl) (by kernel_rfl) rfl rfl ?_ ?_
  · refine jg_y (fun w hs => yv_fieldAddr rfl) rfl rfl ?_
    refine jg_nil ?_
    refine jk_xn [2, 3, 5, 6, 7, 8, 9, 10, 11] rfl ?_
    refine jx2 (i := 3) (i2 := 9) (by kernel_rfl) (by kernel_rfl) rfl rfl ?_ ?_
    · refine jg_y (fun w hs => yv_load rfl (ld1B (hs.blkL (i := 6) rfl) rfl)) rfl rfl ?_
      refine jg_nil ?_
      refine jk_xn [2, 3, 5, 6, 7, 8, 9, 10, 11] rfl ?_
      refine jx1 (i := 9) (by kernel_rfl) (by kernel_rfl) rfl ?_
      refine jl_c 4 rfl rfl (fun v w hs hm => gen_Maker_Pick_c hm (hs.blkL (i := 4) rfl) (hs.arg Rha0) (hs.offAL 4 Rha0 rfl) (hs.row 1 rfl) (hs.offLL 1 4 rfl rfl)) (fun _ => rfl) rfl rfl fun v1008 q1009 => ?_
      refine jg_L (r12 rfl) ?_
      refine jg_nil ?_
      refine jk_xn [2, 3, 5, 6, 7, 8, 9, 10, 11] rfl ?_
      refine jx_lin [2, 3, 5, 6, 7, 8, 9, 10, 11] 1903 2047 3 [0, 1, 0, 4, 0, 0, 48, 0, 0, 496, 1011, 2035, 4095, 8191] [(10, true)] rfl (np_blk (np_seq (np_blk (np_seq (np_rnd (np_blk (np_seq np_rt))))))) (by kernel_rfl) (by kernel_rfl) (by kernel_rfl) (by kernel_rfl) (by kernel_rfl) (by kernel_rfl) (by kernel_rfl) (by kernel_rfl) (by kernel_rfl) ?_
      refine jd_ix fun x1028 h1029 => ?_
      refine jd_y rfl (fun w hs => yv_ix rfl rfl (hs.row 8 rfl) h1029) rfl rfl ?_
      refine jd_x ?_
      refine jx1 (i := 11) (by kernel_rfl) (by kernel_rfl) rfl ?_
      refine jg_storeE 11 (a' := v948.1) rfl rfl h1029.1 rfl (l1 rfl) rfl rfl rfl rfl fun y1048 => ?_
      refine jg_L (r12 rfl) ?_
      refine jg_nil ?_
      refine jk_xf (by kernel_rfl) ?_
      refine jx1 (i := 12) (by kernel_rfl) (by kernel_rfl) rfl ?_
      refine jg_ix fun x1068 h1069 => ?_
      refine jg_y (fun w hs => yv_ix rfl rfl (hs.row 8 rfl) h1069) rfl rfl ?_
      refine jg_nil ?_
      refine jk_xf (by kernel_rfl) ?_
      refine jx1 (i := 13) (by kernel_rfl) (by kernel_rfl) rfl ?_
      refine jg_storeE 8 (a' := v1008.1) rfl rfl h1069.1 rfl (l1 rfl) rfl rfl rfl rfl fun y1088 => ?_
      refine jg_L (r12 rfl) ?_
      refine jg_nil ?_
      refine jk_xf (by kernel_rfl) ?_
      refine jx0 [(1, _), (6, _), (7, _), (9, _), (10, _), (11, _), (12, _), (13, _)] ⟨rfl, rfl, rfl, rfl, rfl, rfl, rfl, rfl, trivial⟩ (by kernel_rfl) (by kernel_rfl) ?_
      refine jk_sel (is := [2, 3, 4, 5, 6, 7, 8, 9, 10, 11]) (s10 rfl) rfl ?_
      refine jk_bn ?_
      exact jk_use H27 (v1008.2, v16.1, v818.1, z813.2, y1088, y827, y1048) (q19.2, q22.1) [0, 1, 2, 3, 4, 5, 6, 7, 8, 9] ⟨rfl, rfl, rfl, rfl, rfl, rfl, rfl, rfl, trivial⟩ rfl rfl rfl
    refine jl_c 4 rfl rfl (fun v w hs hm => gen_Maker_Pick_c hm (hs.blkL (i := 4) rfl) (hs.arg Rha0) (hs.offAL 4 Rha0 rfl) (hs.row 1 rfl) (hs.offLL 1 4 rfl rfl)) (fun _ => rfl) rfl rfl fun v1008 q1009 => ?_
    refine jg_L (r12 rfl) ?_
    refine jg_nil ?_
    refine jk_xn [2, 3, 5, 6, 7, 8, 9, 10, 11] rfl ?_
    refine jx_lin [2, 3, 5, 6, 7, 8, 9, 10, 11] 1903 2039 4 [0, 1, 0, 4, 0, 0, 48, 0, 0, 496, 1011, 2035, 4095, 8191] [(10, true)] rfl (np_blk (np_seq (np_blk (np_seq (np_rnd (np_blk (np_seq np_rt))))))) (by kernel_rfl) (by kernel_rfl) (by kernel_rfl) (by kernel_rfl) (by kernel_rfl) (by kernel_rfl) (by kernel_rfl) (by kernel_rfl) (by kernel_rfl) ?_
    refine jd_ix fun x1028 h1029 => ?_
    refine jd_y rfl (fun w hs => yv_ix rfl rfl (hs.row 8 rfl) h1029) rfl rfl ?_
    refine jd_x ?_
    refine jx2 (i := 3) (i2 := 11) (by kernel_rfl) (by kernel_rfl) rfl rfl ?_ ?_
    · refine jg_y (fun w hs => yv_load rfl (ld1B (hs.blkL (i := 6) rfl) rfl)) rfl rfl ?_
      refine jg_nil ?_
      refine jk_xn [2, 3, 5, 6, 7, 8, 9, 10, 11] rfl ?_
      refine jx1 (i := 11) (by kernel_rfl) (by kernel_rfl) rfl ?_
      refine jg_storeE 11 (a' := v948.1) rfl rfl h1029.1 rfl (l1 rfl) rfl rfl rfl rfl fun y1048 => ?_
      refine jg_L (r12 rfl) ?_
      refine jg_nil ?_
      refine jk_xf (by kernel_rfl) ?_
      refine jx1 (i := 12) (by kernel_rfl) (by kernel_rfl) rfl ?_
      refine jg_ix fun x1068 h1069 => ?_
      refine jg_y (fun w hs => yv_ix rfl rfl (hs.row 8 rfl) h1069) rfl rfl ?_
      refine jg_nil ?_
      refine jk_xf (by kernel_rfl) ?_
      refine jx1 (i := 13) (by kernel_rfl) (by kernel_rfl) rfl ?_
      refine jg_storeE 8 (a' := v1008.1) rfl rfl h1069.1 rfl (l1 rfl) rfl rfl rfl rfl fun y1088 => ?_
      refine jg_L (r12 rfl) ?_
      refine jg_nil ?_
      refine jk_xf (by kernel_rfl) ?_
      refine jx0 [(1, _), (6, _), (7, _), (9, _), (10, _), (11, _), (12, _), (13, _)] ⟨rfl, rfl, rfl, rfl, rfl, rfl, rfl, rfl, trivial⟩ (by kernel_rfl) (by kernel_rfl) ?_
      refine jk_sel (is := [2, 3, 4, 5, 6, 7, 8, 9, 10, 11]) (s10 rfl) rfl ?_
      refine jk_bn ?_
      exact jk_use H27 (v1008.2, v16.1, v818.1, z813.2, y1088, y827, y1048) (q19.2, q22.1) [0, 1, 2, 3, 4, 5, 6, 7, 8, 9] ⟨rfl, rfl, rfl, rfl, rfl, rfl, rfl, rfl, trivial⟩ rfl rfl rfl
    refine jg_storeE 11 (a' := v948.1) rfl rfl h1029.1 rfl (l1 rfl) rfl rfl rfl rfl fun y1048 => ?_
    refine jg_L (r12 rfl) ?_
    refine jg_nil ?_
    refine jk_xf (by kernel_rfl) ?_
    refine jx1 (i := 3) (by kernel_rfl) (by kernel_rfl) rfl ?_
    refine jg_y (fun w hs => yv_load rfl (ld1B (hs.blkL (i := 6) rfl) rfl)) rfl rfl ?_
    refine jg_nil ?_
    refine jk_xf (by kernel_rfl) ?_
    refine jx1 (i := 12) (by kernel_rfl) (by kernel_rfl) rfl ?_
    refine jg_ix fun x1068 h1069 => ?_
    refine jg_y (fun w hs => yv_ix rfl rfl (hs.row 8 rfl) h1069) rfl rfl ?_
    refine jg_nil ?_
    refine jk_xf (by kernel_rfl) ?_
    refine jx1 (i := 13) (by kernel_rfl) (by kernel_rfl) rfl ?_
    refine jg_storeE 8 (a' := v1008.1) rfl rfl h1069.1 rfl (l1 rfl) rfl rfl rfl rfl fun y1088 => ?_
    refine jg_L (r12 rfl) ?_
    refine jg_nil ?_
    refine jk_xf (by kernel_rfl) ?_
    refine jx0 [(1, _), (6, _), (7, _), (9, _), (10, _), (11, _), (12, _), (13, _)] ⟨rfl, rfl, rfl, rfl, rfl, rfl, rfl, rfl, trivial⟩ (by kernel_rfl) (by kernel_rfl) ?_
    refine jk_sel (is := [2, 3, 4, 5, 6, 7, 8, 9, 10, 11]) (s10 rfl) rfl ?_
    refine jk_bn ?_
    exact jk_use H27 (v1008.2, v16.1, v818.1, z813.2, y1088, y827, y1048) (q19.2, q22.1) [0, 1, 2, 3, 4, 5, 6, 7, 8, 9] ⟨rfl, rfl, rfl, rfl, rfl, rfl, rfl, rfl, trivial⟩ rfl rfl rfl
  refine jl_c 4 rfl rfl (fun v w hs hm => gen_Maker_Pick_c hm (hs.blkL (i := 4) rfl) (hs.arg Rha0) (hs.offAL 4 Rha0 rfl) (hs.row 1 rfl) (hs.offLL 1 4 rfl rfl)) (fun _ => rfl) rfl rfl fun v1008 q1009 => ?_
  refine jg_L (r12 rfl) ?_
  refine jg_nil ?_
  refine jk_xn [2, 3, 5, 6, 7, 8, 9, 10, 11] rfl ?_
  refine jx_lin [2, 3, 5, 6, 7, 8, 9, 10, 11] 1903 2035 5 [0, 1, 0, 4, 0, 0, 48, 0, 0, 496, 1011, 2035, 4095, 8191] [(10, true)] rfl (np_blk (np_seq (np_blk (np_seq (np_rnd (np_blk (np_seq np_rt))))))) (by kernel_rfl) (by kernel_rfl) (by kernel_rfl) (by kernel_rfl) (by kernel_rfl) (by kernel_rfl) (by kernel_rfl) (by kernel_rfl) (by kernel_rfl) ?_
  refine jd_ix fun x1028 h1029 => ?_
  refine jd_y rfl (fun w hs => yv_ix rfl rfl (hs.row 8 rfl) h1029) rfl rfl ?_
  refine jd_x ?_
  refine jx2 (i := 2) (i2 := 11) (by kernel_rfl) (by kernel_rfl) rfl rfl ?_ ?_
  · refine jg_y (fun w hs => yv_fieldAddr rfl) rfl rfl ?_
    refine jg_nil ?_
    refine jk_xn [2, 3, 5, 6, 7, 8, 9, 10, 11] rfl ?_
    refine jx2 (i := 3) (i2 := 11) (by kernel_rfl) (by kernel_rfl) rfl rfl ?_ ?_
    · refine jg_y (fun w hs => yv_load rfl (ld1B (hs.blkL (i := 6) rfl) rfl)) rfl rfl ?_
      refine jg_nil ?_
      refine jk_xn [2, 3, 5, 6, 7, 8, 9, 10, 11] rfl ?_
      refine jx1 (i := 11) (by kernel_rfl) (by kernel_rfl) rfl ?_
      refine jg_storeE 11 (a' := v948.1) rfl rfl h1029.1 rfl (l1 rfl) rfl rfl rfl rfl fun y1048 => ?_
      refine jg_L (r12 rfl) ?_
      refine jg_nil ?_
      refine jk_xf (by kernel_rfl) ?_
      refine jx1 (i := 12) (by kernel_rfl) (by kernel_rfl) rfl ?_
      refine jg_ix fun x1068 h1069 => ?_
      refine jg_y (fun w hs => yv_ix rfl rfl (hs.row 8 rfl) h1069) rfl rfl ?_
      refine jg_nil ?_
      refine jk_xf (by kernel_rfl) ?_
      refine jx1 (i := 13) (by kernel_rfl) (by kernel_rfl) rfl ?_
      refine jg_storeE 8 (a' := v1008.1) rfl rfl h1069.1 rfl (l1 rfl) rfl rfl rfl rfl fun y1088 => ?_
      refine jg_L (r12 rfl) ?_
      refine jg_nil ?_
      refine jk_xf (by kernel_rfl) ?_
      refine jx0 [(1, _), (6, _), (7, _), (9, _), (10, _), (11, _), (12, _), (13, _)] ⟨rfl, rfl, rfl, rfl, rfl, rfl, rfl, rfl, trivial⟩ (by kernel_rfl) (by kernel_rfl) ?_
      refine jk_sel (is := [2, 3, 4, 5, 6, 7, 8, 9, 10, 11]) (s10 rfl) rfl ?_
      refine jk_bn ?_
      exact jk_use H27 (v1008.2, v16.1, v818.1, z813.2, y1088, y827, y1048) (q19.2, q22.1) [0, 1, 2, 3, 4, 5, 6, 7, 8, 9] ⟨rfl, rfl, rfl, rfl, rfl, rfl, rfl, rfl, trivial⟩ rfl rfl rfl
    refine jg_storeE 11 (a' := v948.1) rfl rfl h1029.1 rfl (l1 rfl) rfl rfl rfl rfl fun y1048 => ?_
    refine jg_L (r12 rfl) ?_
    refine jg_nil ?_
    refine jk_xf (by kernel_rfl) ?_
    refine jx1 (i := 3) (by kernel_rfl) (by kernel_rfl) rfl ?_
    refine jg_y (fun w hs => yv_load rfl (ld1B (hs.blkL (i := 6) rfl) rfl)) rfl rfl ?_
    refine jg_nil ?_
    refine jk_xf (by kernel_rfl) ?_
    refine jx1 (i := 12) (by kernel_rfl) (by kernel_rfl) rfl ?_
    refine jg_ix fun x1068 h1069 => ?_
    refine jg_y (fun w hs => yv_ix rfl rfl (hs.row 8 rfl) h1069) rfl rfl ?_
    refine jg_nil ?_
    refine jk_xf (by kernel_rfl) ?_
    refine jx1 (i := 13) (by kernel_rfl) (by kernel_rfl) rfl ?_
    refine jg_storeE 8 (a' := v1008.1) rfl rfl h1069.1 rfl (l1 rfl) rfl rfl rfl rfl fun y1088 => ?_
    refine jg_L (r12 rfl) ?_
    refine jg_nil ?_
    refine jk_xf (by kernel_rfl) ?_
    refine jx0 [(1, _), (6, _), (7, _), (9, _), (10, _), (11, _), (12, _), (13, _)] ⟨rfl, rfl, rfl, rfl, rfl, rfl, rfl, rfl, trivial⟩ (by kernel_rfl) (by kernel_rfl) ?_
    refine jk_sel (is := [2, 3, 4, 5, 6, 7, 8, 9, 10, 11]) (s10 rfl) rfl ?_
    refine jk_bn ?_
    exact jk_use H27 (v1008.2, v16.1, v818.1, z813.2, y1088, y827, y1048) (q19.2, q22.1) [0, 1, 2, 3, 4, 5, 6, 7, 8, 9] ⟨rfl, rfl, rfl, rfl, rfl, rfl, rfl, rfl, trivial⟩ rfl rfl rfl
  refine jg_storeE 11 (a' := v948.1) rfl rfl h1029.1 rfl (l1 rfl) rfl rfl rfl rfl fun y1048 => ?_
  refine jg_L (r12 rfl) ?_
  refine jg_nil ?_
  refine jk_xf (by kernel_rfl) ?_
  refine jx1 (i := 2) (by kernel_rfl) (by kernel_rfl) rfl ?_
  refine jg_y (fun w hs => yv_fieldAddr rfl) rfl rfl ?_
  refine jg_nil ?_
  refine jk_xf (by kernel_rfl) ?_
  refine jx1 (i := 3) (by kernel_rfl) (by kernel_rfl) rfl ?_
  refine jg_y (fun w hs => yv_load rfl (ld1B (hs.blkL (i := 6) rfl) rfl)) rfl rfl ?_
  refine jg_nil ?_
  refine jk_xf (by kernel_rfl) ?_
  refine jx1 (i := 12) (by kernel_rfl) (by kernel_rfl) rfl ?_
  refine jg_ix fun x1068 h1069 => ?_
  refine jg_y (fun w hs => yv_ix rfl rfl (hs.row 8 rfl) h1069) rfl rfl ?_
  refine jg_nil ?_
  refine jk_xf (by kernel_rfl) ?_
  refine jx1 (i := 13) (by kernel_rfl) (by kernel_rfl) rfl ?_
  refine jg_storeE 8 (a' := v1008.1) rfl rfl h1069.1 rfl (l1 rfl) rfl rfl rfl rfl fun y1088 => ?_
  refine jg_L (r12 rfl) ?_
  refine jg_nil ?_
  refine jk_xf (by kernel_rfl) ?_
  refine jx0 [(1, _), (6, _), (7, _), (9, _), (10, _), (11, _), (12, _), (13, _)] ⟨rfl, rfl, rfl, rfl, rfl, rfl, rfl, rfl, trivial⟩ (by kernel_rfl) (by kernel_rfl) ?_
  refine jk_sel (is := [2, 3, 4, 5, 6, 7, 8, 9, 10, 11]) (s10 rfl) rfl ?_
  refine jk_bn ?_
  exact jk_use H27 (v1008.2, v16.1, v818.1, z813.2, y1088, y827, y1048) (q19.2, q22.1) [0, 1, 2, 3, 4, 5, 6, 7, 8, 9] ⟨rfl, rfl, rfl, rfl, rfl, rfl, rfl, rfl, trivial⟩ rfl rfl rfl
end Go.Proofs.Ytbojnnefpapamaa
