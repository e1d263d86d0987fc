/-
  The functions give what their models give. Printed by a program.
-/
import Derived.Test.YtbojnnefpapamaaFacts
import Derived.Test.YtbojnnefpapamaaMod
import Derived.Test.YtbojnnefpapamaaW0
namespace Go.Proofs.Ytbojnnefpapamaa
open Go.Hy
set_option linter.unusedVariables false
set_option linter.unusedSimpArgs false
set_option maxHeartbeats 2000000
set_option maxRecDepth 100000
theorem runoff_Point_c {w : World} {a0 : (List Piece)} {a1 : Run} {ha0 : Hd} {ha1_Resist : Hd} {ha1_Targets : Hd} {v : ((List Moment) × Int × Int)} (hm : runoff_Point a0 a1 = some v) (Rha0 : Sl w ha0 Piece.enc a0) (Rha1_Resist : Sl w ha1_Resist encI a1.Resist) (Rha1_Targets : Sl w ha1_Targets encI a1.Targets) : Calls Try.prog 13 ([ha0.v, .agg #[.int .i64 a1.Speed, ha1_Resist.v, ha1_Targets.v]] : List Value).toArray w (fun e w' => ∃ g : Hd, e = .returned (.tuple #[g.v, .int .i64 v.2.1, .int .i64 v.2.2]) ∧ St w w' [] [(rowH g 41 2 Moment.enc v.1)]) := by
  refine j_enter (vs := [ha0.v, .agg #[.int .i64 a1.Speed, ha1_Resist.v, ha1_Targets.v]]) (R := fun (v : ((List Moment) × Int × Int)) (e : Ending) (w' : World) => ∃ g : Hd, e = .returned (.tuple #[g.v, .int .i64 v.2.1, .int .i64 v.2.2]) ∧ St w w' [] [(rowH g 41 2 Moment.enc v.1)]) Try.func13 rfl Try.ntmps13 rfl rfl (St.refl w) hm ?_
  unfold runoff_Point
  clear hm
  refine jn_seq ?_
  refine jn_reg 0 ?_
  refine jg_box rfl (l3 rfl) rfl rfl fun g1 => ?_
  refine jg_as rfl rfl rfl ?_
  refine jg_as rfl rfl rfl ?_
  refine jg_as rfl rfl rfl ?_
  refine jg_nils [(0, _), (3, _)] ⟨rfl, rfl, trivial⟩ ?_
  refine jk_sn ?_
  refine jn_seq ?_
  refine jn_seq ?_
  refine jn_reg 1 ?_
  refine jg_mv rfl rfl rfl ?_
  refine jg_c0 rfl (fun v w hs hm => runoff_Valid_c hm (hs.arg Rha0)) rfl rfl fun v2 => ?_
  refine jg_as rfl rfl rfl ?_
  refine jg_nils [(0, _), (3, _), (7, _)] ⟨rfl, rfl, rfl, trivial⟩ ?_
  refine jk_sn ?_
  refine jn_seq ?_
  refine jn_reg 2 ?_
  refine jg_mv rfl rfl rfl ?_
  refine jg_y (fun w hs => yv_neq rfl rfl) rfl rfl ?_
  refine jg_nils [(0, _), (3, _), (7, _), (25, _)] ⟨rfl, rfl, rfl, rfl, trivial⟩ ?_
  refine jk_sn ?_
  refine jn_cond rfl ?_ ?_
  · refine jn_seq ?_
    refine jn_reg 3 ?_
    refine jg_mv rfl rfl rfl ?_
    refine jg_as rfl rfl rfl ?_
    refine jg_as rfl rfl rfl ?_
    refine jg_as rfl rfl rfl ?_
    refine jg_nils [(4, _), (5, _), (6, _)] ⟨rfl, rfl, rfl, trivial⟩ ?_
    refine jk_sn ?_
    refine jn_ret ?_
    refine jk_sr ?_
    refine jk_addnil 41 2 Moment.enc ?_
    exact jk_ret3 rfl (fun w hs => .tmp rfl) (fun w hs => .tmp rfl) (fun w hs => .tmp rfl) (fun w hs => ⟨(Hd.mk none 0 0), rfl, hs.sel (is := [0]) rfl rfl⟩)
  refine jn_skip ?_
  refine jk_sn ?_
  refine jn_seq ?_
  refine jn_seq ?_
  refine jn_draw (L' := [_]) 4 [0] [0, 1, 2, 3, 4, 5, 6, 7, 8, 9, 10, 11, 12, 13] 16383 16383 [0, 1, 2, 0, 8, 20, 32, 64, 192, 320, 64, 1088, 2624, 4160] [0, 1, 3, 0, 8, 31, 63, 127, 255, 511, 127, 1151, 4095, 8191] [(0, true), (1, true), (2, true), (3, true), (4, true), (5, true), (6, true), (7, true), (8, true), (9, true), (10, true), (11, true), (12, true), (13, true)] rfl (np_seq (np_seq np_rt)) (by kernel_rfl) (by kernel_rfl) (by kernel_rfl) (by kernel_rfl) (by kernel_rfl) (by kernel_rfl) (by kernel_rfl) (by kernel_rfl) ?_
  refine jd_y rfl (fun w hs => yv_fieldAddr rfl) rfl rfl ?_
  refine jd_y rfl (fun w hs => yv_load rfl (ld1B (hs.blk (i := 0) rfl) rfl)) rfl rfl ?_
  refine jd_y rfl (fun w hs => yv_ln rfl (hs.arg Rha1_Resist)) rfl rfl ?_
  refine jd_mv rfl rfl rfl rfl ?_
  refine jd_y rfl (fun w hs => yv_ln rfl (hs.arg Rha0)) rfl rfl ?_
  refine jd_y rfl (fun w hs => yv_neq rfl rfl) rfl rfl ?_
  refine jd_mv rfl rfl rfl rfl ?_
  refine jd_split 33 rfl ?_ ?_
  · refine jd_skip rfl rfl rfl ?_
    refine jd_skip rfl rfl rfl ?_
    refine jd_skip rfl rfl rfl ?_
    refine jd_skip rfl rfl rfl ?_
    refine jd_skip rfl rfl rfl ?_
    refine jd_skip rfl rfl rfl ?_
    refine jd_y rfl (fun w hs => yv_pick_t rfl rfl) rfl rfl ?_
    refine jd_nils [(0, _), (3, _), (40, _)] ⟨rfl, rfl, rfl, trivial⟩ ?_
    refine jk_sn ?_
    refine jn_ct rfl ?_
    refine jn_seq ?_
    refine jn_reg 5 ?_
    refine jg_as rfl rfl rfl ?_
    refine jg_as rfl rfl rfl ?_
    refine jg_as rfl rfl rfl ?_
    refine jg_nils [(4, _), (5, _), (6, _)] ⟨rfl, rfl, rfl, trivial⟩ ?_
    refine jk_sn ?_
    refine jn_ret ?_
    refine jk_sr ?_
    refine jk_addnil 41 2 Moment.enc ?_
    exact jk_ret3 rfl (fun w hs => .tmp rfl) (fun w hs => .tmp rfl) (fun w hs => .tmp rfl) (fun w hs => ⟨(Hd.mk none 0 0), rfl, hs.sel (is := [0]) rfl rfl⟩)
  refine jd_y rfl (fun w hs => yv_fieldAddr rfl) rfl rfl ?_
  refine jd_y rfl (fun w hs => yv_load rfl (ld1B (hs.blk (i := 0) rfl) rfl)) rfl rfl ?_
  refine jd_y rfl (fun w hs => yv_ln rfl (hs.arg Rha1_Targets)) rfl rfl ?_
  refine jd_mv rfl rfl rfl rfl ?_
  refine jd_c0 rfl rfl (fun v w hs hm => runoff_retarders_c hm (hs.arg Rha0)) rfl rfl fun v3 => ?_
  refine jd_y rfl (fun w hs => yv_neq rfl rfl) rfl rfl ?_
  refine jd_y rfl (fun w hs => yv_pick_f rfl rfl) rfl rfl ?_
  refine jd_nils [(0, _), (3, _), (40, _)] ⟨rfl, rfl, rfl, trivial⟩ ?_
  refine jk_sn ?_
  refine jn_cond rfl ?_ ?_
  · refine jn_seq ?_
    refine jn_reg 5 ?_
    refine jg_as rfl rfl rfl ?_
    refine jg_as rfl rfl rfl ?_
    refine jg_as rfl rfl rfl ?_
    refine jg_nils [(4, _), (5, _), (6, _)] ⟨rfl, rfl, rfl, trivial⟩ ?_
    refine jk_sn ?_
    refine jn_ret ?_
    refine jk_sr ?_
    refine jk_addnil 41 2 Moment.enc ?_
    exact jk_ret3 rfl (fun w hs => .tmp rfl) (fun w hs => .tmp rfl) (fun w hs => .tmp rfl) (fun w hs => ⟨(Hd.mk none 0 0), rfl, hs.sel (is := [0]) rfl rfl⟩)
  refine jn_skip ?_
  refine jk_sn ?_
  refine jn_join (fun (s : Unit) (g : Unit) => [(0, ha0.v), (3, .pointer (some ⟨g1, 0, none⟩))]) (fun (s : Unit) (g : Unit) => []) (fun (s : Unit) (g : Unit) => [(Res.blk g1 30 [.int .i64 a1.Speed, ha1_Resist.v, ha1_Targets.v])]) ?_ ?_
  rotate_left
  · intro k6 H7
    refine jn_seq ?_
    refine jn_reg 6 ?_
    refine jg_y (fun w hs => yv_fieldAddr rfl) rfl rfl ?_
    refine jg_y (fun w hs => yv_load rfl (ld1B (hs.blkL (i := 0) rfl) rfl)) rfl rfl ?_
    refine jg_y (fun w hs => yv_ln rfl (hs.arg Rha1_Resist)) rfl rfl ?_
    refine jg_mv rfl rfl rfl ?_
    refine jg_nils [(0, _), (3, _), (42, _), (43, _), (44, _)] ⟨rfl, rfl, rfl, rfl, rfl, trivial⟩ ?_
    refine jk_sn ?_
    refine jn_block ?_
    refine jn_lp (n := big) (fun (s : Int) (g : Unit) => [(0, ha0.v), (3, .pointer (some ⟨g1, 0, none⟩)), (42, ha1_Resist.v), (43, .int .i64 (a1.Resist.length : Int)), (44, .int .i64 s)]) (fun (s : Int) (g : Unit) => []) (fun (s : Int) (g : Unit) => [(Res.blk g1 30 [.int .i64 a1.Speed, ha1_Resist.v, ha1_Targets.v])]) 0 () [0] ⟨rfl, rfl, rfl, rfl, rfl, trivial⟩ rfl rfl rfl ?_
    intro z42 q43 n46 k44 H45
    refine jn_seq ?_
    refine jn_reg 7 ?_
    refine jg_y (fun w hs => yv_lss rfl rfl) rfl rfl ?_
    refine jg_nils [(0, _), (3, _), (42, _), (43, _), (44, _), (45, _)] ⟨rfl, rfl, rfl, rfl, rfl, rfl, trivial⟩ ?_
    refine jk_sn ?_
    refine jn_seq ?_
    refine jn_cond rfl ?_ ?_
    rotate_left
    · refine jn_exit ?_
      refine jk_se (jk_le (jk_bh ?_))
      exact jk_use H7 () () [0] ⟨rfl, rfl, trivial⟩ rfl rfl rfl
    refine jn_skip ?_
    refine jk_sn ?_
    refine jn_seq ?_
    refine jn_block ?_
    refine jn_seq ?_
    refine jn_reg 8 ?_
    refine jg_ix fun x47 h48 => ?_
    refine jg_y (fun w hs => yv_ix rfl rfl (hs.arg Rha1_Resist) h48) rfl rfl ?_
    refine jg_y (fun w hs => yv_e1 rfl (hs.arg Rha1_Resist) h48.1 rfl) rfl rfl ?_
    refine jg_as rfl rfl rfl ?_
    refine jg_nils [(0, _), (3, _), (9, _), (42, _), (43, _), (44, _)] ⟨rfl, rfl, rfl, rfl, rfl, rfl, trivial⟩ ?_
    refine jk_sn ?_
    refine jn_seq ?_
    refine jn_reg 9 ?_
    refine jg_mv rfl rfl rfl ?_
    refine jg_c0 rfl (fun v w hs hm => runoff_in_c hm ) rfl rfl fun v49 => ?_
    refine jg_y (fun w hs => yv_not rfl) rfl rfl ?_
    refine jg_nils [(0, _), (3, _), (42, _), (43, _), (44, _), (50, _)] ⟨rfl, rfl, rfl, rfl, rfl, rfl, trivial⟩ ?_
    refine jk_sn ?_
    refine jn_cond rfl ?_ ?_
    rotate_left
    · refine jn_skip ?_
      refine jk_bn (jk_sn ?_)
      refine jn_reg 11 ?_
      refine jg_y (fun w hs => yv_add_w rfl rfl) rfl rfl ?_
      refine jg_mv rfl rfl rfl ?_
      refine jg_nils [(0, _), (3, _), (42, _), (43, _), (44, _)] ⟨rfl, rfl, rfl, rfl, rfl, trivial⟩ ?_
      exact jk_use H45 (w64 (z42 + 1)) () [0] ⟨rfl, rfl, rfl, rfl, rfl, trivial⟩ rfl rfl rfl
    refine jn_seq ?_
    refine jn_reg 10 ?_
    refine jg_as rfl rfl rfl ?_
    refine jg_as rfl rfl rfl ?_
    refine jg_as rfl rfl rfl ?_
    refine jg_nils [(4, _), (5, _), (6, _)] ⟨rfl, rfl, rfl, trivial⟩ ?_
    refine jk_sn ?_
    refine jn_ret ?_
    refine jk_br (jk_sr (jk_lr (jk_br (jk_sr ?_))))
    refine jk_addnil 41 2 Moment.enc ?_
    exact jk_ret3 rfl (fun w hs => .tmp rfl) (fun w hs => .tmp rfl) (fun w hs => .tmp rfl) (fun w hs => ⟨(Hd.mk none 0 0), rfl, hs.sel (is := [0]) rfl rfl⟩)
  intro z4 q5
  refine jn_seq ?_
  refine jn_seq ?_
  refine jn_reg 12 ?_
  refine jg_y (fun w hs => yv_fieldAddr rfl) rfl rfl ?_
  refine jg_y (fun w hs => yv_load rfl (ld1B (hs.blkL (i := 0) rfl) rfl)) rfl rfl ?_
  refine jg_c0 rfl (fun v w hs hm => runoff_in_c hm ) rfl rfl fun v8 => ?_
  refine jg_y (fun w hs => yv_not rfl) rfl rfl ?_
  refine jg_mv rfl rfl rfl ?_
  refine jg_split 56 rfl ?_ ?_
  · refine jg_skip rfl rfl ?_
    refine jg_skip rfl rfl ?_
    refine jg_skip rfl rfl ?_
    refine jg_skip rfl rfl ?_
    refine jg_y (fun w hs => yv_pick_t rfl rfl) rfl rfl ?_
    refine jg_nils [(0, _), (3, _), (61, _)] ⟨rfl, rfl, rfl, trivial⟩ ?_
    refine jk_sn ?_
    refine jn_ct rfl ?_
    refine jn_seq ?_
    refine jn_reg 13 ?_
    refine jg_as rfl rfl rfl ?_
    refine jg_as rfl rfl rfl ?_
    refine jg_as rfl rfl rfl ?_
    refine jg_nils [(4, _), (5, _), (6, _)] ⟨rfl, rfl, rfl, trivial⟩ ?_
    refine jk_sn ?_
    refine jn_ret ?_
    refine jk_sr ?_
    refine jk_addnil 41 2 Moment.enc ?_
    exact jk_ret3 rfl (fun w hs => .tmp rfl) (fun w hs => .tmp rfl) (fun w hs => .tmp rfl) (fun w hs => ⟨(Hd.mk none 0 0), rfl, hs.sel (is := [0]) rfl rfl⟩)
  refine jg_y (fun w hs => yv_fieldAddr rfl) rfl rfl ?_
  refine jg_y (fun w hs => yv_load rfl (ld1B (hs.blkL (i := 0) rfl) rfl)) rfl rfl ?_
  refine jg_c0 rfl (fun v w hs hm => runoff_targets_c hm (hs.arg Rha1_Targets)) rfl rfl fun v9 => ?_
  refine jg_y (fun w hs => yv_not rfl) rfl rfl ?_
  refine jg_y (fun w hs => yv_pick_f rfl rfl) rfl rfl ?_
  refine jg_nils [(0, _), (3, _), (61, _)] ⟨rfl, rfl, rfl, trivial⟩ ?_
  refine jk_sn ?_
  refine jn_cond rfl ?_ ?_
  · refine jn_seq ?_
    refine jn_reg 13 ?_
    refine jg_as rfl rfl rfl ?_
    refine jg_as rfl rfl rfl ?_
    refine jg_as rfl rfl rfl ?_
    refine jg_nils [(4, _), (5, _), (6, _)] ⟨rfl, rfl, rfl, trivial⟩ ?_
    refine jk_sn ?_
    refine jn_ret ?_
    refine jk_sr ?_
    refine jk_addnil 41 2 Moment.enc ?_
    exact jk_ret3 rfl (fun w hs => .tmp rfl) (fun w hs => .tmp rfl) (fun w hs => .tmp rfl) (fun w hs => ⟨(Hd.mk none 0 0), rfl, hs.sel (is := [0]) rfl rfl⟩)
  refine jn_skip ?_
  refine jk_sn ?_
  refine jn_seq ?_
  refine jn_reg 14 ?_
  refine jg_y (fun w hs => yv_fieldAddr rfl) rfl rfl ?_
  refine jg_y (fun w hs => yv_load rfl (ld1B (hs.blkL (i := 0) rfl) rfl)) rfl rfl ?_
  refine jg_y (fun w hs => yv_fieldAddr rfl) rfl rfl ?_
  refine jg_y (fun w hs => yv_load rfl (ld1B (hs.blkL (i := 0) rfl) rfl)) rfl rfl ?_
  refine jg_y (fun w hs => yv_mul_w rfl rfl) rfl rfl ?_
  refine jg_y (fun w hs => yv_build rfl (o2 rfl)) rfl rfl ?_
  refine jg_alloc (l2 rfl) rfl rfl fun g10 => ?_
  refine jg_store 0 rfl rfl rfl (l2 rfl) rfl rfl rfl rfl (l2 rfl) (r2 rfl) ?_
  refine jg_nils [(0, _), (3, _), (10, _)] ⟨rfl, rfl, rfl, trivial⟩ ?_
  refine jk_sn ?_
  refine jn_seq ?_
  refine jn_reg 15 ?_
  refine jg_y (fun w hs => yv_load rfl (ldBB (hs.blkL (i := 0) rfl) rfl)) rfl rfl ?_
  refine jg_lit (enc := Moment.enc) [(Moment.mk 0 (w64 (a1.Speed * a1.Speed)))] rfl rfl rfl rfl rfl rfl rfl rfl fun hd11 => ?_
  refine jg_as rfl rfl rfl ?_
  refine jg_nils [(0, _), (3, _), (10, _), (11, _)] ⟨rfl, rfl, rfl, rfl, trivial⟩ ?_
  refine jk_sn ?_
  refine jn_seq ?_
  refine jn_reg 16 ?_
  refine jg_as rfl rfl rfl ?_
  refine jg_nils [(0, _), (3, _), (10, _), (11, _), (12, _)] ⟨rfl, rfl, rfl, rfl, rfl, trivial⟩ ?_
  refine jk_sn ?_
  refine jn_seq ?_
  refine jn_seq ?_
  refine jn_reg 17 ?_
  refine jg_mv rfl rfl rfl ?_
  refine jg_y (fun w hs => yv_ln rfl (hs.arg Rha0)) rfl rfl ?_
  refine jg_mv rfl rfl rfl ?_
  refine jg_nils [(3, _), (10, _), (11, _), (12, _), (70, _), (71, _), (72, _)] ⟨rfl, rfl, rfl, rfl, rfl, rfl, rfl, trivial⟩ ?_
  refine jk_sn ?_
  refine jn_block ?_
  refine jn_lp (n := big) (fun (s : (Int × Int × (List Moment) × Int × Int)) (g : Hd) => [(3, .pointer (some ⟨g1, 0, none⟩)), (10, .pointer (some ⟨g10, 0, none⟩)), (11, g.v), (12, .int .i64 s.2.2.2.1), (70, ha0.v), (71, .int .i64 (a0.length : Int)), (72, .int .i64 s.2.2.2.2)]) (fun (s : (Int × Int × (List Moment) × Int × Int)) (g : Hd) => []) (fun (s : (Int × Int × (List Moment) × Int × Int)) (g : Hd) => [(Res.blk g1 30 [.int .i64 a1.Speed, ha1_Resist.v, ha1_Targets.v]), (Res.blk g10 41 [.int .i64 s.1, .int .i64 s.2.1]), (rowH g 41 2 Moment.enc s.2.2.1)]) (0, w64 (a1.Speed * a1.Speed), ([(Moment.mk 0 (w64 (a1.Speed * a1.Speed)))] : List Moment), 0, 0) hd11 [2, 1, 0] ⟨rfl, rfl, rfl, rfl, rfl, rfl, rfl, trivial⟩ rfl rfl rfl ?_
  intro z12 q13 n16 k14 H15
  refine jn_seq ?_
  refine jn_reg 18 ?_
  refine jg_y (fun w hs => yv_lss rfl rfl) rfl rfl ?_
  refine jg_nils [(3, _), (10, _), (11, _), (12, _), (70, _), (71, _), (72, _), (73, _)] ⟨rfl, rfl, rfl, rfl, rfl, rfl, rfl, rfl, trivial⟩ ?_
  refine jk_sn ?_
  refine jn_seq ?_
  refine jn_cond rfl ?_ ?_
  rotate_left
  · refine jn_exit ?_
    refine jk_se (jk_le (jk_bh (jk_sn ?_)))
    refine jn_seq ?_
    refine jn_reg 36 ?_
    refine jg_mv rfl rfl rfl ?_
    refine jg_as rfl rfl rfl ?_
    refine jg_as rfl rfl rfl ?_
    refine jg_as rfl rfl rfl ?_
    refine jg_nils [(4, _), (5, _), (6, _)] ⟨rfl, rfl, rfl, trivial⟩ ?_
    refine jk_sel (is := [2]) (s1 rfl) rfl ?_
    refine jk_sn ?_
    refine jn_ret ?_
    exact jk_ret3 rfl (fun w hs => .tmp rfl) (fun w hs => .tmp rfl) (fun w hs => .tmp rfl) (fun w hs => ⟨q13, rfl, hs.sel (is := [0]) rfl rfl⟩)
  refine jn_skip ?_
  refine jk_sn ?_
  refine jn_seq ?_
  refine jn_block ?_
  refine jn_seq ?_
  refine jn_reg 19 ?_
  refine jg_mv rfl rfl rfl ?_
  refine jg_ix fun x17 h18 => ?_
  refine jg_y (fun w hs => yv_ix rfl rfl (hs.arg Rha0) h18) rfl rfl ?_
  refine jg_y (fun w hs => yv_eS rfl (hs.arg Rha0) h18.1 (l5 rfl) rfl) rfl rfl ?_
  refine jg_alloc (l5 rfl) rfl rfl fun g19 => ?_
  refine jg_as rfl rfl rfl ?_
  refine jg_store 0 rfl rfl rfl (l5 rfl) rfl rfl rfl rfl (l5 rfl) (r4 rfl) ?_
  refine jg_nils [(3, _), (10, _), (11, _), (12, _), (13, _), (14, _), (70, _), (71, _), (72, _)] ⟨rfl, rfl, rfl, rfl, rfl, rfl, rfl, rfl, rfl, trivial⟩ ?_
  refine jk_sn ?_
  refine jn_seq ?_
  refine jn_reg 20 ?_
  refine jg_y (fun w hs => yv_fieldAddr rfl) rfl rfl ?_
  refine jg_y (fun w hs => yv_load rfl (ld1B (hs.blkL (i := 2) rfl) rfl)) rfl rfl ?_
  refine jg_c0 rfl (fun v w hs hm => runoff_roots_c hm ) rfl rfl fun v20 => ?_
  refine jg_mv rfl rfl rfl ?_
  refine jg_y (fun w hs => yv_extract rfl rfl) rfl rfl ?_
  refine jg_y (fun w hs => yv_extract rfl rfl) rfl rfl ?_
  refine jg_as rfl rfl rfl ?_
  refine jg_as rfl rfl rfl ?_
  refine jg_nils [(3, _), (10, _), (11, _), (12, _), (13, _), (14, _), (15, _), (70, _), (71, _), (72, _)] ⟨rfl, rfl, rfl, rfl, rfl, rfl, rfl, rfl, rfl, rfl, trivial⟩ ?_
  refine jk_sn ?_
  refine jn_seq ?_
  refine jn_draw (L' := [_, _, _, _]) 21 [0, 1, 2, 3] [0, 1, 2, 3, 4, 5, 6, 7, 8, 9, 10, 11] 4095 4095 [0, 0, 2, 0, 12, 16, 33, 64, 128, 128, 511, 2047] [0, 0, 2, 0, 14, 30, 63, 127, 255, 255, 511, 2047] [(0, true), (1, true), (2, true), (3, true), (4, true), (5, true), (6, true), (7, true), (8, true), (9, true), (10, true), (11, true)] rfl (np_seq (np_blk (np_seq (np_rnd (np_blk (np_seq np_rt)))))) (by kernel_rfl) (by kernel_rfl) (by kernel_rfl) (by kernel_rfl) (by kernel_rfl) (by kernel_rfl) (by kernel_rfl) (by kernel_rfl) ?_
  refine jd_y rfl (fun w hs => yv_load rfl (ldBB (hs.blk (i := 0) rfl) rfl)) rfl rfl ?_
  refine jd_y rfl (fun w hs => yv_fieldAddr rfl) rfl rfl ?_
  refine jd_y rfl (fun w hs => yv_load rfl (ld1B (hs.blk (i := 1) rfl) rfl)) rfl rfl ?_
  refine jd_mv rfl rfl rfl rfl ?_
  refine jd_ix fun x21 h22 => ?_
  refine jd_y rfl (fun w hs => yv_ix rfl rfl (hs.arg Rha1_Resist) h22) rfl rfl ?_
  refine jd_y rfl (fun w hs => yv_e1 rfl (hs.arg Rha1_Resist) h22.1 rfl) rfl rfl ?_
  refine jd_c0 rfl rfl (fun v w hs hm => runoff_gain_c (a0 := x17) hm ) rfl rfl fun v23 => ?_
  refine jd_mv rfl rfl rfl rfl ?_
  refine jd_y rfl (fun w hs => yv_extract rfl rfl) rfl rfl ?_
  refine jd_y rfl (fun w hs => yv_extract rfl rfl) rfl rfl ?_
  refine jd_as rfl rfl rfl rfl ?_
  refine jd_as rfl rfl rfl rfl ?_
  refine jd_nils [(3, _), (10, _), (11, _), (12, _), (13, _), (14, _), (15, _), (17, _), (70, _), (71, _), (72, _)] ⟨rfl, rfl, rfl, rfl, rfl, rfl, rfl, rfl, rfl, rfl, rfl, trivial⟩ ?_
  refine jk_sn ?_
  refine jn_seq ?_
  refine jn_reg 22 ?_
  refine jg_y (fun w hs => yv_fieldAddr rfl) rfl rfl ?_
  refine jg_y (fun w hs => yv_load rfl (ld1B (hs.blkL (i := 2) rfl) rfl)) rfl rfl ?_
  refine jg_mv rfl rfl rfl ?_
  refine jg_y (fun w hs => yv_add_w rfl rfl) rfl rfl ?_
  refine jg_y (fun w hs => yv_fieldAddr rfl) rfl rfl ?_
  refine jg_store 2 rfl rfl rfl (l1 rfl) rfl rfl rfl rfl (l2 rfl) (r4 rfl) ?_
  refine jg_nils [(3, _), (10, _), (11, _), (12, _), (13, _), (14, _), (15, _), (70, _), (71, _), (72, _)] ⟨rfl, rfl, rfl, rfl, rfl, rfl, rfl, rfl, rfl, rfl, trivial⟩ ?_
  refine jk_sn ?_
  refine jn_seq ?_
  refine jn_seq ?_
  refine jn_reg 23 ?_
  refine jg_y (fun w hs => yv_fieldAddr rfl) rfl rfl ?_
  refine jg_y (fun w hs => yv_load rfl (ld1B (hs.blkL (i := 2) rfl) rfl)) rfl rfl ?_
  refine jg_y (fun w hs => yv_lss rfl rfl) rfl rfl ?_
  refine jg_nils [(3, _), (10, _), (11, _), (12, _), (13, _), (14, _), (15, _), (70, _), (71, _), (72, _), (100, _)] ⟨rfl, rfl, rfl, rfl, rfl, rfl, rfl, rfl, rfl, rfl, rfl, trivial⟩ ?_
  refine jk_sn ?_
  refine jn_cond rfl ?_ ?_
  · refine jn_seq ?_
    refine jn_reg 24 ?_
    refine jg_mv rfl rfl rfl ?_
    refine jg_mv rfl rfl rfl ?_
    refine jg_as rfl rfl rfl ?_
    refine jg_as rfl rfl rfl ?_
    refine jg_as rfl rfl rfl ?_
    refine jg_nils [(4, _), (5, _), (6, _)] ⟨rfl, rfl, rfl, trivial⟩ ?_
    refine jk_sel (is := [3]) (s1 rfl) rfl ?_
    refine jk_sn ?_
    refine jn_ret ?_
    refine jk_sr (jk_br (jk_sr (jk_lr (jk_br (jk_sr ?_)))))
    exact jk_ret3 rfl (fun w hs => .tmp rfl) (fun w hs => .tmp rfl) (fun w hs => .tmp rfl) (fun w hs => ⟨q13, rfl, hs.sel (is := [0]) rfl rfl⟩)
  refine jn_skip ?_
  refine jk_sn ?_
  refine jn_seq ?_
  refine jn_reg 25 ?_
  refine jg_y (fun w hs => yv_fieldAddr rfl) rfl rfl ?_
  refine jg_y (fun w hs => yv_load rfl (ld1B (hs.blkL (i := 2) rfl) rfl)) rfl rfl ?_
  refine jg_c0 rfl (fun v w hs hm => runoff_roots_c hm ) rfl rfl fun v24 => ?_
  refine jg_mv rfl rfl rfl ?_
  refine jg_y (fun w hs => yv_extract rfl rfl) rfl rfl ?_
  refine jg_y (fun w hs => yv_extract rfl rfl) rfl rfl ?_
  refine jg_as rfl rfl rfl ?_
  refine jg_as rfl rfl rfl ?_
  refine jg_nils [(3, _), (10, _), (11, _), (12, _), (13, _), (14, _), (15, _), (19, _), (70, _), (71, _), (72, _)] ⟨rfl, rfl, rfl, rfl, rfl, rfl, rfl, rfl, rfl, rfl, rfl, trivial⟩ ?_
  refine jk_sn ?_
  refine jn_seq ?_
  refine jn_seq ?_
  refine jn_reg 26 ?_
  refine jg_mv rfl rfl rfl ?_
  refine jg_mv rfl rfl rfl ?_
  refine jg_y (fun w hs => yv_add_w rfl rfl) rfl rfl ?_
  refine jg_y (fun w hs => yv_eql rfl rfl) rfl rfl ?_
  refine jg_nils [(3, _), (10, _), (11, _), (12, _), (13, _), (14, _), (15, _), (19, _), (70, _), (71, _), (72, _), (112, _)] ⟨rfl, rfl, rfl, rfl, rfl, rfl, rfl, rfl, rfl, rfl, rfl, rfl, trivial⟩ ?_
  refine jk_sn ?_
  refine jn_cond rfl ?_ ?_
  · refine jn_seq ?_
    refine jn_reg 27 ?_
    refine jg_mv rfl rfl rfl ?_
    refine jg_mv rfl rfl rfl ?_
    refine jg_as rfl rfl rfl ?_
    refine jg_as rfl rfl rfl ?_
    refine jg_as rfl rfl rfl ?_
    refine jg_nils [(4, _), (5, _), (6, _)] ⟨rfl, rfl, rfl, trivial⟩ ?_
    refine jk_sel (is := [3]) (s1 rfl) rfl ?_
    refine jk_sn ?_
    refine jn_ret ?_
    refine jk_sr (jk_br (jk_sr (jk_lr (jk_br (jk_sr ?_)))))
    exact jk_ret3 rfl (fun w hs => .tmp rfl) (fun w hs => .tmp rfl) (fun w hs => .tmp rfl) (fun w hs => ⟨q13, rfl, hs.sel (is := [0]) rfl rfl⟩)
  refine jn_skip ?_
  refine jk_sn ?_
  refine jn_seq ?_
  refine jn_draw (L' := [_, _, _, _]) 28 [0, 1, 2, 3] [0, 1, 2, 3, 4, 5, 6, 7, 8, 9, 10, 11, 12, 13, 14, 15, 16] 131071 262143 [0, 1, 0, 4, 8, 0, 48, 0, 192, 256, 0, 0, 3072, 4608, 8194, 16384, 65535, 131071] [0, 1, 0, 4, 12, 0, 60, 0, 252, 508, 0, 0, 3072, 8188, 16383, 32767, 65535, 131071] [(0, true), (1, true), (2, true), (3, true), (4, true), (5, true), (6, true), (7, true), (8, true), (9, true), (10, true), (11, true), (12, true), (13, true), (14, true), (15, true), (16, true), (17, false)] rfl (np_seq (np_blk (np_seq (np_rnd (np_blk (np_seq np_rt)))))) (by kernel_rfl) (by kernel_rfl) (by kernel_rfl) (by kernel_rfl) (by kernel_rfl) (by kernel_rfl) (by kernel_rfl) (by kernel_rfl) ?_
  refine jd_y rfl (fun w hs => yv_fieldAddr rfl) rfl rfl ?_
  refine jd_y rfl (fun w hs => yv_load rfl (ld1B (hs.blk (i := 2) rfl) rfl)) rfl rfl ?_
  refine jd_y rfl (fun w hs => yv_fieldAddr rfl) rfl rfl ?_
  refine jd_y rfl (fun w hs => yv_load rfl (ld1B (hs.blk (i := 0) rfl) rfl)) rfl rfl ?_
  refine jd_y rfl (fun w hs => yv_mul_w rfl rfl) rfl rfl ?_
  refine jd_mv rfl rfl rfl rfl ?_
  refine jd_yl rfl (fun w hs => yv_add_w rfl rfl) rfl rfl fun x25 => ?_
  refine jd_mv rfl rfl rfl rfl ?_
  refine jd_y rfl (fun w hs => yv_add_w rfl rfl) rfl rfl ?_
  refine jd_y rfl (fun w hs => yv_sub_w rfl rfl) rfl rfl ?_
  refine jd_mv rfl rfl rfl rfl ?_
  refine jd_mv rfl rfl rfl rfl ?_
  refine jd_y rfl (fun w hs => yv_add_w rfl rfl) rfl rfl ?_
  refine jd_ck fun h26 => ?_
  refine jd_yl rfl (fun w hs => yv_tdiv_w rfl rfl (of_decide_eq_true h26)) rfl rfl fun x27 => ?_
  refine jd_y rfl (fun w hs => yv_add_w rfl rfl) rfl rfl ?_
  refine jd_yl rfl (fun w hs => yv_min rfl rfl) rfl rfl fun x28 => ?_
  refine jd_y rfl (fun w hs => yv_fieldAddr rfl) rfl rfl ?_
  refine jd_h rfl ?_
  refine jg_store 2 rfl rfl rfl (l1 rfl) rfl rfl rfl rfl (l2 rfl) (r4 rfl) ?_
  refine jg_nil ?_
  refine jk_df rfl ?_
  refine jf_nils [(3, _), (10, _), (11, _), (12, _), (14, _), (70, _), (71, _), (72, _)] ⟨rfl, rfl, rfl, rfl, rfl, rfl, rfl, rfl, trivial⟩ ?_
  refine jk_sn ?_
  refine jn_seq ?_
  refine jn_seq ?_
  refine jn_reg 29 ?_
  refine jg_y (fun w hs => yv_fieldAddr rfl) rfl rfl ?_
  refine jg_y (fun w hs => yv_load rfl (ld1B (hs.blkL (i := 0) rfl) rfl)) rfl rfl ?_
  refine jg_y (fun w hs => yv_gtr rfl rfl) rfl rfl ?_
  refine jg_nils [(3, _), (10, _), (11, _), (12, _), (14, _), (70, _), (71, _), (72, _), (134, _)] ⟨rfl, rfl, rfl, rfl, rfl, rfl, rfl, rfl, rfl, trivial⟩ ?_
  refine jk_sn ?_
  refine jn_cond rfl ?_ ?_
  rotate_left
  · refine jn_skip ?_
    refine jk_sn ?_
    refine jn_reg 34 ?_
    refine jg_mv rfl rfl rfl ?_
    refine jg_y (fun w hs => yv_load rfl (ldBB (hs.blkL (i := 2) rfl) rfl)) rfl rfl ?_
    refine jg_lit (enc := Moment.enc) [(Moment.mk x28 (w64 (z12.2.1 + v23.1)))] rfl rfl rfl rfl rfl rfl rfl rfl fun hd39 => ?_
    refine jg_append 4 rfl rfl rfl (fun w hs => (hs.row 0 rfl)) rfl rfl rfl fun y40 hd41 => ?_
    refine jg_L (r5 rfl) ?_
    refine jg_as rfl rfl rfl ?_
    refine jg_nils [(3, _), (10, _), (11, _), (12, _), (70, _), (71, _), (72, _)] ⟨rfl, rfl, rfl, rfl, rfl, rfl, rfl, trivial⟩ ?_
    refine jk_sel (is := [2, 3, 4]) (s3 rfl) rfl ?_
    refine jk_bn (jk_sn ?_)
    refine jn_reg 35 ?_
    refine jg_y (fun w hs => yv_add_w rfl rfl) rfl rfl ?_
    refine jg_mv rfl rfl rfl ?_
    refine jg_nils [(3, _), (10, _), (11, _), (12, _), (70, _), (71, _), (72, _)] ⟨rfl, rfl, rfl, rfl, rfl, rfl, rfl, trivial⟩ ?_
    exact jk_use H15 (x28, w64 (z12.2.1 + v23.1), y40, z12.2.2.2.1, w64 (z12.2.2.2.2 + 1)) hd41 [0, 1, 2] ⟨rfl, rfl, rfl, rfl, rfl, rfl, rfl, trivial⟩ rfl rfl rfl
  refine jn_seq ?_
  refine jn_seq ?_
  refine jn_reg 30 ?_
  refine jg_y (fun w hs => yv_fieldAddr rfl) rfl rfl ?_
  refine jg_y (fun w hs => yv_load rfl (ld1B (hs.blkL (i := 1) rfl) rfl)) rfl rfl ?_
  refine jg_mv rfl rfl rfl ?_
  refine jg_ix fun x29 h30 => ?_
  refine jg_y (fun w hs => yv_ix rfl rfl (hs.arg Rha1_Targets) h30) rfl rfl ?_
  refine jg_y (fun w hs => yv_e1 rfl (hs.arg Rha1_Targets) h30.1 rfl) rfl rfl ?_
  refine jg_as rfl rfl rfl ?_
  refine jg_nils [(3, _), (10, _), (11, _), (12, _), (14, _), (21, _), (70, _), (71, _), (72, _)] ⟨rfl, rfl, rfl, rfl, rfl, rfl, rfl, rfl, rfl, trivial⟩ ?_
  refine jk_sn ?_
  refine jn_seq ?_
  refine jn_reg 31 ?_
  refine jg_mv rfl rfl rfl ?_
  refine jg_y (fun w hs => yv_geq rfl rfl) rfl rfl ?_
  refine jg_nils [(3, _), (10, _), (11, _), (12, _), (14, _), (21, _), (70, _), (71, _), (72, _), (141, _)] ⟨rfl, rfl, rfl, rfl, rfl, rfl, rfl, rfl, rfl, rfl, trivial⟩ ?_
  refine jk_sn ?_
  refine jn_cond rfl ?_ ?_
  rotate_left
  · refine jn_skip ?_
    refine jk_sn ?_
    refine jn_reg 33 ?_
    refine jg_mv rfl rfl rfl ?_
    refine jg_y (fun w hs => yv_add_w rfl rfl) rfl rfl ?_
    refine jg_as rfl rfl rfl ?_
    refine jg_nils [(3, _), (10, _), (11, _), (12, _), (70, _), (71, _), (72, _)] ⟨rfl, rfl, rfl, rfl, rfl, rfl, rfl, trivial⟩ ?_
    refine jk_sn ?_
    refine jn_reg 34 ?_
    refine jg_mv rfl rfl rfl ?_
    refine jg_y (fun w hs => yv_load rfl (ldBB (hs.blkL (i := 2) rfl) rfl)) rfl rfl ?_
    refine jg_lit (enc := Moment.enc) [(Moment.mk x28 (w64 (z12.2.1 + v23.1)))] rfl rfl rfl rfl rfl rfl rfl rfl fun hd36 => ?_
    refine jg_append 4 rfl rfl rfl (fun w hs => (hs.row 0 rfl)) rfl rfl rfl fun y37 hd38 => ?_
    refine jg_L (r5 rfl) ?_
    refine jg_as rfl rfl rfl ?_
    refine jg_nils [(3, _), (10, _), (11, _), (12, _), (70, _), (71, _), (72, _)] ⟨rfl, rfl, rfl, rfl, rfl, rfl, rfl, trivial⟩ ?_
    refine jk_sel (is := [2, 3, 4]) (s3 rfl) rfl ?_
    refine jk_bn (jk_sn ?_)
    refine jn_reg 35 ?_
    refine jg_y (fun w hs => yv_add_w rfl rfl) rfl rfl ?_
    refine jg_mv rfl rfl rfl ?_
    refine jg_nils [(3, _), (10, _), (11, _), (12, _), (70, _), (71, _), (72, _)] ⟨rfl, rfl, rfl, rfl, rfl, rfl, rfl, trivial⟩ ?_
    exact jk_use H15 (x28, w64 (z12.2.1 + v23.1), y37, w64 (z12.2.2.2.1 + 1), w64 (z12.2.2.2.2 + 1)) hd38 [0, 1, 2] ⟨rfl, rfl, rfl, rfl, rfl, rfl, rfl, trivial⟩ rfl rfl rfl
  refine jn_reg 32 ?_
  refine jg_y (fun w hs => yv_fieldAddr rfl) rfl rfl ?_
  refine jg_y (fun w hs => yv_load rfl (ld1B (hs.blkL (i := 2) rfl) rfl)) rfl rfl ?_
  refine jg_mv rfl rfl rfl ?_
  refine jg_mv rfl rfl rfl ?_
  refine jg_y (fun w hs => yv_mul_w rfl rfl) rfl rfl ?_
  refine jg_yl (fun w hs => yv_min rfl rfl) rfl rfl fun x31 => ?_
  refine jg_y (fun w hs => yv_fieldAddr rfl) rfl rfl ?_
  refine jg_y (fun w hs => yv_load rfl (ld1B (hs.blkL (i := 2) rfl) rfl)) rfl rfl ?_
  refine jg_y (fun w hs => yv_fieldAddr rfl) rfl rfl ?_
  refine jg_y (fun w hs => yv_load rfl (ld1B (hs.blkL (i := 0) rfl) rfl)) rfl rfl ?_
  refine jg_yl (fun w hs => yv_sub_w rfl rfl) rfl rfl fun x32 => ?_
  refine jg_y (fun w hs => yv_max rfl rfl) rfl rfl ?_
  refine jg_y (fun w hs => yv_fieldAddr rfl) rfl rfl ?_
  refine jg_store 2 rfl rfl rfl (l1 rfl) rfl rfl rfl rfl (l2 rfl) (r4 rfl) ?_
  refine jg_nils [(3, _), (10, _), (11, _), (12, _), (70, _), (71, _), (72, _)] ⟨rfl, rfl, rfl, rfl, rfl, rfl, rfl, trivial⟩ ?_
  refine jk_sn ?_
  refine jn_reg 33 ?_
  refine jg_mv rfl rfl rfl ?_
  refine jg_y (fun w hs => yv_add_w rfl rfl) rfl rfl ?_
  refine jg_as rfl rfl rfl ?_
  refine jg_nils [(3, _), (10, _), (11, _), (12, _), (70, _), (71, _), (72, _)] ⟨rfl, rfl, rfl, rfl, rfl, rfl, rfl, trivial⟩ ?_
  refine jk_sn ?_
  refine jn_reg 34 ?_
  refine jg_mv rfl rfl rfl ?_
  refine jg_y (fun w hs => yv_load rfl (ldBB (hs.blkL (i := 2) rfl) rfl)) rfl rfl ?_
  refine jg_lit (enc := Moment.enc) [(Moment.mk x28 (max x31 x32))] rfl rfl rfl rfl rfl rfl rfl rfl fun hd33 => ?_
  refine jg_append 4 rfl rfl rfl (fun w hs => (hs.row 0 rfl)) rfl rfl rfl fun y34 hd35 => ?_
  refine jg_L (r5 rfl) ?_
  refine jg_as rfl rfl rfl ?_
  refine jg_nils [(3, _), (10, _), (11, _), (12, _), (70, _), (71, _), (72, _)] ⟨rfl, rfl, rfl, rfl, rfl, rfl, rfl, trivial⟩ ?_
  refine jk_sel (is := [2, 3, 4]) (s3 rfl) rfl ?_
  refine jk_bn (jk_sn ?_)
  refine jn_reg 35 ?_
  refine jg_y (fun w hs => yv_add_w rfl rfl) rfl rfl ?_
  refine jg_mv rfl rfl rfl ?_
  refine jg_nils [(3, _), (10, _), (11, _), (12, _), (70, _), (71, _), (72, _)] ⟨rfl, rfl, rfl, rfl, rfl, rfl, rfl, trivial⟩ ?_
  exact jk_use H15 (x28, max x31 x32, y34, w64 (z12.2.2.2.1 + 1), w64 (z12.2.2.2.2 + 1)) hd35 [0, 1, 2] ⟨rfl, rfl, rfl, rfl, rfl, rfl, rfl, trivial⟩ rfl rfl rfl
theorem gen_Moments_c {w : World} {a0 : (List Moment)} {a1 : (List Moment)} {ha0 : Hd} {ha1 : Hd} {v : Bool} (hm : gen_Moments a0 a1 = some v) (Rha0 : Sl w ha0 Moment.enc a0) (Rha1 : Sl w ha1 Moment.enc a1) : Gives Try.prog 25 [ha0.v, ha1.v] w (.bool v) := by
  refine j_gives (vs := [ha0.v, ha1.v]) (U := fun (v : Bool) => .bool v) Try.func25 rfl Try.ntmps25 rfl rfl hm ?_
  unfold gen_Moments
  clear hm
  refine jn_seq ?_
  refine jn_reg 0 ?_
  refine jg_as rfl rfl rfl ?_
  refine jg_nils [(0, _), (1, _)] ⟨rfl, rfl, trivial⟩ ?_
  refine jk_sn ?_
  refine jn_seq ?_
  refine jn_seq ?_
  refine jn_reg 1 ?_
  refine jg_mv rfl rfl rfl ?_
  refine jg_y (fun w hs => yv_ln rfl (hs.arg Rha0)) rfl rfl ?_
  refine jg_mv rfl rfl rfl ?_
  refine jg_y (fun w hs => yv_ln rfl (hs.arg Rha1)) rfl rfl ?_
  refine jg_y (fun w hs => yv_neq rfl rfl) rfl rfl ?_
  refine jg_nils [(0, _), (1, _), (10, _)] ⟨rfl, rfl, rfl, trivial⟩ ?_
  refine jk_sn ?_
  refine jn_cond rfl ?_ ?_
  · refine jn_seq ?_
    refine jn_reg 2 ?_
    refine jg_as rfl rfl rfl ?_
    refine jg_nils [(4, _)] ⟨rfl, trivial⟩ ?_
    refine jk_sn ?_
    refine jn_ret ?_
    refine jk_sr ?_
    exact jk_ret1 rfl (fun w hs => .tmp rfl) (fun w hs => ⟨rfl, hs.drop⟩)
  refine jn_skip ?_
  refine jk_sn ?_
  refine jn_seq ?_
  refine jn_seq ?_
  refine jn_reg 3 ?_
  refine jg_as rfl rfl rfl ?_
  refine jg_nils [(0, _), (1, _), (5, _)] ⟨rfl, rfl, rfl, trivial⟩ ?_
  refine jk_sn ?_
  refine jn_block ?_
  refine jn_lp (n := big) (fun (s : Int) (g : Unit) => [(0, ha0.v), (1, ha1.v), (5, .int .i64 s)]) (fun (s : Int) (g : Unit) => []) (fun (s : Int) (g : Unit) => []) 0 () [] ⟨rfl, rfl, rfl, trivial⟩ rfl rfl rfl ?_
  intro z1 q2 n5 k3 H4
  refine jn_seq ?_
  refine jn_seq ?_
  refine jn_reg 4 ?_
  refine jg_mv rfl rfl rfl ?_
  refine jg_mv rfl rfl rfl ?_
  refine jg_y (fun w hs => yv_ln rfl (hs.arg Rha0)) rfl rfl ?_
  refine jg_y (fun w hs => yv_lss rfl rfl) rfl rfl ?_
  refine jg_nils [(0, _), (1, _), (5, _), (14, _)] ⟨rfl, rfl, rfl, rfl, trivial⟩ ?_
  refine jk_sn ?_
  refine jn_cond rfl ?_ ?_
  rotate_left
  · refine jn_exit ?_
    refine jk_se (jk_le (jk_bh (jk_sn ?_)))
    refine jn_seq ?_
    refine jn_reg 8 ?_
    refine jg_as rfl rfl rfl ?_
    refine jg_nils [(4, _)] ⟨rfl, trivial⟩ ?_
    refine jk_sn ?_
    refine jn_ret ?_
    exact jk_ret1 rfl (fun w hs => .tmp rfl) (fun w hs => ⟨rfl, hs.drop⟩)
  refine jn_skip ?_
  refine jk_sn ?_
  refine jn_seq ?_
  refine jn_block ?_
  refine jn_seq ?_
  refine jn_draw (L' := []) 6 [] [0, 1, 2, 3, 4, 5, 6, 7, 8] 511 511 [0, 0, 3, 4, 0, 0, 48, 64, 136] [0, 0, 3, 7, 0, 0, 48, 112, 255] [(0, true), (1, true), (2, true), (3, true), (4, true), (5, true), (6, true), (7, true), (8, true)] rfl (np_seq (np_blk (np_seq (np_rnd (np_blk (np_seq np_rt)))))) (by kernel_rfl) (by kernel_rfl) (by kernel_rfl) (by kernel_rfl) (by kernel_rfl) (by kernel_rfl) (by kernel_rfl) (by kernel_rfl) ?_
  refine jd_mv rfl rfl rfl rfl ?_
  refine jd_mv rfl rfl rfl rfl ?_
  refine jd_ix fun x6 h7 => ?_
  refine jd_y rfl (fun w hs => yv_ix rfl rfl (hs.arg Rha0) h7) rfl rfl ?_
  refine jd_y rfl (fun w hs => yv_eS rfl (hs.arg Rha0) h7.1 (l2 rfl) rfl) rfl rfl ?_
  refine jd_mv rfl rfl rfl rfl ?_
  refine jd_mv rfl rfl rfl rfl ?_
  refine jd_ix fun x8 h9 => ?_
  refine jd_y rfl (fun w hs => yv_ix rfl rfl (hs.arg Rha1) h9) rfl rfl ?_
  refine jd_y rfl (fun w hs => yv_eS rfl (hs.arg Rha1) h9.1 (l2 rfl) rfl) rfl rfl ?_
  refine jd_y rfl (fun w hs => yne41 rfl rfl) rfl rfl ?_
  refine jd_nils [(0, _), (1, _), (5, _), (25, _)] ⟨rfl, rfl, rfl, rfl, trivial⟩ ?_
  refine jk_sn ?_
  refine jn_cond rfl ?_ ?_
  · refine jn_seq ?_
    refine jn_reg 7 ?_
    refine jg_as rfl rfl rfl ?_
    refine jg_nils [(4, _)] ⟨rfl, trivial⟩ ?_
    refine jk_sn ?_
    refine jn_ret ?_
    refine jk_br (jk_sr (jk_lr (jk_br (jk_sr ?_))))
    exact jk_ret1 rfl (fun w hs => .tmp rfl) (fun w hs => ⟨rfl, hs.drop⟩)
  refine jn_skip ?_
  refine jk_bn (jk_sn ?_)
  refine jn_reg 5 ?_
  refine jg_mv rfl rfl rfl ?_
  refine jg_y (fun w hs => yv_add_w rfl rfl) rfl rfl ?_
  refine jg_as rfl rfl rfl ?_
  refine jg_nils [(0, _), (1, _), (5, _)] ⟨rfl, rfl, rfl, trivial⟩ ?_
  exact jk_use H4 (w64 (z1 + 1)) () [] ⟨rfl, rfl, rfl, trivial⟩ rfl rfl rfl
theorem law20_sane_c {w : World}   {v : Bool} (hm : law20_sane = some v) : Gives Try.prog 14 [] w (.bool v) := by
  refine j_gives (vs := []) (U := fun (v : Bool) => .bool v) Try.func14 rfl Try.ntmps14 rfl rfl hm ?_
  unfold law20_sane
  clear hm
  refine jn_seq ?_
  refine jn_reg 0 ?_
  refine jg_as rfl rfl rfl ?_
  refine jg_nils [] trivial ?_
  refine jk_sn ?_
  refine jn_seq ?_
  refine jn_reg 1 ?_
  refine jg_y (fun w hs => yv_build rfl (o5 rfl)) rfl rfl ?_
  refine jg_y (fun w hs => yv_build rfl (o5 rfl)) rfl rfl ?_
  refine jg_lit (enc := Piece.enc) [(Piece.mk 0 10000 1000 0 2000000), (Piece.mk 0 100000 0 0 0)] rfl rfl rfl rfl rfl rfl rfl rfl fun hd1 => ?_
  refine jg_as rfl rfl rfl ?_
  refine jg_nils [(1, _)] ⟨rfl, trivial⟩ ?_
  refine jk_sn ?_
  refine jn_seq ?_
  refine jn_reg 2 ?_
  refine jg_mv rfl rfl rfl ?_
  refine jg_lit (enc := encI) [0, 100] rfl rfl rfl rfl rfl rfl rfl rfl fun hd2 => ?_
  refine jg_lit (enc := encI) [1200] rfl rfl rfl rfl rfl rfl rfl rfl fun hd3 => ?_
  refine jg_y (fun w hs => yv_build rfl (o3 rfl)) rfl rfl ?_
  refine jg_c rfl (fun v w hs hm => runoff_Point_c (a1 := (Run.mk 1000 ([0, 100] : List Int) ([1200] : List Int))) hm (hs.row 2 rfl) (hs.row 1 rfl) (hs.row 0 rfl)) rfl rfl fun v4 q5 => ?_
  refine jg_L (r4 rfl) ?_
  refine jg_mv rfl rfl rfl ?_
  refine jg_y (fun w hs => yv_extract rfl rfl) rfl rfl ?_
  refine jg_y (fun w hs => yv_extract rfl rfl) rfl rfl ?_
  refine jg_y (fun w hs => yv_extract rfl rfl) rfl rfl ?_
  refine jg_as rfl rfl rfl ?_
  refine jg_as rfl rfl rfl ?_
  refine jg_as rfl rfl rfl ?_
  refine jg_nils [(1, _), (2, _), (3, _), (4, _)] ⟨rfl, rfl, rfl, rfl, trivial⟩ ?_
  refine jk_sel (is := [0, 3]) (s2 rfl) rfl ?_
  refine jk_sn ?_
  refine jn_seq ?_
  refine jn_reg 3 ?_
  refine jg_mv rfl rfl rfl ?_
  refine jg_ck fun h6 => ?_
  refine jg_y (fun w hs => yv_hi rfl rfl (hs.row 1 rfl) (of_decide_eq_true h6)) rfl rfl ?_
  refine jg_y (fun w hs => yv_build rfl (o2 rfl)) rfl rfl ?_
  refine jg_y (fun w hs => yv_build rfl (o2 rfl)) rfl rfl ?_
  refine jg_lit (enc := Interval.enc) [(Interval.mk 0 0)] rfl rfl rfl rfl rfl rfl rfl rfl fun hd7 => ?_
  refine jg_lit (enc := encI) [(-1)] rfl rfl rfl rfl rfl rfl rfl rfl fun hd8 => ?_
  refine jg_y (fun w hs => yv_build rfl (o5 rfl)) rfl rfl ?_
  refine jg_c rfl (fun v w hs hm => runoff_Pass_c (a1 := (Motion.mk (Interval.mk 1000 1000) ([(Interval.mk 0 0)] : List Interval) 0 ([(-1)] : List Int))) hm (Sl.hi (hs.row 3 rfl) (of_decide_eq_true h6)) (hs.row 1 rfl) (hs.row 0 rfl)) rfl rfl fun v9 q10 => ?_
  refine jg_L (r5 rfl) ?_
  refine jg_mv rfl rfl rfl ?_
  refine jg_y (fun w hs => yv_extract rfl rfl) rfl rfl ?_
  refine jg_y (fun w hs => yv_extract rfl rfl) rfl rfl ?_
  refine jg_as rfl rfl rfl ?_
  refine jg_as rfl rfl rfl ?_
  refine jg_nils [(2, _), (3, _), (4, _), (5, _), (6, _)] ⟨rfl, rfl, rfl, rfl, rfl, trivial⟩ ?_
  refine jk_sel (is := [0, 3]) (s2 rfl) rfl ?_
  refine jk_sn ?_
  refine jn_seq ?_
  refine jn_reg 4 ?_
  refine jg_mv rfl rfl rfl ?_
  refine jg_y (fun w hs => yv_eql rfl rfl) rfl rfl ?_
  refine jg_mv rfl rfl rfl ?_
  refine jg_split 32 rfl ?_ ?_
  rotate_left
  · refine jg_skip rfl rfl ?_
    refine jg_skip rfl rfl ?_
    refine jg_y (fun w hs => yv_pick_f rfl rfl) rfl rfl ?_
    refine jg_mv rfl rfl rfl ?_
    refine jg_skip rfl rfl ?_
    refine jg_skip rfl rfl ?_
    refine jg_skip rfl rfl ?_
    refine jg_skip rfl rfl ?_
    refine jg_skip rfl rfl ?_
    refine jg_y (fun w hs => yv_pick_f rfl rfl) rfl rfl ?_
    refine jg_mv rfl rfl rfl ?_
    refine jg_skip rfl rfl ?_
    refine jg_skip rfl rfl ?_
    refine jg_y (fun w hs => yv_pick_f rfl rfl) rfl rfl ?_
    refine jg_mv rfl rfl rfl ?_
    refine jg_skip rfl rfl ?_
    refine jg_skip rfl rfl ?_
    refine jg_skip rfl rfl ?_
    refine jg_y (fun w hs => yv_pick_f rfl rfl) rfl rfl ?_
    refine jg_mv rfl rfl rfl ?_
    refine jg_skip rfl rfl ?_
    refine jg_skip rfl rfl ?_
    refine jg_skip rfl rfl ?_
    refine jg_skip rfl rfl ?_
    refine jg_skip rfl rfl ?_
    refine jg_skip rfl rfl ?_
    refine jg_y (fun w hs => yv_pick_f rfl rfl) rfl rfl ?_
    refine jg_mv rfl rfl rfl ?_
    refine jg_skip rfl rfl ?_
    refine jg_skip rfl rfl ?_
    refine jg_skip rfl rfl ?_
    refine jg_skip rfl rfl ?_
    refine jg_skip rfl rfl ?_
    refine jg_skip rfl rfl ?_
    refine jg_y (fun w hs => yv_pick_f rfl rfl) rfl rfl ?_
    refine jg_mv rfl rfl rfl ?_
    refine jg_skip rfl rfl ?_
    refine jg_skip rfl rfl ?_
    refine jg_skip rfl rfl ?_
    refine jg_skip rfl rfl ?_
    refine jg_skip rfl rfl ?_
    refine jg_y (fun w hs => yv_pick_f rfl rfl) rfl rfl ?_
    refine jg_as rfl rfl rfl ?_
    refine jg_nils [(0, _)] ⟨rfl, trivial⟩ ?_
    refine jk_sel (is := []) (s0 rfl) rfl ?_
    refine jk_sn ?_
    refine jn_ret ?_
    exact jk_ret1 rfl (fun w hs => .tmp rfl) (fun w hs => ⟨rfl, hs.drop⟩)
  refine jg_mv rfl rfl rfl ?_
  refine jg_y (fun w hs => yv_eql rfl rfl) rfl rfl ?_
  refine jg_y (fun w hs => yv_pick_t rfl rfl) rfl rfl ?_
  refine jg_mv rfl rfl rfl ?_
  refine jg_split 36 rfl ?_ ?_
  rotate_left
  · refine jg_skip rfl rfl ?_
    refine jg_skip rfl rfl ?_
    refine jg_skip rfl rfl ?_
    refine jg_skip rfl rfl ?_
    refine jg_skip rfl rfl ?_
    refine jg_y (fun w hs => yv_pick_f rfl rfl) rfl rfl ?_
    refine jg_mv rfl rfl rfl ?_
    refine jg_skip rfl rfl ?_
    refine jg_skip rfl rfl ?_
    refine jg_y (fun w hs => yv_pick_f rfl rfl) rfl rfl ?_
    refine jg_mv rfl rfl rfl ?_
    refine jg_skip rfl rfl ?_
    refine jg_skip rfl rfl ?_
    refine jg_skip rfl rfl ?_
    refine jg_y (fun w hs => yv_pick_f rfl rfl) rfl rfl ?_
    refine jg_mv rfl rfl rfl ?_
    refine jg_skip rfl rfl ?_
    refine jg_skip rfl rfl ?_
    refine jg_skip rfl rfl ?_
    refine jg_skip rfl rfl ?_
    refine jg_skip rfl rfl ?_
    refine jg_skip rfl rfl ?_
    refine jg_y (fun w hs => yv_pick_f rfl rfl) rfl rfl ?_
    refine jg_mv rfl rfl rfl ?_
    refine jg_skip rfl rfl ?_
    refine jg_skip rfl rfl ?_
    refine jg_skip rfl rfl ?_
    refine jg_skip rfl rfl ?_
    refine jg_skip rfl rfl ?_
    refine jg_skip rfl rfl ?_
    refine jg_y (fun w hs => yv_pick_f rfl rfl) rfl rfl ?_
    refine jg_mv rfl rfl rfl ?_
    refine jg_skip rfl rfl ?_
    refine jg_skip rfl rfl ?_
    refine jg_skip rfl rfl ?_
    refine jg_skip rfl rfl ?_
    refine jg_skip rfl rfl ?_
    refine jg_y (fun w hs => yv_pick_f rfl rfl) rfl rfl ?_
    refine jg_as rfl rfl rfl ?_
    refine jg_nils [(0, _)] ⟨rfl, trivial⟩ ?_
    refine jk_sel (is := []) (s0 rfl) rfl ?_
    refine jk_sn ?_
    refine jn_ret ?_
    exact jk_ret1 rfl (fun w hs => .tmp rfl) (fun w hs => ⟨rfl, hs.drop⟩)
  refine jg_mv rfl rfl rfl ?_
  refine jg_y (fun w hs => yv_build rfl (o2 rfl)) rfl rfl ?_
  refine jg_y (fun w hs => yv_build rfl (o2 rfl)) rfl rfl ?_
  refine jg_lit (enc := Moment.enc) [(Moment.mk 0 1000000), (Moment.mk 7351 1440000)] rfl rfl rfl rfl rfl rfl rfl rfl fun hd11 => ?_
  refine jg_c0 rfl (fun v w hs hm => gen_Moments_c hm (hs.row 2 rfl) (hs.row 0 rfl)) rfl rfl fun v12 => ?_
  refine jg_y (fun w hs => yv_pick_t rfl rfl) rfl rfl ?_
  refine jg_mv rfl rfl rfl ?_
  refine jg_split 43 rfl ?_ ?_
  rotate_left
  · refine jg_skip rfl rfl ?_
    refine jg_skip rfl rfl ?_
    refine jg_y (fun w hs => yv_pick_f rfl rfl) rfl rfl ?_
    refine jg_mv rfl rfl rfl ?_
    refine jg_skip rfl rfl ?_
    refine jg_skip rfl rfl ?_
    refine jg_skip rfl rfl ?_
    refine jg_y (fun w hs => yv_pick_f rfl rfl) rfl rfl ?_
    refine jg_mv rfl rfl rfl ?_
    refine jg_skip rfl rfl ?_
    refine jg_skip rfl rfl ?_
    refine jg_skip rfl rfl ?_
    refine jg_skip rfl rfl ?_
    refine jg_skip rfl rfl ?_
    refine jg_skip rfl rfl ?_
    refine jg_y (fun w hs => yv_pick_f rfl rfl) rfl rfl ?_
    refine jg_mv rfl rfl rfl ?_
    refine jg_skip rfl rfl ?_
    refine jg_skip rfl rfl ?_
    refine jg_skip rfl rfl ?_
    refine jg_skip rfl rfl ?_
    refine jg_skip rfl rfl ?_
    refine jg_skip rfl rfl ?_
    refine jg_y (fun w hs => yv_pick_f rfl rfl) rfl rfl ?_
    refine jg_mv rfl rfl rfl ?_
    refine jg_skip rfl rfl ?_
    refine jg_skip rfl rfl ?_
    refine jg_skip rfl rfl ?_
    refine jg_skip rfl rfl ?_
    refine jg_skip rfl rfl ?_
    refine jg_y (fun w hs => yv_pick_f rfl rfl) rfl rfl ?_
    refine jg_as rfl rfl rfl ?_
    refine jg_nils [(0, _)] ⟨rfl, trivial⟩ ?_
    refine jk_sel (is := []) (s0 rfl) rfl ?_
    refine jk_sn ?_
    refine jn_ret ?_
    exact jk_ret1 rfl (fun w hs => .tmp rfl) (fun w hs => ⟨rfl, hs.drop⟩)
  refine jg_mv rfl rfl rfl ?_
  refine jg_y (fun w hs => yv_eql rfl rfl) rfl rfl ?_
  refine jg_y (fun w hs => yv_pick_t rfl rfl) rfl rfl ?_
  refine jg_mv rfl rfl rfl ?_
  refine jg_split 47 rfl ?_ ?_
  rotate_left
  · refine jg_skip rfl rfl ?_
    refine jg_skip rfl rfl ?_
    refine jg_skip rfl rfl ?_
    refine jg_y (fun w hs => yv_pick_f rfl rfl) rfl rfl ?_
    refine jg_mv rfl rfl rfl ?_
    refine jg_skip rfl rfl ?_
    refine jg_skip rfl rfl ?_
    refine jg_skip rfl rfl ?_
    refine jg_skip rfl rfl ?_
    refine jg_skip rfl rfl ?_
    refine jg_skip rfl rfl ?_
    refine jg_y (fun w hs => yv_pick_f rfl rfl) rfl rfl ?_
    refine jg_mv rfl rfl rfl ?_
    refine jg_skip rfl rfl ?_
    refine jg_skip rfl rfl ?_
    refine jg_skip rfl rfl ?_
    refine jg_skip rfl rfl ?_
    refine jg_skip rfl rfl ?_
    refine jg_skip rfl rfl ?_
    refine jg_y (fun w hs => yv_pick_f rfl rfl) rfl rfl ?_
    refine jg_mv rfl rfl rfl ?_
    refine jg_skip rfl rfl ?_
    refine jg_skip rfl rfl ?_
    refine jg_skip rfl rfl ?_
    refine jg_skip rfl rfl ?_
    refine jg_skip rfl rfl ?_
    refine jg_y (fun w hs => yv_pick_f rfl rfl) rfl rfl ?_
    refine jg_as rfl rfl rfl ?_
    refine jg_nils [(0, _)] ⟨rfl, trivial⟩ ?_
    refine jk_sel (is := []) (s0 rfl) rfl ?_
    refine jk_sn ?_
    refine jn_ret ?_
    exact jk_ret1 rfl (fun w hs => .tmp rfl) (fun w hs => ⟨rfl, hs.drop⟩)
  refine jg_mv rfl rfl rfl ?_
  refine jg_y (fun w hs => yv_ln rfl (hs.row 1 rfl)) rfl rfl ?_
  refine jg_y (fun w hs => yv_eql rfl rfl) rfl rfl ?_
  refine jg_y (fun w hs => yv_pick_t rfl rfl) rfl rfl ?_
  refine jg_mv rfl rfl rfl ?_
  refine jg_split 52 rfl ?_ ?_
  rotate_left
  · refine jg_skip rfl rfl ?_
    refine jg_skip rfl rfl ?_
    refine jg_skip rfl rfl ?_
    refine jg_skip rfl rfl ?_
    refine jg_skip rfl rfl ?_
    refine jg_skip rfl rfl ?_
    refine jg_y (fun w hs => yv_pick_f rfl rfl) rfl rfl ?_
    refine jg_mv rfl rfl rfl ?_
    refine jg_skip rfl rfl ?_
    refine jg_skip rfl rfl ?_
    refine jg_skip rfl rfl ?_
    refine jg_skip rfl rfl ?_
    refine jg_skip rfl rfl ?_
    refine jg_skip rfl rfl ?_
    refine jg_y (fun w hs => yv_pick_f rfl rfl) rfl rfl ?_
    refine jg_mv rfl rfl rfl ?_
    refine jg_skip rfl rfl ?_
    refine jg_skip rfl rfl ?_
    refine jg_skip rfl rfl ?_
    refine jg_skip rfl rfl ?_
    refine jg_skip rfl rfl ?_
    refine jg_y (fun w hs => yv_pick_f rfl rfl) rfl rfl ?_
    refine jg_as rfl rfl rfl ?_
    refine jg_nils [(0, _)] ⟨rfl, trivial⟩ ?_
    refine jk_sel (is := []) (s0 rfl) rfl ?_
    refine jk_sn ?_
    refine jn_ret ?_
    exact jk_ret1 rfl (fun w hs => .tmp rfl) (fun w hs => ⟨rfl, hs.drop⟩)
  refine jg_mv rfl rfl rfl ?_
  refine jg_ix fun x13 h14 => ?_
  refine jg_y (fun w hs => yv_ix rfl rfl (hs.row 1 rfl) h14) rfl rfl ?_
  refine jg_y (fun w hs => yv_ef rfl (hs.row 1 rfl) h14.1) rfl rfl ?_
  refine jg_y (fun w hs => yv_eS rfl (hs.row 1 rfl) h14.1 (l2 rfl) rfl) rfl rfl ?_
  refine jg_y (fun w hs => yv_build rfl (o2 rfl)) rfl rfl ?_
  refine jg_y (fun w hs => yeq24 rfl rfl) rfl rfl ?_
  refine jg_y (fun w hs => yv_pick_t rfl rfl) rfl rfl ?_
  refine jg_mv rfl rfl rfl ?_
  refine jg_split 60 rfl ?_ ?_
  rotate_left
  · refine jg_skip rfl rfl ?_
    refine jg_skip rfl rfl ?_
    refine jg_skip rfl rfl ?_
    refine jg_skip rfl rfl ?_
    refine jg_skip rfl rfl ?_
    refine jg_skip rfl rfl ?_
    refine jg_y (fun w hs => yv_pick_f rfl rfl) rfl rfl ?_
    refine jg_mv rfl rfl rfl ?_
    refine jg_skip rfl rfl ?_
    refine jg_skip rfl rfl ?_
    refine jg_skip rfl rfl ?_
    refine jg_skip rfl rfl ?_
    refine jg_skip rfl rfl ?_
    refine jg_y (fun w hs => yv_pick_f rfl rfl) rfl rfl ?_
    refine jg_as rfl rfl rfl ?_
    refine jg_nils [(0, _)] ⟨rfl, trivial⟩ ?_
    refine jk_sel (is := []) (s0 rfl) rfl ?_
    refine jk_sn ?_
    refine jn_ret ?_
    exact jk_ret1 rfl (fun w hs => .tmp rfl) (fun w hs => ⟨rfl, hs.drop⟩)
  refine jg_mv rfl rfl rfl ?_
  refine jg_ix fun x15 h16 => ?_
  refine jg_y (fun w hs => yv_ix rfl rfl (hs.row 1 rfl) h16) rfl rfl ?_
  refine jg_y (fun w hs => yv_ef rfl (hs.row 1 rfl) h16.1) rfl rfl ?_
  refine jg_y (fun w hs => yv_ef rfl (hs.row 1 rfl) h16.1) rfl rfl ?_
  refine jg_y (fun w hs => yv_e1 rfl (hs.row 1 rfl) h16.1 rfl) rfl rfl ?_
  refine jg_y (fun w hs => yv_eql rfl rfl) rfl rfl ?_
  refine jg_y (fun w hs => yv_pick_t rfl rfl) rfl rfl ?_
  refine jg_mv rfl rfl rfl ?_
  refine jg_split 68 rfl ?_ ?_
  rotate_left
  · refine jg_skip rfl rfl ?_
    refine jg_skip rfl rfl ?_
    refine jg_skip rfl rfl ?_
    refine jg_skip rfl rfl ?_
    refine jg_skip rfl rfl ?_
    refine jg_y (fun w hs => yv_pick_f rfl rfl) rfl rfl ?_
    refine jg_as rfl rfl rfl ?_
    refine jg_nils [(0, _)] ⟨rfl, trivial⟩ ?_
    refine jk_sel (is := []) (s0 rfl) rfl ?_
    refine jk_sn ?_
    refine jn_ret ?_
    exact jk_ret1 rfl (fun w hs => .tmp rfl) (fun w hs => ⟨rfl, hs.drop⟩)
  refine jg_mv rfl rfl rfl ?_
  refine jg_ix fun x17 h18 => ?_
  refine jg_y (fun w hs => yv_ix rfl rfl (hs.row 1 rfl) h18) rfl rfl ?_
  refine jg_y (fun w hs => yv_ef rfl (hs.row 1 rfl) h18.1) rfl rfl ?_
  refine jg_y (fun w hs => yv_e1 rfl (hs.row 1 rfl) h18.1 rfl) rfl rfl ?_
  refine jg_y (fun w hs => yv_not rfl) rfl rfl ?_
  refine jg_y (fun w hs => yv_pick_t rfl rfl) rfl rfl ?_
  refine jg_as rfl rfl rfl ?_
  refine jg_nils [(0, _)] ⟨rfl, trivial⟩ ?_
  refine jk_sel (is := []) (s0 rfl) rfl ?_
  refine jk_sn ?_
  refine jn_ret ?_
  exact jk_ret1 rfl (fun w hs => .tmp rfl) (fun w hs => ⟨rfl, hs.drop⟩)
theorem law20_RunoffNested_c {w : World} {a0 : (List Int)} {ha0 : Hd} {v : Bool} (hm : law20_RunoffNested a0 = some v) (Rha0 : Sl w ha0 encI a0) : Gives Try.prog 8 [ha0.v] w (.bool v) := by
  refine j_gives (vs := [ha0.v]) (U := fun (v : Bool) => .bool v) Try.func8 rfl Try.ntmps8 rfl rfl hm ?_
  unfold law20_RunoffNested
  clear hm
  refine jn_seq ?_
  refine jn_reg 0 ?_
  refine jg_as rfl rfl rfl ?_
  refine jg_nils [(0, _)] ⟨rfl, trivial⟩ ?_
  refine jk_sn ?_
  refine jn_seq ?_
  refine jn_reg 1 ?_
  refine jg_mv rfl rfl rfl ?_
  refine jg_c rfl (fun v w hs hm => gen_New_c hm (hs.arg Rha0)) rfl rfl fun v1 q2 => ?_
  refine jg_L (r1 rfl) ?_
  refine jg_as rfl rfl rfl ?_
  refine jg_nils [(3, _)] ⟨rfl, trivial⟩ ?_
  refine jk_sn ?_
  refine jn_seq ?_
  refine jn_reg 2 ?_
  refine jg_mv rfl rfl rfl ?_
  refine jl_c 0 rfl rfl (fun v w hs hm => gen_Maker_Pieces_c hm (hs.blkL (i := 0) rfl) (hs.arg Rha0) (hs.offAL 0 Rha0 rfl)) (fun _ => rfl) rfl rfl fun v3 q4 => ?_
  refine jg_L (r2 rfl) ?_
  refine jg_as rfl rfl rfl ?_
  refine jg_nils [(3, _), (4, _)] ⟨rfl, rfl, trivial⟩ ?_
  refine jk_sn ?_
  refine jn_seq ?_
  refine jn_reg 3 ?_
  refine jg_mv rfl rfl rfl ?_
  refine jg_mv rfl rfl rfl ?_
  refine jl_c 1 rfl rfl (fun v w hs hm => gen_Maker_Motion_c hm (hs.blkL (i := 1) rfl) (hs.arg Rha0) (hs.offAL 1 Rha0 rfl) (hs.row 0 rfl) (hs.offLL 0 1 rfl rfl)) (fun _ => rfl) rfl rfl fun v5 q6 => ?_
  refine jg_L (r4 rfl) ?_
  refine jg_alloc (l5 rfl) rfl rfl fun g7 => ?_
  refine jg_store 0 rfl rfl rfl (l5 rfl) rfl rfl rfl rfl (l5 rfl) (r5 rfl) ?_
  refine jg_nils [(3, _), (4, _), (5, _)] ⟨rfl, rfl, rfl, trivial⟩ ?_
  refine jk_sn ?_
  refine jn_seq ?_
  refine jn_drawX (L' := [_, _, _, _]) 4 [0, 1, 2, 3] [0, 1, 2, 4, 5, 3, 6, 7] 255 55 4 [0, 0, 2, 5, 0, 16, 40, 0, 255] [0, 0, 2, 7, 0, 16, 63, 0, 255] [(0, true), (1, true), (2, true), (4, true), (5, true)] rfl (np_seq np_rt) (by kernel_rfl) (by kernel_rfl) (by kernel_rfl) (by kernel_rfl) (by kernel_rfl) (by kernel_rfl) (by kernel_rfl) (by kernel_rfl) ?_
  refine jd_mv rfl rfl rfl rfl ?_
  refine jd_y rfl (fun w hs => yv_fieldAddr rfl) rfl rfl ?_
  refine jd_y rfl (fun w hs => yv_load rfl (ld1B (hs.blk (i := 0) rfl) rfl)) rfl rfl ?_
  refine jd_y rfl (fun w hs => yv_fieldAddr rfl) rfl rfl ?_
  refine jd_y rfl (fun w hs => yv_load rfl (ld1B (hs.blk (i := 0) rfl) rfl)) rfl rfl ?_
  refine jd_x ?_
  refine jx2 (i := 3) (i2 := 7) (by kernel_rfl) (by kernel_rfl) rfl rfl ?_ ?_
  · refine jl_c 4 rfl rfl (fun v w hs hm => gen_Maker_From_c hm (hs.blkL (i := 4) rfl) (hs.arg Rha0) (hs.offAL 4 Rha0 rfl)) (fun _ => rfl) rfl rfl fun v68 q69 => ?_
    refine jg_L (r5 rfl) ?_
    refine jg_nil ?_
    refine jk_xn [0, 1, 2, 3] rfl ?_
    refine jx_lin [0, 1, 2, 3] 255 127 2 [0, 0, 2, 7, 0, 16, 63, 0, 255] [(6, true)] rfl (np_seq np_rt) (by kernel_rfl) (by kernel_rfl) (by kernel_rfl) (by kernel_rfl) (by kernel_rfl) (by kernel_rfl) (by kernel_rfl) (by kernel_rfl) ?_
    refine jd_y rfl (fun w hs => yv_build rfl (o5 rfl)) rfl rfl ?_
    refine jd_x ?_
    refine jx1 (i := 7) (by kernel_rfl) (by kernel_rfl) rfl ?_
    refine jg_alloc (l5 rfl) rfl rfl fun g148 => ?_
    refine jg_nil ?_
    refine jk_xn [1, 2, 3, 4] rfl ?_
    refine jx1 (i := 8) (by kernel_rfl) (by kernel_rfl) rfl ?_
    refine jg_store 0 rfl rfl rfl (l5 rfl) rfl rfl rfl rfl (l5 rfl) (r6 rfl) ?_
    refine jg_nil ?_
    refine jk_xf rfl ?_
    refine jx0 [(3, _), (4, _), (5, _), (6, _)] ⟨rfl, rfl, rfl, rfl, trivial⟩ (by kernel_rfl) (by kernel_rfl) ?_
    refine jk_sn ?_
    refine jn_seq ?_
    refine jn_reg 5 ?_
    refine jg_mv rfl rfl rfl ?_
    refine jg_y (fun w hs => yv_fieldAddr rfl) rfl rfl ?_
    refine jg_y (fun w hs => yv_fieldAddr rfl) rfl rfl ?_
    refine jg_y (fun w hs => yv_load rfl (ld1B (hs.blkL (i := 1) rfl) rfl)) rfl rfl ?_
    refine jg_y (fun w hs => yv_fieldAddr rfl) rfl rfl ?_
    refine jg_y (fun w hs => yv_fieldAddr rfl) rfl rfl ?_
    refine jg_y (fun w hs => yv_load rfl (ld1B (hs.blkL (i := 1) rfl) rfl)) rfl rfl ?_
    refine jl_c 5 rfl rfl (fun v w hs hm => gen_Maker_From_c hm (hs.blkL (i := 5) rfl) (hs.arg Rha0) (hs.offAL 5 Rha0 rfl)) (fun _ => rfl) rfl rfl fun v188 q189 => ?_
    refine jg_L (r6 rfl) ?_
    refine jg_as rfl rfl rfl ?_
    refine jg_nils [(3, _), (4, _), (5, _), (6, _), (7, _)] ⟨rfl, rfl, rfl, rfl, rfl, trivial⟩ ?_
    refine jk_sn ?_
    refine jn_seq ?_
    refine jn_reg 6 ?_
    refine jg_mv rfl rfl rfl ?_
    refine jg_mv rfl rfl rfl ?_
    refine jg_mv rfl rfl rfl ?_
    refine jg_y (fun w hs => yv_fieldAddr rfl) rfl rfl ?_
    refine jg_y (fun w hs => yv_fieldAddr rfl) rfl rfl ?_
    refine jg_y (fun w hs => yv_load rfl (ld1B (hs.blkL (i := 1) rfl) rfl)) rfl rfl ?_
    refine jl_c 5 rfl rfl (fun v w hs hm => gen_Maker_From_c hm (hs.blkL (i := 5) rfl) (hs.arg Rha0) (hs.offAL 5 Rha0 rfl)) (fun _ => rfl) rfl rfl fun v190 q191 => ?_
    refine jg_L (r6 rfl) ?_
    refine jg_y (fun w hs => yv_build rfl (o2 rfl)) rfl rfl ?_
    refine jg_y (fun w hs => yv_fieldAddr rfl) rfl rfl ?_
    refine jg_store 0 rfl rfl rfl (l2 rfl) rfl rfl rfl rfl (l5 rfl) (r6 rfl) ?_
    refine jg_nils [(3, _), (4, _), (5, _), (6, _)] ⟨rfl, rfl, rfl, rfl, trivial⟩ ?_
    refine jk_sn ?_
    refine jn_join (fun (s : (List Interval)) (g : Hd) => [(4, q4.v), (5, .pointer (some ⟨g7, 0, none⟩)), (6, .pointer (some ⟨g148, 0, none⟩))]) (fun (s : (List Interval)) (g : Hd) => []) (fun (s : (List Interval)) (g : Hd) => [(rowH q4 32 5 Piece.enc v3.1), (Res.blk g7 28 [.int .i64 v5.1.Speed.Lo, .int .i64 v5.1.Speed.Hi, q6.1.v, .int .i64 v5.1.Error, q6.2.v]), (rowH q6.1 24 2 Interval.enc v5.1.Class), (rowH q6.2 3 1 encI v5.1.Targets), (Res.blk g148 28 [.int .i64 v188.1, .int .i64 v190.1, g.v, .int .i64 v68.1, q6.2.v]), (rowH g 24 2 Interval.enc s)]) ?_ ?_
    rotate_left
    · intro k194 H195
      refine jn_seq ?_
      refine jn_reg 7 ?_
      refine jg_y (fun w hs => yv_fieldAddr rfl) rfl rfl ?_
      refine jg_y (fun w hs => yv_load rfl (ld1B (hs.blkL (i := 1) rfl) rfl)) rfl rfl ?_
      refine jg_y (fun w hs => yv_ln rfl (hs.row 2 rfl)) rfl rfl ?_
      refine jg_mv rfl rfl rfl ?_
      refine jg_nils [(3, _), (4, _), (5, _), (6, _), (48, _), (49, _), (50, _)] ⟨rfl, rfl, rfl, rfl, rfl, rfl, rfl, trivial⟩ ?_
      refine jk_sn ?_
      refine jn_block ?_
      refine jn_addnil 24 2 Interval.enc ?_
      refine jn_lp (n := big) (fun (s : (Int × (List Interval) × Int)) (g : Hd) => [(3, .pointer (some ⟨q2, 0, none⟩)), (4, q4.v), (5, .pointer (some ⟨g7, 0, none⟩)), (6, .pointer (some ⟨g148, 0, none⟩)), (48, q6.1.v), (49, .int .i64 (v5.1.Class.length : Int)), (50, .int .i64 s.2.2)]) (fun (s : (Int × (List Interval) × Int)) (g : Hd) => []) (fun (s : (Int × (List Interval) × Int)) (g : Hd) => [(Res.blk q2 82 [ha0.v, .int .i64 s.1]), (rowH q4 32 5 Piece.enc v3.1), (Res.blk g7 28 [.int .i64 v5.1.Speed.Lo, .int .i64 v5.1.Speed.Hi, q6.1.v, .int .i64 v5.1.Error, q6.2.v]), (rowH q6.1 24 2 Interval.enc v5.1.Class), (rowH q6.2 3 1 encI v5.1.Targets), (Res.blk g148 28 [.int .i64 v188.1, .int .i64 v190.1, g.v, .int .i64 v68.1, q6.2.v]), (rowH g 24 2 Interval.enc s.2.1)]) (v190.2, ([] : List Interval), 0) (Hd.mk none 0 0) [6, 5, 2, 3, 4, 1, 0] ⟨rfl, rfl, rfl, rfl, rfl, rfl, rfl, trivial⟩ rfl rfl rfl ?_
      intro z242 q243 n246 k244 H245
      refine jn_seq ?_
      refine jn_reg 8 ?_
      refine jg_y (fun w hs => yv_lss rfl rfl) rfl rfl ?_
      refine jg_nils [(3, _), (4, _), (5, _), (6, _), (48, _), (49, _), (50, _), (51, _)] ⟨rfl, rfl, rfl, rfl, rfl, rfl, rfl, rfl, trivial⟩ ?_
      refine jk_sn ?_
      refine jn_seq ?_
      refine jn_cond rfl ?_ ?_
      rotate_left
      · refine jn_exit ?_
        refine jk_se (jk_le (jk_bh ?_))
        exact jk_use H195 z242.2.1 q243 [1, 2, 3, 4, 5, 6] ⟨rfl, rfl, rfl, trivial⟩ rfl rfl rfl
      refine jn_skip ?_
      refine jk_sn ?_
      refine jn_seq ?_
      refine jn_block ?_
      refine jn_seq ?_
      refine jn_reg 9 ?_
      refine jg_ix fun x247 h248 => ?_
      refine jg_y (fun w hs => yv_ix rfl rfl (hs.row 3 rfl) h248) rfl rfl ?_
      refine jg_y (fun w hs => yv_eS rfl (hs.row 3 rfl) h248.1 (l2 rfl) rfl) rfl rfl ?_
      refine jg_alloc (l2 rfl) rfl rfl fun g249 => ?_
      refine jg_store 0 rfl rfl rfl (l2 rfl) rfl rfl rfl rfl (l2 rfl) (r8 rfl) ?_
      refine jg_nils [(3, _), (4, _), (5, _), (6, _), (9, _), (48, _), (49, _), (50, _)] ⟨rfl, rfl, rfl, rfl, rfl, rfl, rfl, rfl, trivial⟩ ?_
      refine jk_sn ?_
      refine jn_seq ?_
      refine jn_reg 10 ?_
      refine jg_mv rfl rfl rfl ?_
      refine jg_y (fun w hs => yv_fieldAddr rfl) rfl rfl ?_
      refine jg_y (fun w hs => yv_load rfl (ld1B (hs.blkL (i := 0) rfl) rfl)) rfl rfl ?_
      refine jg_y (fun w hs => yv_fieldAddr rfl) rfl rfl ?_
      refine jg_y (fun w hs => yv_load rfl (ld1B (hs.blkL (i := 0) rfl) rfl)) rfl rfl ?_
      refine jl_c 1 rfl rfl (fun v w hs hm => gen_Maker_From_c hm (hs.blkL (i := 1) rfl) (hs.arg Rha0) (hs.offAL 1 Rha0 rfl)) (fun _ => rfl) rfl rfl fun v250 q251 => ?_
      refine jg_L (r8 rfl) ?_
      refine jg_as rfl rfl rfl ?_
      refine jg_nils [(3, _), (4, _), (5, _), (6, _), (9, _), (10, _), (48, _), (49, _), (50, _)] ⟨rfl, rfl, rfl, rfl, rfl, rfl, rfl, rfl, rfl, trivial⟩ ?_
      refine jk_sn ?_
      refine jn_draw (L' := [_, _, _, _, _, _]) 11 [0, 2, 3, 4, 5, 6] [0, 1, 2, 3, 4, 5, 6, 7, 8, 9, 10, 11] 4095 8191 [0, 1, 0, 0, 0, 0, 32, 88, 132, 256, 642, 2047, 4095] [0, 1, 0, 0, 0, 0, 32, 120, 252, 508, 1023, 2047, 4095] [(0, true), (1, true), (2, true), (3, true), (4, true), (5, true), (6, true), (7, false), (8, true), (9, false), (10, false), (11, true), (12, false)] rfl (np_blk (np_seq (np_rnd (np_blk (np_seq np_rt))))) (by kernel_rfl) (by kernel_rfl) (by kernel_rfl) (by kernel_rfl) (by kernel_rfl) (by kernel_rfl) (by kernel_rfl) (by kernel_rfl) ?_
      refine jd_y rfl (fun w hs => yv_fieldAddr rfl) rfl rfl ?_
      refine jd_y rfl (fun w hs => yv_load rfl (ld1B (hs.blk (i := 5) rfl) rfl)) rfl rfl ?_
      refine jd_mv rfl rfl rfl rfl ?_
      refine jd_mv rfl rfl rfl rfl ?_
      refine jd_mv rfl rfl rfl rfl ?_
      refine jd_y rfl (fun w hs => yv_fieldAddr rfl) rfl rfl ?_
      refine jd_y rfl (fun w hs => yv_load rfl (ld1B (hs.blk (i := 0) rfl) rfl)) rfl rfl ?_
      refine jd_h rfl ?_
      refine jl_c 1 rfl rfl (fun v w hs hm => gen_Maker_From_c hm (hs.blkL (i := 1) rfl) (hs.arg Rha0) (hs.offAL 1 Rha0 rfl)) (fun _ => rfl) rfl rfl fun v252 q253 => ?_
      refine jg_L (r8 rfl) ?_
      refine jg_nil ?_
      refine jk_dn [0, 2, 3, 4, 5, 6] rfl ?_
      refine jd_y rfl (fun w hs => yv_build rfl (o2 rfl)) rfl rfl ?_
      refine jd_h rfl ?_
      refine jg_lit (enc := Interval.enc) [(Interval.mk v250.1 v252.1)] rfl rfl rfl rfl rfl rfl rfl rfl fun hd254 => ?_
      refine jg_nil ?_
      refine jk_dn [1, 3, 4, 5, 6, 7] rfl ?_
      refine jd_h rfl ?_
      refine jg_append 8 rfl rfl rfl (fun w hs => (hs.row 0 rfl)) rfl rfl rfl fun y255 hd256 => ?_
      refine jg_L (r9 rfl) ?_
      refine jg_nil ?_
      refine jk_dn [1, 3, 4, 5, 6, 7] rfl ?_
      refine jd_y rfl (fun w hs => yv_fieldAddr rfl) rfl rfl ?_
      refine jd_h rfl ?_
      refine jg_store 7 rfl rfl rfl (l1 rfl) rfl rfl rfl rfl (l5 rfl) (r9 rfl) ?_
      refine jg_nil ?_
      refine jk_df rfl ?_
      refine jf_nils [(3, _), (4, _), (5, _), (6, _), (48, _), (49, _), (50, _)] ⟨rfl, rfl, rfl, rfl, rfl, rfl, rfl, trivial⟩ ?_
      refine jk_sel (is := [2, 3, 4, 5, 6, 7, 8]) (s7 rfl) rfl ?_
      refine jk_bn (jk_sn ?_)
      refine jn_reg 12 ?_
      refine jg_y (fun w hs => yv_add_w rfl rfl) rfl rfl ?_
      refine jg_mv rfl rfl rfl ?_
      refine jg_nils [(3, _), (4, _), (5, _), (6, _), (48, _), (49, _), (50, _)] ⟨rfl, rfl, rfl, rfl, rfl, rfl, rfl, trivial⟩ ?_
      exact jk_use H245 (v252.2, y255, w64 (z242.2.2 + 1)) hd256 [0, 1, 2, 3, 4, 5, 6] ⟨rfl, rfl, rfl, rfl, rfl, rfl, rfl, trivial⟩ rfl rfl rfl
    intro z192 q193
    refine jn_seq ?_
    refine jn_reg 13 ?_
    refine jg_mv rfl rfl rfl ?_
    refine jg_y (fun w hs => yv_load rfl (ldBB (hs.blkL (i := 1) rfl) rfl)) rfl rfl ?_
    refine jg_c rfl (fun v w hs hm => runoff_Pass_c (a1 := v5.1) hm (hs.row 0 rfl) (hs.row 2 rfl) (hs.row 3 rfl)) rfl rfl fun v196 q197 => ?_
    refine jg_L (r7 rfl) ?_
    refine jg_mv rfl rfl rfl ?_
    refine jg_y (fun w hs => yv_extract rfl rfl) rfl rfl ?_
    refine jg_y (fun w hs => yv_extract rfl rfl) rfl rfl ?_
    refine jg_as rfl rfl rfl ?_
    refine jg_as rfl rfl rfl ?_
    refine jg_nils [(4, _), (6, _), (11, _), (12, _)] ⟨rfl, rfl, rfl, rfl, trivial⟩ ?_
    refine jk_sel (is := [0, 1, 4, 5, 6]) (s5 rfl) rfl ?_
    refine jk_sn ?_
    refine jn_seq ?_
    refine jn_reg 14 ?_
    refine jg_mv rfl rfl rfl ?_
    refine jg_y (fun w hs => yv_load rfl (ldBB (hs.blkL (i := 3) rfl) rfl)) rfl rfl ?_
    refine jg_c rfl (fun v w hs hm => runoff_Pass_c (a1 := (Motion.mk (Interval.mk v188.1 v190.1) z192 v68.1 v5.1.Targets)) hm (hs.row 1 rfl) (hs.row 4 rfl) (hs.row 2 rfl)) rfl rfl fun v198 q199 => ?_
    refine jg_L (r6 rfl) ?_
    refine jg_mv rfl rfl rfl ?_
    refine jg_y (fun w hs => yv_extract rfl rfl) rfl rfl ?_
    refine jg_y (fun w hs => yv_extract rfl rfl) rfl rfl ?_
    refine jg_as rfl rfl rfl ?_
    refine jg_as rfl rfl rfl ?_
    refine jg_nils [(4, _), (11, _), (12, _), (13, _), (14, _)] ⟨rfl, rfl, rfl, rfl, rfl, trivial⟩ ?_
    refine jk_sel (is := [0, 1, 2]) (s3 rfl) rfl ?_
    refine jk_sn ?_
    refine jn_seq ?_
    refine jn_seq ?_
    refine jn_reg 15 ?_
    refine jg_mv rfl rfl rfl ?_
    refine jg_y (fun w hs => yv_neq rfl rfl) rfl rfl ?_
    refine jg_mv rfl rfl rfl ?_
    refine jg_split 87 rfl ?_ ?_
    · refine jg_skip rfl rfl ?_
      refine jg_skip rfl rfl ?_
      refine jg_y (fun w hs => yv_pick_t rfl rfl) rfl rfl ?_
      refine jg_mv rfl rfl rfl ?_
      refine jg_skip rfl rfl ?_
      refine jg_skip rfl rfl ?_
      refine jg_skip rfl rfl ?_
      refine jg_skip rfl rfl ?_
      refine jg_skip rfl rfl ?_
      refine jg_skip rfl rfl ?_
      refine jg_y (fun w hs => yv_pick_t rfl rfl) rfl rfl ?_
      refine jg_mv rfl rfl rfl ?_
      refine jg_skip rfl rfl ?_
      refine jg_skip rfl rfl ?_
      refine jg_skip rfl rfl ?_
      refine jg_skip rfl rfl ?_
      refine jg_skip rfl rfl ?_
      refine jg_y (fun w hs => yv_pick_t rfl rfl) rfl rfl ?_
      refine jg_nils [(11, _), (13, _), (105, _)] ⟨rfl, rfl, rfl, trivial⟩ ?_
      refine jk_sn ?_
      refine jn_ct rfl ?_
      refine jn_seq ?_
      refine jn_reg 16 ?_
      refine jg_as rfl rfl rfl ?_
      refine jg_nils [(2, _)] ⟨rfl, trivial⟩ ?_
      refine jk_sel (is := []) (s0 rfl) rfl ?_
      refine jk_sn ?_
      refine jn_ret ?_
      refine jk_sr ?_
      exact jk_ret1 rfl (fun w hs => .tmp rfl) (fun w hs => ⟨rfl, hs.drop⟩)
    refine jg_mv rfl rfl rfl ?_
    refine jg_y (fun w hs => yv_neq rfl rfl) rfl rfl ?_
    refine jg_y (fun w hs => yv_pick_f rfl rfl) rfl rfl ?_
    refine jg_mv rfl rfl rfl ?_
    refine jg_split 91 rfl ?_ ?_
    · refine jg_skip rfl rfl ?_
      refine jg_skip rfl rfl ?_
      refine jg_skip rfl rfl ?_
      refine jg_skip rfl rfl ?_
      refine jg_skip rfl rfl ?_
      refine jg_skip rfl rfl ?_
      refine jg_y (fun w hs => yv_pick_t rfl rfl) rfl rfl ?_
      refine jg_mv rfl rfl rfl ?_
      refine jg_skip rfl rfl ?_
      refine jg_skip rfl rfl ?_
      refine jg_skip rfl rfl ?_
      refine jg_skip rfl rfl ?_
      refine jg_skip rfl rfl ?_
      refine jg_y (fun w hs => yv_pick_t rfl rfl) rfl rfl ?_
      refine jg_nils [(11, _), (13, _), (105, _)] ⟨rfl, rfl, rfl, trivial⟩ ?_
      refine jk_sn ?_
      refine jn_ct rfl ?_
      refine jn_seq ?_
      refine jn_reg 16 ?_
      refine jg_as rfl rfl rfl ?_
      refine jg_nils [(2, _)] ⟨rfl, trivial⟩ ?_
      refine jk_sel (is := []) (s0 rfl) rfl ?_
      refine jk_sn ?_
      refine jn_ret ?_
      refine jk_sr ?_
      exact jk_ret1 rfl (fun w hs => .tmp rfl) (fun w hs => ⟨rfl, hs.drop⟩)
    refine jg_mv rfl rfl rfl ?_
    refine jg_y (fun w hs => yv_ln rfl (hs.row 1 rfl)) rfl rfl ?_
    refine jg_mv rfl rfl rfl ?_
    refine jg_y (fun w hs => yv_ln rfl (hs.row 2 rfl)) rfl rfl ?_
    refine jg_y (fun w hs => yv_add_w rfl rfl) rfl rfl ?_
    refine jg_y (fun w hs => yv_neq rfl rfl) rfl rfl ?_
    refine jg_y (fun w hs => yv_pick_f rfl rfl) rfl rfl ?_
    refine jg_mv rfl rfl rfl ?_
    refine jg_split 99 rfl ?_ ?_
    · refine jg_skip rfl rfl ?_
      refine jg_skip rfl rfl ?_
      refine jg_skip rfl rfl ?_
      refine jg_skip rfl rfl ?_
      refine jg_skip rfl rfl ?_
      refine jg_y (fun w hs => yv_pick_t rfl rfl) rfl rfl ?_
      refine jg_nils [(11, _), (13, _), (105, _)] ⟨rfl, rfl, rfl, trivial⟩ ?_
      refine jk_sn ?_
      refine jn_ct rfl ?_
      refine jn_seq ?_
      refine jn_reg 16 ?_
      refine jg_as rfl rfl rfl ?_
      refine jg_nils [(2, _)] ⟨rfl, trivial⟩ ?_
      refine jk_sel (is := []) (s0 rfl) rfl ?_
      refine jk_sn ?_
      refine jn_ret ?_
      refine jk_sr ?_
      exact jk_ret1 rfl (fun w hs => .tmp rfl) (fun w hs => ⟨rfl, hs.drop⟩)
    refine jg_mv rfl rfl rfl ?_
    refine jg_y (fun w hs => yv_ln rfl (hs.row 0 rfl)) rfl rfl ?_
    refine jg_mv rfl rfl rfl ?_
    refine jg_y (fun w hs => yv_ln rfl (hs.row 1 rfl)) rfl rfl ?_
    refine jg_y (fun w hs => yv_neq rfl rfl) rfl rfl ?_
    refine jg_y (fun w hs => yv_pick_f rfl rfl) rfl rfl ?_
    refine jg_nils [(11, _), (13, _), (105, _)] ⟨rfl, rfl, rfl, trivial⟩ ?_
    refine jk_sn ?_
    refine jn_cond rfl ?_ ?_
    · refine jn_seq ?_
      refine jn_reg 16 ?_
      refine jg_as rfl rfl rfl ?_
      refine jg_nils [(2, _)] ⟨rfl, trivial⟩ ?_
      refine jk_sel (is := []) (s0 rfl) rfl ?_
      refine jk_sn ?_
      refine jn_ret ?_
      refine jk_sr ?_
      exact jk_ret1 rfl (fun w hs => .tmp rfl) (fun w hs => ⟨rfl, hs.drop⟩)
    refine jn_skip ?_
    refine jk_sn ?_
    refine jn_seq ?_
    refine jn_seq ?_
    refine jn_reg 17 ?_
    refine jg_mv rfl rfl rfl ?_
    refine jg_y (fun w hs => yv_ln rfl (hs.row 1 rfl)) rfl rfl ?_
    refine jg_mv rfl rfl rfl ?_
    refine jg_nils [(11, _), (13, _), (107, _), (108, _)] ⟨rfl, rfl, rfl, rfl, trivial⟩ ?_
    refine jk_sn ?_
    refine jn_block ?_
    refine jn_lp (n := big) (fun (s : Int) (g : Unit) => [(11, q197.v), (13, q199.v), (107, .int .i64 (v196.1.length : Int)), (108, .int .i64 s)]) (fun (s : Int) (g : Unit) => []) (fun (s : Int) (g : Unit) => [(rowH q197 43 6 Passage.enc v196.1), (rowH q199 43 6 Passage.enc v198.1)]) 0 () [1, 0] ⟨rfl, rfl, rfl, rfl, trivial⟩ rfl rfl rfl ?_
    intro z200 q201 n204 k202 H203
    refine jn_seq ?_
    refine jn_reg 18 ?_
    refine jg_y (fun w hs => yv_lss rfl rfl) rfl rfl ?_
    refine jg_nils [(11, _), (13, _), (107, _), (108, _), (109, _)] ⟨rfl, rfl, rfl, rfl, rfl, trivial⟩ ?_
    refine jk_sn ?_
    refine jn_seq ?_
    refine jn_cond rfl ?_ ?_
    rotate_left
    · refine jn_exit ?_
      refine jk_se (jk_le (jk_bh (jk_sn ?_)))
      refine jn_seq ?_
      refine jn_reg 28 ?_
      refine jg_c0 rfl (fun v w hs hm => law20_sane_c hm ) rfl rfl fun v241 => ?_
      refine jg_as rfl rfl rfl ?_
      refine jg_nils [(2, _)] ⟨rfl, trivial⟩ ?_
      refine jk_sel (is := []) (s0 rfl) rfl ?_
      refine jk_sn ?_
      refine jn_ret ?_
      exact jk_ret1 rfl (fun w hs => .tmp rfl) (fun w hs => ⟨rfl, hs.drop⟩)
    refine jn_skip ?_
    refine jk_sn ?_
    refine jn_seq ?_
    refine jn_block ?_
    refine jn_seq ?_
    refine jn_reg 19 ?_
    refine jg_mv rfl rfl rfl ?_
    refine jg_as rfl rfl rfl ?_
    refine jg_nils [(11, _), (13, _), (15, _), (107, _), (108, _)] ⟨rfl, rfl, rfl, rfl, rfl, trivial⟩ ?_
    refine jk_sn ?_
    refine jn_join (fun (s : Unit) (g : Unit) => [(11, q197.v), (13, q199.v), (15, .int .i64 z200), (107, .int .i64 (v196.1.length : Int)), (108, .int .i64 z200)]) (fun (s : Unit) (g : Unit) => []) (fun (s : Unit) (g : Unit) => [(rowH q197 43 6 Passage.enc v196.1), (rowH q199 43 6 Passage.enc v198.1)]) ?_ ?_
    · intro z205 q206
      refine jn_seq ?_
      refine jn_seq ?_
      refine jn_reg 22 ?_
      refine jg_mv rfl rfl rfl ?_
      refine jg_mv rfl rfl rfl ?_
      refine jg_ix fun x209 h210 => ?_
      refine jg_y (fun w hs => yv_ix rfl rfl (hs.row 1 rfl) h210) rfl rfl ?_
      refine jg_y (fun w hs => yv_ef rfl (hs.row 1 rfl) h210.1) rfl rfl ?_
      refine jg_y (fun w hs => yv_e1 rfl (hs.row 1 rfl) h210.1 rfl) rfl rfl ?_
      refine jg_nils [(11, _), (13, _), (15, _), (107, _), (108, _), (151, _)] ⟨rfl, rfl, rfl, rfl, rfl, rfl, trivial⟩ ?_
      refine jk_sn ?_
      refine jn_cond rfl ?_ ?_
      · refine jn_seq ?_
        refine jn_seq ?_
        refine jn_reg 23 ?_
        refine jg_mv rfl rfl rfl ?_
        refine jg_mv rfl rfl rfl ?_
        refine jg_ix fun x211 h212 => ?_
        refine jg_y (fun w hs => yv_ix rfl rfl (hs.row 0 rfl) h212) rfl rfl ?_
        refine jg_y (fun w hs => yv_ef rfl (hs.row 0 rfl) h212.1) rfl rfl ?_
        refine jg_y (fun w hs => yv_e1 rfl (hs.row 0 rfl) h212.1 rfl) rfl rfl ?_
        refine jg_y (fun w hs => yv_not rfl) rfl rfl ?_
        refine jg_mv rfl rfl rfl ?_
        refine jg_split 158 rfl ?_ ?_
        rotate_left
        · refine jg_skip rfl rfl ?_
          refine jg_skip rfl rfl ?_
          refine jg_skip rfl rfl ?_
          refine jg_skip rfl rfl ?_
          refine jg_skip rfl rfl ?_
          refine jg_skip rfl rfl ?_
          refine jg_y (fun w hs => yv_pick_f rfl rfl) rfl rfl ?_
          refine jg_nils [(11, _), (13, _), (107, _), (108, _), (165, _)] ⟨rfl, rfl, rfl, rfl, rfl, trivial⟩ ?_
          refine jk_sn ?_
          refine jn_cf rfl ?_
          refine jn_skip ?_
          refine jk_sn ?_
          refine jn_exit ?_
          refine jk_se (jk_bh (jk_sn ?_))
          refine jn_reg 27 ?_
          refine jg_y (fun w hs => yv_add_w rfl rfl) rfl rfl ?_
          refine jg_mv rfl rfl rfl ?_
          refine jg_nils [(11, _), (13, _), (107, _), (108, _)] ⟨rfl, rfl, rfl, rfl, trivial⟩ ?_
          exact jk_use H203 (w64 (z200 + 1)) () [0, 1] ⟨rfl, rfl, rfl, rfl, trivial⟩ rfl rfl rfl
        refine jg_mv rfl rfl rfl ?_
        refine jg_mv rfl rfl rfl ?_
        refine jg_ix fun x213 h214 => ?_
        refine jg_y (fun w hs => yv_ix rfl rfl (hs.row 0 rfl) h214) rfl rfl ?_
        refine jg_y (fun w hs => yv_ef rfl (hs.row 0 rfl) h214.1) rfl rfl ?_
        refine jg_y (fun w hs => yv_e1 rfl (hs.row 0 rfl) h214.1 rfl) rfl rfl ?_
        refine jg_y (fun w hs => yv_not rfl) rfl rfl ?_
        refine jg_y (fun w hs => yv_pick_t rfl rfl) rfl rfl ?_
        refine jg_nils [(11, _), (13, _), (107, _), (108, _), (165, _)] ⟨rfl, rfl, rfl, rfl, rfl, trivial⟩ ?_
        refine jk_sn ?_
        refine jn_cond rfl ?_ ?_
        · refine jn_seq ?_
          refine jn_reg 24 ?_
          refine jg_as rfl rfl rfl ?_
          refine jg_nils [(2, _)] ⟨rfl, trivial⟩ ?_
          refine jk_sel (is := []) (s0 rfl) rfl ?_
          refine jk_sn ?_
          refine jn_ret ?_
          refine jk_sr (jk_sr (jk_br (jk_sr (jk_lr (jk_br (jk_sr ?_))))))
          exact jk_ret1 rfl (fun w hs => .tmp rfl) (fun w hs => ⟨rfl, hs.drop⟩)
        refine jn_skip ?_
        refine jk_sn ?_
        refine jn_exit ?_
        refine jk_se (jk_bh (jk_sn ?_))
        refine jn_reg 27 ?_
        refine jg_y (fun w hs => yv_add_w rfl rfl) rfl rfl ?_
        refine jg_mv rfl rfl rfl ?_
        refine jg_nils [(11, _), (13, _), (107, _), (108, _)] ⟨rfl, rfl, rfl, rfl, trivial⟩ ?_
        exact jk_use H203 (w64 (z200 + 1)) () [0, 1] ⟨rfl, rfl, rfl, rfl, trivial⟩ rfl rfl rfl
      refine jn_skip ?_
      refine jk_sn ?_
      refine jn_seq ?_
      refine jn_draw (L' := [_, _]) 25 [0, 1] [0, 1, 2, 3, 4, 5, 6, 7, 8, 9, 10, 11, 12, 13, 14, 15, 16, 17, 18, 19, 20, 21, 22, 23, 24, 25] 67108863 67108863 [0, 0, 3, 4, 8, 0, 0, 96, 128, 256, 528, 1024, 3072, 4096, 4096, 28672, 36864, 69632, 4096, 4096, 790528, 1052672, 2101248, 4329472, 8392704, 16781312] [0, 0, 3, 7, 15, 0, 0, 96, 224, 480, 1023, 2047, 4095, 8191, 8191, 32767, 65535, 131071, 8191, 8191, 794623, 1843199, 3940351, 8388607, 16777215, 33554431] [(0, true), (1, true), (2, true), (3, true), (4, true), (5, true), (6, true), (7, true), (8, true), (9, true), (10, true), (11, true), (12, true), (13, true), (14, true), (15, true), (16, true), (17, true), (18, true), (19, true), (20, true), (21, true), (22, true), (23, true), (24, true), (25, true)] rfl (np_seq (np_blk (np_seq (np_rnd (np_blk (np_seq np_rt)))))) (by kernel_rfl) (by kernel_rfl) (by kernel_rfl) (by kernel_rfl) (by kernel_rfl) (by kernel_rfl) (by kernel_rfl) (by kernel_rfl) ?_
      refine jd_mv rfl rfl rfl rfl ?_
      refine jd_mv rfl rfl rfl rfl ?_
      refine jd_ix fun x215 h216 => ?_
      refine jd_y rfl (fun w hs => yv_ix rfl rfl (hs.row 1 rfl) h216) rfl rfl ?_
      refine jd_y rfl (fun w hs => yv_ef rfl (hs.row 1 rfl) h216.1) rfl rfl ?_
      refine jd_y rfl (fun w hs => yv_eS rfl (hs.row 1 rfl) h216.1 (l2 rfl) rfl) rfl rfl ?_
      refine jd_mv rfl rfl rfl rfl ?_
      refine jd_mv rfl rfl rfl rfl ?_
      refine jd_ix fun x217 h218 => ?_
      refine jd_y rfl (fun w hs => yv_ix rfl rfl (hs.row 0 rfl) h218) rfl rfl ?_
      refine jd_y rfl (fun w hs => yv_ef rfl (hs.row 0 rfl) h218.1) rfl rfl ?_
      refine jd_y rfl (fun w hs => yv_eS rfl (hs.row 0 rfl) h218.1 (l2 rfl) rfl) rfl rfl ?_
      refine jd_c0 rfl rfl (fun v w hs hm => interval_Within_c (a0 := x215.Time) (a1 := x217.Time) hm ) rfl rfl fun v219 => ?_
      refine jd_y rfl (fun w hs => yv_not rfl) rfl rfl ?_
      refine jd_mv rfl rfl rfl rfl ?_
      refine jd_split 178 rfl ?_ ?_
      · refine jd_skip rfl rfl rfl ?_
        refine jd_skip rfl rfl rfl ?_
        refine jd_skip rfl rfl rfl ?_
        refine jd_skip rfl rfl rfl ?_
        refine jd_skip rfl rfl rfl ?_
        refine jd_skip rfl rfl rfl ?_
        refine jd_skip rfl rfl rfl ?_
        refine jd_skip rfl rfl rfl ?_
        refine jd_skip rfl rfl rfl ?_
        refine jd_skip rfl rfl rfl ?_
        refine jd_skip rfl rfl rfl ?_
        refine jd_skip rfl rfl rfl ?_
        refine jd_y rfl (fun w hs => yv_pick_t rfl rfl) rfl rfl ?_
        refine jd_nils [(11, _), (13, _), (107, _), (108, _), (191, _)] ⟨rfl, rfl, rfl, rfl, rfl, trivial⟩ ?_
        refine jk_sn ?_
        refine jn_ct rfl ?_
        refine jn_seq ?_
        refine jn_reg 26 ?_
        refine jg_as rfl rfl rfl ?_
        refine jg_nils [(2, _)] ⟨rfl, trivial⟩ ?_
        refine jk_sel (is := []) (s0 rfl) rfl ?_
        refine jk_sn ?_
        refine jn_ret ?_
        refine jk_br (jk_sr (jk_lr (jk_br (jk_sr ?_))))
        exact jk_ret1 rfl (fun w hs => .tmp rfl) (fun w hs => ⟨rfl, hs.drop⟩)
      refine jd_mv rfl rfl rfl rfl ?_
      refine jd_mv rfl rfl rfl rfl ?_
      refine jd_ix fun x220 h221 => ?_
      refine jd_y rfl (fun w hs => yv_ix rfl rfl (hs.row 1 rfl) h221) rfl rfl ?_
      refine jd_y rfl (fun w hs => yv_ef rfl (hs.row 1 rfl) h221.1) rfl rfl ?_
      refine jd_y rfl (fun w hs => yv_eS rfl (hs.row 1 rfl) h221.1 (l2 rfl) rfl) rfl rfl ?_
      refine jd_mv rfl rfl rfl rfl ?_
      refine jd_mv rfl rfl rfl rfl ?_
      refine jd_ix fun x222 h223 => ?_
      refine jd_y rfl (fun w hs => yv_ix rfl rfl (hs.row 0 rfl) h223) rfl rfl ?_
      refine jd_y rfl (fun w hs => yv_ef rfl (hs.row 0 rfl) h223.1) rfl rfl ?_
      refine jd_y rfl (fun w hs => yv_eS rfl (hs.row 0 rfl) h223.1 (l2 rfl) rfl) rfl rfl ?_
      refine jd_c0 rfl rfl (fun v w hs hm => interval_Within_c (a0 := x220.Energy) (a1 := x222.Energy) hm ) rfl rfl fun v224 => ?_
      refine jd_y rfl (fun w hs => yv_not rfl) rfl rfl ?_
      refine jd_y rfl (fun w hs => yv_pick_f rfl rfl) rfl rfl ?_
      refine jd_nils [(11, _), (13, _), (107, _), (108, _), (191, _)] ⟨rfl, rfl, rfl, rfl, rfl, trivial⟩ ?_
      refine jk_sn ?_
      refine jn_cond rfl ?_ ?_
      rotate_left
      · refine jn_skip ?_
        refine jk_bn (jk_sn ?_)
        refine jn_reg 27 ?_
        refine jg_y (fun w hs => yv_add_w rfl rfl) rfl rfl ?_
        refine jg_mv rfl rfl rfl ?_
        refine jg_nils [(11, _), (13, _), (107, _), (108, _)] ⟨rfl, rfl, rfl, rfl, trivial⟩ ?_
        exact jk_use H203 (w64 (z200 + 1)) () [0, 1] ⟨rfl, rfl, rfl, rfl, trivial⟩ rfl rfl rfl
      refine jn_seq ?_
      refine jn_reg 26 ?_
      refine jg_as rfl rfl rfl ?_
      refine jg_nils [(2, _)] ⟨rfl, trivial⟩ ?_
      refine jk_sel (is := []) (s0 rfl) rfl ?_
      refine jk_sn ?_
      refine jn_ret ?_
      refine jk_br (jk_sr (jk_lr (jk_br (jk_sr ?_))))
      exact jk_ret1 rfl (fun w hs => .tmp rfl) (fun w hs => ⟨rfl, hs.drop⟩)
    intro k207 H208
    refine jn_seq ?_
    refine jn_reg 20 ?_
    refine jg_mv rfl rfl rfl ?_
    refine jg_mv rfl rfl rfl ?_
    refine jg_ix fun x225 h226 => ?_
    refine jg_y (fun w hs => yv_ix rfl rfl (hs.row 0 rfl) h226) rfl rfl ?_
    refine jg_y (fun w hs => yv_ef rfl (hs.row 0 rfl) h226.1) rfl rfl ?_
    refine jg_y (fun w hs => yv_e1 rfl (hs.row 0 rfl) h226.1 rfl) rfl rfl ?_
    refine jg_mv rfl rfl rfl ?_
    refine jg_split 116 rfl ?_ ?_
    rotate_left
    · refine jg_skip rfl rfl ?_
      refine jg_skip rfl rfl ?_
      refine jg_skip rfl rfl ?_
      refine jg_skip rfl rfl ?_
      refine jg_skip rfl rfl ?_
      refine jg_skip rfl rfl ?_
      refine jg_y (fun w hs => yv_pick_f rfl rfl) rfl rfl ?_
      refine jg_mv rfl rfl rfl ?_
      refine jg_mv rfl rfl rfl ?_
      refine jg_mv rfl rfl rfl ?_
      refine jg_ix fun x235 h236 => ?_
      refine jg_y (fun w hs => yv_ix rfl rfl (hs.row 1 rfl) h236) rfl rfl ?_
      refine jg_y (fun w hs => yv_ef rfl (hs.row 1 rfl) h236.1) rfl rfl ?_
      refine jg_y (fun w hs => yv_e1 rfl (hs.row 1 rfl) h236.1 rfl) rfl rfl ?_
      refine jg_mv rfl rfl rfl ?_
      refine jg_split 130 rfl ?_ ?_
      rotate_left
      · refine jg_skip rfl rfl ?_
        refine jg_skip rfl rfl ?_
        refine jg_skip rfl rfl ?_
        refine jg_skip rfl rfl ?_
        refine jg_skip rfl rfl ?_
        refine jg_skip rfl rfl ?_
        refine jg_y (fun w hs => yv_pick_f rfl rfl) rfl rfl ?_
        refine jg_mv rfl rfl rfl ?_
        refine jg_skip rfl rfl ?_
        refine jg_skip rfl rfl ?_
        refine jg_skip rfl rfl ?_
        refine jg_skip rfl rfl ?_
        refine jg_skip rfl rfl ?_
        refine jg_skip rfl rfl ?_
        refine jg_y (fun w hs => yv_pick_f rfl rfl) rfl rfl ?_
        refine jg_y (fun w hs => yv_pick_f rfl rfl) rfl rfl ?_
        refine jg_nils [(11, _), (13, _), (15, _), (107, _), (108, _), (146, _)] ⟨rfl, rfl, rfl, rfl, rfl, rfl, trivial⟩ ?_
        refine jk_sn ?_
        refine jn_cf rfl ?_
        refine jn_skip ?_
        exact jk_use H208 () () [0, 1] ⟨rfl, rfl, rfl, rfl, rfl, trivial⟩ rfl rfl rfl
      refine jg_mv rfl rfl rfl ?_
      refine jg_mv rfl rfl rfl ?_
      refine jg_ix fun x237 h238 => ?_
      refine jg_y (fun w hs => yv_ix rfl rfl (hs.row 0 rfl) h238) rfl rfl ?_
      refine jg_y (fun w hs => yv_ef rfl (hs.row 0 rfl) h238.1) rfl rfl ?_
      refine jg_y (fun w hs => yv_e1 rfl (hs.row 0 rfl) h238.1 rfl) rfl rfl ?_
      refine jg_y (fun w hs => yv_not rfl) rfl rfl ?_
      refine jg_y (fun w hs => yv_pick_t rfl rfl) rfl rfl ?_
      refine jg_mv rfl rfl rfl ?_
      refine jg_split 138 rfl ?_ ?_
      rotate_left
      · refine jg_skip rfl rfl ?_
        refine jg_skip rfl rfl ?_
        refine jg_skip rfl rfl ?_
        refine jg_skip rfl rfl ?_
        refine jg_skip rfl rfl ?_
        refine jg_skip rfl rfl ?_
        refine jg_y (fun w hs => yv_pick_f rfl rfl) rfl rfl ?_
        refine jg_y (fun w hs => yv_pick_f rfl rfl) rfl rfl ?_
        refine jg_nils [(11, _), (13, _), (15, _), (107, _), (108, _), (146, _)] ⟨rfl, rfl, rfl, rfl, rfl, rfl, trivial⟩ ?_
        refine jk_sn ?_
        refine jn_cf rfl ?_
        refine jn_skip ?_
        exact jk_use H208 () () [0, 1] ⟨rfl, rfl, rfl, rfl, rfl, trivial⟩ rfl rfl rfl
      refine jg_mv rfl rfl rfl ?_
      refine jg_mv rfl rfl rfl ?_
      refine jg_ix fun x239 h240 => ?_
      refine jg_y (fun w hs => yv_ix rfl rfl (hs.row 0 rfl) h240) rfl rfl ?_
      refine jg_y (fun w hs => yv_ef rfl (hs.row 0 rfl) h240.1) rfl rfl ?_
      refine jg_y (fun w hs => yv_e1 rfl (hs.row 0 rfl) h240.1 rfl) rfl rfl ?_
      refine jg_y (fun w hs => yv_not rfl) rfl rfl ?_
      refine jg_y (fun w hs => yv_pick_t rfl rfl) rfl rfl ?_
      refine jg_y (fun w hs => yv_pick_f rfl rfl) rfl rfl ?_
      refine jg_nils [(11, _), (13, _), (15, _), (107, _), (108, _), (146, _)] ⟨rfl, rfl, rfl, rfl, rfl, rfl, trivial⟩ ?_
      refine jk_sn ?_
      refine jn_cond rfl ?_ ?_
      rotate_left
      · refine jn_skip ?_
        exact jk_use H208 () () [0, 1] ⟨rfl, rfl, rfl, rfl, rfl, trivial⟩ rfl rfl rfl
      refine jn_seq ?_
      refine jn_reg 21 ?_
      refine jg_as rfl rfl rfl ?_
      refine jg_nils [(2, _)] ⟨rfl, trivial⟩ ?_
      refine jk_sel (is := []) (s0 rfl) rfl ?_
      refine jk_sn ?_
      refine jn_ret ?_
      refine jk_sr (jk_br (jk_sr (jk_lr (jk_br (jk_sr ?_)))))
      exact jk_ret1 rfl (fun w hs => .tmp rfl) (fun w hs => ⟨rfl, hs.drop⟩)
    refine jg_mv rfl rfl rfl ?_
    refine jg_mv rfl rfl rfl ?_
    refine jg_ix fun x227 h228 => ?_
    refine jg_y (fun w hs => yv_ix rfl rfl (hs.row 1 rfl) h228) rfl rfl ?_
    refine jg_y (fun w hs => yv_ef rfl (hs.row 1 rfl) h228.1) rfl rfl ?_
    refine jg_y (fun w hs => yv_e1 rfl (hs.row 1 rfl) h228.1 rfl) rfl rfl ?_
    refine jg_y (fun w hs => yv_not rfl) rfl rfl ?_
    refine jg_y (fun w hs => yv_pick_t rfl rfl) rfl rfl ?_
    refine jg_mv rfl rfl rfl ?_
    refine jg_split 124 rfl ?_ ?_
    · refine jg_skip rfl rfl ?_
      refine jg_skip rfl rfl ?_
      refine jg_skip rfl rfl ?_
      refine jg_skip rfl rfl ?_
      refine jg_skip rfl rfl ?_
      refine jg_skip rfl rfl ?_
      refine jg_skip rfl rfl ?_
      refine jg_skip rfl rfl ?_
      refine jg_skip rfl rfl ?_
      refine jg_skip rfl rfl ?_
      refine jg_skip rfl rfl ?_
      refine jg_skip rfl rfl ?_
      refine jg_skip rfl rfl ?_
      refine jg_skip rfl rfl ?_
      refine jg_skip rfl rfl ?_
      refine jg_skip rfl rfl ?_
      refine jg_skip rfl rfl ?_
      refine jg_skip rfl rfl ?_
      refine jg_skip rfl rfl ?_
      refine jg_skip rfl rfl ?_
      refine jg_skip rfl rfl ?_
      refine jg_y (fun w hs => yv_pick_t rfl rfl) rfl rfl ?_
      refine jg_nils [(11, _), (13, _), (15, _), (107, _), (108, _), (146, _)] ⟨rfl, rfl, rfl, rfl, rfl, rfl, trivial⟩ ?_
      refine jk_sn ?_
      refine jn_ct rfl ?_
      refine jn_seq ?_
      refine jn_reg 21 ?_
      refine jg_as rfl rfl rfl ?_
      refine jg_nils [(2, _)] ⟨rfl, trivial⟩ ?_
      refine jk_sel (is := []) (s0 rfl) rfl ?_
      refine jk_sn ?_
      refine jn_ret ?_
      refine jk_sr (jk_br (jk_sr (jk_lr (jk_br (jk_sr ?_)))))
      exact jk_ret1 rfl (fun w hs => .tmp rfl) (fun w hs => ⟨rfl, hs.drop⟩)
    refine jg_mv rfl rfl rfl ?_
    refine jg_mv rfl rfl rfl ?_
    refine jg_ix fun x229 h230 => ?_
    refine jg_y (fun w hs => yv_ix rfl rfl (hs.row 1 rfl) h230) rfl rfl ?_
    refine jg_y (fun w hs => yv_ef rfl (hs.row 1 rfl) h230.1) rfl rfl ?_
    refine jg_y (fun w hs => yv_e1 rfl (hs.row 1 rfl) h230.1 rfl) rfl rfl ?_
    refine jg_mv rfl rfl rfl ?_
    refine jg_split 130 rfl ?_ ?_
    rotate_left
    · refine jg_skip rfl rfl ?_
      refine jg_skip rfl rfl ?_
      refine jg_skip rfl rfl ?_
      refine jg_skip rfl rfl ?_
      refine jg_skip rfl rfl ?_
      refine jg_skip rfl rfl ?_
      refine jg_y (fun w hs => yv_pick_f rfl rfl) rfl rfl ?_
      refine jg_mv rfl rfl rfl ?_
      refine jg_skip rfl rfl ?_
      refine jg_skip rfl rfl ?_
      refine jg_skip rfl rfl ?_
      refine jg_skip rfl rfl ?_
      refine jg_skip rfl rfl ?_
      refine jg_skip rfl rfl ?_
      refine jg_y (fun w hs => yv_pick_f rfl rfl) rfl rfl ?_
      refine jg_y (fun w hs => yv_pick_f rfl rfl) rfl rfl ?_
      refine jg_nils [(11, _), (13, _), (15, _), (107, _), (108, _), (146, _)] ⟨rfl, rfl, rfl, rfl, rfl, rfl, trivial⟩ ?_
      refine jk_sn ?_
      refine jn_cf rfl ?_
      refine jn_skip ?_
      exact jk_use H208 () () [0, 1] ⟨rfl, rfl, rfl, rfl, rfl, trivial⟩ rfl rfl rfl
    refine jg_mv rfl rfl rfl ?_
    refine jg_mv rfl rfl rfl ?_
    refine jg_ix fun x231 h232 => ?_
    refine jg_y (fun w hs => yv_ix rfl rfl (hs.row 0 rfl) h232) rfl rfl ?_
    refine jg_y (fun w hs => yv_ef rfl (hs.row 0 rfl) h232.1) rfl rfl ?_
    refine jg_y (fun w hs => yv_e1 rfl (hs.row 0 rfl) h232.1 rfl) rfl rfl ?_
    refine jg_y (fun w hs => yv_not rfl) rfl rfl ?_
    refine jg_y (fun w hs => yv_pick_t rfl rfl) rfl rfl ?_
    refine jg_mv rfl rfl rfl ?_
    refine jg_split 138 rfl ?_ ?_
    rotate_left
    · refine jg_skip rfl rfl ?_
      refine jg_skip rfl rfl ?_
      refine jg_skip rfl rfl ?_
      refine jg_skip rfl rfl ?_
      refine jg_skip rfl rfl ?_
      refine jg_skip rfl rfl ?_
      refine jg_y (fun w hs => yv_pick_f rfl rfl) rfl rfl ?_
      refine jg_y (fun w hs => yv_pick_f rfl rfl) rfl rfl ?_
      refine jg_nils [(11, _), (13, _), (15, _), (107, _), (108, _), (146, _)] ⟨rfl, rfl, rfl, rfl, rfl, rfl, trivial⟩ ?_
      refine jk_sn ?_
      refine jn_cf rfl ?_
      refine jn_skip ?_
      exact jk_use H208 () () [0, 1] ⟨rfl, rfl, rfl, rfl, rfl, trivial⟩ rfl rfl rfl
    refine jg_mv rfl rfl rfl ?_
    refine jg_mv rfl rfl rfl ?_
    refine jg_ix fun x233 h234 => ?_
    refine jg_y (fun w hs => yv_ix rfl rfl (hs.row 0 rfl) h234) rfl rfl ?_
    refine jg_y (fun w hs => yv_ef rfl (hs.row 0 rfl) h234.1) rfl rfl ?_
    refine jg_y (fun w hs => yv_e1 rfl (hs.row 0 rfl) h234.1 rfl) rfl rfl ?_
    refine jg_y (fun w hs => yv_not rfl) rfl rfl ?_
    refine jg_y (fun w hs => yv_pick_t rfl rfl) rfl rfl ?_
    refine jg_y (fun w hs => yv_pick_f rfl rfl) rfl rfl ?_
    refine jg_nils [(11, _), (13, _), (15, _), (107, _), (108, _), (146, _)] ⟨rfl, rfl, rfl, rfl, rfl, rfl, trivial⟩ ?_
    refine jk_sn ?_
    refine jn_cond rfl ?_ ?_
    rotate_left
    · refine jn_skip ?_
      exact jk_use H208 () () [0, 1] ⟨rfl, rfl, rfl, rfl, rfl, trivial⟩ rfl rfl rfl
    refine jn_seq ?_
    refine jn_reg 21 ?_
    refine jg_as rfl rfl rfl ?_
    refine jg_nils [(2, _)] ⟨rfl, trivial⟩ ?_
    refine jk_sel (is := []) (s0 rfl) rfl ?_
    refine jk_sn ?_
    refine jn_ret ?_
    refine jk_sr (jk_br (jk_sr (jk_lr (jk_br (jk_sr ?_)))))
    exact jk_ret1 rfl (fun w hs => .tmp rfl) (fun w hs => ⟨rfl, hs.drop⟩)
  refine jg_alloc (l5 rfl) rfl rfl fun g148 => ?_
  refine jg_nil ?_
  refine jk_xn [1, 2, 3, 4] rfl ?_
  refine jx1 (i := 3) (by kernel_rfl) (by kernel_rfl) rfl ?_
  refine jl_c 5 rfl rfl (fun v w hs hm => gen_Maker_From_c hm (hs.blkL (i := 5) rfl) (hs.arg Rha0) (hs.offAL 5 Rha0 rfl)) (fun _ => rfl) rfl rfl fun v68 q69 => ?_
  refine jg_L (r6 rfl) ?_
  refine jg_nil ?_
  refine jk_xn [1, 2, 3, 4] rfl ?_
  refine jx_lin [1, 2, 3, 4] 255 255 1 [0, 0, 2, 7, 0, 16, 63, 0, 255] [(6, true)] rfl (np_seq np_rt) (by kernel_rfl) (by kernel_rfl) (by kernel_rfl) (by kernel_rfl) (by kernel_rfl) (by kernel_rfl) (by kernel_rfl) (by kernel_rfl) ?_
  refine jd_y rfl (fun w hs => yv_build rfl (o5 rfl)) rfl rfl ?_
  refine jd_x ?_
  refine jx1 (i := 8) (by kernel_rfl) (by kernel_rfl) rfl ?_
  refine jg_store 0 rfl rfl rfl (l5 rfl) rfl rfl rfl rfl (l5 rfl) (r6 rfl) ?_
  refine jg_nil ?_
  refine jk_xf rfl ?_
  refine jx0 [(3, _), (4, _), (5, _), (6, _)] ⟨rfl, rfl, rfl, rfl, trivial⟩ (by kernel_rfl) (by kernel_rfl) ?_
  refine jk_sn ?_
  refine jn_seq ?_
  refine jn_reg 5 ?_
  refine jg_mv rfl rfl rfl ?_
  refine jg_y (fun w hs => yv_fieldAddr rfl) rfl rfl ?_
  refine jg_y (fun w hs => yv_fieldAddr rfl) rfl rfl ?_
  refine jg_y (fun w hs => yv_load rfl (ld1B (hs.blkL (i := 1) rfl) rfl)) rfl rfl ?_
  refine jg_y (fun w hs => yv_fieldAddr rfl) rfl rfl ?_
  refine jg_y (fun w hs => yv_fieldAddr rfl) rfl rfl ?_
  refine jg_y (fun w hs => yv_load rfl (ld1B (hs.blkL (i := 1) rfl) rfl)) rfl rfl ?_
  refine jl_c 5 rfl rfl (fun v w hs hm => gen_Maker_From_c hm (hs.blkL (i := 5) rfl) (hs.arg Rha0) (hs.offAL 5 Rha0 rfl)) (fun _ => rfl) rfl rfl fun v188 q189 => ?_
  refine jg_L (r6 rfl) ?_
  refine jg_as rfl rfl rfl ?_
  refine jg_nils [(3, _), (4, _), (5, _), (6, _), (7, _)] ⟨rfl, rfl, rfl, rfl, rfl, trivial⟩ ?_
  refine jk_sn ?_
  refine jn_seq ?_
  refine jn_reg 6 ?_
  refine jg_mv rfl rfl rfl ?_
  refine jg_mv rfl rfl rfl ?_
  refine jg_mv rfl rfl rfl ?_
  refine jg_y (fun w hs => yv_fieldAddr rfl) rfl rfl ?_
  refine jg_y (fun w hs => yv_fieldAddr rfl) rfl rfl ?_
  refine jg_y (fun w hs => yv_load rfl (ld1B (hs.blkL (i := 1) rfl) rfl)) rfl rfl ?_
  refine jl_c 5 rfl rfl (fun v w hs hm => gen_Maker_From_c hm (hs.blkL (i := 5) rfl) (hs.arg Rha0) (hs.offAL 5 Rha0 rfl)) (fun _ => rfl) rfl rfl fun v190 q191 => ?_
  refine jg_L (r6 rfl) ?_
  refine jg_y (fun w hs => yv_build rfl (o2 rfl)) rfl rfl ?_
  refine jg_y (fun w hs => yv_fieldAddr rfl) rfl rfl ?_
  refine jg_store 0 rfl rfl rfl (l2 rfl) rfl rfl rfl rfl (l5 rfl) (r6 rfl) ?_
  refine jg_nils [(3, _), (4, _), (5, _), (6, _)] ⟨rfl, rfl, rfl, rfl, trivial⟩ ?_
  refine jk_sn ?_
  refine jn_join (fun (s : (List Interval)) (g : Hd) => [(4, q4.v), (5, .pointer (some ⟨g7, 0, none⟩)), (6, .pointer (some ⟨g148, 0, none⟩))]) (fun (s : (List Interval)) (g : Hd) => []) (fun (s : (List Interval)) (g : Hd) => [(rowH q4 32 5 Piece.enc v3.1), (Res.blk g7 28 [.int .i64 v5.1.Speed.Lo, .int .i64 v5.1.Speed.Hi, q6.1.v, .int .i64 v5.1.Error, q6.2.v]), (rowH q6.1 24 2 Interval.enc v5.1.Class), (rowH q6.2 3 1 encI v5.1.Targets), (Res.blk g148 28 [.int .i64 v188.1, .int .i64 v190.1, g.v, .int .i64 v68.1, q6.2.v]), (rowH g 24 2 Interval.enc s)]) ?_ ?_
  rotate_left
  · intro k194 H195
    refine jn_seq ?_
    refine jn_reg 7 ?_
    refine jg_y (fun w hs => yv_fieldAddr rfl) rfl rfl ?_
    refine jg_y (fun w hs => yv_load rfl (ld1B (hs.blkL (i := 1) rfl) rfl)) rfl rfl ?_
    refine jg_y (fun w hs => yv_ln rfl (hs.row 2 rfl)) rfl rfl ?_
    refine jg_mv rfl rfl rfl ?_
    refine jg_nils [(3, _), (4, _), (5, _), (6, _), (48, _), (49, _), (50, _)] ⟨rfl, rfl, rfl, rfl, rfl, rfl, rfl, trivial⟩ ?_
    refine jk_sn ?_
    refine jn_block ?_
    refine jn_addnil 24 2 Interval.enc ?_
    refine jn_lp (n := big) (fun (s : (Int × (List Interval) × Int)) (g : Hd) => [(3, .pointer (some ⟨q2, 0, none⟩)), (4, q4.v), (5, .pointer (some ⟨g7, 0, none⟩)), (6, .pointer (some ⟨g148, 0, none⟩)), (48, q6.1.v), (49, .int .i64 (v5.1.Class.length : Int)), (50, .int .i64 s.2.2)]) (fun (s : (Int × (List Interval) × Int)) (g : Hd) => []) (fun (s : (Int × (List Interval) × Int)) (g : Hd) => [(Res.blk q2 82 [ha0.v, .int .i64 s.1]), (rowH q4 32 5 Piece.enc v3.1), (Res.blk g7 28 [.int .i64 v5.1.Speed.Lo, .int .i64 v5.1.Speed.Hi, q6.1.v, .int .i64 v5.1.Error, q6.2.v]), (rowH q6.1 24 2 Interval.enc v5.1.Class), (rowH q6.2 3 1 encI v5.1.Targets), (Res.blk g148 28 [.int .i64 v188.1, .int .i64 v190.1, g.v, .int .i64 v68.1, q6.2.v]), (rowH g 24 2 Interval.enc s.2.1)]) (v190.2, ([] : List Interval), 0) (Hd.mk none 0 0) [6, 5, 2, 3, 4, 1, 0] ⟨rfl, rfl, rfl, rfl, rfl, rfl, rfl, trivial⟩ rfl rfl rfl ?_
    intro z242 q243 n246 k244 H245
    refine jn_seq ?_
    refine jn_reg 8 ?_
    refine jg_y (fun w hs => yv_lss rfl rfl) rfl rfl ?_
    refine jg_nils [(3, _), (4, _), (5, _), (6, _), (48, _), (49, _), (50, _), (51, _)] ⟨rfl, rfl, rfl, rfl, rfl, rfl, rfl, rfl, trivial⟩ ?_
    refine jk_sn ?_
    refine jn_seq ?_
    refine jn_cond rfl ?_ ?_
    rotate_left
    · refine jn_exit ?_
      refine jk_se (jk_le (jk_bh ?_))
      exact jk_use H195 z242.2.1 q243 [1, 2, 3, 4, 5, 6] ⟨rfl, rfl, rfl, trivial⟩ rfl rfl rfl
    refine jn_skip ?_
    refine jk_sn ?_
    refine jn_seq ?_
    refine jn_block ?_
    refine jn_seq ?_
    refine jn_reg 9 ?_
    refine jg_ix fun x247 h248 => ?_
    refine jg_y (fun w hs => yv_ix rfl rfl (hs.row 3 rfl) h248) rfl rfl ?_
    refine jg_y (fun w hs => yv_eS rfl (hs.row 3 rfl) h248.1 (l2 rfl) rfl) rfl rfl ?_
    refine jg_alloc (l2 rfl) rfl rfl fun g249 => ?_
    refine jg_store 0 rfl rfl rfl (l2 rfl) rfl rfl rfl rfl (l2 rfl) (r8 rfl) ?_
    refine jg_nils [(3, _), (4, _), (5, _), (6, _), (9, _), (48, _), (49, _), (50, _)] ⟨rfl, rfl, rfl, rfl, rfl, rfl, rfl, rfl, trivial⟩ ?_
    refine jk_sn ?_
    refine jn_seq ?_
    refine jn_reg 10 ?_
    refine jg_mv rfl rfl rfl ?_
    refine jg_y (fun w hs => yv_fieldAddr rfl) rfl rfl ?_
    refine jg_y (fun w hs => yv_load rfl (ld1B (hs.blkL (i := 0) rfl) rfl)) rfl rfl ?_
    refine jg_y (fun w hs => yv_fieldAddr rfl) rfl rfl ?_
    refine jg_y (fun w hs => yv_load rfl (ld1B (hs.blkL (i := 0) rfl) rfl)) rfl rfl ?_
    refine jl_c 1 rfl rfl (fun v w hs hm => gen_Maker_From_c hm (hs.blkL (i := 1) rfl) (hs.arg Rha0) (hs.offAL 1 Rha0 rfl)) (fun _ => rfl) rfl rfl fun v250 q251 => ?_
    refine jg_L (r8 rfl) ?_
    refine jg_as rfl rfl rfl ?_
    refine jg_nils [(3, _), (4, _), (5, _), (6, _), (9, _), (10, _), (48, _), (49, _), (50, _)] ⟨rfl, rfl, rfl, rfl, rfl, rfl, rfl, rfl, rfl, trivial⟩ ?_
    refine jk_sn ?_
    refine jn_draw (L' := [_, _, _, _, _, _]) 11 [0, 2, 3, 4, 5, 6] [0, 1, 2, 3, 4, 5, 6, 7, 8, 9, 10, 11] 4095 8191 [0, 1, 0, 0, 0, 0, 32, 88, 132, 256, 642, 2047, 4095] [0, 1, 0, 0, 0, 0, 32, 120, 252, 508, 1023, 2047, 4095] [(0, true), (1, true), (2, true), (3, true), (4, true), (5, true), (6, true), (7, false), (8, true), (9, false), (10, false), (11, true), (12, false)] rfl (np_blk (np_seq (np_rnd (np_blk (np_seq np_rt))))) (by kernel_rfl) (by kernel_rfl) (by kernel_rfl) (by kernel_rfl) (by kernel_rfl) (by kernel_rfl) (by kernel_rfl) (by kernel_rfl) ?_
    refine jd_y rfl (fun w hs => yv_fieldAddr rfl) rfl rfl ?_
    refine jd_y rfl (fun w hs => yv_load rfl (ld1B (hs.blk (i := 5) rfl) rfl)) rfl rfl ?_
    refine jd_mv rfl rfl rfl rfl ?_
    refine jd_mv rfl rfl rfl rfl ?_
    refine jd_mv rfl rfl rfl rfl ?_
    refine jd_y rfl (fun w hs => yv_fieldAddr rfl) rfl rfl ?_
    refine jd_y rfl (fun w hs => yv_load rfl (ld1B (hs.blk (i := 0) rfl) rfl)) rfl rfl ?_
    refine jd_h rfl ?_
    refine jl_c 1 rfl rfl (fun v w hs hm => gen_Maker_From_c hm (hs.blkL (i := 1) rfl) (hs.arg Rha0) (hs.offAL 1 Rha0 rfl)) (fun _ => rfl) rfl rfl fun v252 q253 => ?_
    refine jg_L (r8 rfl) ?_
    refine jg_nil ?_
    refine jk_dn [0, 2, 3, 4, 5, 6] rfl ?_
    refine jd_y rfl (fun w hs => yv_build rfl (o2 rfl)) rfl rfl ?_
    refine jd_h rfl ?_
    refine jg_lit (enc := Interval.enc) [(Interval.mk v250.1 v252.1)] rfl rfl rfl rfl rfl rfl rfl rfl fun hd254 => ?_
    refine jg_nil ?_
    refine jk_dn [1, 3, 4, 5, 6, 7] rfl ?_
    refine jd_h rfl ?_
    refine jg_append 8 rfl rfl rfl (fun w hs => (hs.row 0 rfl)) rfl rfl rfl fun y255 hd256 => ?_
    refine jg_L (r9 rfl) ?_
    refine jg_nil ?_
    refine jk_dn [1, 3, 4, 5, 6, 7] rfl ?_
    refine jd_y rfl (fun w hs => yv_fieldAddr rfl) rfl rfl ?_
    refine jd_h rfl ?_
    refine jg_store 7 rfl rfl rfl (l1 rfl) rfl rfl rfl rfl (l5 rfl) (r9 rfl) ?_
    refine jg_nil ?_
    refine jk_df rfl ?_
    refine jf_nils [(3, _), (4, _), (5, _), (6, _), (48, _), (49, _), (50, _)] ⟨rfl, rfl, rfl, rfl, rfl, rfl, rfl, trivial⟩ ?_
    refine jk_sel (is := [2, 3, 4, 5, 6, 7, 8]) (s7 rfl) rfl ?_
    refine jk_bn (jk_sn ?_)
    refine jn_reg 12 ?_
    refine jg_y (fun w hs => yv_add_w rfl rfl) rfl rfl ?_
    refine jg_mv rfl rfl rfl ?_
    refine jg_nils [(3, _), (4, _), (5, _), (6, _), (48, _), (49, _), (50, _)] ⟨rfl, rfl, rfl, rfl, rfl, rfl, rfl, trivial⟩ ?_
    exact jk_use H245 (v252.2, y255, w64 (z242.2.2 + 1)) hd256 [0, 1, 2, 3, 4, 5, 6] ⟨rfl, rfl, rfl, rfl, rfl, rfl, rfl, trivial⟩ rfl rfl rfl
  intro z192 q193
  refine jn_seq ?_
  refine jn_reg 13 ?_
  refine jg_mv rfl rfl rfl ?_
  refine jg_y (fun w hs => yv_load rfl (ldBB (hs.blkL (i := 1) rfl) rfl)) rfl rfl ?_
  refine jg_c rfl (fun v w hs hm => runoff_Pass_c (a1 := v5.1) hm (hs.row 0 rfl) (hs.row 2 rfl) (hs.row 3 rfl)) rfl rfl fun v196 q197 => ?_
  refine jg_L (r7 rfl) ?_
  refine jg_mv rfl rfl rfl ?_
  refine jg_y (fun w hs => yv_extract rfl rfl) rfl rfl ?_
  refine jg_y (fun w hs => yv_extract rfl rfl) rfl rfl ?_
  refine jg_as rfl rfl rfl ?_
  refine jg_as rfl rfl rfl ?_
  refine jg_nils [(4, _), (6, _), (11, _), (12, _)] ⟨rfl, rfl, rfl, rfl, trivial⟩ ?_
  refine jk_sel (is := [0, 1, 4, 5, 6]) (s5 rfl) rfl ?_
  refine jk_sn ?_
  refine jn_seq ?_
  refine jn_reg 14 ?_
  refine jg_mv rfl rfl rfl ?_
  refine jg_y (fun w hs => yv_load rfl (ldBB (hs.blkL (i := 3) rfl) rfl)) rfl rfl ?_
  refine jg_c rfl (fun v w hs hm => runoff_Pass_c (a1 := (Motion.mk (Interval.mk v188.1 v190.1) z192 v68.1 v5.1.Targets)) hm (hs.row 1 rfl) (hs.row 4 rfl) (hs.row 2 rfl)) rfl rfl fun v198 q199 => ?_
  refine jg_L (r6 rfl) ?_
  refine jg_mv rfl rfl rfl ?_
  refine jg_y (fun w hs => yv_extract rfl rfl) rfl rfl ?_
  refine jg_y (fun w hs => yv_extract rfl rfl) rfl rfl ?_
  refine jg_as rfl rfl rfl ?_
  refine jg_as rfl rfl rfl ?_
  refine jg_nils [(4, _), (11, _), (12, _), (13, _), (14, _)] ⟨rfl, rfl, rfl, rfl, rfl, trivial⟩ ?_
  refine jk_sel (is := [0, 1, 2]) (s3 rfl) rfl ?_
  refine jk_sn ?_
  refine jn_seq ?_
  refine jn_seq ?_
  refine jn_reg 15 ?_
  refine jg_mv rfl rfl rfl ?_
  refine jg_y (fun w hs => yv_neq rfl rfl) rfl rfl ?_
  refine jg_mv rfl rfl rfl ?_
  refine jg_split 87 rfl ?_ ?_
  · refine jg_skip rfl rfl ?_
    refine jg_skip rfl rfl ?_
    refine jg_y (fun w hs => yv_pick_t rfl rfl) rfl rfl ?_
    refine jg_mv rfl rfl rfl ?_
    refine jg_skip rfl rfl ?_
    refine jg_skip rfl rfl ?_
    refine jg_skip rfl rfl ?_
    refine jg_skip rfl rfl ?_
    refine jg_skip rfl rfl ?_
    refine jg_skip rfl rfl ?_
    refine jg_y (fun w hs => yv_pick_t rfl rfl) rfl rfl ?_
    refine jg_mv rfl rfl rfl ?_
    refine jg_skip rfl rfl ?_
    refine jg_skip rfl rfl ?_
    refine jg_skip rfl rfl ?_
    refine jg_skip rfl rfl ?_
    refine jg_skip rfl rfl ?_
    refine jg_y (fun w hs => yv_pick_t rfl rfl) rfl rfl ?_
    refine jg_nils [(11, _), (13, _), (105, _)] ⟨rfl, rfl, rfl, trivial⟩ ?_
    refine jk_sn ?_
    refine jn_ct rfl ?_
    refine jn_seq ?_
    refine jn_reg 16 ?_
    refine jg_as rfl rfl rfl ?_
    refine jg_nils [(2, _)] ⟨rfl, trivial⟩ ?_
    refine jk_sel (is := []) (s0 rfl) rfl ?_
    refine jk_sn ?_
    refine jn_ret ?_
    refine jk_sr ?_
    exact jk_ret1 rfl (fun w hs => .tmp rfl) (fun w hs => ⟨rfl, hs.drop⟩)
  refine jg_mv rfl rfl rfl ?_
  refine jg_y (fun w hs => yv_neq rfl rfl) rfl rfl ?_
  refine jg_y (fun w hs => yv_pick_f rfl rfl) rfl rfl ?_
  refine jg_mv rfl rfl rfl ?_
  refine jg_split 91 rfl ?_ ?_
  · refine jg_skip rfl rfl ?_
    refine jg_skip rfl rfl ?_
    refine jg_skip rfl rfl ?_
    refine jg_skip rfl rfl ?_
    refine jg_skip rfl rfl ?_
    refine jg_skip rfl rfl ?_
    refine jg_y (fun w hs => yv_pick_t rfl rfl) rfl rfl ?_
    refine jg_mv rfl rfl rfl ?_
    refine jg_skip rfl rfl ?_
    refine jg_skip rfl rfl ?_
    refine jg_skip rfl rfl ?_
    refine jg_skip rfl rfl ?_
    refine jg_skip rfl rfl ?_
    refine jg_y (fun w hs => yv_pick_t rfl rfl) rfl rfl ?_
    refine jg_nils [(11, _), (13, _), (105, _)] ⟨rfl, rfl, rfl, trivial⟩ ?_
    refine jk_sn ?_
    refine jn_ct rfl ?_
    refine jn_seq ?_
    refine jn_reg 16 ?_
    refine jg_as rfl rfl rfl ?_
    refine jg_nils [(2, _)] ⟨rfl, trivial⟩ ?_
    refine jk_sel (is := []) (s0 rfl) rfl ?_
    refine jk_sn ?_
    refine jn_ret ?_
    refine jk_sr ?_
    exact jk_ret1 rfl (fun w hs => .tmp rfl) (fun w hs => ⟨rfl, hs.drop⟩)
  refine jg_mv rfl rfl rfl ?_
  refine jg_y (fun w hs => yv_ln rfl (hs.row 1 rfl)) rfl rfl ?_
  refine jg_mv rfl rfl rfl ?_
  refine jg_y (fun w hs => yv_ln rfl (hs.row 2 rfl)) rfl rfl ?_
  refine jg_y (fun w hs => yv_add_w rfl rfl) rfl rfl ?_
  refine jg_y (fun w hs => yv_neq rfl rfl) rfl rfl ?_
  refine jg_y (fun w hs => yv_pick_f rfl rfl) rfl rfl ?_
  refine jg_mv rfl rfl rfl ?_
  refine jg_split 99 rfl ?_ ?_
  · refine jg_skip rfl rfl ?_
    refine jg_skip rfl rfl ?_
    refine jg_skip rfl rfl ?_
    refine jg_skip rfl rfl ?_
    refine jg_skip rfl rfl ?_
    refine jg_y (fun w hs => yv_pick_t rfl rfl) rfl rfl ?_
    refine jg_nils [(11, _), (13, _), (105, _)] ⟨rfl, rfl, rfl, trivial⟩ ?_
    refine jk_sn ?_
    refine jn_ct rfl ?_
    refine jn_seq ?_
    refine jn_reg 16 ?_
    refine jg_as rfl rfl rfl ?_
    refine jg_nils [(2, _)] ⟨rfl, trivial⟩ ?_
    refine jk_sel (is := []) (s0 rfl) rfl ?_
    refine jk_sn ?_
    refine jn_ret ?_
    refine jk_sr ?_
    exact jk_ret1 rfl (fun w hs => .tmp rfl) (fun w hs => ⟨rfl, hs.drop⟩)
  refine jg_mv rfl rfl rfl ?_
  refine jg_y (fun w hs => yv_ln rfl (hs.row 0 rfl)) rfl rfl ?_
  refine jg_mv rfl rfl rfl ?_
  refine jg_y (fun w hs => yv_ln rfl (hs.row 1 rfl)) rfl rfl ?_
  refine jg_y (fun w hs => yv_neq rfl rfl) rfl rfl ?_
  refine jg_y (fun w hs => yv_pick_f rfl rfl) rfl rfl ?_
  refine jg_nils [(11, _), (13, _), (105, _)] ⟨rfl, rfl, rfl, trivial⟩ ?_
  refine jk_sn ?_
  refine jn_cond rfl ?_ ?_
  · refine jn_seq ?_
    refine jn_reg 16 ?_
    refine jg_as rfl rfl rfl ?_
    refine jg_nils [(2, _)] ⟨rfl, trivial⟩ ?_
    refine jk_sel (is := []) (s0 rfl) rfl ?_
    refine jk_sn ?_
    refine jn_ret ?_
    refine jk_sr ?_
    exact jk_ret1 rfl (fun w hs => .tmp rfl) (fun w hs => ⟨rfl, hs.drop⟩)
  refine jn_skip ?_
  refine jk_sn ?_
  refine jn_seq ?_
  refine jn_seq ?_
  refine jn_reg 17 ?_
  refine jg_mv rfl rfl rfl ?_
  refine jg_y (fun w hs => yv_ln rfl (hs.row 1 rfl)) rfl rfl ?_
  refine jg_mv rfl rfl rfl ?_
  refine jg_nils [(11, _), (13, _), (107, _), (108, _)] ⟨rfl, rfl, rfl, rfl, trivial⟩ ?_
  refine jk_sn ?_
  refine jn_block ?_
  refine jn_lp (n := big) (fun (s : Int) (g : Unit) => [(11, q197.v), (13, q199.v), (107, .int .i64 (v196.1.length : Int)), (108, .int .i64 s)]) (fun (s : Int) (g : Unit) => []) (fun (s : Int) (g : Unit) => [(rowH q197 43 6 Passage.enc v196.1), (rowH q199 43 6 Passage.enc v198.1)]) 0 () [1, 0] ⟨rfl, rfl, rfl, rfl, trivial⟩ rfl rfl rfl ?_
  intro z200 q201 n204 k202 H203
  refine jn_seq ?_
  refine jn_reg 18 ?_
  refine jg_y (fun w hs => yv_lss rfl rfl) rfl rfl ?_
  refine jg_nils [(11, _), (13, _), (107, _), (108, _), (109, _)] ⟨rfl, rfl, rfl, rfl, rfl, trivial⟩ ?_
  refine jk_sn ?_
  refine jn_seq ?_
  refine jn_cond rfl ?_ ?_
  rotate_left
  · refine jn_exit ?_
    refine jk_se (jk_le (jk_bh (jk_sn ?_)))
    refine jn_seq ?_
    refine jn_reg 28 ?_
    refine jg_c0 rfl (fun v w hs hm => law20_sane_c hm ) rfl rfl fun v241 => ?_
    refine jg_as rfl rfl rfl ?_
    refine jg_nils [(2, _)] ⟨rfl, trivial⟩ ?_
    refine jk_sel (is := []) (s0 rfl) rfl ?_
    refine jk_sn ?_
    refine jn_ret ?_
    exact jk_ret1 rfl (fun w hs => .tmp rfl) (fun w hs => ⟨rfl, hs.drop⟩)
  refine jn_skip ?_
  refine jk_sn ?_
  refine jn_seq ?_
  refine jn_block ?_
  refine jn_seq ?_
  refine jn_reg 19 ?_
  refine jg_mv rfl rfl rfl ?_
  refine jg_as rfl rfl rfl ?_
  refine jg_nils [(11, _), (13, _), (15, _), (107, _), (108, _)] ⟨rfl, rfl, rfl, rfl, rfl, trivial⟩ ?_
  refine jk_sn ?_
  refine jn_join (fun (s : Unit) (g : Unit) => [(11, q197.v), (13, q199.v), (15, .int .i64 z200), (107, .int .i64 (v196.1.length : Int)), (108, .int .i64 z200)]) (fun (s : Unit) (g : Unit) => []) (fun (s : Unit) (g : Unit) => [(rowH q197 43 6 Passage.enc v196.1), (rowH q199 43 6 Passage.enc v198.1)]) ?_ ?_
  · intro z205 q206
    refine jn_seq ?_
    refine jn_seq ?_
    refine jn_reg 22 ?_
    refine jg_mv rfl rfl rfl ?_
    refine jg_mv rfl rfl rfl ?_
    refine jg_ix fun x209 h210 => ?_
    refine jg_y (fun w hs => yv_ix rfl rfl (hs.row 1 rfl) h210) rfl rfl ?_
    refine jg_y (fun w hs => yv_ef rfl (hs.row 1 rfl) h210.1) rfl rfl ?_
    refine jg_y (fun w hs => yv_e1 rfl (hs.row 1 rfl) h210.1 rfl) rfl rfl ?_
    refine jg_nils [(11, _), (13, _), (15, _), (107, _), (108, _), (151, _)] ⟨rfl, rfl, rfl, rfl, rfl, rfl, trivial⟩ ?_
    refine jk_sn ?_
    refine jn_cond rfl ?_ ?_
    · refine jn_seq ?_
      refine jn_seq ?_
      refine jn_reg 23 ?_
      refine jg_mv rfl rfl rfl ?_
      refine jg_mv rfl rfl rfl ?_
      refine jg_ix fun x211 h212 => ?_
      refine jg_y (fun w hs => yv_ix rfl rfl (hs.row 0 rfl) h212) rfl rfl ?_
      refine jg_y (fun w hs => yv_ef rfl (hs.row 0 rfl) h212.1) rfl rfl ?_
      refine jg_y (fun w hs => yv_e1 rfl (hs.row 0 rfl) h212.1 rfl) rfl rfl ?_
      refine jg_y (fun w hs => yv_not rfl) rfl rfl ?_
      refine jg_mv rfl rfl rfl ?_
      refine jg_split 158 rfl ?_ ?_
      rotate_left
      · refine jg_skip rfl rfl ?_
        refine jg_skip rfl rfl ?_
        refine jg_skip rfl rfl ?_
        refine jg_skip rfl rfl ?_
        refine jg_skip rfl rfl ?_
        refine jg_skip rfl rfl ?_
        refine jg_y (fun w hs => yv_pick_f rfl rfl) rfl rfl ?_
        refine jg_nils [(11, _), (13, _), (107, _), (108, _), (165, _)] ⟨rfl, rfl, rfl, rfl, rfl, trivial⟩ ?_
        refine jk_sn ?_
        refine jn_cf rfl ?_
        refine jn_skip ?_
        refine jk_sn ?_
        refine jn_exit ?_
        refine jk_se (jk_bh (jk_sn ?_))
        refine jn_reg 27 ?_
        refine jg_y (fun w hs => yv_add_w rfl rfl) rfl rfl ?_
        refine jg_mv rfl rfl rfl ?_
        refine jg_nils [(11, _), (13, _), (107, _), (108, _)] ⟨rfl, rfl, rfl, rfl, trivial⟩ ?_
        exact jk_use H203 (w64 (z200 + 1)) () [0, 1] ⟨rfl, rfl, rfl, rfl, trivial⟩ rfl rfl rfl
      refine jg_mv rfl rfl rfl ?_
      refine jg_mv rfl rfl rfl ?_
      refine jg_ix fun x213 h214 => ?_
      refine jg_y (fun w hs => yv_ix rfl rfl (hs.row 0 rfl) h214) rfl rfl ?_
      refine jg_y (fun w hs => yv_ef rfl (hs.row 0 rfl) h214.1) rfl rfl ?_
      refine jg_y (fun w hs => yv_e1 rfl (hs.row 0 rfl) h214.1 rfl) rfl rfl ?_
      refine jg_y (fun w hs => yv_not rfl) rfl rfl ?_
      refine jg_y (fun w hs => yv_pick_t rfl rfl) rfl rfl ?_
      refine jg_nils [(11, _), (13, _), (107, _), (108, _), (165, _)] ⟨rfl, rfl, rfl, rfl, rfl, trivial⟩ ?_
      refine jk_sn ?_
      refine jn_cond rfl ?_ ?_
      · refine jn_seq ?_
        refine jn_reg 24 ?_
        refine jg_as rfl rfl rfl ?_
        refine jg_nils [(2, _)] ⟨rfl, trivial⟩ ?_
        refine jk_sel (is := []) (s0 rfl) rfl ?_
        refine jk_sn ?_
        refine jn_ret ?_
        refine jk_sr (jk_sr (jk_br (jk_sr (jk_lr (jk_br (jk_sr ?_))))))
        exact jk_ret1 rfl (fun w hs => .tmp rfl) (fun w hs => ⟨rfl, hs.drop⟩)
      refine jn_skip ?_
      refine jk_sn ?_
      refine jn_exit ?_
      refine jk_se (jk_bh (jk_sn ?_))
      refine jn_reg 27 ?_
      refine jg_y (fun w hs => yv_add_w rfl rfl) rfl rfl ?_
      refine jg_mv rfl rfl rfl ?_
      refine jg_nils [(11, _), (13, _), (107, _), (108, _)] ⟨rfl, rfl, rfl, rfl, trivial⟩ ?_
      exact jk_use H203 (w64 (z200 + 1)) () [0, 1] ⟨rfl, rfl, rfl, rfl, trivial⟩ rfl rfl rfl
    refine jn_skip ?_
    refine jk_sn ?_
    refine jn_seq ?_
    refine jn_draw (L' := [_, _]) 25 [0, 1] [0, 1, 2, 3, 4, 5, 6, 7, 8, 9, 10, 11, 12, 13, 14, 15, 16, 17, 18, 19, 20, 21, 22, 23, 24, 25] 67108863 67108863 [0, 0, 3, 4, 8, 0, 0, 96, 128, 256, 528, 1024, 3072, 4096, 4096, 28672, 36864, 69632, 4096, 4096, 790528, 1052672, 2101248, 4329472, 8392704, 16781312] [0, 0, 3, 7, 15, 0, 0, 96, 224, 480, 1023, 2047, 4095, 8191, 8191, 32767, 65535, 131071, 8191, 8191, 794623, 1843199, 3940351, 8388607, 16777215, 33554431] [(0, true), (1, true), (2, true), (3, true), (4, true), (5, true), (6, true), (7, true), (8, true), (9, true), (10, true), (11, true), (12, true), (13, true), (14, true), (15, true), (16, true), (17, true), (18, true), (19, true), (20, true), (21, true), (22, true), (23, true), (24, true), (25, true)] rfl (np_seq (np_blk (np_seq (np_rnd (np_blk (np_seq np_rt)))))) (by kernel_rfl) (by kernel_rfl) (by kernel_rfl) (by kernel_rfl) (by kernel_rfl) (by kernel_rfl) (by kernel_rfl) (by kernel_rfl) ?_
    refine jd_mv rfl rfl rfl rfl ?_
    refine jd_mv rfl rfl rfl rfl ?_
    refine jd_ix fun x215 h216 => ?_
    refine jd_y rfl (fun w hs => yv_ix rfl rfl (hs.row 1 rfl) h216) rfl rfl ?_
    refine jd_y rfl (fun w hs => yv_ef rfl (hs.row 1 rfl) h216.1) rfl rfl ?_
    refine jd_y rfl (fun w hs => yv_eS rfl (hs.row 1 rfl) h216.1 (l2 rfl) rfl) rfl rfl ?_
    refine jd_mv rfl rfl rfl rfl ?_
    refine jd_mv rfl rfl rfl rfl ?_
    refine jd_ix fun x217 h218 => ?_
    refine jd_y rfl (fun w hs => yv_ix rfl rfl (hs.row 0 rfl) h218) rfl rfl ?_
    refine jd_y rfl (fun w hs => yv_ef rfl (hs.row 0 rfl) h218.1) rfl rfl ?_
    refine jd_y rfl (fun w hs => yv_eS rfl (hs.row 0 rfl) h218.1 (l2 rfl) rfl) rfl rfl ?_
    refine jd_c0 rfl rfl (fun v w hs hm => interval_Within_c (a0 := x215.Time) (a1 := x217.Time) hm ) rfl rfl fun v219 => ?_
    refine jd_y rfl (fun w hs => yv_not rfl) rfl rfl ?_
    refine jd_mv rfl rfl rfl rfl ?_
    refine jd_split 178 rfl ?_ ?_
    · refine jd_skip rfl rfl rfl ?_
      refine jd_skip rfl rfl rfl ?_
      refine jd_skip rfl rfl rfl ?_
      refine jd_skip rfl rfl rfl ?_
      refine jd_skip rfl rfl rfl ?_
      refine jd_skip rfl rfl rfl ?_
      refine jd_skip rfl rfl rfl ?_
      refine jd_skip rfl rfl rfl ?_
      refine jd_skip rfl rfl rfl ?_
      refine jd_skip rfl rfl rfl ?_
      refine jd_skip rfl rfl rfl ?_
      refine jd_skip rfl rfl rfl ?_
      refine jd_y rfl (fun w hs => yv_pick_t rfl rfl) rfl rfl ?_
      refine jd_nils [(11, _), (13, _), (107, _), (108, _), (191, _)] ⟨rfl, rfl, rfl, rfl, rfl, trivial⟩ ?_
      refine jk_sn ?_
      refine jn_ct rfl ?_
      refine jn_seq ?_
      refine jn_reg 26 ?_
      refine jg_as rfl rfl rfl ?_
      refine jg_nils [(2, _)] ⟨rfl, trivial⟩ ?_
      refine jk_sel (is := []) (s0 rfl) rfl ?_
      refine jk_sn ?_
      refine jn_ret ?_
      refine jk_br (jk_sr (jk_lr (jk_br (jk_sr ?_))))
      exact jk_ret1 rfl (fun w hs => .tmp rfl) (fun w hs => ⟨rfl, hs.drop⟩)
    refine jd_mv rfl rfl rfl rfl ?_
    refine jd_mv rfl rfl rfl rfl ?_
    refine jd_ix fun x220 h221 => ?_
    refine jd_y rfl (fun w hs => yv_ix rfl rfl (hs.row 1 rfl) h221) rfl rfl ?_
    refine jd_y rfl (fun w hs => yv_ef rfl (hs.row 1 rfl) h221.1) rfl rfl ?_
    refine jd_y rfl (fun w hs => yv_eS rfl (hs.row 1 rfl) h221.1 (l2 rfl) rfl) rfl rfl ?_
    refine jd_mv rfl rfl rfl rfl ?_
    refine jd_mv rfl rfl rfl rfl ?_
    refine jd_ix fun x222 h223 => ?_
    refine jd_y rfl (fun w hs => yv_ix rfl rfl (hs.row 0 rfl) h223) rfl rfl ?_
    refine jd_y rfl (fun w hs => yv_ef rfl (hs.row 0 rfl) h223.1) rfl rfl ?_
    refine jd_y rfl (fun w hs => yv_eS rfl (hs.row 0 rfl) h223.1 (l2 rfl) rfl) rfl rfl ?_
    refine jd_c0 rfl rfl (fun v w hs hm => interval_Within_c (a0 := x220.Energy) (a1 := x222.Energy) hm ) rfl rfl fun v224 => ?_
    refine jd_y rfl (fun w hs => yv_not rfl) rfl rfl ?_
    refine jd_y rfl (fun w hs => yv_pick_f rfl rfl) rfl rfl ?_
    refine jd_nils [(11, _), (13, _), (107, _), (108, _), (191, _)] ⟨rfl, rfl, rfl, rfl, rfl, trivial⟩ ?_
    refine jk_sn ?_
    refine jn_cond rfl ?_ ?_
    rotate_left
    · refine jn_skip ?_
      refine jk_bn (jk_sn ?_)
      refine jn_reg 27 ?_
      refine jg_y (fun w hs => yv_add_w rfl rfl) rfl rfl ?_
      refine jg_mv rfl rfl rfl ?_
      refine jg_nils [(11, _), (13, _), (107, _), (108, _)] ⟨rfl, rfl, rfl, rfl, trivial⟩ ?_
      exact jk_use H203 (w64 (z200 + 1)) () [0, 1] ⟨rfl, rfl, rfl, rfl, trivial⟩ rfl rfl rfl
    refine jn_seq ?_
    refine jn_reg 26 ?_
    refine jg_as rfl rfl rfl ?_
    refine jg_nils [(2, _)] ⟨rfl, trivial⟩ ?_
    refine jk_sel (is := []) (s0 rfl) rfl ?_
    refine jk_sn ?_
    refine jn_ret ?_
    refine jk_br (jk_sr (jk_lr (jk_br (jk_sr ?_))))
    exact jk_ret1 rfl (fun w hs => .tmp rfl) (fun w hs => ⟨rfl, hs.drop⟩)
  intro k207 H208
  refine jn_seq ?_
  refine jn_reg 20 ?_
  refine jg_mv rfl rfl rfl ?_
  refine jg_mv rfl rfl rfl ?_
  refine jg_ix fun x225 h226 => ?_
  refine jg_y (fun w hs => yv_ix rfl rfl (hs.row 0 rfl) h226) rfl rfl ?_
  refine jg_y (fun w hs => yv_ef rfl (hs.row 0 rfl) h226.1) rfl rfl ?_
  refine jg_y (fun w hs => yv_e1 rfl (hs.row 0 rfl) h226.1 rfl) rfl rfl ?_
  refine jg_mv rfl rfl rfl ?_
  refine jg_split 116 rfl ?_ ?_
  rotate_left
  · refine jg_skip rfl rfl ?_
    refine jg_skip rfl rfl ?_
    refine jg_skip rfl rfl ?_
    refine jg_skip rfl rfl ?_
    refine jg_skip rfl rfl ?_
    refine jg_skip rfl rfl ?_
    refine jg_y (fun w hs => yv_pick_f rfl rfl) rfl rfl ?_
    refine jg_mv rfl rfl rfl ?_
    refine jg_mv rfl rfl rfl ?_
    refine jg_mv rfl rfl rfl ?_
    refine jg_ix fun x235 h236 => ?_
    refine jg_y (fun w hs => yv_ix rfl rfl (hs.row 1 rfl) h236) rfl rfl ?_
    refine jg_y (fun w hs => yv_ef rfl (hs.row 1 rfl) h236.1) rfl rfl ?_
    refine jg_y (fun w hs => yv_e1 rfl (hs.row 1 rfl) h236.1 rfl) rfl rfl ?_
    refine jg_mv rfl rfl rfl ?_
    refine jg_split 130 rfl ?_ ?_
    rotate_left
    · refine jg_skip rfl rfl ?_
      refine jg_skip rfl rfl ?_
      refine jg_skip rfl rfl ?_
      refine jg_skip rfl rfl ?_
      refine jg_skip rfl rfl ?_
      refine jg_skip rfl rfl ?_
      refine jg_y (fun w hs => yv_pick_f rfl rfl) rfl rfl ?_
      refine jg_mv rfl rfl rfl ?_
      refine jg_skip rfl rfl ?_
      refine jg_skip rfl rfl ?_
      refine jg_skip rfl rfl ?_
      refine jg_skip rfl rfl ?_
      refine jg_skip rfl rfl ?_
      refine jg_skip rfl rfl ?_
      refine jg_y (fun w hs => yv_pick_f rfl rfl) rfl rfl ?_
      refine jg_y (fun w hs => yv_pick_f rfl rfl) rfl rfl ?_
      refine jg_nils [(11, _), (13, _), (15, _), (107, _), (108, _), (146, _)] ⟨rfl, rfl, rfl, rfl, rfl, rfl, trivial⟩ ?_
      refine jk_sn ?_
      refine jn_cf rfl ?_
      refine jn_skip ?_
      exact jk_use H208 () () [0, 1] ⟨rfl, rfl, rfl, rfl, rfl, trivial⟩ rfl rfl rfl
    refine jg_mv rfl rfl rfl ?_
    refine jg_mv rfl rfl rfl ?_
    refine jg_ix fun x237 h238 => ?_
    refine jg_y (fun w hs => yv_ix rfl rfl (hs.row 0 rfl) h238) rfl rfl ?_
    refine jg_y (fun w hs => yv_ef rfl (hs.row 0 rfl) h238.1) rfl rfl ?_
    refine jg_y (fun w hs => yv_e1 rfl (hs.row 0 rfl) h238.1 rfl) rfl rfl ?_
    refine jg_y (fun w hs => yv_not rfl) rfl rfl ?_
    refine jg_y (fun w hs => yv_pick_t rfl rfl) rfl rfl ?_
    refine jg_mv rfl rfl rfl ?_
    refine jg_split 138 rfl ?_ ?_
    rotate_left
    · refine jg_skip rfl rfl ?_
      refine jg_skip rfl rfl ?_
      refine jg_skip rfl rfl ?_
      refine jg_skip rfl rfl ?_
      refine jg_skip rfl rfl ?_
      refine jg_skip rfl rfl ?_
      refine jg_y (fun w hs => yv_pick_f rfl rfl) rfl rfl ?_
      refine jg_y (fun w hs => yv_pick_f rfl rfl) rfl rfl ?_
      refine jg_nils [(11, _), (13, _), (15, _), (107, _), (108, _), (146, _)] ⟨rfl, rfl, rfl, rfl, rfl, rfl, trivial⟩ ?_
      refine jk_sn ?_
      refine jn_cf rfl ?_
      refine jn_skip ?_
      exact jk_use H208 () () [0, 1] ⟨rfl, rfl, rfl, rfl, rfl, trivial⟩ rfl rfl rfl
    refine jg_mv rfl rfl rfl ?_
    refine jg_mv rfl rfl rfl ?_
    refine jg_ix fun x239 h240 => ?_
    refine jg_y (fun w hs => yv_ix rfl rfl (hs.row 0 rfl) h240) rfl rfl ?_
    refine jg_y (fun w hs => yv_ef rfl (hs.row 0 rfl) h240.1) rfl rfl ?_
    refine jg_y (fun w hs => yv_e1 rfl (hs.row 0 rfl) h240.1 rfl) rfl rfl ?_
    refine jg_y (fun w hs => yv_not rfl) rfl rfl ?_
    refine jg_y (fun w hs => yv_pick_t rfl rfl) rfl rfl ?_
    refine jg_y (fun w hs => yv_pick_f rfl rfl) rfl rfl ?_
    refine jg_nils [(11, _), (13, _), (15, _), (107, _), (108, _), (146, _)] ⟨rfl, rfl, rfl, rfl, rfl, rfl, trivial⟩ ?_
    refine jk_sn ?_
    refine jn_cond rfl ?_ ?_
    rotate_left
    · refine jn_skip ?_
      exact jk_use H208 () () [0, 1] ⟨rfl, rfl, rfl, rfl, rfl, trivial⟩ rfl rfl rfl
    refine jn_seq ?_
    refine jn_reg 21 ?_
    refine jg_as rfl rfl rfl ?_
    refine jg_nils [(2, _)] ⟨rfl, trivial⟩ ?_
    refine jk_sel (is := []) (s0 rfl) rfl ?_
    refine jk_sn ?_
    refine jn_ret ?_
    refine jk_sr (jk_br (jk_sr (jk_lr (jk_br (jk_sr ?_)))))
    exact jk_ret1 rfl (fun w hs => .tmp rfl) (fun w hs => ⟨rfl, hs.drop⟩)
  refine jg_mv rfl rfl rfl ?_
  refine jg_mv rfl rfl rfl ?_
  refine jg_ix fun x227 h228 => ?_
  refine jg_y (fun w hs => yv_ix rfl rfl (hs.row 1 rfl) h228) rfl rfl ?_
  refine jg_y (fun w hs => yv_ef rfl (hs.row 1 rfl) h228.1) rfl rfl ?_
  refine jg_y (fun w hs => yv_e1 rfl (hs.row 1 rfl) h228.1 rfl) rfl rfl ?_
  refine jg_y (fun w hs => yv_not rfl) rfl rfl ?_
  refine jg_y (fun w hs => yv_pick_t rfl rfl) rfl rfl ?_
  refine jg_mv rfl rfl rfl ?_
  refine jg_split 124 rfl ?_ ?_
  · refine jg_skip rfl rfl ?_
    refine jg_skip rfl rfl ?_
    refine jg_skip rfl rfl ?_
    refine jg_skip rfl rfl ?_
    refine jg_skip rfl rfl ?_
    refine jg_skip rfl rfl ?_
    refine jg_skip rfl rfl ?_
    refine jg_skip rfl rfl ?_
    refine jg_skip rfl rfl ?_
    refine jg_skip rfl rfl ?_
    refine jg_skip rfl rfl ?_
    refine jg_skip rfl rfl ?_
    refine jg_skip rfl rfl ?_
    refine jg_skip rfl rfl ?_
    refine jg_skip rfl rfl ?_
    refine jg_skip rfl rfl ?_
    refine jg_skip rfl rfl ?_
    refine jg_skip rfl rfl ?_
    refine jg_skip rfl rfl ?_
    refine jg_skip rfl rfl ?_
    refine jg_skip rfl rfl ?_
    refine jg_y (fun w hs => yv_pick_t rfl rfl) rfl rfl ?_
    refine jg_nils [(11, _), (13, _), (15, _), (107, _), (108, _), (146, _)] ⟨rfl, rfl, rfl, rfl, rfl, rfl, trivial⟩ ?_
    refine jk_sn ?_
    refine jn_ct rfl ?_
    refine jn_seq ?_
    refine jn_reg 21 ?_
    refine jg_as rfl rfl rfl ?_
    refine jg_nils [(2, _)] ⟨rfl, trivial⟩ ?_
    refine jk_sel (is := []) (s0 rfl) rfl ?_
    refine jk_sn ?_
    refine jn_ret ?_
    refine jk_sr (jk_br (jk_sr (jk_lr (jk_br (jk_sr ?_)))))
    exact jk_ret1 rfl (fun w hs => .tmp rfl) (fun w hs => ⟨rfl, hs.drop⟩)
  refine jg_mv rfl rfl rfl ?_
  refine jg_mv rfl rfl rfl ?_
  refine jg_ix fun x229 h230 => ?_
  refine jg_y (fun w hs => yv_ix rfl rfl (hs.row 1 rfl) h230) rfl rfl ?_
  refine jg_y (fun w hs => yv_ef rfl (hs.row 1 rfl) h230.1) rfl rfl ?_
  refine jg_y (fun w hs => yv_e1 rfl (hs.row 1 rfl) h230.1 rfl) rfl rfl ?_
  refine jg_mv rfl rfl rfl ?_
  refine jg_split 130 rfl ?_ ?_
  rotate_left
  · refine jg_skip rfl rfl ?_
    refine jg_skip rfl rfl ?_
    refine jg_skip rfl rfl ?_
    refine jg_skip rfl rfl ?_
    refine jg_skip rfl rfl ?_
    refine jg_skip rfl rfl ?_
    refine jg_y (fun w hs => yv_pick_f rfl rfl) rfl rfl ?_
    refine jg_mv rfl rfl rfl ?_
    refine jg_skip rfl rfl ?_
    refine jg_skip rfl rfl ?_
    refine jg_skip rfl rfl ?_
    refine jg_skip rfl rfl ?_
    refine jg_skip rfl rfl ?_
    refine jg_skip rfl rfl ?_
    refine jg_y (fun w hs => yv_pick_f rfl rfl) rfl rfl ?_
    refine jg_y (fun w hs => yv_pick_f rfl rfl) rfl rfl ?_
    refine jg_nils [(11, _), (13, _), (15, _), (107, _), (108, _), (146, _)] ⟨rfl, rfl, rfl, rfl, rfl, rfl, trivial⟩ ?_
    refine jk_sn ?_
    refine jn_cf rfl ?_
    refine jn_skip ?_
    exact jk_use H208 () () [0, 1] ⟨rfl, rfl, rfl, rfl, rfl, trivial⟩ rfl rfl rfl
  refine jg_mv rfl rfl rfl ?_
  refine jg_mv rfl rfl rfl ?_
  refine jg_ix fun x231 h232 => ?_
  refine jg_y (fun w hs => yv_ix rfl rfl (hs.row 0 rfl) h232) rfl rfl ?_
  refine jg_y (fun w hs => yv_ef rfl (hs.row 0 rfl) h232.1) rfl rfl ?_
  refine jg_y (fun w hs => yv_e1 rfl (hs.row 0 rfl) h232.1 rfl) rfl rfl ?_
  refine jg_y (fun w hs => yv_not rfl) rfl rfl ?_
  refine jg_y (fun w hs => yv_pick_t rfl rfl) rfl rfl ?_
  refine jg_mv rfl rfl rfl ?_
  refine jg_split 138 rfl ?_ ?_
  rotate_left
  · refine jg_skip rfl rfl ?_
    refine jg_skip rfl rfl ?_
    refine jg_skip rfl rfl ?_
    refine jg_skip rfl rfl ?_
    refine jg_skip rfl rfl ?_
    refine jg_skip rfl rfl ?_
    refine jg_y (fun w hs => yv_pick_f rfl rfl) rfl rfl ?_
    refine jg_y (fun w hs => yv_pick_f rfl rfl) rfl rfl ?_
    refine jg_nils [(11, _), (13, _), (15, _), (107, _), (108, _), (146, _)] ⟨rfl, rfl, rfl, rfl, rfl, rfl, trivial⟩ ?_
    refine jk_sn ?_
    refine jn_cf rfl ?_
    refine jn_skip ?_
    exact jk_use H208 () () [0, 1] ⟨rfl, rfl, rfl, rfl, rfl, trivial⟩ rfl rfl rfl
  refine jg_mv rfl rfl rfl ?_
  refine jg_mv rfl rfl rfl ?_
  refine jg_ix fun x233 h234 => ?_
  refine jg_y (fun w hs => yv_ix rfl rfl (hs.row 0 rfl) h234) rfl rfl ?_
  refine jg_y (fun w hs => yv_ef rfl (hs.row 0 rfl) h234.1) rfl rfl ?_
  refine jg_y (fun w hs => yv_e1 rfl (hs.row 0 rfl) h234.1 rfl) rfl rfl ?_
  refine jg_y (fun w hs => yv_not rfl) rfl rfl ?_
  refine jg_y (fun w hs => yv_pick_t rfl rfl) rfl rfl ?_
  refine jg_y (fun w hs => yv_pick_f rfl rfl) rfl rfl ?_
  refine jg_nils [(11, _), (13, _), (15, _), (107, _), (108, _), (146, _)] ⟨rfl, rfl, rfl, rfl, rfl, rfl, trivial⟩ ?_
  refine jk_sn ?_
  refine jn_cond rfl ?_ ?_
  rotate_left
  · refine jn_skip ?_
    exact jk_use H208 () () [0, 1] ⟨rfl, rfl, rfl, rfl, rfl, trivial⟩ rfl rfl rfl
  refine jn_seq ?_
  refine jn_reg 21 ?_
  refine jg_as rfl rfl rfl ?_
  refine jg_nils [(2, _)] ⟨rfl, trivial⟩ ?_
  refine jk_sel (is := []) (s0 rfl) rfl ?_
  refine jk_sn ?_
  refine jn_ret ?_
  refine jk_sr (jk_br (jk_sr (jk_lr (jk_br (jk_sr ?_)))))
  exact jk_ret1 rfl (fun w hs => .tmp rfl) (fun w hs => ⟨rfl, hs.drop⟩)
theorem gen_Maker_Run_c {w : World} {a0 : HumpgenMaker} {a1 : Motion} {ha0_fl : Hd} {b0 : Nat} {ha1_Class : Hd} {ha1_Targets : Hd} {v : (Run × Int)} (hm : gen_Maker_Run a0 a1 = some v) (Hb : Blk w b0 82 [ha0_fl.v, .int .i64 a0.fn]) (Rha0_fl : Sl w ha0_fl encI a0.fl) (Oha0_fl : Offs ha0_fl [b0]) (Rha1_Class : Sl w ha1_Class Interval.enc a1.Class) (Oha1_Class : Offs ha1_Class [b0]) (Rha1_Targets : Sl w ha1_Targets encI a1.Targets) (Oha1_Targets : Offs ha1_Targets [b0]) : Calls Try.prog 18 ([.pointer (some ⟨b0, 0, none⟩), .agg #[.int .i64 a1.Speed.Lo, .int .i64 a1.Speed.Hi, ha1_Class.v, .int .i64 a1.Error, ha1_Targets.v]] : List Value).toArray w (fun e w' => ∃ g : (Hd × Hd), e = .returned (.agg #[.int .i64 v.1.Speed, g.1.v, g.2.v]) ∧ St w w' [.blk b0 82 [ha0_fl.v, .int .i64 v.2]] [(rowH g.1 3 1 encI v.1.Resist), (rowH g.2 3 1 encI v.1.Targets)]) := by
  refine j_enter (vs := [.pointer (some ⟨b0, 0, none⟩), .agg #[.int .i64 a1.Speed.Lo, .int .i64 a1.Speed.Hi, ha1_Class.v, .int .i64 a1.Error, ha1_Targets.v]]) (R := fun (v : (Run × Int)) (e : Ending) (w' : World) => ∃ g : (Hd × Hd), e = .returned (.agg #[.int .i64 v.1.Speed, g.1.v, g.2.v]) ∧ St w w' [.blk b0 82 [ha0_fl.v, .int .i64 v.2]] [(rowH g.1 3 1 encI v.1.Resist), (rowH g.2 3 1 encI v.1.Targets)]) Try.func18 rfl Try.ntmps18 rfl rfl (mk_st Hb) hm ?_
  unfold gen_Maker_Run
  clear hm
  refine jn_seq ?_
  refine jn_reg 0 ?_
  refine jg_box rfl (l5 rfl) rfl rfl fun g1 => ?_
  refine jg_alloc (l3 rfl) rfl rfl fun g2 => ?_
  refine jg_nils [(0, _), (3, _), (4, _)] ⟨rfl, rfl, rfl, trivial⟩ ?_
  refine jk_sn ?_
  refine jn_seq ?_
  refine jn_reg 1 ?_
  refine jg_mv rfl rfl rfl ?_
  refine jg_y (fun w hs => yv_fieldAddr rfl) rfl rfl ?_
  refine jg_y (fun w hs => yv_fieldAddr rfl) rfl rfl ?_
  refine jg_y (fun w hs => yv_load rfl (ld1B (hs.blkL (i := 1) rfl) rfl)) rfl rfl ?_
  refine jg_y (fun w hs => yv_fieldAddr rfl) rfl rfl ?_
  refine jg_y (fun w hs => yv_fieldAddr rfl) rfl rfl ?_
  refine jg_y (fun w hs => yv_load rfl (ld1B (hs.blkL (i := 1) rfl) rfl)) rfl rfl ?_
  refine jm_c rfl (fun v w hs hm => gen_Maker_From_c hm (hs.blkM (i := 0) rfl) (hs.argM Rha0_fl Oha0_fl) Oha0_fl) (fun _ => rfl) rfl rfl fun v3 q4 => ?_
  refine jg_y (fun w hs => yv_build rfl (o3 rfl)) rfl rfl ?_
  refine jg_alloc (l3 rfl) rfl rfl fun g5 => ?_
  refine jg_store 0 rfl rfl rfl (l3 rfl) rfl rfl rfl rfl (l3 rfl) (r3 rfl) ?_
  refine jg_nils [(0, _), (3, _), (4, _), (5, _)] ⟨rfl, rfl, rfl, rfl, trivial⟩ ?_
  refine jk_sn ?_
  refine jn_join (fun (s : ((List Int) × Int)) (g : Hd) => [(0, .pointer (some ⟨b0, 0, none⟩)), (3, .pointer (some ⟨g1, 0, none⟩)), (4, .pointer (some ⟨g2, 0, none⟩)), (5, .pointer (some ⟨g5, 0, none⟩))]) (fun (s : ((List Int) × Int)) (g : Hd) => [(Res.blk b0 82 [ha0_fl.v, .int .i64 s.2])]) (fun (s : ((List Int) × Int)) (g : Hd) => [(Res.blk g1 28 [.int .i64 a1.Speed.Lo, .int .i64 a1.Speed.Hi, ha1_Class.v, .int .i64 a1.Error, ha1_Targets.v]), (Res.blk g2 30 [.int .i64 0, (Hd.mk none 0 0).v, (Hd.mk none 0 0).v]), (Res.blk g5 30 [.int .i64 v3.1, g.v, (Hd.mk none 0 0).v]), (rowH g 3 1 encI s.1)]) ?_ ?_
  rotate_left
  · intro k8 H9
    refine jn_seq ?_
    refine jn_reg 2 ?_
    refine jg_as rfl rfl rfl ?_
    refine jg_nils [(0, _), (3, _), (4, _), (5, _), (6, _)] ⟨rfl, rfl, rfl, rfl, rfl, trivial⟩ ?_
    refine jk_sn ?_
    refine jn_block ?_
    refine jn_addnil 3 1 encI ?_
    refine jn_lp (n := big) (fun (s : ((List Int) × Int × Int)) (g : Hd) => [(0, .pointer (some ⟨b0, 0, none⟩)), (3, .pointer (some ⟨g1, 0, none⟩)), (4, .pointer (some ⟨g2, 0, none⟩)), (5, .pointer (some ⟨g5, 0, none⟩)), (6, .int .i64 s.2.1)]) (fun (s : ((List Int) × Int × Int)) (g : Hd) => [(Res.blk b0 82 [ha0_fl.v, .int .i64 s.2.2])]) (fun (s : ((List Int) × Int × Int)) (g : Hd) => [(Res.blk g1 28 [.int .i64 a1.Speed.Lo, .int .i64 a1.Speed.Hi, ha1_Class.v, .int .i64 a1.Error, ha1_Targets.v]), (Res.blk g2 30 [.int .i64 0, (Hd.mk none 0 0).v, (Hd.mk none 0 0).v]), (Res.blk g5 30 [.int .i64 v3.1, g.v, (Hd.mk none 0 0).v]), (rowH g 3 1 encI s.1)]) (([] : List Int), 0, v3.2) (Hd.mk none 0 0) [3, 2, 1, 0] ⟨rfl, rfl, rfl, rfl, rfl, trivial⟩ rfl rfl rfl ?_
    intro z26 q27 n30 k28 H29
    refine jn_seq ?_
    refine jn_seq ?_
    refine jn_reg 3 ?_
    refine jg_mv rfl rfl rfl ?_
    refine jg_y (fun w hs => yv_fieldAddr rfl) rfl rfl ?_
    refine jg_y (fun w hs => yv_load rfl (ld1B (hs.blkL (i := 0) rfl) rfl)) rfl rfl ?_
    refine jg_y (fun w hs => yv_ln rfl (hs.argM Rha1_Class Oha1_Class)) rfl rfl ?_
    refine jg_y (fun w hs => yv_lss rfl rfl) rfl rfl ?_
    refine jg_nils [(0, _), (3, _), (4, _), (5, _), (6, _), (22, _)] ⟨rfl, rfl, rfl, rfl, rfl, rfl, trivial⟩ ?_
    refine jk_sn ?_
    refine jn_cond rfl ?_ ?_
    rotate_left
    · refine jn_exit ?_
      refine jk_se (jk_le (jk_bh ?_))
      exact jk_use H9 (z26.1, z26.2.2) q27 [0, 1, 2, 3] ⟨rfl, rfl, rfl, rfl, trivial⟩ rfl rfl rfl
    refine jn_skip ?_
    refine jk_sn ?_
    refine jn_seq ?_
    refine jn_block ?_
    refine jn_draw (L' := [_, _, _]) 5 [0, 1, 2] [0, 1, 2, 3, 4, 5, 6, 7, 8, 9, 10, 11, 12, 13, 14, 15, 16, 17, 18] 524287 1048575 [0, 1, 0, 0, 8, 0, 48, 64, 128, 0, 512, 0, 3072, 4096, 8192, 16644, 32768, 98306, 262143, 524287] [0, 1, 0, 0, 8, 0, 56, 120, 248, 0, 512, 0, 3584, 7680, 15872, 32764, 65532, 131071, 262143, 524287] [(0, true), (1, true), (2, true), (3, true), (4, true), (5, true), (6, true), (7, true), (8, true), (9, true), (10, true), (11, true), (12, true), (13, true), (14, true), (15, false), (16, false), (17, false), (18, true), (19, false)] rfl (np_blk (np_seq (np_rnd (np_blk (np_seq np_rt))))) (by kernel_rfl) (by kernel_rfl) (by kernel_rfl) (by kernel_rfl) (by kernel_rfl) (by kernel_rfl) (by kernel_rfl) (by kernel_rfl) ?_
    refine jd_y rfl (fun w hs => yv_fieldAddr rfl) rfl rfl ?_
    refine jd_y rfl (fun w hs => yv_load rfl (ld1B (hs.blk (i := 2) rfl) rfl)) rfl rfl ?_
    refine jd_mv rfl rfl rfl rfl ?_
    refine jd_y rfl (fun w hs => yv_fieldAddr rfl) rfl rfl ?_
    refine jd_y rfl (fun w hs => yv_load rfl (ld1B (hs.blk (i := 0) rfl) rfl)) rfl rfl ?_
    refine jd_mv rfl rfl rfl rfl ?_
    refine jd_ix fun x31 h32 => ?_
    refine jd_y rfl (fun w hs => yv_ix rfl rfl (hs.argM Rha1_Class Oha1_Class) h32) rfl rfl ?_
    refine jd_y rfl (fun w hs => yv_ef rfl (hs.argM Rha1_Class Oha1_Class) h32.1) rfl rfl ?_
    refine jd_y rfl (fun w hs => yv_e1 rfl (hs.argM Rha1_Class Oha1_Class) h32.1 rfl) rfl rfl ?_
    refine jd_y rfl (fun w hs => yv_fieldAddr rfl) rfl rfl ?_
    refine jd_y rfl (fun w hs => yv_load rfl (ld1B (hs.blk (i := 0) rfl) rfl)) rfl rfl ?_
    refine jd_mv rfl rfl rfl rfl ?_
    refine jd_ix fun x33 h34 => ?_
    refine jd_y rfl (fun w hs => yv_ix rfl rfl (hs.argM Rha1_Class Oha1_Class) h34) rfl rfl ?_
    refine jd_y rfl (fun w hs => yv_ef rfl (hs.argM Rha1_Class Oha1_Class) h34.1) rfl rfl ?_
    refine jd_y rfl (fun w hs => yv_e1 rfl (hs.argM Rha1_Class Oha1_Class) h34.1 rfl) rfl rfl ?_
    refine jd_h rfl ?_
    refine jm_c rfl (fun v w hs hm => gen_Maker_From_c hm (hs.blkM (i := 0) rfl) (hs.argM Rha0_fl Oha0_fl) Oha0_fl) (fun _ => rfl) rfl rfl fun v35 q36 => ?_
    refine jg_nil ?_
    refine jk_dn [0, 1, 2] rfl ?_
    refine jd_h rfl ?_
    refine jg_lit (enc := encI) [v35.1] rfl rfl rfl rfl rfl rfl rfl rfl fun hd37 => ?_
    refine jg_nil ?_
    refine jk_dn [1, 2, 3] rfl ?_
    refine jd_h rfl ?_
    refine jg_append 4 rfl rfl rfl (fun w hs => (hs.row 0 rfl)) rfl rfl rfl fun y38 hd39 => ?_
    refine jg_L (r5 rfl) ?_
    refine jg_nil ?_
    refine jk_dn [1, 2, 3] rfl ?_
    refine jd_y rfl (fun w hs => yv_fieldAddr rfl) rfl rfl ?_
    refine jd_h rfl ?_
    refine jg_store 3 rfl rfl rfl (l1 rfl) rfl rfl rfl rfl (l3 rfl) (r5 rfl) ?_
    refine jg_nil ?_
    refine jk_df rfl ?_
    refine jf_nils [(0, _), (3, _), (4, _), (5, _), (6, _)] ⟨rfl, rfl, rfl, rfl, rfl, trivial⟩ ?_
    refine jk_bn (jk_sn ?_)
    refine jn_reg 4 ?_
    refine jg_mv rfl rfl rfl ?_
    refine jg_y (fun w hs => yv_add_w rfl rfl) rfl rfl ?_
    refine jg_as rfl rfl rfl ?_
    refine jg_nils [(0, _), (3, _), (4, _), (5, _), (6, _)] ⟨rfl, rfl, rfl, rfl, rfl, trivial⟩ ?_
    exact jk_use H29 (y38, w64 (z26.2.1 + 1), v35.2) hd39 [1, 2, 3, 4] ⟨rfl, rfl, rfl, rfl, rfl, trivial⟩ rfl rfl rfl
  intro z6 q7
  refine jn_seq ?_
  refine jn_seq ?_
  refine jn_reg 6 ?_
  refine jg_as rfl rfl rfl ?_
  refine jg_nils [(0, _), (3, _), (4, _), (5, _), (7, _)] ⟨rfl, rfl, rfl, rfl, rfl, trivial⟩ ?_
  refine jk_sn ?_
  refine jn_block ?_
  refine jn_addnil 3 1 encI ?_
  refine jn_lp (n := big) (fun (s : ((List Int) × Int × Int)) (g : Hd) => [(0, .pointer (some ⟨b0, 0, none⟩)), (3, .pointer (some ⟨g1, 0, none⟩)), (4, .pointer (some ⟨g2, 0, none⟩)), (5, .pointer (some ⟨g5, 0, none⟩)), (7, .int .i64 s.2.1)]) (fun (s : ((List Int) × Int × Int)) (g : Hd) => [(Res.blk b0 82 [ha0_fl.v, .int .i64 s.2.2])]) (fun (s : ((List Int) × Int × Int)) (g : Hd) => [(Res.blk g1 28 [.int .i64 a1.Speed.Lo, .int .i64 a1.Speed.Hi, ha1_Class.v, .int .i64 a1.Error, ha1_Targets.v]), (Res.blk g2 30 [.int .i64 0, (Hd.mk none 0 0).v, (Hd.mk none 0 0).v]), (Res.blk g5 30 [.int .i64 v3.1, q7.v, g.v]), (rowH q7 3 1 encI z6.1), (rowH g 3 1 encI s.1)]) (([] : List Int), 0, z6.2) (Hd.mk none 0 0) [1, 2, 3, 4, 0] ⟨rfl, rfl, rfl, rfl, rfl, trivial⟩ rfl rfl rfl ?_
  intro z10 q11 n14 k12 H13
  refine jn_seq ?_
  refine jn_seq ?_
  refine jn_reg 7 ?_
  refine jg_mv rfl rfl rfl ?_
  refine jg_y (fun w hs => yv_fieldAddr rfl) rfl rfl ?_
  refine jg_y (fun w hs => yv_load rfl (ld1B (hs.blkL (i := 0) rfl) rfl)) rfl rfl ?_
  refine jg_y (fun w hs => yv_ln rfl (hs.argM Rha1_Targets Oha1_Targets)) rfl rfl ?_
  refine jg_y (fun w hs => yv_lss rfl rfl) rfl rfl ?_
  refine jg_nils [(0, _), (3, _), (4, _), (5, _), (7, _), (48, _)] ⟨rfl, rfl, rfl, rfl, rfl, rfl, trivial⟩ ?_
  refine jk_sn ?_
  refine jn_cond rfl ?_ ?_
  rotate_left
  · refine jn_exit ?_
    refine jk_se (jk_le (jk_bh (jk_sn ?_)))
    refine jn_seq ?_
    refine jn_reg 13 ?_
    refine jg_y (fun w hs => yv_load rfl (ldBB (hs.blkL (i := 2) rfl) rfl)) rfl rfl ?_
    refine jg_store 1 rfl rfl rfl (l3 rfl) rfl rfl rfl rfl (l3 rfl) (r5 rfl) ?_
    refine jg_nils [(4, _)] ⟨rfl, trivial⟩ ?_
    refine jk_sel (is := [1, 3, 4]) (s3 rfl) rfl ?_
    refine jk_sn ?_
    refine jn_ret ?_
    exact jk_ret1 rfl (fun w hs => .cell rfl (ldBB (hs.blkL (i := 0) rfl) rfl)) (fun w hs => ⟨(q7, q11), rfl, hs.sel (is := [1, 2]) rfl rfl⟩)
  refine jn_skip ?_
  refine jk_sn ?_
  refine jn_seq ?_
  refine jn_block ?_
  refine jn_seq ?_
  refine jn_reg 9 ?_
  refine jg_y (fun w hs => yv_fieldAddr rfl) rfl rfl ?_
  refine jg_y (fun w hs => yv_load rfl (ld1B (hs.blkL (i := 0) rfl) rfl)) rfl rfl ?_
  refine jg_mv rfl rfl rfl ?_
  refine jg_ix fun x15 h16 => ?_
  refine jg_y (fun w hs => yv_ix rfl rfl (hs.argM Rha1_Targets Oha1_Targets) h16) rfl rfl ?_
  refine jg_y (fun w hs => yv_e1 rfl (hs.argM Rha1_Targets Oha1_Targets) h16.1 rfl) rfl rfl ?_
  refine jg_as rfl rfl rfl ?_
  refine jg_nils [(0, _), (3, _), (4, _), (5, _), (7, _), (8, _)] ⟨rfl, rfl, rfl, rfl, rfl, rfl, trivial⟩ ?_
  refine jk_sn ?_
  refine jn_join (fun (s : (Int × Int)) (g : Unit) => [(0, .pointer (some ⟨b0, 0, none⟩)), (3, .pointer (some ⟨g1, 0, none⟩)), (4, .pointer (some ⟨g2, 0, none⟩)), (5, .pointer (some ⟨g5, 0, none⟩)), (7, .int .i64 z10.2.1), (8, .int .i64 s.1)]) (fun (s : (Int × Int)) (g : Unit) => [(Res.blk b0 82 [ha0_fl.v, .int .i64 s.2])]) (fun (s : (Int × Int)) (g : Unit) => [(Res.blk g1 28 [.int .i64 a1.Speed.Lo, .int .i64 a1.Speed.Hi, ha1_Class.v, .int .i64 a1.Error, ha1_Targets.v]), (Res.blk g2 30 [.int .i64 0, (Hd.mk none 0 0).v, (Hd.mk none 0 0).v]), (Res.blk g5 30 [.int .i64 v3.1, q7.v, q11.v]), (rowH q7 3 1 encI z6.1), (rowH q11 3 1 encI z10.1)]) ?_ ?_
  · intro z17 q18
    refine jn_reg 12 ?_
    refine jg_y (fun w hs => yv_fieldAddr rfl) rfl rfl ?_
    refine jg_y (fun w hs => yv_load rfl (ld1B (hs.blkL (i := 2) rfl) rfl)) rfl rfl ?_
    refine jg_mv rfl rfl rfl ?_
    refine jg_lit (enc := encI) [z17.1] rfl rfl rfl rfl rfl rfl rfl rfl fun hd21 => ?_
    refine jg_append 5 rfl rfl rfl (fun w hs => (hs.row 0 rfl)) rfl rfl rfl fun y22 hd23 => ?_
    refine jg_L (r6 rfl) ?_
    refine jg_y (fun w hs => yv_fieldAddr rfl) rfl rfl ?_
    refine jg_store 3 rfl rfl rfl (l1 rfl) rfl rfl rfl rfl (l3 rfl) (r6 rfl) ?_
    refine jg_nils [(0, _), (3, _), (4, _), (5, _), (7, _)] ⟨rfl, rfl, rfl, rfl, rfl, trivial⟩ ?_
    refine jk_bn (jk_sn ?_)
    refine jn_reg 8 ?_
    refine jg_mv rfl rfl rfl ?_
    refine jg_y (fun w hs => yv_add_w rfl rfl) rfl rfl ?_
    refine jg_as rfl rfl rfl ?_
    refine jg_nils [(0, _), (3, _), (4, _), (5, _), (7, _)] ⟨rfl, rfl, rfl, rfl, rfl, trivial⟩ ?_
    exact jk_use H13 (y22, w64 (z10.2.1 + 1), z17.2) hd23 [1, 2, 3, 4, 5] ⟨rfl, rfl, rfl, rfl, rfl, trivial⟩ rfl rfl rfl
  intro k19 H20
  refine jn_seq ?_
  refine jn_reg 10 ?_
  refine jg_mv rfl rfl rfl ?_
  refine jg_y (fun w hs => yv_geq rfl rfl) rfl rfl ?_
  refine jg_nils [(0, _), (3, _), (4, _), (5, _), (7, _), (8, _), (57, _)] ⟨rfl, rfl, rfl, rfl, rfl, rfl, rfl, trivial⟩ ?_
  refine jk_sn ?_
  refine jn_cond rfl ?_ ?_
  rotate_left
  · refine jn_skip ?_
    exact jk_use H20 (x15, z10.2.2) () [0, 1, 2, 3, 4] ⟨rfl, rfl, rfl, rfl, rfl, rfl, trivial⟩ rfl rfl rfl
  refine jn_reg 11 ?_
  refine jg_mv rfl rfl rfl ?_
  refine jg_mv rfl rfl rfl ?_
  refine jg_y (fun w hs => yv_fieldAddr rfl) rfl rfl ?_
  refine jg_y (fun w hs => yv_load rfl (ld1B (hs.blkL (i := 0) rfl) rfl)) rfl rfl ?_
  refine jg_y (fun w hs => yv_sub_w rfl rfl) rfl rfl ?_
  refine jg_mv rfl rfl rfl ?_
  refine jg_y (fun w hs => yv_fieldAddr rfl) rfl rfl ?_
  refine jg_y (fun w hs => yv_load rfl (ld1B (hs.blkL (i := 0) rfl) rfl)) rfl rfl ?_
  refine jg_y (fun w hs => yv_add_w rfl rfl) rfl rfl ?_
  refine jm_c rfl (fun v w hs hm => gen_Maker_From_c hm (hs.blkM (i := 0) rfl) (hs.argM Rha0_fl Oha0_fl) Oha0_fl) (fun _ => rfl) rfl rfl fun v24 q25 => ?_
  refine jg_y (fun w hs => yv_min rfl rfl) rfl rfl ?_
  refine jg_y (fun w hs => yv_max rfl rfl) rfl rfl ?_
  refine jg_as rfl rfl rfl ?_
  refine jg_nils [(0, _), (3, _), (4, _), (5, _), (7, _), (8, _)] ⟨rfl, rfl, rfl, rfl, rfl, rfl, trivial⟩ ?_
  exact jk_use H20 (max 0 (min 20000 v24.1), v24.2) () [0, 1, 2, 3, 4] ⟨rfl, rfl, rfl, rfl, rfl, rfl, trivial⟩ rfl rfl rfl
end Go.Proofs.Ytbojnnefpapamaa
