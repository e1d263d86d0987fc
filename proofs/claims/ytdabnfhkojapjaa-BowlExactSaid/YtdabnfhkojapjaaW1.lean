/-
  The functions give what their models give. Printed by a program.
-/
import Derived.Test.YtdabnfhkojapjaaFacts
import Derived.Test.YtdabnfhkojapjaaMod
import Derived.Test.YtdabnfhkojapjaaW0
namespace Go.Proofs.Ytdabnfhkojapjaa
open Go.Hy
set_option linter.unusedVariables false
set_option linter.unusedSimpArgs false
set_option maxHeartbeats 2000000
set_option maxRecDepth 100000
theorem bowl_Arrive_c {w : World} {a0 : Stand} {a1 : (List Int)} {a2 : (List Int)} {ha0_Wagons : Hd} {ha0_Lengths : Hd} {ha1 : Hd} {ha2 : Hd} {v : (Stand × Int × Int)} (hm : bowl_Arrive a0 a1 a2 = some v) (Rha0_Wagons : Sl w ha0_Wagons encI a0.Wagons) (Rha0_Lengths : Sl w ha0_Lengths encI a0.Lengths) (Rha1 : Sl w ha1 encI a1) (Rha2 : Sl w ha2 encI a2) : Calls Try.prog 18 ([.agg #[.int .i64 a0.Room, ha0_Wagons.v, ha0_Lengths.v], ha1.v, ha2.v] : List Value).toArray w (fun e w' => ∃ g : (Hd × Hd), e = .returned (.tuple #[.agg #[.int .i64 v.1.Room, g.1.v, g.2.v], .int .i64 v.2.1, .int .i64 v.2.2]) ∧ St w w' [] [(rowH g.1 3 1 encI v.1.Wagons), (rowH g.2 3 1 encI v.1.Lengths)]) := by
  refine j_enter (vs := [.agg #[.int .i64 a0.Room, ha0_Wagons.v, ha0_Lengths.v], ha1.v, ha2.v]) (R := fun (v : (Stand × Int × Int)) (e : Ending) (w' : World) => ∃ g : (Hd × Hd), e = .returned (.tuple #[.agg #[.int .i64 v.1.Room, g.1.v, g.2.v], .int .i64 v.2.1, .int .i64 v.2.2]) ∧ St w w' [] [(rowH g.1 3 1 encI v.1.Wagons), (rowH g.2 3 1 encI v.1.Lengths)]) Try.func18 rfl Try.ntmps18 rfl rfl (St.refl w) hm ?_
  unfold bowl_Arrive
  clear hm
  refine jn_seq ?_
  refine jn_reg 0 ?_
  refine jg_box rfl (l3 rfl) rfl rfl fun g1 => ?_
  refine jg_alloc (l3 rfl) rfl rfl fun g2 => ?_
  refine jg_as rfl rfl rfl ?_
  refine jg_as rfl rfl rfl ?_
  refine jg_nils [(1, _), (2, _), (3, _), (6, _)] ⟨rfl, rfl, rfl, rfl, trivial⟩ ?_
  refine jk_sn ?_
  refine jn_seq ?_
  refine jn_seq ?_
  refine jn_reg 1 ?_
  refine jg_y (fun w hs => yv_load rfl (ldBB (hs.blkL (i := 1) rfl) rfl)) rfl rfl ?_
  refine jg_c0 rfl (fun v w hs hm => bowl_Valid_c (a0 := a0) hm (hs.arg Rha0_Wagons) (hs.arg Rha0_Lengths)) rfl rfl fun v3 => ?_
  refine jg_y (fun w hs => yv_not rfl) rfl rfl ?_
  refine jg_mv rfl rfl rfl ?_
  refine jg_split 17 rfl ?_ ?_
  · refine jg_skip rfl rfl ?_
    refine jg_skip rfl rfl ?_
    refine jg_skip rfl rfl ?_
    refine jg_skip rfl rfl ?_
    refine jg_skip rfl rfl ?_
    refine jg_y (fun w hs => yv_pick_t rfl rfl) rfl rfl ?_
    refine jg_nils [(1, _), (2, _), (3, _), (6, _), (23, _)] ⟨rfl, rfl, rfl, rfl, rfl, trivial⟩ ?_
    refine jk_sn ?_
    refine jn_ct rfl ?_
    refine jn_seq ?_
    refine jn_reg 2 ?_
    refine jg_y (fun w hs => yv_build rfl (o3 rfl)) rfl rfl ?_
    refine jg_store 0 rfl rfl rfl (l3 rfl) rfl rfl rfl rfl (l3 rfl) (r2 rfl) ?_
    refine jg_as rfl rfl rfl ?_
    refine jg_as rfl rfl rfl ?_
    refine jg_nils [(6, _), (7, _), (8, _)] ⟨rfl, rfl, rfl, trivial⟩ ?_
    refine jk_sn ?_
    refine jn_ret ?_
    refine jk_sr ?_
    refine jk_addnil 3 1 encI ?_
    refine jk_addnil 3 1 encI ?_
    exact jk_ret3 rfl (fun w hs => .cell rfl (ldBB (hs.blkL (i := 2) rfl) rfl)) (fun w hs => .tmp rfl) (fun w hs => .tmp rfl) (fun w hs => ⟨((Hd.mk none 0 0), (Hd.mk none 0 0)), rfl, hs.sel (is := [1, 0]) rfl rfl⟩)
  refine jg_mv rfl rfl rfl ?_
  refine jg_y (fun w hs => yv_ln rfl (hs.arg Rha1)) rfl rfl ?_
  refine jg_mv rfl rfl rfl ?_
  refine jg_y (fun w hs => yv_ln rfl (hs.arg Rha2)) rfl rfl ?_
  refine jg_y (fun w hs => yv_neq rfl rfl) rfl rfl ?_
  refine jg_y (fun w hs => yv_pick_f rfl rfl) rfl rfl ?_
  refine jg_nils [(1, _), (2, _), (3, _), (6, _), (23, _)] ⟨rfl, rfl, rfl, rfl, rfl, trivial⟩ ?_
  refine jk_sn ?_
  refine jn_cond rfl ?_ ?_
  · refine jn_seq ?_
    refine jn_reg 2 ?_
    refine jg_y (fun w hs => yv_build rfl (o3 rfl)) rfl rfl ?_
    refine jg_store 0 rfl rfl rfl (l3 rfl) rfl rfl rfl rfl (l3 rfl) (r2 rfl) ?_
    refine jg_as rfl rfl rfl ?_
    refine jg_as rfl rfl rfl ?_
    refine jg_nils [(6, _), (7, _), (8, _)] ⟨rfl, rfl, rfl, trivial⟩ ?_
    refine jk_sn ?_
    refine jn_ret ?_
    refine jk_sr ?_
    refine jk_addnil 3 1 encI ?_
    refine jk_addnil 3 1 encI ?_
    exact jk_ret3 rfl (fun w hs => .cell rfl (ldBB (hs.blkL (i := 2) rfl) rfl)) (fun w hs => .tmp rfl) (fun w hs => .tmp rfl) (fun w hs => ⟨((Hd.mk none 0 0), (Hd.mk none 0 0)), rfl, hs.sel (is := [1, 0]) rfl rfl⟩)
  refine jn_skip ?_
  refine jk_sn ?_
  refine jn_join (fun (s : Unit) (g : Unit) => [(1, ha1.v), (2, ha2.v), (3, .pointer (some ⟨g1, 0, none⟩)), (6, .pointer (some ⟨g2, 0, none⟩))]) (fun (s : Unit) (g : Unit) => []) (fun (s : Unit) (g : Unit) => [(Res.blk g1 24 [.int .i64 a0.Room, ha0_Wagons.v, ha0_Lengths.v]), (Res.blk g2 24 [.int .i64 0, (Hd.mk none 0 0).v, (Hd.mk none 0 0).v])]) ?_ ?_
  rotate_left
  · intro k6 H7
    refine jn_seq ?_
    refine jn_reg 3 ?_
    refine jg_mv rfl rfl rfl ?_
    refine jg_y (fun w hs => yv_ln rfl (hs.arg Rha1)) rfl rfl ?_
    refine jg_mv rfl rfl rfl ?_
    refine jg_nils [(1, _), (2, _), (3, _), (6, _), (25, _), (26, _), (27, _)] ⟨rfl, rfl, rfl, rfl, rfl, rfl, rfl, trivial⟩ ?_
    refine jk_sn ?_
    refine jn_block ?_
    refine jn_lp (n := big) (fun (s : Int) (g : Unit) => [(1, ha1.v), (2, ha2.v), (3, .pointer (some ⟨g1, 0, none⟩)), (6, .pointer (some ⟨g2, 0, none⟩)), (25, ha1.v), (26, .int .i64 (a1.length : Int)), (27, .int .i64 s)]) (fun (s : Int) (g : Unit) => []) (fun (s : Int) (g : Unit) => [(Res.blk g1 24 [.int .i64 a0.Room, ha0_Wagons.v, ha0_Lengths.v]), (Res.blk g2 24 [.int .i64 0, (Hd.mk none 0 0).v, (Hd.mk none 0 0).v])]) 0 () [1, 0] ⟨rfl, rfl, rfl, rfl, rfl, rfl, rfl, trivial⟩ rfl rfl rfl ?_
    intro z315 q316 n319 k317 H318
    refine jn_seq ?_
    refine jn_reg 4 ?_
    refine jg_y (fun w hs => yv_lss rfl rfl) rfl rfl ?_
    refine jg_nils [(1, _), (2, _), (3, _), (6, _), (25, _), (26, _), (27, _), (28, _)] ⟨rfl, rfl, rfl, rfl, rfl, rfl, rfl, rfl, trivial⟩ ?_
    refine jk_sn ?_
    refine jn_seq ?_
    refine jn_cond rfl ?_ ?_
    rotate_left
    · refine jn_exit ?_
      refine jk_se (jk_le (jk_bh ?_))
      exact jk_use H7 () () [0, 1] ⟨rfl, rfl, rfl, rfl, trivial⟩ rfl rfl rfl
    refine jn_skip ?_
    refine jk_sn ?_
    refine jn_seq ?_
    refine jn_block ?_
    refine jn_seq ?_
    refine jn_reg 5 ?_
    refine jg_mv rfl rfl rfl ?_
    refine jg_ix fun x320 h321 => ?_
    refine jg_y (fun w hs => yv_ix rfl rfl (hs.arg Rha1) h321) rfl rfl ?_
    refine jg_y (fun w hs => yv_e1 rfl (hs.arg Rha1) h321.1 rfl) rfl rfl ?_
    refine jg_as rfl rfl rfl ?_
    refine jg_as rfl rfl rfl ?_
    refine jg_nils [(1, _), (2, _), (3, _), (6, _), (9, _), (10, _), (25, _), (26, _), (27, _)] ⟨rfl, rfl, rfl, rfl, rfl, rfl, rfl, rfl, rfl, trivial⟩ ?_
    refine jk_sn ?_
    refine jn_seq ?_
    refine jn_reg 6 ?_
    refine jg_mv rfl rfl rfl ?_
    refine jg_y (fun w hs => yv_lss rfl rfl) rfl rfl ?_
    refine jg_mv rfl rfl rfl ?_
    refine jg_split 34 rfl ?_ ?_
    · refine jg_skip rfl rfl ?_
      refine jg_skip rfl rfl ?_
      refine jg_skip rfl rfl ?_
      refine jg_skip rfl rfl ?_
      refine jg_skip rfl rfl ?_
      refine jg_y (fun w hs => yv_pick_t rfl rfl) rfl rfl ?_
      refine jg_mv rfl rfl rfl ?_
      refine jg_skip rfl rfl ?_
      refine jg_skip rfl rfl ?_
      refine jg_skip rfl rfl ?_
      refine jg_skip rfl rfl ?_
      refine jg_skip rfl rfl ?_
      refine jg_y (fun w hs => yv_pick_t rfl rfl) rfl rfl ?_
      refine jg_nils [(1, _), (2, _), (3, _), (6, _), (25, _), (26, _), (27, _), (47, _)] ⟨rfl, rfl, rfl, rfl, rfl, rfl, rfl, rfl, trivial⟩ ?_
      refine jk_sn ?_
      refine jn_ct rfl ?_
      refine jn_seq ?_
      refine jn_reg 7 ?_
      refine jg_y (fun w hs => yv_build rfl (o3 rfl)) rfl rfl ?_
      refine jg_store 1 rfl rfl rfl (l3 rfl) rfl rfl rfl rfl (l3 rfl) (r2 rfl) ?_
      refine jg_as rfl rfl rfl ?_
      refine jg_as rfl rfl rfl ?_
      refine jg_nils [(6, _), (7, _), (8, _)] ⟨rfl, rfl, rfl, trivial⟩ ?_
      refine jk_sn ?_
      refine jn_ret ?_
      refine jk_br (jk_sr (jk_lr (jk_br (jk_sr ?_))))
      refine jk_addnil 3 1 encI ?_
      refine jk_addnil 3 1 encI ?_
      exact jk_ret3 rfl (fun w hs => .cell rfl (ldBB (hs.blkL (i := 3) rfl) rfl)) (fun w hs => .tmp rfl) (fun w hs => .tmp rfl) (fun w hs => ⟨((Hd.mk none 0 0), (Hd.mk none 0 0)), rfl, hs.sel (is := [1, 0]) rfl rfl⟩)
    refine jg_mv rfl rfl rfl ?_
    refine jg_mv rfl rfl rfl ?_
    refine jg_ix fun x322 h323 => ?_
    refine jg_y (fun w hs => yv_ix rfl rfl (hs.arg Rha2) h323) rfl rfl ?_
    refine jg_y (fun w hs => yv_e1 rfl (hs.arg Rha2) h323.1 rfl) rfl rfl ?_
    refine jg_y (fun w hs => yv_lss rfl rfl) rfl rfl ?_
    refine jg_y (fun w hs => yv_pick_f rfl rfl) rfl rfl ?_
    refine jg_mv rfl rfl rfl ?_
    refine jg_split 41 rfl ?_ ?_
    · refine jg_skip rfl rfl ?_
      refine jg_skip rfl rfl ?_
      refine jg_skip rfl rfl ?_
      refine jg_skip rfl rfl ?_
      refine jg_skip rfl rfl ?_
      refine jg_y (fun w hs => yv_pick_t rfl rfl) rfl rfl ?_
      refine jg_nils [(1, _), (2, _), (3, _), (6, _), (25, _), (26, _), (27, _), (47, _)] ⟨rfl, rfl, rfl, rfl, rfl, rfl, rfl, rfl, trivial⟩ ?_
      refine jk_sn ?_
      refine jn_ct rfl ?_
      refine jn_seq ?_
      refine jn_reg 7 ?_
      refine jg_y (fun w hs => yv_build rfl (o3 rfl)) rfl rfl ?_
      refine jg_store 1 rfl rfl rfl (l3 rfl) rfl rfl rfl rfl (l3 rfl) (r2 rfl) ?_
      refine jg_as rfl rfl rfl ?_
      refine jg_as rfl rfl rfl ?_
      refine jg_nils [(6, _), (7, _), (8, _)] ⟨rfl, rfl, rfl, trivial⟩ ?_
      refine jk_sn ?_
      refine jn_ret ?_
      refine jk_br (jk_sr (jk_lr (jk_br (jk_sr ?_))))
      refine jk_addnil 3 1 encI ?_
      refine jk_addnil 3 1 encI ?_
      exact jk_ret3 rfl (fun w hs => .cell rfl (ldBB (hs.blkL (i := 3) rfl) rfl)) (fun w hs => .tmp rfl) (fun w hs => .tmp rfl) (fun w hs => ⟨((Hd.mk none 0 0), (Hd.mk none 0 0)), rfl, hs.sel (is := [1, 0]) rfl rfl⟩)
    refine jg_mv rfl rfl rfl ?_
    refine jg_mv rfl rfl rfl ?_
    refine jg_ix fun x324 h325 => ?_
    refine jg_y (fun w hs => yv_ix rfl rfl (hs.arg Rha2) h325) rfl rfl ?_
    refine jg_y (fun w hs => yv_e1 rfl (hs.arg Rha2) h325.1 rfl) rfl rfl ?_
    refine jg_y (fun w hs => yv_gtr rfl rfl) rfl rfl ?_
    refine jg_y (fun w hs => yv_pick_f rfl rfl) rfl rfl ?_
    refine jg_nils [(1, _), (2, _), (3, _), (6, _), (25, _), (26, _), (27, _), (47, _)] ⟨rfl, rfl, rfl, rfl, rfl, rfl, rfl, rfl, trivial⟩ ?_
    refine jk_sn ?_
    refine jn_cond rfl ?_ ?_
    rotate_left
    · refine jn_skip ?_
      refine jk_bn (jk_sn ?_)
      refine jn_reg 8 ?_
      refine jg_y (fun w hs => yv_add_w rfl rfl) rfl rfl ?_
      refine jg_mv rfl rfl rfl ?_
      refine jg_nils [(1, _), (2, _), (3, _), (6, _), (25, _), (26, _), (27, _)] ⟨rfl, rfl, rfl, rfl, rfl, rfl, rfl, trivial⟩ ?_
      exact jk_use H318 (w64 (z315 + 1)) () [0, 1] ⟨rfl, rfl, rfl, rfl, rfl, rfl, rfl, trivial⟩ rfl rfl rfl
    refine jn_seq ?_
    refine jn_reg 7 ?_
    refine jg_y (fun w hs => yv_build rfl (o3 rfl)) rfl rfl ?_
    refine jg_store 1 rfl rfl rfl (l3 rfl) rfl rfl rfl rfl (l3 rfl) (r2 rfl) ?_
    refine jg_as rfl rfl rfl ?_
    refine jg_as rfl rfl rfl ?_
    refine jg_nils [(6, _), (7, _), (8, _)] ⟨rfl, rfl, rfl, trivial⟩ ?_
    refine jk_sn ?_
    refine jn_ret ?_
    refine jk_br (jk_sr (jk_lr (jk_br (jk_sr ?_))))
    refine jk_addnil 3 1 encI ?_
    refine jk_addnil 3 1 encI ?_
    exact jk_ret3 rfl (fun w hs => .cell rfl (ldBB (hs.blkL (i := 3) rfl) rfl)) (fun w hs => .tmp rfl) (fun w hs => .tmp rfl) (fun w hs => ⟨((Hd.mk none 0 0), (Hd.mk none 0 0)), rfl, hs.sel (is := [1, 0]) rfl rfl⟩)
  intro z4 q5
  refine jn_seq ?_
  refine jn_seq ?_
  refine jn_reg 9 ?_
  refine jg_y (fun w hs => yv_fieldAddr rfl) rfl rfl ?_
  refine jg_y (fun w hs => yv_load rfl (ld1B (hs.blkL (i := 0) rfl) rfl)) rfl rfl ?_
  refine jg_y (fun w hs => yv_ln rfl (hs.arg Rha0_Wagons)) rfl rfl ?_
  refine jg_mv rfl rfl rfl ?_
  refine jg_y (fun w hs => yv_ln rfl (hs.arg Rha1)) rfl rfl ?_
  refine jg_yl (fun w hs => yv_add_w rfl rfl) rfl rfl fun x8 => ?_
  refine jg_y (fun w hs => yv_gtr rfl rfl) rfl rfl ?_
  refine jg_nils [(1, _), (2, _), (3, _), (6, _), (56, _)] ⟨rfl, rfl, rfl, rfl, rfl, trivial⟩ ?_
  refine jk_sn ?_
  refine jn_cond rfl ?_ ?_
  · refine jn_seq ?_
    refine jn_reg 10 ?_
    refine jg_y (fun w hs => yv_build rfl (o3 rfl)) rfl rfl ?_
    refine jg_store 1 rfl rfl rfl (l3 rfl) rfl rfl rfl rfl (l3 rfl) (r2 rfl) ?_
    refine jg_as rfl rfl rfl ?_
    refine jg_as rfl rfl rfl ?_
    refine jg_nils [(6, _), (7, _), (8, _)] ⟨rfl, rfl, rfl, trivial⟩ ?_
    refine jk_sn ?_
    refine jn_ret ?_
    refine jk_sr ?_
    refine jk_addnil 3 1 encI ?_
    refine jk_addnil 3 1 encI ?_
    exact jk_ret3 rfl (fun w hs => .cell rfl (ldBB (hs.blkL (i := 3) rfl) rfl)) (fun w hs => .tmp rfl) (fun w hs => .tmp rfl) (fun w hs => ⟨((Hd.mk none 0 0), (Hd.mk none 0 0)), rfl, hs.sel (is := [1, 0]) rfl rfl⟩)
  refine jn_skip ?_
  refine jk_sn ?_
  refine jn_join (fun (s : ((List Int) × (List Int))) (g : (Nat × Hd × Hd)) => [(6, .pointer (some ⟨g2, 0, none⟩)), (11, .pointer (some ⟨g.1, 0, none⟩))]) (fun (s : ((List Int) × (List Int))) (g : (Nat × Hd × Hd)) => []) (fun (s : ((List Int) × (List Int))) (g : (Nat × Hd × Hd)) => [(Res.blk g2 24 [.int .i64 0, (Hd.mk none 0 0).v, (Hd.mk none 0 0).v]), (Res.blk g.1 24 [.int .i64 a0.Room, g.2.1.v, g.2.2.v]), (rowH g.2.1 3 1 encI s.1), (rowH g.2.2 3 1 encI s.2)]) ?_ ?_
  · intro z9 q10
    refine jn_seq ?_
    refine jn_seq ?_
    refine jn_reg 12 ?_
    refine jg_y (fun w hs => yv_load rfl (ldBB (hs.blkL (i := 1) rfl) rfl)) rfl rfl ?_
    refine jg_c0 rfl (fun v w hs hm => bowl_Valid_c (a0 := (Stand.mk a0.Room z9.1 z9.2)) hm (hs.row 2 rfl) (hs.row 3 rfl)) rfl rfl fun v13 => ?_
    refine jg_y (fun w hs => yv_not rfl) rfl rfl ?_
    refine jg_nils [(6, _), (11, _), (73, _)] ⟨rfl, rfl, rfl, trivial⟩ ?_
    refine jk_sn ?_
    refine jn_cond rfl ?_ ?_
    · refine jn_seq ?_
      refine jn_reg 13 ?_
      refine jg_y (fun w hs => yv_build rfl (o3 rfl)) rfl rfl ?_
      refine jg_store 0 rfl rfl rfl (l3 rfl) rfl rfl rfl rfl (l3 rfl) (r4 rfl) ?_
      refine jg_as rfl rfl rfl ?_
      refine jg_as rfl rfl rfl ?_
      refine jg_nils [(6, _), (7, _), (8, _)] ⟨rfl, rfl, rfl, trivial⟩ ?_
      refine jk_sel (is := [0]) (s1 rfl) rfl ?_
      refine jk_sn ?_
      refine jn_ret ?_
      refine jk_sr ?_
      refine jk_addnil 3 1 encI ?_
      refine jk_addnil 3 1 encI ?_
      exact jk_ret3 rfl (fun w hs => .cell rfl (ldBB (hs.blkL (i := 2) rfl) rfl)) (fun w hs => .tmp rfl) (fun w hs => .tmp rfl) (fun w hs => ⟨((Hd.mk none 0 0), (Hd.mk none 0 0)), rfl, hs.sel (is := [1, 0]) rfl rfl⟩)
    refine jn_skip ?_
    refine jk_sn ?_
    refine jn_seq ?_
    refine jn_reg 14 ?_
    refine jg_y (fun w hs => yv_load rfl (ldBB (hs.blkL (i := 1) rfl) rfl)) rfl rfl ?_
    refine jg_c0 rfl (fun v w hs hm => bowl_foul_c (a0 := (Stand.mk a0.Room z9.1 z9.2)) hm (hs.row 2 rfl) (hs.row 3 rfl)) rfl rfl fun v14 => ?_
    refine jg_mv rfl rfl rfl ?_
    refine jg_y (fun w hs => yv_extract rfl rfl) rfl rfl ?_
    refine jg_y (fun w hs => yv_extract rfl rfl) rfl rfl ?_
    refine jg_as rfl rfl rfl ?_
    refine jg_as rfl rfl rfl ?_
    refine jg_nils [(6, _), (11, _), (12, _)] ⟨rfl, rfl, rfl, trivial⟩ ?_
    refine jk_sn ?_
    refine jn_seq ?_
    refine jn_reg 15 ?_
    refine jg_y (fun w hs => yv_load rfl (ldBB (hs.blkL (i := 1) rfl) rfl)) rfl rfl ?_
    refine jg_mv rfl rfl rfl ?_
    refine jg_store 0 rfl rfl rfl (l3 rfl) rfl rfl rfl rfl (l3 rfl) (r4 rfl) ?_
    refine jg_as rfl rfl rfl ?_
    refine jg_as rfl rfl rfl ?_
    refine jg_nils [(6, _), (7, _), (8, _)] ⟨rfl, rfl, rfl, trivial⟩ ?_
    refine jk_sn ?_
    refine jn_ret ?_
    exact jk_ret3 rfl (fun w hs => .cell rfl (ldBB (hs.blkL (i := 0) rfl) rfl)) (fun w hs => .tmp rfl) (fun w hs => .tmp rfl) (fun w hs => ⟨(q10.2.1, q10.2.2), rfl, hs.sel (is := [2, 3]) rfl rfl⟩)
  intro k11 H12
  refine jn_drawA 11 [0, 1, 2, 3, 4, 5, 6, 7, 8, 9, 10, 11, 12, 13, 14] 32767 528 13 [0, 1, 0, 4, 0, 24, 32, 0, 128, 0, 768, 1088, 2114, 0, 16383] [0, 1, 0, 4, 0, 28, 60, 0, 128, 0, 896, 2044, 4095, 0, 16383] [(4, true), (9, true)] (np_seq np_rt) (by kernel_rfl) (by kernel_rfl) (by kernel_rfl) (by kernel_rfl) (by kernel_rfl) (by kernel_rfl) (by kernel_rfl) (by kernel_rfl) ?_
  refine jt_mv rfl rfl rfl ?_
  refine jt_mv rfl rfl rfl ?_
  refine jd_x ?_
  refine jx_to (L' := [_, _]) [0, 1, 2, 3, 5, 6, 7, 8, 10, 11, 12, 13] [14] [0, 1] rfl ?_
  refine jx_lin [0, 1] 15855 927 7 [0, 1, 0, 4, 0, 28, 60, 0, 128, 0, 896, 2044, 4095, 0, 16383] [(0, true), (1, true), (2, true), (3, true), (7, true), (8, true)] rfl (np_seq np_rt) (by kernel_rfl) (by kernel_rfl) (by kernel_rfl) (by kernel_rfl) (by kernel_rfl) (by kernel_rfl) (by kernel_rfl) (by kernel_rfl) (by kernel_rfl) ?_
  refine jd_y rfl (fun w hs => yv_fieldAddr rfl) rfl rfl ?_
  refine jd_y rfl (fun w hs => yv_load rfl (ld1B (hs.blk (i := 0) rfl) rfl)) rfl rfl ?_
  refine jd_y rfl (fun w hs => yv_fieldAddr rfl) rfl rfl ?_
  refine jd_y rfl (fun w hs => yv_load rfl (ld1B (hs.blk (i := 0) rfl) rfl)) rfl rfl ?_
  refine jd_y rfl (fun w hs => yv_fieldAddr rfl) rfl rfl ?_
  refine jd_y rfl (fun w hs => yv_load rfl (ld1B (hs.blk (i := 0) rfl) rfl)) rfl rfl ?_
  refine jd_x ?_
  refine jx3 (i := 5) (i2 := 10) (i3 := 13) (by kernel_rfl) (by kernel_rfl) rfl rfl rfl ?_ ?_ ?_
  · refine jg_lit (enc := encH) [(a0.Wagons, ha0_Wagons), (a1, ha1)] rfl rfl rfl rfl rfl rfl rfl rfl fun hd115 => ?_
    refine jg_nil ?_
    refine jk_xn [1, 2] rfl ?_
    refine jx3 (i := 6) (i2 := 10) (i3 := 13) (by kernel_rfl) (by kernel_rfl) rfl rfl rfl ?_ ?_ ?_
    · refine jg_c rfl (fun v w hs hm => slices_Concat_int_int__c hm (SlD.two (hs.row 0 rfl) (hs.arg Rha0_Wagons) (hs.arg Rha1))) rfl rfl fun v135 q136 => ?_
      refine jg_L (r4 rfl) ?_
      refine jg_nil ?_
      refine jk_xn [2, 3] rfl ?_
      refine jx2 (i := 10) (i2 := 13) (by kernel_rfl) (by kernel_rfl) rfl rfl ?_ ?_
      · refine jg_lit (enc := encH) [(a0.Lengths, ha0_Lengths), (a2, ha2)] rfl rfl rfl rfl rfl rfl rfl rfl fun hd215 => ?_
        refine jg_nil ?_
        refine jk_xn [3, 4] rfl ?_
        refine jx2 (i := 11) (i2 := 13) (by kernel_rfl) (by kernel_rfl) rfl rfl ?_ ?_
        · refine jg_c rfl (fun v w hs hm => slices_Concat_int_int__c hm (SlD.two (hs.row 0 rfl) (hs.arg Rha0_Lengths) (hs.arg Rha2))) rfl rfl fun v235 q236 => ?_
          refine jg_L (r6 rfl) ?_
          refine jg_nil ?_
          refine jk_xn [4, 5] rfl ?_
          refine jx_lin [4, 5] 15855 8191 2 [0, 1, 0, 4, 0, 28, 60, 0, 128, 0, 896, 2044, 4095, 0, 16383] [(12, true)] rfl (np_seq np_rt) (by kernel_rfl) (by kernel_rfl) (by kernel_rfl) (by kernel_rfl) (by kernel_rfl) (by kernel_rfl) (by kernel_rfl) (by kernel_rfl) (by kernel_rfl) ?_
          refine jd_y rfl (fun w hs => yv_build rfl (o3 rfl)) rfl rfl ?_
          refine jd_x ?_
          refine jx1 (i := 13) (by kernel_rfl) (by kernel_rfl) rfl ?_
          refine jg_alloc (l3 rfl) rfl rfl fun g275 => ?_
          refine jg_nil ?_
          refine jk_xn [5, 6] rfl ?_
          refine jx1 (i := 14) (by kernel_rfl) (by kernel_rfl) rfl ?_
          refine jg_store 0 rfl rfl rfl (l3 rfl) rfl rfl rfl rfl (l3 rfl) (r7 rfl) ?_
          refine jg_nil ?_
          refine jk_xf (by kernel_rfl) ?_
          refine jx0 [(6, _), (11, _)] ⟨rfl, rfl, trivial⟩ (by kernel_rfl) (by kernel_rfl) ?_
          refine jk_sel (is := [0, 1, 3, 6]) (s4 rfl) rfl ?_
          exact jk_use H12 (v135, v235) (g275, q136, q236) [3, 0, 2, 1] ⟨rfl, rfl, trivial⟩ rfl rfl rfl
        refine jg_alloc (l3 rfl) rfl rfl fun g275 => ?_
        refine jg_nil ?_
        refine jk_xn [4, 5] rfl ?_
        refine jx1 (i := 11) (by kernel_rfl) (by kernel_rfl) rfl ?_
        refine jg_c rfl (fun v w hs hm => slices_Concat_int_int__c hm (SlD.two (hs.row 1 rfl) (hs.arg Rha0_Lengths) (hs.arg Rha2))) rfl rfl fun v235 q236 => ?_
        refine jg_L (r7 rfl) ?_
        refine jg_nil ?_
        refine jk_xn [5, 6] rfl ?_
        refine jx_lin [5, 6] 15855 16383 1 [0, 1, 0, 4, 0, 28, 60, 0, 128, 0, 896, 2044, 4095, 0, 16383] [(12, true)] rfl (np_seq np_rt) (by kernel_rfl) (by kernel_rfl) (by kernel_rfl) (by kernel_rfl) (by kernel_rfl) (by kernel_rfl) (by kernel_rfl) (by kernel_rfl) (by kernel_rfl) ?_
        refine jd_y rfl (fun w hs => yv_build rfl (o3 rfl)) rfl rfl ?_
        refine jd_x ?_
        refine jx1 (i := 14) (by kernel_rfl) (by kernel_rfl) rfl ?_
        refine jg_store 1 rfl rfl rfl (l3 rfl) rfl rfl rfl rfl (l3 rfl) (r7 rfl) ?_
        refine jg_nil ?_
        refine jk_xf (by kernel_rfl) ?_
        refine jx0 [(6, _), (11, _)] ⟨rfl, rfl, trivial⟩ (by kernel_rfl) (by kernel_rfl) ?_
        refine jk_sel (is := [0, 1, 3, 6]) (s4 rfl) rfl ?_
        exact jk_use H12 (v135, v235) (g275, q136, q236) [3, 1, 2, 0] ⟨rfl, rfl, trivial⟩ rfl rfl rfl
      refine jg_alloc (l3 rfl) rfl rfl fun g275 => ?_
      refine jg_nil ?_
      refine jk_xn [3, 4] rfl ?_
      refine jx1 (i := 10) (by kernel_rfl) (by kernel_rfl) rfl ?_
      refine jg_lit (enc := encH) [(a0.Lengths, ha0_Lengths), (a2, ha2)] rfl rfl rfl rfl rfl rfl rfl rfl fun hd215 => ?_
      refine jg_nil ?_
      refine jk_xn [4, 5] rfl ?_
      refine jx1 (i := 11) (by kernel_rfl) (by kernel_rfl) rfl ?_
      refine jg_c rfl (fun v w hs hm => slices_Concat_int_int__c hm (SlD.two (hs.row 0 rfl) (hs.arg Rha0_Lengths) (hs.arg Rha2))) rfl rfl fun v235 q236 => ?_
      refine jg_L (r7 rfl) ?_
      refine jg_nil ?_
      refine jk_xn [5, 6] rfl ?_
      refine jx_lin [5, 6] 15855 16383 1 [0, 1, 0, 4, 0, 28, 60, 0, 128, 0, 896, 2044, 4095, 0, 16383] [(12, true)] rfl (np_seq np_rt) (by kernel_rfl) (by kernel_rfl) (by kernel_rfl) (by kernel_rfl) (by kernel_rfl) (by kernel_rfl) (by kernel_rfl) (by kernel_rfl) (by kernel_rfl) ?_
      refine jd_y rfl (fun w hs => yv_build rfl (o3 rfl)) rfl rfl ?_
      refine jd_x ?_
      refine jx1 (i := 14) (by kernel_rfl) (by kernel_rfl) rfl ?_
      refine jg_store 2 rfl rfl rfl (l3 rfl) rfl rfl rfl rfl (l3 rfl) (r7 rfl) ?_
      refine jg_nil ?_
      refine jk_xf (by kernel_rfl) ?_
      refine jx0 [(6, _), (11, _)] ⟨rfl, rfl, trivial⟩ (by kernel_rfl) (by kernel_rfl) ?_
      refine jk_sel (is := [0, 2, 3, 6]) (s4 rfl) rfl ?_
      exact jk_use H12 (v135, v235) (g275, q136, q236) [3, 1, 2, 0] ⟨rfl, rfl, trivial⟩ rfl rfl rfl
    · refine jg_lit (enc := encH) [(a0.Lengths, ha0_Lengths), (a2, ha2)] rfl rfl rfl rfl rfl rfl rfl rfl fun hd215 => ?_
      refine jg_nil ?_
      refine jk_xn [2, 3] rfl ?_
      refine jx2 (i := 6) (i2 := 13) (by kernel_rfl) (by kernel_rfl) rfl rfl ?_ ?_
      · refine jg_c rfl (fun v w hs hm => slices_Concat_int_int__c hm (SlD.two (hs.row 1 rfl) (hs.arg Rha0_Wagons) (hs.arg Rha1))) rfl rfl fun v135 q136 => ?_
        refine jg_L (r5 rfl) ?_
        refine jg_nil ?_
        refine jk_xn [3, 4] rfl ?_
        refine jx2 (i := 11) (i2 := 13) (by kernel_rfl) (by kernel_rfl) rfl rfl ?_ ?_
        · refine jg_c rfl (fun v w hs hm => slices_Concat_int_int__c hm (SlD.two (hs.row 1 rfl) (hs.arg Rha0_Lengths) (hs.arg Rha2))) rfl rfl fun v235 q236 => ?_
          refine jg_L (r6 rfl) ?_
          refine jg_nil ?_
          refine jk_xn [4, 5] rfl ?_
          refine jx_lin [4, 5] 15855 8191 2 [0, 1, 0, 4, 0, 28, 60, 0, 128, 0, 896, 2044, 4095, 0, 16383] [(12, true)] rfl (np_seq np_rt) (by kernel_rfl) (by kernel_rfl) (by kernel_rfl) (by kernel_rfl) (by kernel_rfl) (by kernel_rfl) (by kernel_rfl) (by kernel_rfl) (by kernel_rfl) ?_
          refine jd_y rfl (fun w hs => yv_build rfl (o3 rfl)) rfl rfl ?_
          refine jd_x ?_
          refine jx1 (i := 13) (by kernel_rfl) (by kernel_rfl) rfl ?_
          refine jg_alloc (l3 rfl) rfl rfl fun g275 => ?_
          refine jg_nil ?_
          refine jk_xn [5, 6] rfl ?_
          refine jx1 (i := 14) (by kernel_rfl) (by kernel_rfl) rfl ?_
          refine jg_store 0 rfl rfl rfl (l3 rfl) rfl rfl rfl rfl (l3 rfl) (r7 rfl) ?_
          refine jg_nil ?_
          refine jk_xf (by kernel_rfl) ?_
          refine jx0 [(6, _), (11, _)] ⟨rfl, rfl, trivial⟩ (by kernel_rfl) (by kernel_rfl) ?_
          refine jk_sel (is := [0, 1, 2, 6]) (s4 rfl) rfl ?_
          exact jk_use H12 (v135, v235) (g275, q136, q236) [3, 0, 2, 1] ⟨rfl, rfl, trivial⟩ rfl rfl rfl
        refine jg_alloc (l3 rfl) rfl rfl fun g275 => ?_
        refine jg_nil ?_
        refine jk_xn [4, 5] rfl ?_
        refine jx1 (i := 11) (by kernel_rfl) (by kernel_rfl) rfl ?_
        refine jg_c rfl (fun v w hs hm => slices_Concat_int_int__c hm (SlD.two (hs.row 2 rfl) (hs.arg Rha0_Lengths) (hs.arg Rha2))) rfl rfl fun v235 q236 => ?_
        refine jg_L (r7 rfl) ?_
        refine jg_nil ?_
        refine jk_xn [5, 6] rfl ?_
        refine jx_lin [5, 6] 15855 16383 1 [0, 1, 0, 4, 0, 28, 60, 0, 128, 0, 896, 2044, 4095, 0, 16383] [(12, true)] rfl (np_seq np_rt) (by kernel_rfl) (by kernel_rfl) (by kernel_rfl) (by kernel_rfl) (by kernel_rfl) (by kernel_rfl) (by kernel_rfl) (by kernel_rfl) (by kernel_rfl) ?_
        refine jd_y rfl (fun w hs => yv_build rfl (o3 rfl)) rfl rfl ?_
        refine jd_x ?_
        refine jx1 (i := 14) (by kernel_rfl) (by kernel_rfl) rfl ?_
        refine jg_store 1 rfl rfl rfl (l3 rfl) rfl rfl rfl rfl (l3 rfl) (r7 rfl) ?_
        refine jg_nil ?_
        refine jk_xf (by kernel_rfl) ?_
        refine jx0 [(6, _), (11, _)] ⟨rfl, rfl, trivial⟩ (by kernel_rfl) (by kernel_rfl) ?_
        refine jk_sel (is := [0, 1, 2, 6]) (s4 rfl) rfl ?_
        exact jk_use H12 (v135, v235) (g275, q136, q236) [3, 1, 2, 0] ⟨rfl, rfl, trivial⟩ rfl rfl rfl
      refine jg_alloc (l3 rfl) rfl rfl fun g275 => ?_
      refine jg_nil ?_
      refine jk_xn [3, 4] rfl ?_
      refine jx1 (i := 6) (by kernel_rfl) (by kernel_rfl) rfl ?_
      refine jg_c rfl (fun v w hs hm => slices_Concat_int_int__c hm (SlD.two (hs.row 2 rfl) (hs.arg Rha0_Wagons) (hs.arg Rha1))) rfl rfl fun v135 q136 => ?_
      refine jg_L (r6 rfl) ?_
      refine jg_nil ?_
      refine jk_xn [4, 5] rfl ?_
      refine jx1 (i := 11) (by kernel_rfl) (by kernel_rfl) rfl ?_
      refine jg_c rfl (fun v w hs hm => slices_Concat_int_int__c hm (SlD.two (hs.row 2 rfl) (hs.arg Rha0_Lengths) (hs.arg Rha2))) rfl rfl fun v235 q236 => ?_
      refine jg_L (r7 rfl) ?_
      refine jg_nil ?_
      refine jk_xn [5, 6] rfl ?_
      refine jx_lin [5, 6] 15855 16383 1 [0, 1, 0, 4, 0, 28, 60, 0, 128, 0, 896, 2044, 4095, 0, 16383] [(12, true)] rfl (np_seq np_rt) (by kernel_rfl) (by kernel_rfl) (by kernel_rfl) (by kernel_rfl) (by kernel_rfl) (by kernel_rfl) (by kernel_rfl) (by kernel_rfl) (by kernel_rfl) ?_
      refine jd_y rfl (fun w hs => yv_build rfl (o3 rfl)) rfl rfl ?_
      refine jd_x ?_
      refine jx1 (i := 14) (by kernel_rfl) (by kernel_rfl) rfl ?_
      refine jg_store 2 rfl rfl rfl (l3 rfl) rfl rfl rfl rfl (l3 rfl) (r7 rfl) ?_
      refine jg_nil ?_
      refine jk_xf (by kernel_rfl) ?_
      refine jx0 [(6, _), (11, _)] ⟨rfl, rfl, trivial⟩ (by kernel_rfl) (by kernel_rfl) ?_
      refine jk_sel (is := [0, 1, 2, 6]) (s4 rfl) rfl ?_
      exact jk_use H12 (v135, v235) (g275, q136, q236) [3, 2, 1, 0] ⟨rfl, rfl, trivial⟩ rfl rfl rfl
    refine jg_alloc (l3 rfl) rfl rfl fun g275 => ?_
    refine jg_nil ?_
    refine jk_xn [2, 3] rfl ?_
    refine jx2 (i := 6) (i2 := 10) (by kernel_rfl) (by kernel_rfl) rfl rfl ?_ ?_
    · refine jg_c rfl (fun v w hs hm => slices_Concat_int_int__c hm (SlD.two (hs.row 1 rfl) (hs.arg Rha0_Wagons) (hs.arg Rha1))) rfl rfl fun v135 q136 => ?_
      refine jg_L (r5 rfl) ?_
      refine jg_nil ?_
      refine jk_xn [3, 4] rfl ?_
      refine jx1 (i := 10) (by kernel_rfl) (by kernel_rfl) rfl ?_
      refine jg_lit (enc := encH) [(a0.Lengths, ha0_Lengths), (a2, ha2)] rfl rfl rfl rfl rfl rfl rfl rfl fun hd215 => ?_
      refine jg_nil ?_
      refine jk_xn [4, 5] rfl ?_
      refine jx1 (i := 11) (by kernel_rfl) (by kernel_rfl) rfl ?_
      refine jg_c rfl (fun v w hs hm => slices_Concat_int_int__c hm (SlD.two (hs.row 0 rfl) (hs.arg Rha0_Lengths) (hs.arg Rha2))) rfl rfl fun v235 q236 => ?_
      refine jg_L (r7 rfl) ?_
      refine jg_nil ?_
      refine jk_xn [5, 6] rfl ?_
      refine jx_lin [5, 6] 15855 16383 1 [0, 1, 0, 4, 0, 28, 60, 0, 128, 0, 896, 2044, 4095, 0, 16383] [(12, true)] rfl (np_seq np_rt) (by kernel_rfl) (by kernel_rfl) (by kernel_rfl) (by kernel_rfl) (by kernel_rfl) (by kernel_rfl) (by kernel_rfl) (by kernel_rfl) (by kernel_rfl) ?_
      refine jd_y rfl (fun w hs => yv_build rfl (o3 rfl)) rfl rfl ?_
      refine jd_x ?_
      refine jx1 (i := 14) (by kernel_rfl) (by kernel_rfl) rfl ?_
      refine jg_store 3 rfl rfl rfl (l3 rfl) rfl rfl rfl rfl (l3 rfl) (r7 rfl) ?_
      refine jg_nil ?_
      refine jk_xf (by kernel_rfl) ?_
      refine jx0 [(6, _), (11, _)] ⟨rfl, rfl, trivial⟩ (by kernel_rfl) (by kernel_rfl) ?_
      refine jk_sel (is := [0, 2, 3, 6]) (s4 rfl) rfl ?_
      exact jk_use H12 (v135, v235) (g275, q136, q236) [3, 2, 1, 0] ⟨rfl, rfl, trivial⟩ rfl rfl rfl
    refine jg_lit (enc := encH) [(a0.Lengths, ha0_Lengths), (a2, ha2)] rfl rfl rfl rfl rfl rfl rfl rfl fun hd215 => ?_
    refine jg_nil ?_
    refine jk_xn [3, 4] rfl ?_
    refine jx1 (i := 6) (by kernel_rfl) (by kernel_rfl) rfl ?_
    refine jg_c rfl (fun v w hs hm => slices_Concat_int_int__c hm (SlD.two (hs.row 2 rfl) (hs.arg Rha0_Wagons) (hs.arg Rha1))) rfl rfl fun v135 q136 => ?_
    refine jg_L (r6 rfl) ?_
    refine jg_nil ?_
    refine jk_xn [4, 5] rfl ?_
    refine jx1 (i := 11) (by kernel_rfl) (by kernel_rfl) rfl ?_
    refine jg_c rfl (fun v w hs hm => slices_Concat_int_int__c hm (SlD.two (hs.row 1 rfl) (hs.arg Rha0_Lengths) (hs.arg Rha2))) rfl rfl fun v235 q236 => ?_
    refine jg_L (r7 rfl) ?_
    refine jg_nil ?_
    refine jk_xn [5, 6] rfl ?_
    refine jx_lin [5, 6] 15855 16383 1 [0, 1, 0, 4, 0, 28, 60, 0, 128, 0, 896, 2044, 4095, 0, 16383] [(12, true)] rfl (np_seq np_rt) (by kernel_rfl) (by kernel_rfl) (by kernel_rfl) (by kernel_rfl) (by kernel_rfl) (by kernel_rfl) (by kernel_rfl) (by kernel_rfl) (by kernel_rfl) ?_
    refine jd_y rfl (fun w hs => yv_build rfl (o3 rfl)) rfl rfl ?_
    refine jd_x ?_
    refine jx1 (i := 14) (by kernel_rfl) (by kernel_rfl) rfl ?_
    refine jg_store 3 rfl rfl rfl (l3 rfl) rfl rfl rfl rfl (l3 rfl) (r7 rfl) ?_
    refine jg_nil ?_
    refine jk_xf (by kernel_rfl) ?_
    refine jx0 [(6, _), (11, _)] ⟨rfl, rfl, trivial⟩ (by kernel_rfl) (by kernel_rfl) ?_
    refine jk_sel (is := [0, 1, 3, 6]) (s4 rfl) rfl ?_
    exact jk_use H12 (v135, v235) (g275, q136, q236) [3, 2, 1, 0] ⟨rfl, rfl, trivial⟩ rfl rfl rfl
  · refine jg_lit (enc := encH) [(a0.Lengths, ha0_Lengths), (a2, ha2)] rfl rfl rfl rfl rfl rfl rfl rfl fun hd215 => ?_
    refine jg_nil ?_
    refine jk_xn [1, 2] rfl ?_
    refine jx2 (i := 5) (i2 := 13) (by kernel_rfl) (by kernel_rfl) rfl rfl ?_ ?_
    · refine jg_lit (enc := encH) [(a0.Wagons, ha0_Wagons), (a1, ha1)] rfl rfl rfl rfl rfl rfl rfl rfl fun hd115 => ?_
      refine jg_nil ?_
      refine jk_xn [2, 3] rfl ?_
      refine jx2 (i := 6) (i2 := 13) (by kernel_rfl) (by kernel_rfl) rfl rfl ?_ ?_
      · refine jg_c rfl (fun v w hs hm => slices_Concat_int_int__c hm (SlD.two (hs.row 0 rfl) (hs.arg Rha0_Wagons) (hs.arg Rha1))) rfl rfl fun v135 q136 => ?_
        refine jg_L (r5 rfl) ?_
        refine jg_nil ?_
        refine jk_xn [3, 4] rfl ?_
        refine jx2 (i := 11) (i2 := 13) (by kernel_rfl) (by kernel_rfl) rfl rfl ?_ ?_
        · refine jg_c rfl (fun v w hs hm => slices_Concat_int_int__c hm (SlD.two (hs.row 2 rfl) (hs.arg Rha0_Lengths) (hs.arg Rha2))) rfl rfl fun v235 q236 => ?_
          refine jg_L (r6 rfl) ?_
          refine jg_nil ?_
          refine jk_xn [4, 5] rfl ?_
          refine jx_lin [4, 5] 15855 8191 2 [0, 1, 0, 4, 0, 28, 60, 0, 128, 0, 896, 2044, 4095, 0, 16383] [(12, true)] rfl (np_seq np_rt) (by kernel_rfl) (by kernel_rfl) (by kernel_rfl) (by kernel_rfl) (by kernel_rfl) (by kernel_rfl) (by kernel_rfl) (by kernel_rfl) (by kernel_rfl) ?_
          refine jd_y rfl (fun w hs => yv_build rfl (o3 rfl)) rfl rfl ?_
          refine jd_x ?_
          refine jx1 (i := 13) (by kernel_rfl) (by kernel_rfl) rfl ?_
          refine jg_alloc (l3 rfl) rfl rfl fun g275 => ?_
          refine jg_nil ?_
          refine jk_xn [5, 6] rfl ?_
          refine jx1 (i := 14) (by kernel_rfl) (by kernel_rfl) rfl ?_
          refine jg_store 0 rfl rfl rfl (l3 rfl) rfl rfl rfl rfl (l3 rfl) (r7 rfl) ?_
          refine jg_nil ?_
          refine jk_xf (by kernel_rfl) ?_
          refine jx0 [(6, _), (11, _)] ⟨rfl, rfl, trivial⟩ (by kernel_rfl) (by kernel_rfl) ?_
          refine jk_sel (is := [0, 1, 2, 6]) (s4 rfl) rfl ?_
          exact jk_use H12 (v135, v235) (g275, q136, q236) [3, 0, 2, 1] ⟨rfl, rfl, trivial⟩ rfl rfl rfl
        refine jg_alloc (l3 rfl) rfl rfl fun g275 => ?_
        refine jg_nil ?_
        refine jk_xn [4, 5] rfl ?_
        refine jx1 (i := 11) (by kernel_rfl) (by kernel_rfl) rfl ?_
        refine jg_c rfl (fun v w hs hm => slices_Concat_int_int__c hm (SlD.two (hs.row 3 rfl) (hs.arg Rha0_Lengths) (hs.arg Rha2))) rfl rfl fun v235 q236 => ?_
        refine jg_L (r7 rfl) ?_
        refine jg_nil ?_
        refine jk_xn [5, 6] rfl ?_
        refine jx_lin [5, 6] 15855 16383 1 [0, 1, 0, 4, 0, 28, 60, 0, 128, 0, 896, 2044, 4095, 0, 16383] [(12, true)] rfl (np_seq np_rt) (by kernel_rfl) (by kernel_rfl) (by kernel_rfl) (by kernel_rfl) (by kernel_rfl) (by kernel_rfl) (by kernel_rfl) (by kernel_rfl) (by kernel_rfl) ?_
        refine jd_y rfl (fun w hs => yv_build rfl (o3 rfl)) rfl rfl ?_
        refine jd_x ?_
        refine jx1 (i := 14) (by kernel_rfl) (by kernel_rfl) rfl ?_
        refine jg_store 1 rfl rfl rfl (l3 rfl) rfl rfl rfl rfl (l3 rfl) (r7 rfl) ?_
        refine jg_nil ?_
        refine jk_xf (by kernel_rfl) ?_
        refine jx0 [(6, _), (11, _)] ⟨rfl, rfl, trivial⟩ (by kernel_rfl) (by kernel_rfl) ?_
        refine jk_sel (is := [0, 1, 2, 6]) (s4 rfl) rfl ?_
        exact jk_use H12 (v135, v235) (g275, q136, q236) [3, 1, 2, 0] ⟨rfl, rfl, trivial⟩ rfl rfl rfl
      refine jg_alloc (l3 rfl) rfl rfl fun g275 => ?_
      refine jg_nil ?_
      refine jk_xn [3, 4] rfl ?_
      refine jx1 (i := 6) (by kernel_rfl) (by kernel_rfl) rfl ?_
      refine jg_c rfl (fun v w hs hm => slices_Concat_int_int__c hm (SlD.two (hs.row 1 rfl) (hs.arg Rha0_Wagons) (hs.arg Rha1))) rfl rfl fun v135 q136 => ?_
      refine jg_L (r6 rfl) ?_
      refine jg_nil ?_
      refine jk_xn [4, 5] rfl ?_
      refine jx1 (i := 11) (by kernel_rfl) (by kernel_rfl) rfl ?_
      refine jg_c rfl (fun v w hs hm => slices_Concat_int_int__c hm (SlD.two (hs.row 3 rfl) (hs.arg Rha0_Lengths) (hs.arg Rha2))) rfl rfl fun v235 q236 => ?_
      refine jg_L (r7 rfl) ?_
      refine jg_nil ?_
      refine jk_xn [5, 6] rfl ?_
      refine jx_lin [5, 6] 15855 16383 1 [0, 1, 0, 4, 0, 28, 60, 0, 128, 0, 896, 2044, 4095, 0, 16383] [(12, true)] rfl (np_seq np_rt) (by kernel_rfl) (by kernel_rfl) (by kernel_rfl) (by kernel_rfl) (by kernel_rfl) (by kernel_rfl) (by kernel_rfl) (by kernel_rfl) (by kernel_rfl) ?_
      refine jd_y rfl (fun w hs => yv_build rfl (o3 rfl)) rfl rfl ?_
      refine jd_x ?_
      refine jx1 (i := 14) (by kernel_rfl) (by kernel_rfl) rfl ?_
      refine jg_store 2 rfl rfl rfl (l3 rfl) rfl rfl rfl rfl (l3 rfl) (r7 rfl) ?_
      refine jg_nil ?_
      refine jk_xf (by kernel_rfl) ?_
      refine jx0 [(6, _), (11, _)] ⟨rfl, rfl, trivial⟩ (by kernel_rfl) (by kernel_rfl) ?_
      refine jk_sel (is := [0, 1, 2, 6]) (s4 rfl) rfl ?_
      exact jk_use H12 (v135, v235) (g275, q136, q236) [3, 2, 1, 0] ⟨rfl, rfl, trivial⟩ rfl rfl rfl
    refine jg_alloc (l3 rfl) rfl rfl fun g275 => ?_
    refine jg_nil ?_
    refine jk_xn [2, 3] rfl ?_
    refine jx1 (i := 5) (by kernel_rfl) (by kernel_rfl) rfl ?_
    refine jg_lit (enc := encH) [(a0.Wagons, ha0_Wagons), (a1, ha1)] rfl rfl rfl rfl rfl rfl rfl rfl fun hd115 => ?_
    refine jg_nil ?_
    refine jk_xn [3, 4] rfl ?_
    refine jx1 (i := 6) (by kernel_rfl) (by kernel_rfl) rfl ?_
    refine jg_c rfl (fun v w hs hm => slices_Concat_int_int__c hm (SlD.two (hs.row 0 rfl) (hs.arg Rha0_Wagons) (hs.arg Rha1))) rfl rfl fun v135 q136 => ?_
    refine jg_L (r6 rfl) ?_
    refine jg_nil ?_
    refine jk_xn [4, 5] rfl ?_
    refine jx1 (i := 11) (by kernel_rfl) (by kernel_rfl) rfl ?_
    refine jg_c rfl (fun v w hs hm => slices_Concat_int_int__c hm (SlD.two (hs.row 3 rfl) (hs.arg Rha0_Lengths) (hs.arg Rha2))) rfl rfl fun v235 q236 => ?_
    refine jg_L (r7 rfl) ?_
    refine jg_nil ?_
    refine jk_xn [5, 6] rfl ?_
    refine jx_lin [5, 6] 15855 16383 1 [0, 1, 0, 4, 0, 28, 60, 0, 128, 0, 896, 2044, 4095, 0, 16383] [(12, true)] rfl (np_seq np_rt) (by kernel_rfl) (by kernel_rfl) (by kernel_rfl) (by kernel_rfl) (by kernel_rfl) (by kernel_rfl) (by kernel_rfl) (by kernel_rfl) (by kernel_rfl) ?_
    refine jd_y rfl (fun w hs => yv_build rfl (o3 rfl)) rfl rfl ?_
    refine jd_x ?_
    refine jx1 (i := 14) (by kernel_rfl) (by kernel_rfl) rfl ?_
    refine jg_store 3 rfl rfl rfl (l3 rfl) rfl rfl rfl rfl (l3 rfl) (r7 rfl) ?_
    refine jg_nil ?_
    refine jk_xf (by kernel_rfl) ?_
    refine jx0 [(6, _), (11, _)] ⟨rfl, rfl, trivial⟩ (by kernel_rfl) (by kernel_rfl) ?_
    refine jk_sel (is := [0, 1, 3, 6]) (s4 rfl) rfl ?_
    exact jk_use H12 (v135, v235) (g275, q136, q236) [3, 2, 1, 0] ⟨rfl, rfl, trivial⟩ rfl rfl rfl
  refine jg_alloc (l3 rfl) rfl rfl fun g275 => ?_
  refine jg_nil ?_
  refine jk_xn [1, 2] rfl ?_
  refine jx2 (i := 5) (i2 := 10) (by kernel_rfl) (by kernel_rfl) rfl rfl ?_ ?_
  · refine jg_lit (enc := encH) [(a0.Wagons, ha0_Wagons), (a1, ha1)] rfl rfl rfl rfl rfl rfl rfl rfl fun hd115 => ?_
    refine jg_nil ?_
    refine jk_xn [2, 3] rfl ?_
    refine jx2 (i := 6) (i2 := 10) (by kernel_rfl) (by kernel_rfl) rfl rfl ?_ ?_
    · refine jg_c rfl (fun v w hs hm => slices_Concat_int_int__c hm (SlD.two (hs.row 0 rfl) (hs.arg Rha0_Wagons) (hs.arg Rha1))) rfl rfl fun v135 q136 => ?_
      refine jg_L (r5 rfl) ?_
      refine jg_nil ?_
      refine jk_xn [3, 4] rfl ?_
      refine jx1 (i := 10) (by kernel_rfl) (by kernel_rfl) rfl ?_
      refine jg_lit (enc := encH) [(a0.Lengths, ha0_Lengths), (a2, ha2)] rfl rfl rfl rfl rfl rfl rfl rfl fun hd215 => ?_
      refine jg_nil ?_
      refine jk_xn [4, 5] rfl ?_
      refine jx1 (i := 11) (by kernel_rfl) (by kernel_rfl) rfl ?_
      refine jg_c rfl (fun v w hs hm => slices_Concat_int_int__c hm (SlD.two (hs.row 0 rfl) (hs.arg Rha0_Lengths) (hs.arg Rha2))) rfl rfl fun v235 q236 => ?_
      refine jg_L (r7 rfl) ?_
      refine jg_nil ?_
      refine jk_xn [5, 6] rfl ?_
      refine jx_lin [5, 6] 15855 16383 1 [0, 1, 0, 4, 0, 28, 60, 0, 128, 0, 896, 2044, 4095, 0, 16383] [(12, true)] rfl (np_seq np_rt) (by kernel_rfl) (by kernel_rfl) (by kernel_rfl) (by kernel_rfl) (by kernel_rfl) (by kernel_rfl) (by kernel_rfl) (by kernel_rfl) (by kernel_rfl) ?_
      refine jd_y rfl (fun w hs => yv_build rfl (o3 rfl)) rfl rfl ?_
      refine jd_x ?_
      refine jx1 (i := 14) (by kernel_rfl) (by kernel_rfl) rfl ?_
      refine jg_store 4 rfl rfl rfl (l3 rfl) rfl rfl rfl rfl (l3 rfl) (r7 rfl) ?_
      refine jg_nil ?_
      refine jk_xf (by kernel_rfl) ?_
      refine jx0 [(6, _), (11, _)] ⟨rfl, rfl, trivial⟩ (by kernel_rfl) (by kernel_rfl) ?_
      refine jk_sel (is := [0, 2, 4, 6]) (s4 rfl) rfl ?_
      exact jk_use H12 (v135, v235) (g275, q136, q236) [3, 2, 1, 0] ⟨rfl, rfl, trivial⟩ rfl rfl rfl
    refine jg_lit (enc := encH) [(a0.Lengths, ha0_Lengths), (a2, ha2)] rfl rfl rfl rfl rfl rfl rfl rfl fun hd215 => ?_
    refine jg_nil ?_
    refine jk_xn [3, 4] rfl ?_
    refine jx1 (i := 6) (by kernel_rfl) (by kernel_rfl) rfl ?_
    refine jg_c rfl (fun v w hs hm => slices_Concat_int_int__c hm (SlD.two (hs.row 1 rfl) (hs.arg Rha0_Wagons) (hs.arg Rha1))) rfl rfl fun v135 q136 => ?_
    refine jg_L (r6 rfl) ?_
    refine jg_nil ?_
    refine jk_xn [4, 5] rfl ?_
    refine jx1 (i := 11) (by kernel_rfl) (by kernel_rfl) rfl ?_
    refine jg_c rfl (fun v w hs hm => slices_Concat_int_int__c hm (SlD.two (hs.row 1 rfl) (hs.arg Rha0_Lengths) (hs.arg Rha2))) rfl rfl fun v235 q236 => ?_
    refine jg_L (r7 rfl) ?_
    refine jg_nil ?_
    refine jk_xn [5, 6] rfl ?_
    refine jx_lin [5, 6] 15855 16383 1 [0, 1, 0, 4, 0, 28, 60, 0, 128, 0, 896, 2044, 4095, 0, 16383] [(12, true)] rfl (np_seq np_rt) (by kernel_rfl) (by kernel_rfl) (by kernel_rfl) (by kernel_rfl) (by kernel_rfl) (by kernel_rfl) (by kernel_rfl) (by kernel_rfl) (by kernel_rfl) ?_
    refine jd_y rfl (fun w hs => yv_build rfl (o3 rfl)) rfl rfl ?_
    refine jd_x ?_
    refine jx1 (i := 14) (by kernel_rfl) (by kernel_rfl) rfl ?_
    refine jg_store 4 rfl rfl rfl (l3 rfl) rfl rfl rfl rfl (l3 rfl) (r7 rfl) ?_
    refine jg_nil ?_
    refine jk_xf (by kernel_rfl) ?_
    refine jx0 [(6, _), (11, _)] ⟨rfl, rfl, trivial⟩ (by kernel_rfl) (by kernel_rfl) ?_
    refine jk_sel (is := [0, 1, 4, 6]) (s4 rfl) rfl ?_
    exact jk_use H12 (v135, v235) (g275, q136, q236) [3, 2, 1, 0] ⟨rfl, rfl, trivial⟩ rfl rfl rfl
  refine jg_lit (enc := encH) [(a0.Lengths, ha0_Lengths), (a2, ha2)] rfl rfl rfl rfl rfl rfl rfl rfl fun hd215 => ?_
  refine jg_nil ?_
  refine jk_xn [2, 3] rfl ?_
  refine jx1 (i := 5) (by kernel_rfl) (by kernel_rfl) rfl ?_
  refine jg_lit (enc := encH) [(a0.Wagons, ha0_Wagons), (a1, ha1)] rfl rfl rfl rfl rfl rfl rfl rfl fun hd115 => ?_
  refine jg_nil ?_
  refine jk_xn [3, 4] rfl ?_
  refine jx1 (i := 6) (by kernel_rfl) (by kernel_rfl) rfl ?_
  refine jg_c rfl (fun v w hs hm => slices_Concat_int_int__c hm (SlD.two (hs.row 0 rfl) (hs.arg Rha0_Wagons) (hs.arg Rha1))) rfl rfl fun v135 q136 => ?_
  refine jg_L (r6 rfl) ?_
  refine jg_nil ?_
  refine jk_xn [4, 5] rfl ?_
  refine jx1 (i := 11) (by kernel_rfl) (by kernel_rfl) rfl ?_
  refine jg_c rfl (fun v w hs hm => slices_Concat_int_int__c hm (SlD.two (hs.row 2 rfl) (hs.arg Rha0_Lengths) (hs.arg Rha2))) rfl rfl fun v235 q236 => ?_
  refine jg_L (r7 rfl) ?_
  refine jg_nil ?_
  refine jk_xn [5, 6] rfl ?_
  refine jx_lin [5, 6] 15855 16383 1 [0, 1, 0, 4, 0, 28, 60, 0, 128, 0, 896, 2044, 4095, 0, 16383] [(12, true)] rfl (np_seq np_rt) (by kernel_rfl) (by kernel_rfl) (by kernel_rfl) (by kernel_rfl) (by kernel_rfl) (by kernel_rfl) (by kernel_rfl) (by kernel_rfl) (by kernel_rfl) ?_
  refine jd_y rfl (fun w hs => yv_build rfl (o3 rfl)) rfl rfl ?_
  refine jd_x ?_
  refine jx1 (i := 14) (by kernel_rfl) (by kernel_rfl) rfl ?_
  refine jg_store 4 rfl rfl rfl (l3 rfl) rfl rfl rfl rfl (l3 rfl) (r7 rfl) ?_
  refine jg_nil ?_
  refine jk_xf (by kernel_rfl) ?_
  refine jx0 [(6, _), (11, _)] ⟨rfl, rfl, trivial⟩ (by kernel_rfl) (by kernel_rfl) ?_
  refine jk_sel (is := [0, 1, 4, 6]) (s4 rfl) rfl ?_
  exact jk_use H12 (v135, v235) (g275, q136, q236) [3, 2, 1, 0] ⟨rfl, rfl, trivial⟩ rfl rfl rfl
theorem r32_lengths_c {w : World} {a0 : (List Int)} {ha0 : Hd} {v : Bool} (hm : r32_lengths a0 = some v) (Rha0 : Sl w ha0 encI a0) : Gives Try.prog 60 [ha0.v] w (.bool v) := by
  refine j_gives (vs := [ha0.v]) (U := fun (v : Bool) => .bool v) Try.func60 rfl Try.ntmps60 rfl rfl hm ?_
  unfold r32_lengths
  clear hm
  refine jn_seq ?_
  refine jn_reg 0 ?_
  refine jg_as rfl rfl rfl ?_
  refine jg_nils [(0, _)] ⟨rfl, trivial⟩ ?_
  refine jk_sn ?_
  refine jn_seq ?_
  refine jn_seq ?_
  refine jn_reg 1 ?_
  refine jg_as rfl rfl rfl ?_
  refine jg_nils [(0, _), (3, _)] ⟨rfl, rfl, trivial⟩ ?_
  refine jk_sn ?_
  refine jn_block ?_
  refine jn_lp (n := big) (fun (s : Int) (g : Unit) => [(0, ha0.v), (3, .int .i64 s)]) (fun (s : Int) (g : Unit) => []) (fun (s : Int) (g : Unit) => []) 0 () [] ⟨rfl, rfl, trivial⟩ rfl rfl rfl ?_
  intro z1 q2 n5 k3 H4
  refine jn_seq ?_
  refine jn_seq ?_
  refine jn_reg 2 ?_
  refine jg_mv rfl rfl rfl ?_
  refine jg_mv rfl rfl rfl ?_
  refine jg_y (fun w hs => yv_ln rfl (hs.arg Rha0)) rfl rfl ?_
  refine jg_y (fun w hs => yv_lss rfl rfl) rfl rfl ?_
  refine jg_nils [(0, _), (3, _), (7, _)] ⟨rfl, rfl, rfl, trivial⟩ ?_
  refine jk_sn ?_
  refine jn_cond rfl ?_ ?_
  rotate_left
  · refine jn_exit ?_
    refine jk_se (jk_le (jk_bh (jk_sn ?_)))
    refine jn_seq ?_
    refine jn_reg 6 ?_
    refine jg_as rfl rfl rfl ?_
    refine jg_nils [(2, _)] ⟨rfl, trivial⟩ ?_
    refine jk_sn ?_
    refine jn_ret ?_
    exact jk_ret1 rfl (fun w hs => .tmp rfl) (fun w hs => ⟨rfl, hs.drop⟩)
  refine jn_skip ?_
  refine jk_sn ?_
  refine jn_seq ?_
  refine jn_block ?_
  refine jn_seq ?_
  refine jn_reg 4 ?_
  refine jg_mv rfl rfl rfl ?_
  refine jg_mv rfl rfl rfl ?_
  refine jg_ix fun x6 h7 => ?_
  refine jg_y (fun w hs => yv_ix rfl rfl (hs.arg Rha0) h7) rfl rfl ?_
  refine jg_y (fun w hs => yv_e1 rfl (hs.arg Rha0) h7.1 rfl) rfl rfl ?_
  refine jg_y (fun w hs => yv_lss rfl rfl) rfl rfl ?_
  refine jg_mv rfl rfl rfl ?_
  refine jg_split 15 rfl ?_ ?_
  · refine jg_skip rfl rfl ?_
    refine jg_skip rfl rfl ?_
    refine jg_skip rfl rfl ?_
    refine jg_skip rfl rfl ?_
    refine jg_skip rfl rfl ?_
    refine jg_y (fun w hs => yv_pick_t rfl rfl) rfl rfl ?_
    refine jg_nils [(0, _), (3, _), (21, _)] ⟨rfl, rfl, rfl, trivial⟩ ?_
    refine jk_sn ?_
    refine jn_ct rfl ?_
    refine jn_seq ?_
    refine jn_reg 5 ?_
    refine jg_as rfl rfl rfl ?_
    refine jg_nils [(2, _)] ⟨rfl, trivial⟩ ?_
    refine jk_sn ?_
    refine jn_ret ?_
    refine jk_br (jk_sr (jk_lr (jk_br (jk_sr ?_))))
    exact jk_ret1 rfl (fun w hs => .tmp rfl) (fun w hs => ⟨rfl, hs.drop⟩)
  refine jg_mv rfl rfl rfl ?_
  refine jg_mv rfl rfl rfl ?_
  refine jg_ix fun x8 h9 => ?_
  refine jg_y (fun w hs => yv_ix rfl rfl (hs.arg Rha0) h9) rfl rfl ?_
  refine jg_y (fun w hs => yv_e1 rfl (hs.arg Rha0) h9.1 rfl) rfl rfl ?_
  refine jg_y (fun w hs => yv_gtr rfl rfl) rfl rfl ?_
  refine jg_y (fun w hs => yv_pick_f rfl rfl) rfl rfl ?_
  refine jg_nils [(0, _), (3, _), (21, _)] ⟨rfl, rfl, rfl, trivial⟩ ?_
  refine jk_sn ?_
  refine jn_cond rfl ?_ ?_
  · refine jn_seq ?_
    refine jn_reg 5 ?_
    refine jg_as rfl rfl rfl ?_
    refine jg_nils [(2, _)] ⟨rfl, trivial⟩ ?_
    refine jk_sn ?_
    refine jn_ret ?_
    refine jk_br (jk_sr (jk_lr (jk_br (jk_sr ?_))))
    exact jk_ret1 rfl (fun w hs => .tmp rfl) (fun w hs => ⟨rfl, hs.drop⟩)
  refine jn_skip ?_
  refine jk_bn (jk_sn ?_)
  refine jn_reg 3 ?_
  refine jg_mv rfl rfl rfl ?_
  refine jg_y (fun w hs => yv_add_w rfl rfl) rfl rfl ?_
  refine jg_as rfl rfl rfl ?_
  refine jg_nils [(0, _), (3, _)] ⟨rfl, rfl, trivial⟩ ?_
  exact jk_use H4 (w64 (z1 + 1)) () [] ⟨rfl, rfl, trivial⟩ rfl rfl rfl
theorem r32_has_c {w : World} {a0 : (List Int)} {a1 : Int} {ha0 : Hd} {v : Bool} (hm : r32_has a0 a1 = some v) (Rha0 : Sl w ha0 encI a0) : Gives Try.prog 61 [ha0.v, .int .i64 a1] w (.bool v) := by
  refine j_gives (vs := [ha0.v, .int .i64 a1]) (U := fun (v : Bool) => .bool v) Try.func61 rfl Try.ntmps61 rfl rfl hm ?_
  unfold r32_has
  clear hm
  refine jn_seq ?_
  refine jn_reg 0 ?_
  refine jg_as rfl rfl rfl ?_
  refine jg_nils [(0, _), (1, _)] ⟨rfl, rfl, trivial⟩ ?_
  refine jk_sn ?_
  refine jn_seq ?_
  refine jn_seq ?_
  refine jn_reg 1 ?_
  refine jg_as rfl rfl rfl ?_
  refine jg_nils [(0, _), (1, _), (5, _)] ⟨rfl, rfl, rfl, trivial⟩ ?_
  refine jk_sn ?_
  refine jn_block ?_
  refine jn_lp (n := big) (fun (s : Int) (g : Unit) => [(0, ha0.v), (1, .int .i64 a1), (5, .int .i64 s)]) (fun (s : Int) (g : Unit) => []) (fun (s : Int) (g : Unit) => []) 0 () [] ⟨rfl, rfl, rfl, trivial⟩ rfl rfl rfl ?_
  intro z1 q2 n5 k3 H4
  refine jn_seq ?_
  refine jn_seq ?_
  refine jn_reg 2 ?_
  refine jg_mv rfl rfl rfl ?_
  refine jg_mv rfl rfl rfl ?_
  refine jg_y (fun w hs => yv_ln rfl (hs.arg Rha0)) rfl rfl ?_
  refine jg_y (fun w hs => yv_lss rfl rfl) rfl rfl ?_
  refine jg_nils [(0, _), (1, _), (5, _), (9, _)] ⟨rfl, rfl, rfl, rfl, trivial⟩ ?_
  refine jk_sn ?_
  refine jn_cond rfl ?_ ?_
  rotate_left
  · refine jn_exit ?_
    refine jk_se (jk_le (jk_bh (jk_sn ?_)))
    refine jn_seq ?_
    refine jn_reg 6 ?_
    refine jg_as rfl rfl rfl ?_
    refine jg_nils [(4, _)] ⟨rfl, trivial⟩ ?_
    refine jk_sn ?_
    refine jn_ret ?_
    exact jk_ret1 rfl (fun w hs => .tmp rfl) (fun w hs => ⟨rfl, hs.drop⟩)
  refine jn_skip ?_
  refine jk_sn ?_
  refine jn_seq ?_
  refine jn_block ?_
  refine jn_seq ?_
  refine jn_reg 4 ?_
  refine jg_mv rfl rfl rfl ?_
  refine jg_mv rfl rfl rfl ?_
  refine jg_ix fun x6 h7 => ?_
  refine jg_y (fun w hs => yv_ix rfl rfl (hs.arg Rha0) h7) rfl rfl ?_
  refine jg_y (fun w hs => yv_e1 rfl (hs.arg Rha0) h7.1 rfl) rfl rfl ?_
  refine jg_mv rfl rfl rfl ?_
  refine jg_y (fun w hs => yv_eql rfl rfl) rfl rfl ?_
  refine jg_nils [(0, _), (1, _), (5, _), (17, _)] ⟨rfl, rfl, rfl, rfl, trivial⟩ ?_
  refine jk_sn ?_
  refine jn_cond rfl ?_ ?_
  · refine jn_seq ?_
    refine jn_reg 5 ?_
    refine jg_as rfl rfl rfl ?_
    refine jg_nils [(4, _)] ⟨rfl, trivial⟩ ?_
    refine jk_sn ?_
    refine jn_ret ?_
    refine jk_br (jk_sr (jk_lr (jk_br (jk_sr ?_))))
    exact jk_ret1 rfl (fun w hs => .tmp rfl) (fun w hs => ⟨rfl, hs.drop⟩)
  refine jn_skip ?_
  refine jk_bn (jk_sn ?_)
  refine jn_reg 3 ?_
  refine jg_mv rfl rfl rfl ?_
  refine jg_y (fun w hs => yv_add_w rfl rfl) rfl rfl ?_
  refine jg_as rfl rfl rfl ?_
  refine jg_nils [(0, _), (1, _), (5, _)] ⟨rfl, rfl, rfl, trivial⟩ ?_
  exact jk_use H4 (w64 (z1 + 1)) () [] ⟨rfl, rfl, rfl, trivial⟩ rfl rfl rfl
theorem r32_Valid_c {w : World} {a0 : Stand} {ha0_Wagons : Hd} {ha0_Lengths : Hd} {v : Bool} (hm : r32_Valid a0 = some v) (Rha0_Wagons : Sl w ha0_Wagons encI a0.Wagons) (Rha0_Lengths : Sl w ha0_Lengths encI a0.Lengths) : Gives Try.prog 37 [.agg #[.int .i64 a0.Room, ha0_Wagons.v, ha0_Lengths.v]] w (.bool v) := by
  refine j_gives (vs := [.agg #[.int .i64 a0.Room, ha0_Wagons.v, ha0_Lengths.v]]) (U := fun (v : Bool) => .bool v) Try.func37 rfl Try.ntmps37 rfl rfl hm ?_
  unfold r32_Valid
  clear hm
  refine jn_seq ?_
  refine jn_reg 0 ?_
  refine jg_box rfl (l3 rfl) rfl rfl fun g1 => ?_
  refine jg_as rfl rfl rfl ?_
  refine jg_nils [(1, _)] ⟨rfl, trivial⟩ ?_
  refine jk_sn ?_
  refine jn_seq ?_
  refine jn_seq ?_
  refine jn_reg 1 ?_
  refine jg_y (fun w hs => yv_fieldAddr rfl) rfl rfl ?_
  refine jg_y (fun w hs => yv_load rfl (ld1B (hs.blkL (i := 0) rfl) rfl)) rfl rfl ?_
  refine jg_y (fun w hs => yv_lss rfl rfl) rfl rfl ?_
  refine jg_mv rfl rfl rfl ?_
  refine jg_split 7 rfl ?_ ?_
  · refine jg_skip rfl rfl ?_
    refine jg_skip rfl rfl ?_
    refine jg_skip rfl rfl ?_
    refine jg_y (fun w hs => yv_pick_t rfl rfl) rfl rfl ?_
    refine jg_mv rfl rfl rfl ?_
    refine jg_skip rfl rfl ?_
    refine jg_skip rfl rfl ?_
    refine jg_skip rfl rfl ?_
    refine jg_skip rfl rfl ?_
    refine jg_y (fun w hs => yv_pick_t rfl rfl) rfl rfl ?_
    refine jg_mv rfl rfl rfl ?_
    refine jg_skip rfl rfl ?_
    refine jg_skip rfl rfl ?_
    refine jg_skip rfl rfl ?_
    refine jg_skip rfl rfl ?_
    refine jg_skip rfl rfl ?_
    refine jg_skip rfl rfl ?_
    refine jg_skip rfl rfl ?_
    refine jg_y (fun w hs => yv_pick_t rfl rfl) rfl rfl ?_
    refine jg_mv rfl rfl rfl ?_
    refine jg_skip rfl rfl ?_
    refine jg_skip rfl rfl ?_
    refine jg_skip rfl rfl ?_
    refine jg_skip rfl rfl ?_
    refine jg_y (fun w hs => yv_pick_t rfl rfl) rfl rfl ?_
    refine jg_nils [(1, _), (32, _)] ⟨rfl, rfl, trivial⟩ ?_
    refine jk_sn ?_
    refine jn_ct rfl ?_
    refine jn_seq ?_
    refine jn_reg 2 ?_
    refine jg_as rfl rfl rfl ?_
    refine jg_nils [(2, _)] ⟨rfl, trivial⟩ ?_
    refine jk_sn ?_
    refine jn_ret ?_
    refine jk_sr ?_
    exact jk_ret1 rfl (fun w hs => .tmp rfl) (fun w hs => ⟨rfl, hs.drop⟩)
  refine jg_y (fun w hs => yv_fieldAddr rfl) rfl rfl ?_
  refine jg_y (fun w hs => yv_load rfl (ld1B (hs.blkL (i := 0) rfl) rfl)) rfl rfl ?_
  refine jg_y (fun w hs => yv_gtr rfl rfl) rfl rfl ?_
  refine jg_y (fun w hs => yv_pick_f rfl rfl) rfl rfl ?_
  refine jg_mv rfl rfl rfl ?_
  refine jg_split 12 rfl ?_ ?_
  · refine jg_skip rfl rfl ?_
    refine jg_skip rfl rfl ?_
    refine jg_skip rfl rfl ?_
    refine jg_skip rfl rfl ?_
    refine jg_y (fun w hs => yv_pick_t rfl rfl) rfl rfl ?_
    refine jg_mv rfl rfl rfl ?_
    refine jg_skip rfl rfl ?_
    refine jg_skip rfl rfl ?_
    refine jg_skip rfl rfl ?_
    refine jg_skip rfl rfl ?_
    refine jg_skip rfl rfl ?_
    refine jg_skip rfl rfl ?_
    refine jg_skip rfl rfl ?_
    refine jg_y (fun w hs => yv_pick_t rfl rfl) rfl rfl ?_
    refine jg_mv rfl rfl rfl ?_
    refine jg_skip rfl rfl ?_
    refine jg_skip rfl rfl ?_
    refine jg_skip rfl rfl ?_
    refine jg_skip rfl rfl ?_
    refine jg_y (fun w hs => yv_pick_t rfl rfl) rfl rfl ?_
    refine jg_nils [(1, _), (32, _)] ⟨rfl, rfl, trivial⟩ ?_
    refine jk_sn ?_
    refine jn_ct rfl ?_
    refine jn_seq ?_
    refine jn_reg 2 ?_
    refine jg_as rfl rfl rfl ?_
    refine jg_nils [(2, _)] ⟨rfl, trivial⟩ ?_
    refine jk_sn ?_
    refine jn_ret ?_
    refine jk_sr ?_
    exact jk_ret1 rfl (fun w hs => .tmp rfl) (fun w hs => ⟨rfl, hs.drop⟩)
  refine jg_y (fun w hs => yv_fieldAddr rfl) rfl rfl ?_
  refine jg_y (fun w hs => yv_load rfl (ld1B (hs.blkL (i := 0) rfl) rfl)) rfl rfl ?_
  refine jg_y (fun w hs => yv_ln rfl (hs.arg Rha0_Wagons)) rfl rfl ?_
  refine jg_y (fun w hs => yv_gtr rfl rfl) rfl rfl ?_
  refine jg_y (fun w hs => yv_pick_f rfl rfl) rfl rfl ?_
  refine jg_mv rfl rfl rfl ?_
  refine jg_split 18 rfl ?_ ?_
  · refine jg_skip rfl rfl ?_
    refine jg_skip rfl rfl ?_
    refine jg_skip rfl rfl ?_
    refine jg_skip rfl rfl ?_
    refine jg_skip rfl rfl ?_
    refine jg_skip rfl rfl ?_
    refine jg_skip rfl rfl ?_
    refine jg_y (fun w hs => yv_pick_t rfl rfl) rfl rfl ?_
    refine jg_mv rfl rfl rfl ?_
    refine jg_skip rfl rfl ?_
    refine jg_skip rfl rfl ?_
    refine jg_skip rfl rfl ?_
    refine jg_skip rfl rfl ?_
    refine jg_y (fun w hs => yv_pick_t rfl rfl) rfl rfl ?_
    refine jg_nils [(1, _), (32, _)] ⟨rfl, rfl, trivial⟩ ?_
    refine jk_sn ?_
    refine jn_ct rfl ?_
    refine jn_seq ?_
    refine jn_reg 2 ?_
    refine jg_as rfl rfl rfl ?_
    refine jg_nils [(2, _)] ⟨rfl, trivial⟩ ?_
    refine jk_sn ?_
    refine jn_ret ?_
    refine jk_sr ?_
    exact jk_ret1 rfl (fun w hs => .tmp rfl) (fun w hs => ⟨rfl, hs.drop⟩)
  refine jg_y (fun w hs => yv_fieldAddr rfl) rfl rfl ?_
  refine jg_y (fun w hs => yv_load rfl (ld1B (hs.blkL (i := 0) rfl) rfl)) rfl rfl ?_
  refine jg_y (fun w hs => yv_ln rfl (hs.arg Rha0_Lengths)) rfl rfl ?_
  refine jg_y (fun w hs => yv_fieldAddr rfl) rfl rfl ?_
  refine jg_y (fun w hs => yv_load rfl (ld1B (hs.blkL (i := 0) rfl) rfl)) rfl rfl ?_
  refine jg_y (fun w hs => yv_ln rfl (hs.arg Rha0_Wagons)) rfl rfl ?_
  refine jg_y (fun w hs => yv_neq rfl rfl) rfl rfl ?_
  refine jg_y (fun w hs => yv_pick_f rfl rfl) rfl rfl ?_
  refine jg_mv rfl rfl rfl ?_
  refine jg_split 27 rfl ?_ ?_
  · refine jg_skip rfl rfl ?_
    refine jg_skip rfl rfl ?_
    refine jg_skip rfl rfl ?_
    refine jg_skip rfl rfl ?_
    refine jg_y (fun w hs => yv_pick_t rfl rfl) rfl rfl ?_
    refine jg_nils [(1, _), (32, _)] ⟨rfl, rfl, trivial⟩ ?_
    refine jk_sn ?_
    refine jn_ct rfl ?_
    refine jn_seq ?_
    refine jn_reg 2 ?_
    refine jg_as rfl rfl rfl ?_
    refine jg_nils [(2, _)] ⟨rfl, trivial⟩ ?_
    refine jk_sn ?_
    refine jn_ret ?_
    refine jk_sr ?_
    exact jk_ret1 rfl (fun w hs => .tmp rfl) (fun w hs => ⟨rfl, hs.drop⟩)
  refine jg_y (fun w hs => yv_fieldAddr rfl) rfl rfl ?_
  refine jg_y (fun w hs => yv_load rfl (ld1B (hs.blkL (i := 0) rfl) rfl)) rfl rfl ?_
  refine jg_c0 rfl (fun v w hs hm => r32_lengths_c hm (hs.arg Rha0_Lengths)) rfl rfl fun v2 => ?_
  refine jg_y (fun w hs => yv_not rfl) rfl rfl ?_
  refine jg_y (fun w hs => yv_pick_f rfl rfl) rfl rfl ?_
  refine jg_nils [(1, _), (32, _)] ⟨rfl, rfl, trivial⟩ ?_
  refine jk_sn ?_
  refine jn_cond rfl ?_ ?_
  · refine jn_seq ?_
    refine jn_reg 2 ?_
    refine jg_as rfl rfl rfl ?_
    refine jg_nils [(2, _)] ⟨rfl, trivial⟩ ?_
    refine jk_sn ?_
    refine jn_ret ?_
    refine jk_sr ?_
    exact jk_ret1 rfl (fun w hs => .tmp rfl) (fun w hs => ⟨rfl, hs.drop⟩)
  refine jn_skip ?_
  refine jk_sn ?_
  refine jn_seq ?_
  refine jn_seq ?_
  refine jn_reg 3 ?_
  refine jg_as rfl rfl rfl ?_
  refine jg_nils [(1, _), (3, _)] ⟨rfl, rfl, trivial⟩ ?_
  refine jk_sn ?_
  refine jn_block ?_
  refine jn_lp (n := big) (fun (s : Int) (g : Unit) => [(1, .pointer (some ⟨g1, 0, none⟩)), (3, .int .i64 s)]) (fun (s : Int) (g : Unit) => []) (fun (s : Int) (g : Unit) => [(Res.blk g1 24 [.int .i64 a0.Room, ha0_Wagons.v, ha0_Lengths.v])]) 0 () [0] ⟨rfl, rfl, trivial⟩ rfl rfl rfl ?_
  intro z3 q4 n7 k5 H6
  refine jn_seq ?_
  refine jn_seq ?_
  refine jn_reg 4 ?_
  refine jg_mv rfl rfl rfl ?_
  refine jg_y (fun w hs => yv_fieldAddr rfl) rfl rfl ?_
  refine jg_y (fun w hs => yv_load rfl (ld1B (hs.blkL (i := 0) rfl) rfl)) rfl rfl ?_
  refine jg_y (fun w hs => yv_ln rfl (hs.arg Rha0_Wagons)) rfl rfl ?_
  refine jg_y (fun w hs => yv_lss rfl rfl) rfl rfl ?_
  refine jg_nils [(1, _), (3, _), (37, _)] ⟨rfl, rfl, rfl, trivial⟩ ?_
  refine jk_sn ?_
  refine jn_cond rfl ?_ ?_
  rotate_left
  · refine jn_exit ?_
    refine jk_se (jk_le (jk_bh (jk_sn ?_)))
    refine jn_seq ?_
    refine jn_reg 8 ?_
    refine jg_as rfl rfl rfl ?_
    refine jg_nils [(2, _)] ⟨rfl, trivial⟩ ?_
    refine jk_sn ?_
    refine jn_ret ?_
    exact jk_ret1 rfl (fun w hs => .tmp rfl) (fun w hs => ⟨rfl, hs.drop⟩)
  refine jn_skip ?_
  refine jk_sn ?_
  refine jn_seq ?_
  refine jn_block ?_
  refine jn_seq ?_
  refine jn_draw (L' := [_]) 6 [0] [0, 1, 2, 3, 4, 5, 6, 7, 8, 9, 10, 11, 12, 13, 14, 15, 16, 17] 262143 262143 [0, 1, 0, 6, 8, 16, 32, 64, 192, 64, 832, 64, 2112, 64, 12352, 16448, 33856, 65600] [0, 1, 0, 7, 15, 31, 63, 127, 255, 127, 1023, 127, 2175, 127, 14463, 30847, 65535, 131071] [(0, true), (1, true), (2, true), (3, true), (4, true), (5, true), (6, true), (7, true), (8, true), (9, true), (10, true), (11, true), (12, true), (13, true), (14, true), (15, true), (16, true), (17, true)] rfl (np_seq (np_blk (np_seq (np_rnd (np_blk (np_seq np_rt)))))) (by kernel_rfl) (by kernel_rfl) (by kernel_rfl) (by kernel_rfl) (by kernel_rfl) (by kernel_rfl) (by kernel_rfl) (by kernel_rfl) ?_
  refine jd_y rfl (fun w hs => yv_fieldAddr rfl) rfl rfl ?_
  refine jd_y rfl (fun w hs => yv_load rfl (ld1B (hs.blk (i := 0) rfl) rfl)) rfl rfl ?_
  refine jd_mv rfl rfl rfl rfl ?_
  refine jd_ix fun x8 h9 => ?_
  refine jd_y rfl (fun w hs => yv_ix rfl rfl (hs.arg Rha0_Wagons) h9) rfl rfl ?_
  refine jd_y rfl (fun w hs => yv_e1 rfl (hs.arg Rha0_Wagons) h9.1 rfl) rfl rfl ?_
  refine jd_y rfl (fun w hs => yv_lss rfl rfl) rfl rfl ?_
  refine jd_mv rfl rfl rfl rfl ?_
  refine jd_split 46 rfl ?_ ?_
  · refine jd_skip rfl rfl rfl ?_
    refine jd_skip rfl rfl rfl ?_
    refine jd_skip rfl rfl rfl ?_
    refine jd_skip rfl rfl rfl ?_
    refine jd_skip rfl rfl rfl ?_
    refine jd_skip rfl rfl rfl ?_
    refine jd_skip rfl rfl rfl ?_
    refine jd_skip rfl rfl rfl ?_
    refine jd_skip rfl rfl rfl ?_
    refine jd_skip rfl rfl rfl ?_
    refine jd_y rfl (fun w hs => yv_pick_t rfl rfl) rfl rfl ?_
    refine jd_nils [(1, _), (3, _), (57, _)] ⟨rfl, rfl, rfl, trivial⟩ ?_
    refine jk_sn ?_
    refine jn_ct rfl ?_
    refine jn_seq ?_
    refine jn_reg 7 ?_
    refine jg_as rfl rfl rfl ?_
    refine jg_nils [(2, _)] ⟨rfl, trivial⟩ ?_
    refine jk_sn ?_
    refine jn_ret ?_
    refine jk_br (jk_sr (jk_lr (jk_br (jk_sr ?_))))
    exact jk_ret1 rfl (fun w hs => .tmp rfl) (fun w hs => ⟨rfl, hs.drop⟩)
  refine jd_y rfl (fun w hs => yv_fieldAddr rfl) rfl rfl ?_
  refine jd_y rfl (fun w hs => yv_load rfl (ld1B (hs.blk (i := 0) rfl) rfl)) rfl rfl ?_
  refine jd_mv rfl rfl rfl rfl ?_
  refine jd_ck fun h10 => ?_
  refine jd_y rfl (fun w hs => yv_hi rfl rfl (hs.arg Rha0_Wagons) (of_decide_eq_true h10)) rfl rfl ?_
  refine jd_y rfl (fun w hs => yv_fieldAddr rfl) rfl rfl ?_
  refine jd_y rfl (fun w hs => yv_load rfl (ld1B (hs.blk (i := 0) rfl) rfl)) rfl rfl ?_
  refine jd_mv rfl rfl rfl rfl ?_
  refine jd_ix fun x11 h12 => ?_
  refine jd_y rfl (fun w hs => yv_ix rfl rfl (hs.arg Rha0_Wagons) h12) rfl rfl ?_
  refine jd_y rfl (fun w hs => yv_e1 rfl (hs.arg Rha0_Wagons) h12.1 rfl) rfl rfl ?_
  refine jd_c0 rfl rfl (fun v w hs hm => r32_has_c hm (Sl.hi (hs.arg Rha0_Wagons) (of_decide_eq_true h10))) rfl rfl fun v13 => ?_
  refine jd_y rfl (fun w hs => yv_pick_f rfl rfl) rfl rfl ?_
  refine jd_nils [(1, _), (3, _), (57, _)] ⟨rfl, rfl, rfl, trivial⟩ ?_
  refine jk_sn ?_
  refine jn_cond rfl ?_ ?_
  · refine jn_seq ?_
    refine jn_reg 7 ?_
    refine jg_as rfl rfl rfl ?_
    refine jg_nils [(2, _)] ⟨rfl, trivial⟩ ?_
    refine jk_sn ?_
    refine jn_ret ?_
    refine jk_br (jk_sr (jk_lr (jk_br (jk_sr ?_))))
    exact jk_ret1 rfl (fun w hs => .tmp rfl) (fun w hs => ⟨rfl, hs.drop⟩)
  refine jn_skip ?_
  refine jk_bn (jk_sn ?_)
  refine jn_reg 5 ?_
  refine jg_mv rfl rfl rfl ?_
  refine jg_y (fun w hs => yv_add_w rfl rfl) rfl rfl ?_
  refine jg_as rfl rfl rfl ?_
  refine jg_nils [(1, _), (3, _)] ⟨rfl, rfl, trivial⟩ ?_
  exact jk_use H6 (w64 (z3 + 1)) () [0] ⟨rfl, rfl, trivial⟩ rfl rfl rfl
theorem r32_Foul_c {w : World} {a0 : Stand} {ha0_Wagons : Hd} {ha0_Lengths : Hd} {v : Int} (hm : r32_Foul a0 = some v) (Rha0_Wagons : Sl w ha0_Wagons encI a0.Wagons) (Rha0_Lengths : Sl w ha0_Lengths encI a0.Lengths) : Gives Try.prog 62 [.agg #[.int .i64 a0.Room, ha0_Wagons.v, ha0_Lengths.v]] w (.int .i64 v) := by
  refine j_gives (vs := [.agg #[.int .i64 a0.Room, ha0_Wagons.v, ha0_Lengths.v]]) (U := fun (v : Int) => .int .i64 v) Try.func62 rfl Try.ntmps62 rfl rfl hm ?_
  unfold r32_Foul
  clear hm
  refine jn_seq ?_
  refine jn_reg 0 ?_
  refine jg_box rfl (l3 rfl) rfl rfl fun g1 => ?_
  refine jg_as rfl rfl rfl ?_
  refine jg_nils [(1, _)] ⟨rfl, trivial⟩ ?_
  refine jk_sn ?_
  refine jn_seq ?_
  refine jn_reg 1 ?_
  refine jg_as rfl rfl rfl ?_
  refine jg_as rfl rfl rfl ?_
  refine jg_nils [(1, _), (3, _), (4, _)] ⟨rfl, rfl, rfl, trivial⟩ ?_
  refine jk_sn ?_
  refine jn_seq ?_
  refine jn_seq ?_
  refine jn_reg 2 ?_
  refine jg_as rfl rfl rfl ?_
  refine jg_nils [(1, _), (3, _), (4, _), (5, _)] ⟨rfl, rfl, rfl, rfl, trivial⟩ ?_
  refine jk_sn ?_
  refine jn_block ?_
  refine jn_lp (n := big) (fun (s : (Int × Int × Int)) (g : Unit) => [(1, .pointer (some ⟨g1, 0, none⟩)), (3, .int .i64 s.1), (4, .int .i64 s.2.1), (5, .int .i64 s.2.2)]) (fun (s : (Int × Int × Int)) (g : Unit) => []) (fun (s : (Int × Int × Int)) (g : Unit) => [(Res.blk g1 24 [.int .i64 a0.Room, ha0_Wagons.v, ha0_Lengths.v])]) (0, 0, 0) () [0] ⟨rfl, rfl, rfl, rfl, trivial⟩ rfl rfl rfl ?_
  intro z2 q3 n6 k4 H5
  refine jn_seq ?_
  refine jn_seq ?_
  refine jn_reg 3 ?_
  refine jg_mv rfl rfl rfl ?_
  refine jg_y (fun w hs => yv_fieldAddr rfl) rfl rfl ?_
  refine jg_y (fun w hs => yv_load rfl (ld1B (hs.blkL (i := 0) rfl) rfl)) rfl rfl ?_
  refine jg_y (fun w hs => yv_ln rfl (hs.arg Rha0_Lengths)) rfl rfl ?_
  refine jg_y (fun w hs => yv_lss rfl rfl) rfl rfl ?_
  refine jg_nils [(1, _), (3, _), (4, _), (5, _), (10, _)] ⟨rfl, rfl, rfl, rfl, rfl, trivial⟩ ?_
  refine jk_sn ?_
  refine jn_cond rfl ?_ ?_
  rotate_left
  · refine jn_exit ?_
    refine jk_se (jk_le (jk_bh (jk_sn ?_)))
    refine jn_seq ?_
    refine jn_reg 8 ?_
    refine jg_mv rfl rfl rfl ?_
    refine jg_as rfl rfl rfl ?_
    refine jg_nils [(2, _)] ⟨rfl, trivial⟩ ?_
    refine jk_sn ?_
    refine jn_ret ?_
    exact jk_ret1 rfl (fun w hs => .tmp rfl) (fun w hs => ⟨rfl, hs.drop⟩)
  refine jn_skip ?_
  refine jk_sn ?_
  refine jn_seq ?_
  refine jn_block ?_
  refine jn_seq ?_
  refine jn_reg 5 ?_
  refine jg_mv rfl rfl rfl ?_
  refine jg_y (fun w hs => yv_fieldAddr rfl) rfl rfl ?_
  refine jg_y (fun w hs => yv_load rfl (ld1B (hs.blkL (i := 0) rfl) rfl)) rfl rfl ?_
  refine jg_mv rfl rfl rfl ?_
  refine jg_ix fun x7 h8 => ?_
  refine jg_y (fun w hs => yv_ix rfl rfl (hs.arg Rha0_Lengths) h8) rfl rfl ?_
  refine jg_y (fun w hs => yv_e1 rfl (hs.arg Rha0_Lengths) h8.1 rfl) rfl rfl ?_
  refine jg_y (fun w hs => yv_add_w rfl rfl) rfl rfl ?_
  refine jg_as rfl rfl rfl ?_
  refine jg_nils [(1, _), (3, _), (4, _), (5, _)] ⟨rfl, rfl, rfl, rfl, trivial⟩ ?_
  refine jk_sn ?_
  refine jn_seq ?_
  refine jn_reg 6 ?_
  refine jg_mv rfl rfl rfl ?_
  refine jg_y (fun w hs => yv_fieldAddr rfl) rfl rfl ?_
  refine jg_y (fun w hs => yv_load rfl (ld1B (hs.blkL (i := 0) rfl) rfl)) rfl rfl ?_
  refine jg_y (fun w hs => yv_gtr rfl rfl) rfl rfl ?_
  refine jg_nils [(1, _), (3, _), (4, _), (5, _), (23, _)] ⟨rfl, rfl, rfl, rfl, rfl, trivial⟩ ?_
  refine jk_sn ?_
  refine jn_cond rfl ?_ ?_
  rotate_left
  · refine jn_skip ?_
    refine jk_bn (jk_sn ?_)
    refine jn_reg 4 ?_
    refine jg_mv rfl rfl rfl ?_
    refine jg_y (fun w hs => yv_add_w rfl rfl) rfl rfl ?_
    refine jg_as rfl rfl rfl ?_
    refine jg_nils [(1, _), (3, _), (4, _), (5, _)] ⟨rfl, rfl, rfl, rfl, trivial⟩ ?_
    exact jk_use H5 (z2.1, w64 (z2.2.1 + x7), w64 (z2.2.2 + 1)) () [0] ⟨rfl, rfl, rfl, rfl, trivial⟩ rfl rfl rfl
  refine jn_reg 7 ?_
  refine jg_mv rfl rfl rfl ?_
  refine jg_y (fun w hs => yv_add_w rfl rfl) rfl rfl ?_
  refine jg_as rfl rfl rfl ?_
  refine jg_nils [(1, _), (3, _), (4, _), (5, _)] ⟨rfl, rfl, rfl, rfl, trivial⟩ ?_
  refine jk_bn (jk_sn ?_)
  refine jn_reg 4 ?_
  refine jg_mv rfl rfl rfl ?_
  refine jg_y (fun w hs => yv_add_w rfl rfl) rfl rfl ?_
  refine jg_as rfl rfl rfl ?_
  refine jg_nils [(1, _), (3, _), (4, _), (5, _)] ⟨rfl, rfl, rfl, rfl, trivial⟩ ?_
  exact jk_use H5 (w64 (z2.1 + 1), w64 (z2.2.1 + x7), w64 (z2.2.2 + 1)) () [0] ⟨rfl, rfl, rfl, rfl, trivial⟩ rfl rfl rfl
theorem r32_Arrive_c {w : World} {a0 : Stand} {a1 : (List Int)} {a2 : (List Int)} {ha0_Wagons : Hd} {ha0_Lengths : Hd} {ha1 : Hd} {ha2 : Hd} {v : (Stand × Int × Int)} (hm : r32_Arrive a0 a1 a2 = some v) (Rha0_Wagons : Sl w ha0_Wagons encI a0.Wagons) (Rha0_Lengths : Sl w ha0_Lengths encI a0.Lengths) (Rha1 : Sl w ha1 encI a1) (Rha2 : Sl w ha2 encI a2) : Calls Try.prog 34 ([.agg #[.int .i64 a0.Room, ha0_Wagons.v, ha0_Lengths.v], ha1.v, ha2.v] : List Value).toArray w (fun e w' => ∃ g : (Hd × Hd), e = .returned (.tuple #[.agg #[.int .i64 v.1.Room, g.1.v, g.2.v], .int .i64 v.2.1, .int .i64 v.2.2]) ∧ St w w' [] [(rowH g.1 3 1 encI v.1.Wagons), (rowH g.2 3 1 encI v.1.Lengths)]) := by
  refine j_enter (vs := [.agg #[.int .i64 a0.Room, ha0_Wagons.v, ha0_Lengths.v], ha1.v, ha2.v]) (R := fun (v : (Stand × Int × Int)) (e : Ending) (w' : World) => ∃ g : (Hd × Hd), e = .returned (.tuple #[.agg #[.int .i64 v.1.Room, g.1.v, g.2.v], .int .i64 v.2.1, .int .i64 v.2.2]) ∧ St w w' [] [(rowH g.1 3 1 encI v.1.Wagons), (rowH g.2 3 1 encI v.1.Lengths)]) Try.func34 rfl Try.ntmps34 rfl rfl (St.refl w) hm ?_
  unfold r32_Arrive
  clear hm
  refine jn_seq ?_
  refine jn_reg 0 ?_
  refine jg_box rfl (l3 rfl) rfl rfl fun g1 => ?_
  refine jg_alloc (l3 rfl) rfl rfl fun g2 => ?_
  refine jg_as rfl rfl rfl ?_
  refine jg_as rfl rfl rfl ?_
  refine jg_nils [(1, _), (2, _), (3, _), (6, _)] ⟨rfl, rfl, rfl, rfl, trivial⟩ ?_
  refine jk_sn ?_
  refine jn_join (fun (s : Bool) (g : Unit) => [(1, ha1.v), (2, ha2.v), (3, .pointer (some ⟨g1, 0, none⟩)), (6, .pointer (some ⟨g2, 0, none⟩)), (9, .bool s)]) (fun (s : Bool) (g : Unit) => []) (fun (s : Bool) (g : Unit) => [(Res.blk g1 24 [.int .i64 a0.Room, ha0_Wagons.v, ha0_Lengths.v]), (Res.blk g2 24 [.int .i64 0, (Hd.mk none 0 0).v, (Hd.mk none 0 0).v])]) ?_ ?_
  rotate_left
  · intro k5 H6
    refine jn_reg 1 ?_
    refine jg_y (fun w hs => yv_load rfl (ldBB (hs.blkL (i := 1) rfl) rfl)) rfl rfl ?_
    refine jg_c0 rfl (fun v w hs hm => r32_Valid_c (a0 := a0) hm (hs.arg Rha0_Wagons) (hs.arg Rha0_Lengths)) rfl rfl fun v692 => ?_
    refine jg_mv rfl rfl rfl ?_
    refine jg_split 15 rfl ?_ ?_
    rotate_left
    · refine jg_skip rfl rfl ?_
      refine jg_skip rfl rfl ?_
      refine jg_skip rfl rfl ?_
      refine jg_skip rfl rfl ?_
      refine jg_skip rfl rfl ?_
      refine jg_y (fun w hs => yv_pick_f rfl rfl) rfl rfl ?_
      refine jg_mv rfl rfl rfl ?_
      refine jg_skip rfl rfl ?_
      refine jg_skip rfl rfl ?_
      refine jg_y (fun w hs => yv_pick_f rfl rfl) rfl rfl ?_
      refine jg_as rfl rfl rfl ?_
      refine jg_nils [(1, _), (2, _), (3, _), (6, _), (9, _)] ⟨rfl, rfl, rfl, rfl, rfl, trivial⟩ ?_
      exact jk_use H6 false () [1, 0] ⟨rfl, rfl, rfl, rfl, rfl, trivial⟩ rfl rfl rfl
    refine jg_mv rfl rfl rfl ?_
    refine jg_y (fun w hs => yv_ln rfl (hs.arg Rha2)) rfl rfl ?_
    refine jg_mv rfl rfl rfl ?_
    refine jg_y (fun w hs => yv_ln rfl (hs.arg Rha1)) rfl rfl ?_
    refine jg_y (fun w hs => yv_eql rfl rfl) rfl rfl ?_
    refine jg_y (fun w hs => yv_pick_t rfl rfl) rfl rfl ?_
    refine jg_mv rfl rfl rfl ?_
    refine jg_split 22 rfl ?_ ?_
    · refine jg_mv rfl rfl rfl ?_
      refine jg_c0 rfl (fun v w hs hm => r32_lengths_c hm (hs.arg Rha2)) rfl rfl fun v693 => ?_
      refine jg_y (fun w hs => yv_pick_t rfl rfl) rfl rfl ?_
      refine jg_as rfl rfl rfl ?_
      refine jg_nils [(1, _), (2, _), (3, _), (6, _), (9, _)] ⟨rfl, rfl, rfl, rfl, rfl, trivial⟩ ?_
      exact jk_use H6 v693 () [1, 0] ⟨rfl, rfl, rfl, rfl, rfl, trivial⟩ rfl rfl rfl
    refine jg_skip rfl rfl ?_
    refine jg_skip rfl rfl ?_
    refine jg_y (fun w hs => yv_pick_f rfl rfl) rfl rfl ?_
    refine jg_as rfl rfl rfl ?_
    refine jg_nils [(1, _), (2, _), (3, _), (6, _), (9, _)] ⟨rfl, rfl, rfl, rfl, rfl, trivial⟩ ?_
    exact jk_use H6 false () [1, 0] ⟨rfl, rfl, rfl, rfl, rfl, trivial⟩ rfl rfl rfl
  intro z3 q4
  refine jn_join (fun (s : Bool) (g : Unit) => [(1, ha1.v), (2, ha2.v), (3, .pointer (some ⟨g1, 0, none⟩)), (6, .pointer (some ⟨g2, 0, none⟩)), (9, .bool s)]) (fun (s : Bool) (g : Unit) => []) (fun (s : Bool) (g : Unit) => [(Res.blk g1 24 [.int .i64 a0.Room, ha0_Wagons.v, ha0_Lengths.v]), (Res.blk g2 24 [.int .i64 0, (Hd.mk none 0 0).v, (Hd.mk none 0 0).v])]) ?_ ?_
  rotate_left
  · intro k9 H10
    refine jn_seq ?_
    refine jn_reg 2 ?_
    refine jg_as rfl rfl rfl ?_
    refine jg_nils [(1, _), (2, _), (3, _), (6, _), (9, _), (10, _)] ⟨rfl, rfl, rfl, rfl, rfl, rfl, trivial⟩ ?_
    refine jk_sn ?_
    refine jn_block ?_
    refine jn_lp (n := big) (fun (s : (Bool × Int)) (g : Unit) => [(1, ha1.v), (2, ha2.v), (3, .pointer (some ⟨g1, 0, none⟩)), (6, .pointer (some ⟨g2, 0, none⟩)), (9, .bool s.1), (10, .int .i64 s.2)]) (fun (s : (Bool × Int)) (g : Unit) => []) (fun (s : (Bool × Int)) (g : Unit) => [(Res.blk g1 24 [.int .i64 a0.Room, ha0_Wagons.v, ha0_Lengths.v]), (Res.blk g2 24 [.int .i64 0, (Hd.mk none 0 0).v, (Hd.mk none 0 0).v])]) (z3, 0) () [0, 1] ⟨rfl, rfl, rfl, rfl, rfl, rfl, trivial⟩ rfl rfl rfl ?_
    intro z685 q686 n689 k687 H688
    refine jn_seq ?_
    refine jn_seq ?_
    refine jn_reg 3 ?_
    refine jg_mv rfl rfl rfl ?_
    refine jg_mv rfl rfl rfl ?_
    refine jg_y (fun w hs => yv_ln rfl (hs.arg Rha1)) rfl rfl ?_
    refine jg_y (fun w hs => yv_lss rfl rfl) rfl rfl ?_
    refine jg_nils [(1, _), (2, _), (3, _), (6, _), (9, _), (10, _), (29, _)] ⟨rfl, rfl, rfl, rfl, rfl, rfl, rfl, trivial⟩ ?_
    refine jk_sn ?_
    refine jn_cond rfl ?_ ?_
    rotate_left
    · refine jn_exit ?_
      refine jk_se (jk_le (jk_bh ?_))
      exact jk_use H10 z685.1 () [0, 1] ⟨rfl, rfl, rfl, rfl, rfl, trivial⟩ rfl rfl rfl
    refine jn_skip ?_
    refine jk_sn ?_
    refine jn_seq ?_
    refine jn_block ?_
    refine jn_reg 5 ?_
    refine jg_mv rfl rfl rfl ?_
    refine jg_mv rfl rfl rfl ?_
    refine jg_split 33 rfl ?_ ?_
    rotate_left
    · refine jg_skip rfl rfl ?_
      refine jg_skip rfl rfl ?_
      refine jg_skip rfl rfl ?_
      refine jg_skip rfl rfl ?_
      refine jg_skip rfl rfl ?_
      refine jg_y (fun w hs => yv_pick_f rfl rfl) rfl rfl ?_
      refine jg_as rfl rfl rfl ?_
      refine jg_nils [(1, _), (2, _), (3, _), (6, _), (9, _), (10, _)] ⟨rfl, rfl, rfl, rfl, rfl, rfl, trivial⟩ ?_
      refine jk_bn (jk_sn ?_)
      refine jn_reg 4 ?_
      refine jg_mv rfl rfl rfl ?_
      refine jg_y (fun w hs => yv_add_w rfl rfl) rfl rfl ?_
      refine jg_as rfl rfl rfl ?_
      refine jg_nils [(1, _), (2, _), (3, _), (6, _), (9, _), (10, _)] ⟨rfl, rfl, rfl, rfl, rfl, rfl, trivial⟩ ?_
      exact jk_use H688 (false, w64 (z685.2 + 1)) () [0, 1] ⟨rfl, rfl, rfl, rfl, rfl, rfl, trivial⟩ rfl rfl rfl
    refine jg_mv rfl rfl rfl ?_
    refine jg_mv rfl rfl rfl ?_
    refine jg_ix fun x690 h691 => ?_
    refine jg_y (fun w hs => yv_ix rfl rfl (hs.arg Rha1) h691) rfl rfl ?_
    refine jg_y (fun w hs => yv_e1 rfl (hs.arg Rha1) h691.1 rfl) rfl rfl ?_
    refine jg_y (fun w hs => yv_geq rfl rfl) rfl rfl ?_
    refine jg_y (fun w hs => yv_pick_t rfl rfl) rfl rfl ?_
    refine jg_as rfl rfl rfl ?_
    refine jg_nils [(1, _), (2, _), (3, _), (6, _), (9, _), (10, _)] ⟨rfl, rfl, rfl, rfl, rfl, rfl, trivial⟩ ?_
    refine jk_bn (jk_sn ?_)
    refine jn_reg 4 ?_
    refine jg_mv rfl rfl rfl ?_
    refine jg_y (fun w hs => yv_add_w rfl rfl) rfl rfl ?_
    refine jg_as rfl rfl rfl ?_
    refine jg_nils [(1, _), (2, _), (3, _), (6, _), (9, _), (10, _)] ⟨rfl, rfl, rfl, rfl, rfl, rfl, trivial⟩ ?_
    exact jk_use H688 (decide (0 ≤ x690), w64 (z685.2 + 1)) () [0, 1] ⟨rfl, rfl, rfl, rfl, rfl, rfl, trivial⟩ rfl rfl rfl
  intro z7 q8
  refine jn_seq ?_
  refine jn_seq ?_
  refine jn_reg 6 ?_
  refine jg_mv rfl rfl rfl ?_
  refine jg_y (fun w hs => yv_not rfl) rfl rfl ?_
  refine jg_nils [(1, _), (2, _), (3, _), (6, _), (41, _)] ⟨rfl, rfl, rfl, rfl, rfl, trivial⟩ ?_
  refine jk_sn ?_
  refine jn_cond rfl ?_ ?_
  · refine jn_seq ?_
    refine jn_reg 7 ?_
    refine jg_y (fun w hs => yv_build rfl (o3 rfl)) rfl rfl ?_
    refine jg_store 1 rfl rfl rfl (l3 rfl) rfl rfl rfl rfl (l3 rfl) (r2 rfl) ?_
    refine jg_as rfl rfl rfl ?_
    refine jg_as rfl rfl rfl ?_
    refine jg_nils [(6, _), (7, _), (8, _)] ⟨rfl, rfl, rfl, trivial⟩ ?_
    refine jk_sn ?_
    refine jn_ret ?_
    refine jk_sr ?_
    refine jk_addnil 3 1 encI ?_
    refine jk_addnil 3 1 encI ?_
    exact jk_ret3 rfl (fun w hs => .cell rfl (ldBB (hs.blkL (i := 3) rfl) rfl)) (fun w hs => .tmp rfl) (fun w hs => .tmp rfl) (fun w hs => ⟨((Hd.mk none 0 0), (Hd.mk none 0 0)), rfl, hs.sel (is := [1, 0]) rfl rfl⟩)
  refine jn_skip ?_
  refine jk_sn ?_
  refine jn_seq ?_
  refine jn_seq ?_
  refine jn_reg 8 ?_
  refine jg_y (fun w hs => yv_fieldAddr rfl) rfl rfl ?_
  refine jg_y (fun w hs => yv_load rfl (ld1B (hs.blkL (i := 0) rfl) rfl)) rfl rfl ?_
  refine jg_y (fun w hs => yv_ln rfl (hs.arg Rha0_Wagons)) rfl rfl ?_
  refine jg_mv rfl rfl rfl ?_
  refine jg_y (fun w hs => yv_ln rfl (hs.arg Rha1)) rfl rfl ?_
  refine jg_yl (fun w hs => yv_add_w rfl rfl) rfl rfl fun x11 => ?_
  refine jg_y (fun w hs => yv_gtr rfl rfl) rfl rfl ?_
  refine jg_nils [(1, _), (2, _), (3, _), (6, _), (49, _)] ⟨rfl, rfl, rfl, rfl, rfl, trivial⟩ ?_
  refine jk_sn ?_
  refine jn_cond rfl ?_ ?_
  · refine jn_seq ?_
    refine jn_reg 9 ?_
    refine jg_y (fun w hs => yv_build rfl (o3 rfl)) rfl rfl ?_
    refine jg_store 1 rfl rfl rfl (l3 rfl) rfl rfl rfl rfl (l3 rfl) (r2 rfl) ?_
    refine jg_as rfl rfl rfl ?_
    refine jg_as rfl rfl rfl ?_
    refine jg_nils [(6, _), (7, _), (8, _)] ⟨rfl, rfl, rfl, trivial⟩ ?_
    refine jk_sn ?_
    refine jn_ret ?_
    refine jk_sr ?_
    refine jk_addnil 3 1 encI ?_
    refine jk_addnil 3 1 encI ?_
    exact jk_ret3 rfl (fun w hs => .cell rfl (ldBB (hs.blkL (i := 3) rfl) rfl)) (fun w hs => .tmp rfl) (fun w hs => .tmp rfl) (fun w hs => ⟨((Hd.mk none 0 0), (Hd.mk none 0 0)), rfl, hs.sel (is := [1, 0]) rfl rfl⟩)
  refine jn_skip ?_
  refine jk_sn ?_
  refine jn_join (fun (s : ((List Int) × (List Int))) (g : (Nat × Hd × Hd)) => [(1, ha1.v), (2, ha2.v), (6, .pointer (some ⟨g2, 0, none⟩)), (11, .pointer (some ⟨g.1, 0, none⟩))]) (fun (s : ((List Int) × (List Int))) (g : (Nat × Hd × Hd)) => []) (fun (s : ((List Int) × (List Int))) (g : (Nat × Hd × Hd)) => [(Res.blk g2 24 [.int .i64 0, (Hd.mk none 0 0).v, (Hd.mk none 0 0).v]), (Res.blk g.1 24 [.int .i64 a0.Room, g.2.1.v, g.2.2.v]), (rowH g.2.1 3 1 encI s.1), (rowH g.2.2 3 1 encI s.2)]) ?_ ?_
  · intro z12 q13
    refine jn_seq ?_
    refine jn_seq ?_
    refine jn_reg 11 ?_
    refine jg_as rfl rfl rfl ?_
    refine jg_nils [(1, _), (2, _), (6, _), (11, _), (12, _)] ⟨rfl, rfl, rfl, rfl, rfl, trivial⟩ ?_
    refine jk_sn ?_
    refine jn_block ?_
    refine jn_lp (n := big) (fun (s : ((List Int) × (List Int) × Int)) (g : (Hd × Hd)) => [(1, ha1.v), (2, ha2.v), (6, .pointer (some ⟨g2, 0, none⟩)), (11, .pointer (some ⟨q13.1, 0, none⟩)), (12, .int .i64 s.2.2)]) (fun (s : ((List Int) × (List Int) × Int)) (g : (Hd × Hd)) => []) (fun (s : ((List Int) × (List Int) × Int)) (g : (Hd × Hd)) => [(Res.blk g2 24 [.int .i64 0, (Hd.mk none 0 0).v, (Hd.mk none 0 0).v]), (Res.blk q13.1 24 [.int .i64 a0.Room, g.1.v, g.2.v]), (rowH g.1 3 1 encI s.1), (rowH g.2 3 1 encI s.2.1)]) (z12.1, z12.2, 0) (q13.2.1, q13.2.2) [0, 1, 2, 3] ⟨rfl, rfl, rfl, rfl, rfl, trivial⟩ rfl rfl rfl ?_
    intro z16 q17 n20 k18 H19
    refine jn_seq ?_
    refine jn_seq ?_
    refine jn_reg 12 ?_
    refine jg_mv rfl rfl rfl ?_
    refine jg_mv rfl rfl rfl ?_
    refine jg_y (fun w hs => yv_ln rfl (hs.arg Rha1)) rfl rfl ?_
    refine jg_y (fun w hs => yv_lss rfl rfl) rfl rfl ?_
    refine jg_nils [(1, _), (2, _), (6, _), (11, _), (12, _), (65, _)] ⟨rfl, rfl, rfl, rfl, rfl, rfl, trivial⟩ ?_
    refine jk_sn ?_
    refine jn_cond rfl ?_ ?_
    rotate_left
    · refine jn_exit ?_
      refine jk_se (jk_le (jk_bh (jk_sn ?_)))
      refine jn_seq ?_
      refine jn_draw (L' := [_, _, _, _]) 17 [0, 1, 2, 3] [0, 1, 2] 7 63 [0, 0, 2, 5, 15, 31] [0, 0, 2, 7, 15, 31] [(0, true), (1, true), (2, true), (3, false), (4, false), (5, false)] rfl (np_seq np_rt) (by kernel_rfl) (by kernel_rfl) (by kernel_rfl) (by kernel_rfl) (by kernel_rfl) (by kernel_rfl) (by kernel_rfl) (by kernel_rfl) ?_
      refine jd_y rfl (fun w hs => yv_load rfl (ldBB (hs.blk (i := 1) rfl) rfl)) rfl rfl ?_
      refine jd_y rfl (fun w hs => yv_load rfl (ldBB (hs.blk (i := 1) rfl) rfl)) rfl rfl ?_
      refine jd_c0 rfl rfl (fun v w hs hm => r32_Foul_c (a0 := (Stand.mk a0.Room z16.1 z16.2.1)) hm (hs.row 2 rfl) (hs.row 3 rfl)) rfl rfl fun v424 => ?_
      refine jd_h rfl ?_
      refine jg_store 0 rfl rfl rfl (l3 rfl) rfl rfl rfl rfl (l3 rfl) (r4 rfl) ?_
      refine jg_nil ?_
      refine jk_df rfl ?_
      refine jf_h rfl ?_
      refine jg_as rfl rfl rfl ?_
      refine jg_nil ?_
      refine jk_df rfl ?_
      refine jf_h rfl ?_
      refine jg_as rfl rfl rfl ?_
      refine jg_nil ?_
      refine jk_df rfl ?_
      refine jf_nils [(6, _), (7, _), (8, _)] ⟨rfl, rfl, rfl, trivial⟩ ?_
      refine jk_sn ?_
      refine jn_ret ?_
      exact jk_ret3 rfl (fun w hs => .cell rfl (ldBB (hs.blkL (i := 0) rfl) rfl)) (fun w hs => .tmp rfl) (fun w hs => .tmp rfl) (fun w hs => ⟨(q17.1, q17.2), rfl, hs.sel (is := [2, 3]) rfl rfl⟩)
    refine jn_skip ?_
    refine jk_sn ?_
    refine jn_seq ?_
    refine jn_block ?_
    refine jn_seq ?_
    refine jn_seq ?_
    refine jn_draw (L' := [_, _, _, _]) 14 [0, 1, 2, 3] [0, 1, 2, 3, 4, 5, 6] 127 127 [0, 1, 0, 0, 12, 16, 34] [0, 1, 0, 0, 12, 28, 63] [(0, true), (1, true), (2, true), (3, true), (4, true), (5, true), (6, true)] rfl (np_seq (np_seq (np_blk (np_seq (np_rnd (np_blk (np_seq np_rt))))))) (by kernel_rfl) (by kernel_rfl) (by kernel_rfl) (by kernel_rfl) (by kernel_rfl) (by kernel_rfl) (by kernel_rfl) (by kernel_rfl) ?_
    refine jd_y rfl (fun w hs => yv_fieldAddr rfl) rfl rfl ?_
    refine jd_y rfl (fun w hs => yv_load rfl (ld1B (hs.blk (i := 1) rfl) rfl)) rfl rfl ?_
    refine jd_mv rfl rfl rfl rfl ?_
    refine jd_mv rfl rfl rfl rfl ?_
    refine jd_ix fun x21 h22 => ?_
    refine jd_y rfl (fun w hs => yv_ix rfl rfl (hs.arg Rha1) h22) rfl rfl ?_
    refine jd_y rfl (fun w hs => yv_e1 rfl (hs.arg Rha1) h22.1 rfl) rfl rfl ?_
    refine jd_c0 rfl rfl (fun v w hs hm => r32_has_c hm (hs.row 2 rfl)) rfl rfl fun v23 => ?_
    refine jd_nils [(1, _), (2, _), (6, _), (11, _), (12, _), (74, _)] ⟨rfl, rfl, rfl, rfl, rfl, rfl, trivial⟩ ?_
    refine jk_sn ?_
    refine jn_cond rfl ?_ ?_
    · refine jn_seq ?_
      refine jn_reg 15 ?_
      refine jg_y (fun w hs => yv_build rfl (o3 rfl)) rfl rfl ?_
      refine jg_store 0 rfl rfl rfl (l3 rfl) rfl rfl rfl rfl (l3 rfl) (r4 rfl) ?_
      refine jg_as rfl rfl rfl ?_
      refine jg_as rfl rfl rfl ?_
      refine jg_nils [(6, _), (7, _), (8, _)] ⟨rfl, rfl, rfl, trivial⟩ ?_
      refine jk_sel (is := [0]) (s1 rfl) rfl ?_
      refine jk_sn ?_
      refine jn_ret ?_
      refine jk_sr (jk_br (jk_sr (jk_lr (jk_br (jk_sr ?_)))))
      refine jk_addnil 3 1 encI ?_
      refine jk_addnil 3 1 encI ?_
      exact jk_ret3 rfl (fun w hs => .cell rfl (ldBB (hs.blkL (i := 2) rfl) rfl)) (fun w hs => .tmp rfl) (fun w hs => .tmp rfl) (fun w hs => ⟨((Hd.mk none 0 0), (Hd.mk none 0 0)), rfl, hs.sel (is := [1, 0]) rfl rfl⟩)
    refine jn_skip ?_
    refine jk_sn ?_
    refine jn_drawA 16 [0, 1, 2, 3, 4, 5, 6, 7, 8, 9, 10, 11, 12, 13, 14, 15, 16, 17, 18, 19] 1048575 3084 16 [0, 1, 0, 0, 12, 16, 32, 66, 0, 256, 0, 0, 3072, 4096, 8192, 17024, 1023, 99327, 262143, 524287] [0, 1, 0, 0, 12, 28, 60, 127, 0, 256, 0, 0, 3072, 7168, 15360, 32767, 1023, 131071, 262143, 524287] [(2, true), (3, true), (10, true), (11, true)] (np_blk (np_seq (np_rnd (np_blk (np_seq np_rt))))) (by kernel_rfl) (by kernel_rfl) (by kernel_rfl) (by kernel_rfl) (by kernel_rfl) (by kernel_rfl) (by kernel_rfl) (by kernel_rfl) ?_
    refine jt_mv rfl rfl rfl ?_
    refine jt_mv rfl rfl rfl ?_
    refine jt_mv rfl rfl rfl ?_
    refine jt_mv rfl rfl rfl ?_
    refine jd_x ?_
    refine jx_to (L' := [_, _]) [0, 1, 4, 5, 6, 7, 8, 9, 12, 13, 14, 15, 16] [17, 19] [0, 1] rfl ?_
    refine jx_lin [0, 1] 127987 16191 8 [0, 1, 0, 0, 12, 28, 60, 127, 0, 256, 0, 0, 3072, 7168, 15360, 32767, 1023, 131071, 262143, 524287] [(0, true), (1, true), (4, true), (5, true), (8, true), (9, true), (12, true), (13, true)] rfl (np_blk (np_seq (np_rnd (np_blk (np_seq np_rt))))) (by kernel_rfl) (by kernel_rfl) (by kernel_rfl) (by kernel_rfl) (by kernel_rfl) (by kernel_rfl) (by kernel_rfl) (by kernel_rfl) (by kernel_rfl) ?_
    refine jd_y rfl (fun w hs => yv_fieldAddr rfl) rfl rfl ?_
    refine jd_y rfl (fun w hs => yv_load rfl (ld1B (hs.blk (i := 1) rfl) rfl)) rfl rfl ?_
    refine jd_ix fun x104 h105 => ?_
    refine jd_y rfl (fun w hs => yv_ix rfl rfl (hs.arg Rha1) h105) rfl rfl ?_
    refine jd_y rfl (fun w hs => yv_e1 rfl (hs.arg Rha1) h105.1 rfl) rfl rfl ?_
    refine jd_y rfl (fun w hs => yv_fieldAddr rfl) rfl rfl ?_
    refine jd_y rfl (fun w hs => yv_load rfl (ld1B (hs.blk (i := 1) rfl) rfl)) rfl rfl ?_
    refine jd_ix fun x264 h265 => ?_
    refine jd_y rfl (fun w hs => yv_ix rfl rfl (hs.arg Rha2) h265) rfl rfl ?_
    refine jd_y rfl (fun w hs => yv_e1 rfl (hs.arg Rha2) h265.1 rfl) rfl rfl ?_
    refine jd_x ?_
    refine jx2 (i := 6) (i2 := 14) (by kernel_rfl) (by kernel_rfl) rfl rfl ?_ ?_
    · refine jg_lit (enc := encI) [x104] rfl rfl rfl rfl rfl rfl rfl rfl fun hd144 => ?_
      refine jg_nil ?_
      refine jk_xn [1, 2] rfl ?_
      refine jx2 (i := 7) (i2 := 14) (by kernel_rfl) (by kernel_rfl) rfl rfl ?_ ?_
      · refine jg_append 3 rfl rfl rfl (fun w hs => (hs.row 0 rfl)) rfl rfl rfl fun y164 hd165 => ?_
        refine jg_L (r5 rfl) ?_
        refine jg_nil ?_
        refine jk_xn [1, 2] rfl ?_
        refine jx_lin [1, 2] 127987 81919 5 [0, 1, 0, 0, 12, 28, 60, 127, 0, 256, 0, 0, 3072, 7168, 15360, 32767, 1023, 131071, 262143, 524287] [(16, true)] rfl (np_blk (np_seq (np_rnd (np_blk (np_seq np_rt))))) (by kernel_rfl) (by kernel_rfl) (by kernel_rfl) (by kernel_rfl) (by kernel_rfl) (by kernel_rfl) (by kernel_rfl) (by kernel_rfl) (by kernel_rfl) ?_
        refine jd_y rfl (fun w hs => yv_fieldAddr rfl) rfl rfl ?_
        refine jd_x ?_
        refine jx1 (i := 14) (by kernel_rfl) (by kernel_rfl) rfl ?_
        refine jg_lit (enc := encI) [x264] rfl rfl rfl rfl rfl rfl rfl rfl fun hd304 => ?_
        refine jg_nil ?_
        refine jk_xn [2, 3] rfl ?_
        refine jx1 (i := 15) (by kernel_rfl) (by kernel_rfl) rfl ?_
        refine jg_append 5 rfl rfl rfl (fun w hs => (hs.row 0 rfl)) rfl rfl rfl fun y324 hd325 => ?_
        refine jg_L (r6 rfl) ?_
        refine jg_nil ?_
        refine jk_xn [2, 3] rfl ?_
        refine jx1 (i := 17) (by kernel_rfl) (by kernel_rfl) rfl ?_
        refine jg_store 3 rfl rfl rfl (l1 rfl) rfl rfl rfl rfl (l3 rfl) (r6 rfl) ?_
        refine jg_nil ?_
        refine jk_xf (by kernel_rfl) ?_
        refine jx1 (i := 18) (by kernel_rfl) (by kernel_rfl) rfl ?_
        refine jg_y (fun w hs => yv_fieldAddr rfl) rfl rfl ?_
        refine jg_nil ?_
        refine jk_xf (by kernel_rfl) ?_
        refine jx1 (i := 19) (by kernel_rfl) (by kernel_rfl) rfl ?_
        refine jg_store 3 rfl rfl rfl (l1 rfl) rfl rfl rfl rfl (l3 rfl) (r6 rfl) ?_
        refine jg_nil ?_
        refine jk_xf (by kernel_rfl) ?_
        refine jx0 [(1, _), (2, _), (6, _), (11, _), (12, _)] ⟨rfl, rfl, rfl, rfl, rfl, trivial⟩ (by kernel_rfl) (by kernel_rfl) ?_
        refine jk_sel (is := [2, 3, 4, 5]) (s4 rfl) rfl ?_
        refine jk_bn (jk_sn ?_)
        refine jn_reg 13 ?_
        refine jg_mv rfl rfl rfl ?_
        refine jg_y (fun w hs => yv_add_w rfl rfl) rfl rfl ?_
        refine jg_as rfl rfl rfl ?_
        refine jg_nils [(1, _), (2, _), (6, _), (11, _), (12, _)] ⟨rfl, rfl, rfl, rfl, rfl, trivial⟩ ?_
        exact jk_use H19 (y164, y324, w64 (z16.2.2 + 1)) (hd165, hd325) [0, 1, 2, 3] ⟨rfl, rfl, rfl, rfl, rfl, trivial⟩ rfl rfl rfl
      refine jg_lit (enc := encI) [x264] rfl rfl rfl rfl rfl rfl rfl rfl fun hd304 => ?_
      refine jg_nil ?_
      refine jk_xn [2, 3] rfl ?_
      refine jx1 (i := 7) (by kernel_rfl) (by kernel_rfl) rfl ?_
      refine jg_append 4 rfl rfl rfl (fun w hs => (hs.row 1 rfl)) rfl rfl rfl fun y164 hd165 => ?_
      refine jg_L (r6 rfl) ?_
      refine jg_nil ?_
      refine jk_xn [2, 3] rfl ?_
      refine jx_lin [2, 3] 127987 98303 4 [0, 1, 0, 0, 12, 28, 60, 127, 0, 256, 0, 0, 3072, 7168, 15360, 32767, 1023, 131071, 262143, 524287] [(16, true)] rfl (np_blk (np_seq (np_rnd (np_blk (np_seq np_rt))))) (by kernel_rfl) (by kernel_rfl) (by kernel_rfl) (by kernel_rfl) (by kernel_rfl) (by kernel_rfl) (by kernel_rfl) (by kernel_rfl) (by kernel_rfl) ?_
      refine jd_y rfl (fun w hs => yv_fieldAddr rfl) rfl rfl ?_
      refine jd_x ?_
      refine jx1 (i := 15) (by kernel_rfl) (by kernel_rfl) rfl ?_
      refine jg_append 5 rfl rfl rfl (fun w hs => (hs.row 0 rfl)) rfl rfl rfl fun y324 hd325 => ?_
      refine jg_L (r6 rfl) ?_
      refine jg_nil ?_
      refine jk_xn [2, 3] rfl ?_
      refine jx1 (i := 17) (by kernel_rfl) (by kernel_rfl) rfl ?_
      refine jg_store 3 rfl rfl rfl (l1 rfl) rfl rfl rfl rfl (l3 rfl) (r6 rfl) ?_
      refine jg_nil ?_
      refine jk_xf (by kernel_rfl) ?_
      refine jx1 (i := 18) (by kernel_rfl) (by kernel_rfl) rfl ?_
      refine jg_y (fun w hs => yv_fieldAddr rfl) rfl rfl ?_
      refine jg_nil ?_
      refine jk_xf (by kernel_rfl) ?_
      refine jx1 (i := 19) (by kernel_rfl) (by kernel_rfl) rfl ?_
      refine jg_store 3 rfl rfl rfl (l1 rfl) rfl rfl rfl rfl (l3 rfl) (r6 rfl) ?_
      refine jg_nil ?_
      refine jk_xf (by kernel_rfl) ?_
      refine jx0 [(1, _), (2, _), (6, _), (11, _), (12, _)] ⟨rfl, rfl, rfl, rfl, rfl, trivial⟩ (by kernel_rfl) (by kernel_rfl) ?_
      refine jk_sel (is := [2, 3, 4, 5]) (s4 rfl) rfl ?_
      refine jk_bn (jk_sn ?_)
      refine jn_reg 13 ?_
      refine jg_mv rfl rfl rfl ?_
      refine jg_y (fun w hs => yv_add_w rfl rfl) rfl rfl ?_
      refine jg_as rfl rfl rfl ?_
      refine jg_nils [(1, _), (2, _), (6, _), (11, _), (12, _)] ⟨rfl, rfl, rfl, rfl, rfl, trivial⟩ ?_
      exact jk_use H19 (y164, y324, w64 (z16.2.2 + 1)) (hd165, hd325) [0, 1, 2, 3] ⟨rfl, rfl, rfl, rfl, rfl, trivial⟩ rfl rfl rfl
    refine jg_lit (enc := encI) [x264] rfl rfl rfl rfl rfl rfl rfl rfl fun hd304 => ?_
    refine jg_nil ?_
    refine jk_xn [1, 2] rfl ?_
    refine jx1 (i := 6) (by kernel_rfl) (by kernel_rfl) rfl ?_
    refine jg_lit (enc := encI) [x104] rfl rfl rfl rfl rfl rfl rfl rfl fun hd144 => ?_
    refine jg_nil ?_
    refine jk_xn [2, 3] rfl ?_
    refine jx1 (i := 7) (by kernel_rfl) (by kernel_rfl) rfl ?_
    refine jg_append 4 rfl rfl rfl (fun w hs => (hs.row 0 rfl)) rfl rfl rfl fun y164 hd165 => ?_
    refine jg_L (r6 rfl) ?_
    refine jg_nil ?_
    refine jk_xn [2, 3] rfl ?_
    refine jx_lin [2, 3] 127987 98303 4 [0, 1, 0, 0, 12, 28, 60, 127, 0, 256, 0, 0, 3072, 7168, 15360, 32767, 1023, 131071, 262143, 524287] [(16, true)] rfl (np_blk (np_seq (np_rnd (np_blk (np_seq np_rt))))) (by kernel_rfl) (by kernel_rfl) (by kernel_rfl) (by kernel_rfl) (by kernel_rfl) (by kernel_rfl) (by kernel_rfl) (by kernel_rfl) (by kernel_rfl) ?_
    refine jd_y rfl (fun w hs => yv_fieldAddr rfl) rfl rfl ?_
    refine jd_x ?_
    refine jx1 (i := 15) (by kernel_rfl) (by kernel_rfl) rfl ?_
    refine jg_append 5 rfl rfl rfl (fun w hs => (hs.row 1 rfl)) rfl rfl rfl fun y324 hd325 => ?_
    refine jg_L (r6 rfl) ?_
    refine jg_nil ?_
    refine jk_xn [2, 3] rfl ?_
    refine jx1 (i := 17) (by kernel_rfl) (by kernel_rfl) rfl ?_
    refine jg_store 3 rfl rfl rfl (l1 rfl) rfl rfl rfl rfl (l3 rfl) (r6 rfl) ?_
    refine jg_nil ?_
    refine jk_xf (by kernel_rfl) ?_
    refine jx1 (i := 18) (by kernel_rfl) (by kernel_rfl) rfl ?_
    refine jg_y (fun w hs => yv_fieldAddr rfl) rfl rfl ?_
    refine jg_nil ?_
    refine jk_xf (by kernel_rfl) ?_
    refine jx1 (i := 19) (by kernel_rfl) (by kernel_rfl) rfl ?_
    refine jg_store 3 rfl rfl rfl (l1 rfl) rfl rfl rfl rfl (l3 rfl) (r6 rfl) ?_
    refine jg_nil ?_
    refine jk_xf (by kernel_rfl) ?_
    refine jx0 [(1, _), (2, _), (6, _), (11, _), (12, _)] ⟨rfl, rfl, rfl, rfl, rfl, trivial⟩ (by kernel_rfl) (by kernel_rfl) ?_
    refine jk_sel (is := [2, 3, 4, 5]) (s4 rfl) rfl ?_
    refine jk_bn (jk_sn ?_)
    refine jn_reg 13 ?_
    refine jg_mv rfl rfl rfl ?_
    refine jg_y (fun w hs => yv_add_w rfl rfl) rfl rfl ?_
    refine jg_as rfl rfl rfl ?_
    refine jg_nils [(1, _), (2, _), (6, _), (11, _), (12, _)] ⟨rfl, rfl, rfl, rfl, rfl, trivial⟩ ?_
    exact jk_use H19 (y164, y324, w64 (z16.2.2 + 1)) (hd165, hd325) [0, 1, 2, 3] ⟨rfl, rfl, rfl, rfl, rfl, trivial⟩ rfl rfl rfl
  intro k14 H15
  refine jn_drawA 10 [0, 1, 2, 3, 4, 5, 6, 7, 8, 9, 10, 11, 12] 8191 0 13 [0, 1, 0, 0, 8, 20, 0, 0, 128, 352, 546, 0, 4095] [0, 1, 0, 0, 8, 28, 0, 0, 128, 508, 1023, 0, 4095] [] (np_seq np_rt) (by kernel_rfl) (by kernel_rfl) (by kernel_rfl) (by kernel_rfl) (by kernel_rfl) (by kernel_rfl) (by kernel_rfl) (by kernel_rfl) ?_
  refine jd_x ?_
  refine jx_to (L' := [_, _]) [0, 1, 2, 3, 4, 5, 6, 7, 8, 9, 10, 11] [12] [0, 1] rfl ?_
  refine jx_lin [0, 1] 4095 411 7 [0, 1, 0, 0, 8, 28, 0, 0, 128, 508, 1023, 0, 4095] [(0, true), (1, true), (3, true), (4, true), (7, true), (8, true)] rfl (np_seq np_rt) (by kernel_rfl) (by kernel_rfl) (by kernel_rfl) (by kernel_rfl) (by kernel_rfl) (by kernel_rfl) (by kernel_rfl) (by kernel_rfl) (by kernel_rfl) ?_
  refine jd_y rfl (fun w hs => yv_fieldAddr rfl) rfl rfl ?_
  refine jd_y rfl (fun w hs => yv_load rfl (ld1B (hs.blk (i := 0) rfl) rfl)) rfl rfl ?_
  refine jd_y rfl (fun w hs => yv_fieldAddr rfl) rfl rfl ?_
  refine jd_y rfl (fun w hs => yv_load rfl (ld1B (hs.blk (i := 0) rfl) rfl)) rfl rfl ?_
  refine jd_y rfl (fun w hs => yv_fieldAddr rfl) rfl rfl ?_
  refine jd_y rfl (fun w hs => yv_load rfl (ld1B (hs.blk (i := 0) rfl) rfl)) rfl rfl ?_
  refine jd_x ?_
  refine jx3 (i := 2) (i2 := 6) (i3 := 11) (by kernel_rfl) (by kernel_rfl) rfl rfl rfl ?_ ?_ ?_
  · refine jg_lit0 (enc := encI) rfl rfl fun hd465 => ?_
    refine jg_nil ?_
    refine jk_xn [1, 2] rfl ?_
    refine jx3 (i := 5) (i2 := 6) (i3 := 11) (by kernel_rfl) (by kernel_rfl) rfl rfl rfl ?_ ?_ ?_
    · refine jg_append 0 rfl rfl rfl (fun w hs => (hs.arg Rha0_Wagons)) rfl rfl rfl fun y525 hd526 => ?_
      refine jg_L (r3 rfl) ?_
      refine jg_nil ?_
      refine jk_xn [1, 2] rfl ?_
      refine jx2 (i := 6) (i2 := 11) (by kernel_rfl) (by kernel_rfl) rfl rfl ?_ ?_
      · refine jg_lit0 (enc := encI) rfl rfl fun hd545 => ?_
        refine jg_nil ?_
        refine jk_xn [2, 3] rfl ?_
        refine jx2 (i := 9) (i2 := 11) (by kernel_rfl) (by kernel_rfl) rfl rfl ?_ ?_
        · refine jg_append 0 rfl rfl rfl (fun w hs => (hs.arg Rha0_Lengths)) rfl rfl rfl fun y605 hd606 => ?_
          refine jg_L (r4 rfl) ?_
          refine jg_nil ?_
          refine jk_xn [2, 3] rfl ?_
          refine jx_lin [2, 3] 4095 2047 2 [0, 1, 0, 0, 8, 28, 0, 0, 128, 508, 1023, 0, 4095] [(10, true)] rfl (np_seq np_rt) (by kernel_rfl) (by kernel_rfl) (by kernel_rfl) (by kernel_rfl) (by kernel_rfl) (by kernel_rfl) (by kernel_rfl) (by kernel_rfl) (by kernel_rfl) ?_
          refine jd_y rfl (fun w hs => yv_build rfl (o3 rfl)) rfl rfl ?_
          refine jd_x ?_
          refine jx1 (i := 11) (by kernel_rfl) (by kernel_rfl) rfl ?_
          refine jg_alloc (l3 rfl) rfl rfl fun g645 => ?_
          refine jg_nil ?_
          refine jk_xn [3, 4] rfl ?_
          refine jx1 (i := 12) (by kernel_rfl) (by kernel_rfl) rfl ?_
          refine jg_store 0 rfl rfl rfl (l3 rfl) rfl rfl rfl rfl (l3 rfl) (r5 rfl) ?_
          refine jg_nil ?_
          refine jk_xf (by kernel_rfl) ?_
          refine jx0 [(1, _), (2, _), (6, _), (11, _)] ⟨rfl, rfl, rfl, rfl, trivial⟩ (by kernel_rfl) (by kernel_rfl) ?_
          exact jk_use H15 (y525, y605) (g645, hd526, hd606) [4, 0, 2, 1] ⟨rfl, rfl, rfl, rfl, trivial⟩ rfl rfl rfl
        refine jg_alloc (l3 rfl) rfl rfl fun g645 => ?_
        refine jg_nil ?_
        refine jk_xn [3, 4] rfl ?_
        refine jx1 (i := 9) (by kernel_rfl) (by kernel_rfl) rfl ?_
        refine jg_append 1 rfl rfl rfl (fun w hs => (hs.arg Rha0_Lengths)) rfl rfl rfl fun y605 hd606 => ?_
        refine jg_L (r5 rfl) ?_
        refine jg_nil ?_
        refine jk_xn [3, 4] rfl ?_
        refine jx_lin [3, 4] 4095 4095 1 [0, 1, 0, 0, 8, 28, 0, 0, 128, 508, 1023, 0, 4095] [(10, true)] rfl (np_seq np_rt) (by kernel_rfl) (by kernel_rfl) (by kernel_rfl) (by kernel_rfl) (by kernel_rfl) (by kernel_rfl) (by kernel_rfl) (by kernel_rfl) (by kernel_rfl) ?_
        refine jd_y rfl (fun w hs => yv_build rfl (o3 rfl)) rfl rfl ?_
        refine jd_x ?_
        refine jx1 (i := 12) (by kernel_rfl) (by kernel_rfl) rfl ?_
        refine jg_store 0 rfl rfl rfl (l3 rfl) rfl rfl rfl rfl (l3 rfl) (r5 rfl) ?_
        refine jg_nil ?_
        refine jk_xf (by kernel_rfl) ?_
        refine jx0 [(1, _), (2, _), (6, _), (11, _)] ⟨rfl, rfl, rfl, rfl, trivial⟩ (by kernel_rfl) (by kernel_rfl) ?_
        exact jk_use H15 (y525, y605) (g645, hd526, hd606) [4, 0, 2, 1] ⟨rfl, rfl, rfl, rfl, trivial⟩ rfl rfl rfl
      refine jg_alloc (l3 rfl) rfl rfl fun g645 => ?_
      refine jg_nil ?_
      refine jk_xn [2, 3] rfl ?_
      refine jx1 (i := 6) (by kernel_rfl) (by kernel_rfl) rfl ?_
      refine jg_lit0 (enc := encI) rfl rfl fun hd545 => ?_
      refine jg_nil ?_
      refine jk_xn [3, 4] rfl ?_
      refine jx1 (i := 9) (by kernel_rfl) (by kernel_rfl) rfl ?_
      refine jg_append 0 rfl rfl rfl (fun w hs => (hs.arg Rha0_Lengths)) rfl rfl rfl fun y605 hd606 => ?_
      refine jg_L (r5 rfl) ?_
      refine jg_nil ?_
      refine jk_xn [3, 4] rfl ?_
      refine jx_lin [3, 4] 4095 4095 1 [0, 1, 0, 0, 8, 28, 0, 0, 128, 508, 1023, 0, 4095] [(10, true)] rfl (np_seq np_rt) (by kernel_rfl) (by kernel_rfl) (by kernel_rfl) (by kernel_rfl) (by kernel_rfl) (by kernel_rfl) (by kernel_rfl) (by kernel_rfl) (by kernel_rfl) ?_
      refine jd_y rfl (fun w hs => yv_build rfl (o3 rfl)) rfl rfl ?_
      refine jd_x ?_
      refine jx1 (i := 12) (by kernel_rfl) (by kernel_rfl) rfl ?_
      refine jg_store 1 rfl rfl rfl (l3 rfl) rfl rfl rfl rfl (l3 rfl) (r5 rfl) ?_
      refine jg_nil ?_
      refine jk_xf (by kernel_rfl) ?_
      refine jx0 [(1, _), (2, _), (6, _), (11, _)] ⟨rfl, rfl, rfl, rfl, trivial⟩ (by kernel_rfl) (by kernel_rfl) ?_
      exact jk_use H15 (y525, y605) (g645, hd526, hd606) [4, 1, 2, 0] ⟨rfl, rfl, rfl, rfl, trivial⟩ rfl rfl rfl
    · refine jg_lit0 (enc := encI) rfl rfl fun hd545 => ?_
      refine jg_nil ?_
      refine jk_xn [2, 3] rfl ?_
      refine jx2 (i := 5) (i2 := 11) (by kernel_rfl) (by kernel_rfl) rfl rfl ?_ ?_
      · refine jg_append 1 rfl rfl rfl (fun w hs => (hs.arg Rha0_Wagons)) rfl rfl rfl fun y525 hd526 => ?_
        refine jg_L (r4 rfl) ?_
        refine jg_nil ?_
        refine jk_xn [2, 3] rfl ?_
        refine jx2 (i := 9) (i2 := 11) (by kernel_rfl) (by kernel_rfl) rfl rfl ?_ ?_
        · refine jg_append 0 rfl rfl rfl (fun w hs => (hs.arg Rha0_Lengths)) rfl rfl rfl fun y605 hd606 => ?_
          refine jg_L (r4 rfl) ?_
          refine jg_nil ?_
          refine jk_xn [2, 3] rfl ?_
          refine jx_lin [2, 3] 4095 2047 2 [0, 1, 0, 0, 8, 28, 0, 0, 128, 508, 1023, 0, 4095] [(10, true)] rfl (np_seq np_rt) (by kernel_rfl) (by kernel_rfl) (by kernel_rfl) (by kernel_rfl) (by kernel_rfl) (by kernel_rfl) (by kernel_rfl) (by kernel_rfl) (by kernel_rfl) ?_
          refine jd_y rfl (fun w hs => yv_build rfl (o3 rfl)) rfl rfl ?_
          refine jd_x ?_
          refine jx1 (i := 11) (by kernel_rfl) (by kernel_rfl) rfl ?_
          refine jg_alloc (l3 rfl) rfl rfl fun g645 => ?_
          refine jg_nil ?_
          refine jk_xn [3, 4] rfl ?_
          refine jx1 (i := 12) (by kernel_rfl) (by kernel_rfl) rfl ?_
          refine jg_store 0 rfl rfl rfl (l3 rfl) rfl rfl rfl rfl (l3 rfl) (r5 rfl) ?_
          refine jg_nil ?_
          refine jk_xf (by kernel_rfl) ?_
          refine jx0 [(1, _), (2, _), (6, _), (11, _)] ⟨rfl, rfl, rfl, rfl, trivial⟩ (by kernel_rfl) (by kernel_rfl) ?_
          exact jk_use H15 (y525, y605) (g645, hd526, hd606) [4, 0, 2, 1] ⟨rfl, rfl, rfl, rfl, trivial⟩ rfl rfl rfl
        refine jg_alloc (l3 rfl) rfl rfl fun g645 => ?_
        refine jg_nil ?_
        refine jk_xn [3, 4] rfl ?_
        refine jx1 (i := 9) (by kernel_rfl) (by kernel_rfl) rfl ?_
        refine jg_append 1 rfl rfl rfl (fun w hs => (hs.arg Rha0_Lengths)) rfl rfl rfl fun y605 hd606 => ?_
        refine jg_L (r5 rfl) ?_
        refine jg_nil ?_
        refine jk_xn [3, 4] rfl ?_
        refine jx_lin [3, 4] 4095 4095 1 [0, 1, 0, 0, 8, 28, 0, 0, 128, 508, 1023, 0, 4095] [(10, true)] rfl (np_seq np_rt) (by kernel_rfl) (by kernel_rfl) (by kernel_rfl) (by kernel_rfl) (by kernel_rfl) (by kernel_rfl) (by kernel_rfl) (by kernel_rfl) (by kernel_rfl) ?_
        refine jd_y rfl (fun w hs => yv_build rfl (o3 rfl)) rfl rfl ?_
        refine jd_x ?_
        refine jx1 (i := 12) (by kernel_rfl) (by kernel_rfl) rfl ?_
        refine jg_store 0 rfl rfl rfl (l3 rfl) rfl rfl rfl rfl (l3 rfl) (r5 rfl) ?_
        refine jg_nil ?_
        refine jk_xf (by kernel_rfl) ?_
        refine jx0 [(1, _), (2, _), (6, _), (11, _)] ⟨rfl, rfl, rfl, rfl, trivial⟩ (by kernel_rfl) (by kernel_rfl) ?_
        exact jk_use H15 (y525, y605) (g645, hd526, hd606) [4, 0, 2, 1] ⟨rfl, rfl, rfl, rfl, trivial⟩ rfl rfl rfl
      refine jg_alloc (l3 rfl) rfl rfl fun g645 => ?_
      refine jg_nil ?_
      refine jk_xn [3, 4] rfl ?_
      refine jx1 (i := 5) (by kernel_rfl) (by kernel_rfl) rfl ?_
      refine jg_append 2 rfl rfl rfl (fun w hs => (hs.arg Rha0_Wagons)) rfl rfl rfl fun y525 hd526 => ?_
      refine jg_L (r5 rfl) ?_
      refine jg_nil ?_
      refine jk_xn [3, 4] rfl ?_
      refine jx1 (i := 9) (by kernel_rfl) (by kernel_rfl) rfl ?_
      refine jg_append 1 rfl rfl rfl (fun w hs => (hs.arg Rha0_Lengths)) rfl rfl rfl fun y605 hd606 => ?_
      refine jg_L (r5 rfl) ?_
      refine jg_nil ?_
      refine jk_xn [3, 4] rfl ?_
      refine jx_lin [3, 4] 4095 4095 1 [0, 1, 0, 0, 8, 28, 0, 0, 128, 508, 1023, 0, 4095] [(10, true)] rfl (np_seq np_rt) (by kernel_rfl) (by kernel_rfl) (by kernel_rfl) (by kernel_rfl) (by kernel_rfl) (by kernel_rfl) (by kernel_rfl) (by kernel_rfl) (by kernel_rfl) ?_
      refine jd_y rfl (fun w hs => yv_build rfl (o3 rfl)) rfl rfl ?_
      refine jd_x ?_
      refine jx1 (i := 12) (by kernel_rfl) (by kernel_rfl) rfl ?_
      refine jg_store 0 rfl rfl rfl (l3 rfl) rfl rfl rfl rfl (l3 rfl) (r5 rfl) ?_
      refine jg_nil ?_
      refine jk_xf (by kernel_rfl) ?_
      refine jx0 [(1, _), (2, _), (6, _), (11, _)] ⟨rfl, rfl, rfl, rfl, trivial⟩ (by kernel_rfl) (by kernel_rfl) ?_
      exact jk_use H15 (y525, y605) (g645, hd526, hd606) [4, 0, 2, 1] ⟨rfl, rfl, rfl, rfl, trivial⟩ rfl rfl rfl
    refine jg_alloc (l3 rfl) rfl rfl fun g645 => ?_
    refine jg_nil ?_
    refine jk_xn [2, 3] rfl ?_
    refine jx2 (i := 5) (i2 := 6) (by kernel_rfl) (by kernel_rfl) rfl rfl ?_ ?_
    · refine jg_append 1 rfl rfl rfl (fun w hs => (hs.arg Rha0_Wagons)) rfl rfl rfl fun y525 hd526 => ?_
      refine jg_L (r4 rfl) ?_
      refine jg_nil ?_
      refine jk_xn [2, 3] rfl ?_
      refine jx1 (i := 6) (by kernel_rfl) (by kernel_rfl) rfl ?_
      refine jg_lit0 (enc := encI) rfl rfl fun hd545 => ?_
      refine jg_nil ?_
      refine jk_xn [3, 4] rfl ?_
      refine jx1 (i := 9) (by kernel_rfl) (by kernel_rfl) rfl ?_
      refine jg_append 0 rfl rfl rfl (fun w hs => (hs.arg Rha0_Lengths)) rfl rfl rfl fun y605 hd606 => ?_
      refine jg_L (r5 rfl) ?_
      refine jg_nil ?_
      refine jk_xn [3, 4] rfl ?_
      refine jx_lin [3, 4] 4095 4095 1 [0, 1, 0, 0, 8, 28, 0, 0, 128, 508, 1023, 0, 4095] [(10, true)] rfl (np_seq np_rt) (by kernel_rfl) (by kernel_rfl) (by kernel_rfl) (by kernel_rfl) (by kernel_rfl) (by kernel_rfl) (by kernel_rfl) (by kernel_rfl) (by kernel_rfl) ?_
      refine jd_y rfl (fun w hs => yv_build rfl (o3 rfl)) rfl rfl ?_
      refine jd_x ?_
      refine jx1 (i := 12) (by kernel_rfl) (by kernel_rfl) rfl ?_
      refine jg_store 1 rfl rfl rfl (l3 rfl) rfl rfl rfl rfl (l3 rfl) (r5 rfl) ?_
      refine jg_nil ?_
      refine jk_xf (by kernel_rfl) ?_
      refine jx0 [(1, _), (2, _), (6, _), (11, _)] ⟨rfl, rfl, rfl, rfl, trivial⟩ (by kernel_rfl) (by kernel_rfl) ?_
      exact jk_use H15 (y525, y605) (g645, hd526, hd606) [4, 1, 2, 0] ⟨rfl, rfl, rfl, rfl, trivial⟩ rfl rfl rfl
    refine jg_lit0 (enc := encI) rfl rfl fun hd545 => ?_
    refine jg_nil ?_
    refine jk_xn [3, 4] rfl ?_
    refine jx1 (i := 5) (by kernel_rfl) (by kernel_rfl) rfl ?_
    refine jg_append 2 rfl rfl rfl (fun w hs => (hs.arg Rha0_Wagons)) rfl rfl rfl fun y525 hd526 => ?_
    refine jg_L (r5 rfl) ?_
    refine jg_nil ?_
    refine jk_xn [3, 4] rfl ?_
    refine jx1 (i := 9) (by kernel_rfl) (by kernel_rfl) rfl ?_
    refine jg_append 0 rfl rfl rfl (fun w hs => (hs.arg Rha0_Lengths)) rfl rfl rfl fun y605 hd606 => ?_
    refine jg_L (r5 rfl) ?_
    refine jg_nil ?_
    refine jk_xn [3, 4] rfl ?_
    refine jx_lin [3, 4] 4095 4095 1 [0, 1, 0, 0, 8, 28, 0, 0, 128, 508, 1023, 0, 4095] [(10, true)] rfl (np_seq np_rt) (by kernel_rfl) (by kernel_rfl) (by kernel_rfl) (by kernel_rfl) (by kernel_rfl) (by kernel_rfl) (by kernel_rfl) (by kernel_rfl) (by kernel_rfl) ?_
    refine jd_y rfl (fun w hs => yv_build rfl (o3 rfl)) rfl rfl ?_
    refine jd_x ?_
    refine jx1 (i := 12) (by kernel_rfl) (by kernel_rfl) rfl ?_
    refine jg_store 1 rfl rfl rfl (l3 rfl) rfl rfl rfl rfl (l3 rfl) (r5 rfl) ?_
    refine jg_nil ?_
    refine jk_xf (by kernel_rfl) ?_
    refine jx0 [(1, _), (2, _), (6, _), (11, _)] ⟨rfl, rfl, rfl, rfl, trivial⟩ (by kernel_rfl) (by kernel_rfl) ?_
    exact jk_use H15 (y525, y605) (g645, hd526, hd606) [4, 1, 2, 0] ⟨rfl, rfl, rfl, rfl, trivial⟩ rfl rfl rfl
  · refine jg_lit0 (enc := encI) rfl rfl fun hd545 => ?_
    refine jg_nil ?_
    refine jk_xn [1, 2] rfl ?_
    refine jx2 (i := 2) (i2 := 11) (by kernel_rfl) (by kernel_rfl) rfl rfl ?_ ?_
    · refine jg_lit0 (enc := encI) rfl rfl fun hd465 => ?_
      refine jg_nil ?_
      refine jk_xn [2, 3] rfl ?_
      refine jx2 (i := 5) (i2 := 11) (by kernel_rfl) (by kernel_rfl) rfl rfl ?_ ?_
      · refine jg_append 0 rfl rfl rfl (fun w hs => (hs.arg Rha0_Wagons)) rfl rfl rfl fun y525 hd526 => ?_
        refine jg_L (r4 rfl) ?_
        refine jg_nil ?_
        refine jk_xn [2, 3] rfl ?_
        refine jx2 (i := 9) (i2 := 11) (by kernel_rfl) (by kernel_rfl) rfl rfl ?_ ?_
        · refine jg_append 1 rfl rfl rfl (fun w hs => (hs.arg Rha0_Lengths)) rfl rfl rfl fun y605 hd606 => ?_
          refine jg_L (r4 rfl) ?_
          refine jg_nil ?_
          refine jk_xn [2, 3] rfl ?_
          refine jx_lin [2, 3] 4095 2047 2 [0, 1, 0, 0, 8, 28, 0, 0, 128, 508, 1023, 0, 4095] [(10, true)] rfl (np_seq np_rt) (by kernel_rfl) (by kernel_rfl) (by kernel_rfl) (by kernel_rfl) (by kernel_rfl) (by kernel_rfl) (by kernel_rfl) (by kernel_rfl) (by kernel_rfl) ?_
          refine jd_y rfl (fun w hs => yv_build rfl (o3 rfl)) rfl rfl ?_
          refine jd_x ?_
          refine jx1 (i := 11) (by kernel_rfl) (by kernel_rfl) rfl ?_
          refine jg_alloc (l3 rfl) rfl rfl fun g645 => ?_
          refine jg_nil ?_
          refine jk_xn [3, 4] rfl ?_
          refine jx1 (i := 12) (by kernel_rfl) (by kernel_rfl) rfl ?_
          refine jg_store 0 rfl rfl rfl (l3 rfl) rfl rfl rfl rfl (l3 rfl) (r5 rfl) ?_
          refine jg_nil ?_
          refine jk_xf (by kernel_rfl) ?_
          refine jx0 [(1, _), (2, _), (6, _), (11, _)] ⟨rfl, rfl, rfl, rfl, trivial⟩ (by kernel_rfl) (by kernel_rfl) ?_
          exact jk_use H15 (y525, y605) (g645, hd526, hd606) [4, 0, 1, 2] ⟨rfl, rfl, rfl, rfl, trivial⟩ rfl rfl rfl
        refine jg_alloc (l3 rfl) rfl rfl fun g645 => ?_
        refine jg_nil ?_
        refine jk_xn [3, 4] rfl ?_
        refine jx1 (i := 9) (by kernel_rfl) (by kernel_rfl) rfl ?_
        refine jg_append 2 rfl rfl rfl (fun w hs => (hs.arg Rha0_Lengths)) rfl rfl rfl fun y605 hd606 => ?_
        refine jg_L (r5 rfl) ?_
        refine jg_nil ?_
        refine jk_xn [3, 4] rfl ?_
        refine jx_lin [3, 4] 4095 4095 1 [0, 1, 0, 0, 8, 28, 0, 0, 128, 508, 1023, 0, 4095] [(10, true)] rfl (np_seq np_rt) (by kernel_rfl) (by kernel_rfl) (by kernel_rfl) (by kernel_rfl) (by kernel_rfl) (by kernel_rfl) (by kernel_rfl) (by kernel_rfl) (by kernel_rfl) ?_
        refine jd_y rfl (fun w hs => yv_build rfl (o3 rfl)) rfl rfl ?_
        refine jd_x ?_
        refine jx1 (i := 12) (by kernel_rfl) (by kernel_rfl) rfl ?_
        refine jg_store 0 rfl rfl rfl (l3 rfl) rfl rfl rfl rfl (l3 rfl) (r5 rfl) ?_
        refine jg_nil ?_
        refine jk_xf (by kernel_rfl) ?_
        refine jx0 [(1, _), (2, _), (6, _), (11, _)] ⟨rfl, rfl, rfl, rfl, trivial⟩ (by kernel_rfl) (by kernel_rfl) ?_
        exact jk_use H15 (y525, y605) (g645, hd526, hd606) [4, 0, 1, 2] ⟨rfl, rfl, rfl, rfl, trivial⟩ rfl rfl rfl
      refine jg_alloc (l3 rfl) rfl rfl fun g645 => ?_
      refine jg_nil ?_
      refine jk_xn [3, 4] rfl ?_
      refine jx1 (i := 5) (by kernel_rfl) (by kernel_rfl) rfl ?_
      refine jg_append 1 rfl rfl rfl (fun w hs => (hs.arg Rha0_Wagons)) rfl rfl rfl fun y525 hd526 => ?_
      refine jg_L (r5 rfl) ?_
      refine jg_nil ?_
      refine jk_xn [3, 4] rfl ?_
      refine jx1 (i := 9) (by kernel_rfl) (by kernel_rfl) rfl ?_
      refine jg_append 2 rfl rfl rfl (fun w hs => (hs.arg Rha0_Lengths)) rfl rfl rfl fun y605 hd606 => ?_
      refine jg_L (r5 rfl) ?_
      refine jg_nil ?_
      refine jk_xn [3, 4] rfl ?_
      refine jx_lin [3, 4] 4095 4095 1 [0, 1, 0, 0, 8, 28, 0, 0, 128, 508, 1023, 0, 4095] [(10, true)] rfl (np_seq np_rt) (by kernel_rfl) (by kernel_rfl) (by kernel_rfl) (by kernel_rfl) (by kernel_rfl) (by kernel_rfl) (by kernel_rfl) (by kernel_rfl) (by kernel_rfl) ?_
      refine jd_y rfl (fun w hs => yv_build rfl (o3 rfl)) rfl rfl ?_
      refine jd_x ?_
      refine jx1 (i := 12) (by kernel_rfl) (by kernel_rfl) rfl ?_
      refine jg_store 0 rfl rfl rfl (l3 rfl) rfl rfl rfl rfl (l3 rfl) (r5 rfl) ?_
      refine jg_nil ?_
      refine jk_xf (by kernel_rfl) ?_
      refine jx0 [(1, _), (2, _), (6, _), (11, _)] ⟨rfl, rfl, rfl, rfl, trivial⟩ (by kernel_rfl) (by kernel_rfl) ?_
      exact jk_use H15 (y525, y605) (g645, hd526, hd606) [4, 0, 1, 2] ⟨rfl, rfl, rfl, rfl, trivial⟩ rfl rfl rfl
    refine jg_alloc (l3 rfl) rfl rfl fun g645 => ?_
    refine jg_nil ?_
    refine jk_xn [2, 3] rfl ?_
    refine jx1 (i := 2) (by kernel_rfl) (by kernel_rfl) rfl ?_
    refine jg_lit0 (enc := encI) rfl rfl fun hd465 => ?_
    refine jg_nil ?_
    refine jk_xn [3, 4] rfl ?_
    refine jx1 (i := 5) (by kernel_rfl) (by kernel_rfl) rfl ?_
    refine jg_append 0 rfl rfl rfl (fun w hs => (hs.arg Rha0_Wagons)) rfl rfl rfl fun y525 hd526 => ?_
    refine jg_L (r5 rfl) ?_
    refine jg_nil ?_
    refine jk_xn [3, 4] rfl ?_
    refine jx1 (i := 9) (by kernel_rfl) (by kernel_rfl) rfl ?_
    refine jg_append 2 rfl rfl rfl (fun w hs => (hs.arg Rha0_Lengths)) rfl rfl rfl fun y605 hd606 => ?_
    refine jg_L (r5 rfl) ?_
    refine jg_nil ?_
    refine jk_xn [3, 4] rfl ?_
    refine jx_lin [3, 4] 4095 4095 1 [0, 1, 0, 0, 8, 28, 0, 0, 128, 508, 1023, 0, 4095] [(10, true)] rfl (np_seq np_rt) (by kernel_rfl) (by kernel_rfl) (by kernel_rfl) (by kernel_rfl) (by kernel_rfl) (by kernel_rfl) (by kernel_rfl) (by kernel_rfl) (by kernel_rfl) ?_
    refine jd_y rfl (fun w hs => yv_build rfl (o3 rfl)) rfl rfl ?_
    refine jd_x ?_
    refine jx1 (i := 12) (by kernel_rfl) (by kernel_rfl) rfl ?_
    refine jg_store 1 rfl rfl rfl (l3 rfl) rfl rfl rfl rfl (l3 rfl) (r5 rfl) ?_
    refine jg_nil ?_
    refine jk_xf (by kernel_rfl) ?_
    refine jx0 [(1, _), (2, _), (6, _), (11, _)] ⟨rfl, rfl, rfl, rfl, trivial⟩ (by kernel_rfl) (by kernel_rfl) ?_
    exact jk_use H15 (y525, y605) (g645, hd526, hd606) [4, 1, 0, 2] ⟨rfl, rfl, rfl, rfl, trivial⟩ rfl rfl rfl
  refine jg_alloc (l3 rfl) rfl rfl fun g645 => ?_
  refine jg_nil ?_
  refine jk_xn [1, 2] rfl ?_
  refine jx2 (i := 2) (i2 := 6) (by kernel_rfl) (by kernel_rfl) rfl rfl ?_ ?_
  · refine jg_lit0 (enc := encI) rfl rfl fun hd465 => ?_
    refine jg_nil ?_
    refine jk_xn [2, 3] rfl ?_
    refine jx2 (i := 5) (i2 := 6) (by kernel_rfl) (by kernel_rfl) rfl rfl ?_ ?_
    · refine jg_append 0 rfl rfl rfl (fun w hs => (hs.arg Rha0_Wagons)) rfl rfl rfl fun y525 hd526 => ?_
      refine jg_L (r4 rfl) ?_
      refine jg_nil ?_
      refine jk_xn [2, 3] rfl ?_
      refine jx1 (i := 6) (by kernel_rfl) (by kernel_rfl) rfl ?_
      refine jg_lit0 (enc := encI) rfl rfl fun hd545 => ?_
      refine jg_nil ?_
      refine jk_xn [3, 4] rfl ?_
      refine jx1 (i := 9) (by kernel_rfl) (by kernel_rfl) rfl ?_
      refine jg_append 0 rfl rfl rfl (fun w hs => (hs.arg Rha0_Lengths)) rfl rfl rfl fun y605 hd606 => ?_
      refine jg_L (r5 rfl) ?_
      refine jg_nil ?_
      refine jk_xn [3, 4] rfl ?_
      refine jx_lin [3, 4] 4095 4095 1 [0, 1, 0, 0, 8, 28, 0, 0, 128, 508, 1023, 0, 4095] [(10, true)] rfl (np_seq np_rt) (by kernel_rfl) (by kernel_rfl) (by kernel_rfl) (by kernel_rfl) (by kernel_rfl) (by kernel_rfl) (by kernel_rfl) (by kernel_rfl) (by kernel_rfl) ?_
      refine jd_y rfl (fun w hs => yv_build rfl (o3 rfl)) rfl rfl ?_
      refine jd_x ?_
      refine jx1 (i := 12) (by kernel_rfl) (by kernel_rfl) rfl ?_
      refine jg_store 2 rfl rfl rfl (l3 rfl) rfl rfl rfl rfl (l3 rfl) (r5 rfl) ?_
      refine jg_nil ?_
      refine jk_xf (by kernel_rfl) ?_
      refine jx0 [(1, _), (2, _), (6, _), (11, _)] ⟨rfl, rfl, rfl, rfl, trivial⟩ (by kernel_rfl) (by kernel_rfl) ?_
      exact jk_use H15 (y525, y605) (g645, hd526, hd606) [4, 2, 1, 0] ⟨rfl, rfl, rfl, rfl, trivial⟩ rfl rfl rfl
    refine jg_lit0 (enc := encI) rfl rfl fun hd545 => ?_
    refine jg_nil ?_
    refine jk_xn [3, 4] rfl ?_
    refine jx1 (i := 5) (by kernel_rfl) (by kernel_rfl) rfl ?_
    refine jg_append 1 rfl rfl rfl (fun w hs => (hs.arg Rha0_Wagons)) rfl rfl rfl fun y525 hd526 => ?_
    refine jg_L (r5 rfl) ?_
    refine jg_nil ?_
    refine jk_xn [3, 4] rfl ?_
    refine jx1 (i := 9) (by kernel_rfl) (by kernel_rfl) rfl ?_
    refine jg_append 0 rfl rfl rfl (fun w hs => (hs.arg Rha0_Lengths)) rfl rfl rfl fun y605 hd606 => ?_
    refine jg_L (r5 rfl) ?_
    refine jg_nil ?_
    refine jk_xn [3, 4] rfl ?_
    refine jx_lin [3, 4] 4095 4095 1 [0, 1, 0, 0, 8, 28, 0, 0, 128, 508, 1023, 0, 4095] [(10, true)] rfl (np_seq np_rt) (by kernel_rfl) (by kernel_rfl) (by kernel_rfl) (by kernel_rfl) (by kernel_rfl) (by kernel_rfl) (by kernel_rfl) (by kernel_rfl) (by kernel_rfl) ?_
    refine jd_y rfl (fun w hs => yv_build rfl (o3 rfl)) rfl rfl ?_
    refine jd_x ?_
    refine jx1 (i := 12) (by kernel_rfl) (by kernel_rfl) rfl ?_
    refine jg_store 2 rfl rfl rfl (l3 rfl) rfl rfl rfl rfl (l3 rfl) (r5 rfl) ?_
    refine jg_nil ?_
    refine jk_xf (by kernel_rfl) ?_
    refine jx0 [(1, _), (2, _), (6, _), (11, _)] ⟨rfl, rfl, rfl, rfl, trivial⟩ (by kernel_rfl) (by kernel_rfl) ?_
    exact jk_use H15 (y525, y605) (g645, hd526, hd606) [4, 2, 1, 0] ⟨rfl, rfl, rfl, rfl, trivial⟩ rfl rfl rfl
  refine jg_lit0 (enc := encI) rfl rfl fun hd545 => ?_
  refine jg_nil ?_
  refine jk_xn [2, 3] rfl ?_
  refine jx1 (i := 2) (by kernel_rfl) (by kernel_rfl) rfl ?_
  refine jg_lit0 (enc := encI) rfl rfl fun hd465 => ?_
  refine jg_nil ?_
  refine jk_xn [3, 4] rfl ?_
  refine jx1 (i := 5) (by kernel_rfl) (by kernel_rfl) rfl ?_
  refine jg_append 0 rfl rfl rfl (fun w hs => (hs.arg Rha0_Wagons)) rfl rfl rfl fun y525 hd526 => ?_
  refine jg_L (r5 rfl) ?_
  refine jg_nil ?_
  refine jk_xn [3, 4] rfl ?_
  refine jx1 (i := 9) (by kernel_rfl) (by kernel_rfl) rfl ?_
  refine jg_append 1 rfl rfl rfl (fun w hs => (hs.arg Rha0_Lengths)) rfl rfl rfl fun y605 hd606 => ?_
  refine jg_L (r5 rfl) ?_
  refine jg_nil ?_
  refine jk_xn [3, 4] rfl ?_
  refine jx_lin [3, 4] 4095 4095 1 [0, 1, 0, 0, 8, 28, 0, 0, 128, 508, 1023, 0, 4095] [(10, true)] rfl (np_seq np_rt) (by kernel_rfl) (by kernel_rfl) (by kernel_rfl) (by kernel_rfl) (by kernel_rfl) (by kernel_rfl) (by kernel_rfl) (by kernel_rfl) (by kernel_rfl) ?_
  refine jd_y rfl (fun w hs => yv_build rfl (o3 rfl)) rfl rfl ?_
  refine jd_x ?_
  refine jx1 (i := 12) (by kernel_rfl) (by kernel_rfl) rfl ?_
  refine jg_store 2 rfl rfl rfl (l3 rfl) rfl rfl rfl rfl (l3 rfl) (r5 rfl) ?_
  refine jg_nil ?_
  refine jk_xf (by kernel_rfl) ?_
  refine jx0 [(1, _), (2, _), (6, _), (11, _)] ⟨rfl, rfl, rfl, rfl, trivial⟩ (by kernel_rfl) (by kernel_rfl) ?_
  exact jk_use H15 (y525, y605) (g645, hd526, hd606) [4, 2, 0, 1] ⟨rfl, rfl, rfl, rfl, trivial⟩ rfl rfl rfl
theorem slices_Clone_int_int__c {w : World} {a0 : (List Int)} {ha0 : Hd} {v : (List Int)} (hm : slices_Clone_int_int_ a0 = some v) (Rha0 : Sl w ha0 encI a0) : Calls Try.prog 44 ([ha0.v] : List Value).toArray w (fun e w' => ∃ g : Hd, e = .returned (g.v) ∧ St w w' [] [(rowH g 3 1 encI v)]) := by
  refine j_enter (vs := [ha0.v]) (R := fun (v : (List Int)) (e : Ending) (w' : World) => ∃ g : Hd, e = .returned (g.v) ∧ St w w' [] [(rowH g 3 1 encI v)]) Try.func44 rfl Try.ntmps44 rfl rfl (St.refl w) hm ?_
  unfold slices_Clone_int_int_
  clear hm
  refine jn_seq ?_
  refine jn_reg 0 ?_
  refine jg_as rfl rfl rfl ?_
  refine jg_nils [(0, _)] ⟨rfl, trivial⟩ ?_
  refine jk_sn ?_
  refine jn_seq ?_
  refine jn_seq ?_
  refine jn_reg 1 ?_
  refine jg_mv rfl rfl rfl ?_
  refine jg_y (fun w hs => yv_eqnil rfl rfl) rfl rfl ?_
  refine jg_nils [(0, _), (4, _)] ⟨rfl, rfl, trivial⟩ ?_
  refine jk_sn ?_
  refine jn_nilq (m1 := some ([] : List Int)) rfl (fun w hs => (hs.arg Rha0)) (fun h e => by subst h; simpa [ck, vl] using e) (fun _ => ?_) ?_
  · refine jn_seq ?_
    refine jn_reg 2 ?_
    refine jg_as rfl rfl rfl ?_
    refine jg_nils [(2, _)] ⟨rfl, trivial⟩ ?_
    refine jk_sn ?_
    refine jn_ret ?_
    refine jk_sr ?_
    refine jk_addnil 3 1 encI ?_
    exact jk_ret1 rfl (fun w hs => .tmp rfl) (fun w hs => ⟨(Hd.mk none 0 0), rfl, hs.sel (is := [0]) rfl rfl⟩)
  refine jn_skip ?_
  refine jk_sn ?_
  refine jn_seq ?_
  refine jn_reg 3 ?_
  refine jg_lit0 (enc := encI) rfl rfl fun hd1 => ?_
  refine jg_mv rfl rfl rfl ?_
  refine jg_append 0 rfl rfl rfl (fun w hs => (hs.arg Rha0)) rfl rfl rfl fun y2 hd3 => ?_
  refine jg_L (r1 rfl) ?_
  refine jg_as rfl rfl rfl ?_
  refine jg_nils [(2, _)] ⟨rfl, trivial⟩ ?_
  refine jk_sn ?_
  refine jn_ret ?_
  exact jk_ret1 rfl (fun w hs => .tmp rfl) (fun w hs => ⟨hd3, rfl, hs.sel (is := [0]) rfl rfl⟩)
theorem bowl_Leave_c {w : World} {a0 : Stand} {a1 : Int} {ha0_Wagons : Hd} {ha0_Lengths : Hd} {v : (Stand × (List Int) × Int)} (hm : bowl_Leave a0 a1 = some v) (Rha0_Wagons : Sl w ha0_Wagons encI a0.Wagons) (Rha0_Lengths : Sl w ha0_Lengths encI a0.Lengths) : Calls Try.prog 19 ([.agg #[.int .i64 a0.Room, ha0_Wagons.v, ha0_Lengths.v], .int .i64 a1] : List Value).toArray w (fun e w' => ∃ g : (Hd × Hd × Hd), e = .returned (.tuple #[.agg #[.int .i64 v.1.Room, g.1.v, g.2.1.v], g.2.2.v, .int .i64 v.2.2]) ∧ St w w' [] [(rowH g.1 3 1 encI v.1.Wagons), (rowH g.2.1 3 1 encI v.1.Lengths), (rowH g.2.2 3 1 encI v.2.1)]) := by
  refine j_enter (vs := [.agg #[.int .i64 a0.Room, ha0_Wagons.v, ha0_Lengths.v], .int .i64 a1]) (R := fun (v : (Stand × (List Int) × Int)) (e : Ending) (w' : World) => ∃ g : (Hd × Hd × Hd), e = .returned (.tuple #[.agg #[.int .i64 v.1.Room, g.1.v, g.2.1.v], g.2.2.v, .int .i64 v.2.2]) ∧ St w w' [] [(rowH g.1 3 1 encI v.1.Wagons), (rowH g.2.1 3 1 encI v.1.Lengths), (rowH g.2.2 3 1 encI v.2.1)]) Try.func19 rfl Try.ntmps19 rfl rfl (St.refl w) hm ?_
  unfold bowl_Leave
  clear hm
  refine jn_seq ?_
  refine jn_reg 0 ?_
  refine jg_box rfl (l3 rfl) rfl rfl fun g1 => ?_
  refine jg_alloc (l3 rfl) rfl rfl fun g2 => ?_
  refine jg_as rfl rfl rfl ?_
  refine jg_as rfl rfl rfl ?_
  refine jg_nils [(1, _), (2, _), (4, _)] ⟨rfl, rfl, rfl, trivial⟩ ?_
  refine jk_sn ?_
  refine jn_seq ?_
  refine jn_seq ?_
  refine jn_reg 1 ?_
  refine jg_y (fun w hs => yv_load rfl (ldBB (hs.blkL (i := 1) rfl) rfl)) rfl rfl ?_
  refine jg_c0 rfl (fun v w hs hm => bowl_Valid_c (a0 := a0) hm (hs.arg Rha0_Wagons) (hs.arg Rha0_Lengths)) rfl rfl fun v3 => ?_
  refine jg_y (fun w hs => yv_not rfl) rfl rfl ?_
  refine jg_nils [(1, _), (2, _), (4, _), (11, _)] ⟨rfl, rfl, rfl, rfl, trivial⟩ ?_
  refine jk_sn ?_
  refine jn_cond rfl ?_ ?_
  · refine jn_seq ?_
    refine jn_reg 2 ?_
    refine jg_y (fun w hs => yv_build rfl (o3 rfl)) rfl rfl ?_
    refine jg_store 0 rfl rfl rfl (l3 rfl) rfl rfl rfl rfl (l3 rfl) (r2 rfl) ?_
    refine jg_as rfl rfl rfl ?_
    refine jg_as rfl rfl rfl ?_
    refine jg_nils [(4, _), (5, _), (6, _)] ⟨rfl, rfl, rfl, trivial⟩ ?_
    refine jk_sn ?_
    refine jn_ret ?_
    refine jk_sr ?_
    refine jk_addnil 3 1 encI ?_
    refine jk_addnil 3 1 encI ?_
    refine jk_addnil 3 1 encI ?_
    exact jk_ret3 rfl (fun w hs => .cell rfl (ldBB (hs.blkL (i := 3) rfl) rfl)) (fun w hs => .tmp rfl) (fun w hs => .tmp rfl) (fun w hs => ⟨((Hd.mk none 0 0), (Hd.mk none 0 0), (Hd.mk none 0 0)), rfl, hs.sel (is := [2, 1, 0]) rfl rfl⟩)
  refine jn_skip ?_
  refine jk_sn ?_
  refine jn_seq ?_
  refine jn_reg 3 ?_
  refine jg_y (fun w hs => yv_fieldAddr rfl) rfl rfl ?_
  refine jg_y (fun w hs => yv_load rfl (ld1B (hs.blkL (i := 1) rfl) rfl)) rfl rfl ?_
  refine jg_y (fun w hs => yv_ln rfl (hs.arg Rha0_Wagons)) rfl rfl ?_
  refine jg_mv rfl rfl rfl ?_
  refine jg_yl (fun w hs => yv_sub_w rfl rfl) rfl rfl fun x4 => ?_
  refine jg_as rfl rfl rfl ?_
  refine jg_nils [(1, _), (2, _), (4, _), (7, _)] ⟨rfl, rfl, rfl, rfl, trivial⟩ ?_
  refine jk_sn ?_
  refine jn_seq ?_
  refine jn_seq ?_
  refine jn_reg 4 ?_
  refine jg_mv rfl rfl rfl ?_
  refine jg_y (fun w hs => yv_lss rfl rfl) rfl rfl ?_
  refine jg_mv rfl rfl rfl ?_
  refine jg_split 20 rfl ?_ ?_
  · refine jg_skip rfl rfl ?_
    refine jg_skip rfl rfl ?_
    refine jg_y (fun w hs => yv_pick_t rfl rfl) rfl rfl ?_
    refine jg_nils [(2, _), (4, _), (7, _), (23, _)] ⟨rfl, rfl, rfl, rfl, trivial⟩ ?_
    refine jk_sn ?_
    refine jn_ct rfl ?_
    refine jn_seq ?_
    refine jn_reg 5 ?_
    refine jg_y (fun w hs => yv_build rfl (o3 rfl)) rfl rfl ?_
    refine jg_store 0 rfl rfl rfl (l3 rfl) rfl rfl rfl rfl (l3 rfl) (r2 rfl) ?_
    refine jg_as rfl rfl rfl ?_
    refine jg_as rfl rfl rfl ?_
    refine jg_nils [(4, _), (5, _), (6, _)] ⟨rfl, rfl, rfl, trivial⟩ ?_
    refine jk_sn ?_
    refine jn_ret ?_
    refine jk_sr ?_
    refine jk_addnil 3 1 encI ?_
    refine jk_addnil 3 1 encI ?_
    refine jk_addnil 3 1 encI ?_
    exact jk_ret3 rfl (fun w hs => .cell rfl (ldBB (hs.blkL (i := 3) rfl) rfl)) (fun w hs => .tmp rfl) (fun w hs => .tmp rfl) (fun w hs => ⟨((Hd.mk none 0 0), (Hd.mk none 0 0), (Hd.mk none 0 0)), rfl, hs.sel (is := [2, 1, 0]) rfl rfl⟩)
  refine jg_mv rfl rfl rfl ?_
  refine jg_y (fun w hs => yv_lss rfl rfl) rfl rfl ?_
  refine jg_y (fun w hs => yv_pick_f rfl rfl) rfl rfl ?_
  refine jg_nils [(2, _), (4, _), (7, _), (23, _)] ⟨rfl, rfl, rfl, rfl, trivial⟩ ?_
  refine jk_sn ?_
  refine jn_cond rfl ?_ ?_
  · refine jn_seq ?_
    refine jn_reg 5 ?_
    refine jg_y (fun w hs => yv_build rfl (o3 rfl)) rfl rfl ?_
    refine jg_store 0 rfl rfl rfl (l3 rfl) rfl rfl rfl rfl (l3 rfl) (r2 rfl) ?_
    refine jg_as rfl rfl rfl ?_
    refine jg_as rfl rfl rfl ?_
    refine jg_nils [(4, _), (5, _), (6, _)] ⟨rfl, rfl, rfl, trivial⟩ ?_
    refine jk_sn ?_
    refine jn_ret ?_
    refine jk_sr ?_
    refine jk_addnil 3 1 encI ?_
    refine jk_addnil 3 1 encI ?_
    refine jk_addnil 3 1 encI ?_
    exact jk_ret3 rfl (fun w hs => .cell rfl (ldBB (hs.blkL (i := 3) rfl) rfl)) (fun w hs => .tmp rfl) (fun w hs => .tmp rfl) (fun w hs => ⟨((Hd.mk none 0 0), (Hd.mk none 0 0), (Hd.mk none 0 0)), rfl, hs.sel (is := [2, 1, 0]) rfl rfl⟩)
  refine jn_skip ?_
  refine jk_sn ?_
  refine jn_join (fun (s : ((List Int) × (List Int))) (g : (Nat × Hd × Hd)) => [(2, .pointer (some ⟨g1, 0, none⟩)), (4, .pointer (some ⟨g2, 0, none⟩)), (7, .int .i64 x4), (8, .pointer (some ⟨g.1, 0, none⟩))]) (fun (s : ((List Int) × (List Int))) (g : (Nat × Hd × Hd)) => []) (fun (s : ((List Int) × (List Int))) (g : (Nat × Hd × Hd)) => [(Res.blk g1 24 [.int .i64 a0.Room, ha0_Wagons.v, ha0_Lengths.v]), (Res.blk g2 24 [.int .i64 0, (Hd.mk none 0 0).v, (Hd.mk none 0 0).v]), (Res.blk g.1 24 [.int .i64 a0.Room, g.2.1.v, g.2.2.v]), (rowH g.2.1 3 1 encI s.1), (rowH g.2.2 3 1 encI s.2)]) ?_ ?_
  · intro z5 q6
    refine jn_seq ?_
    refine jn_draw (L' := [_, _, _, _, _]) 7 [0, 1, 2, 3, 4] [0, 1, 2, 3, 4, 5] 63 511 [0, 0, 2, 0, 12, 16, 33, 127, 255] [0, 0, 2, 0, 14, 30, 63, 127, 255] [(0, true), (1, true), (2, true), (3, true), (4, true), (5, false), (6, false), (7, false), (8, false)] rfl (np_seq np_rt) (by kernel_rfl) (by kernel_rfl) (by kernel_rfl) (by kernel_rfl) (by kernel_rfl) (by kernel_rfl) (by kernel_rfl) (by kernel_rfl) ?_
    refine jd_y rfl (fun w hs => yv_load rfl (ldBB (hs.blk (i := 2) rfl) rfl)) rfl rfl ?_
    refine jd_y rfl (fun w hs => yv_fieldAddr rfl) rfl rfl ?_
    refine jd_y rfl (fun w hs => yv_load rfl (ld1B (hs.blk (i := 0) rfl) rfl)) rfl rfl ?_
    refine jd_mv rfl rfl rfl rfl ?_
    refine jd_ck fun h9 => ?_
    refine jd_y rfl (fun w hs => yv_lo rfl rfl (hs.arg Rha0_Wagons) (of_decide_eq_true h9)) rfl rfl ?_
    refine jd_h rfl ?_
    refine jg_c rfl (fun v w hs hm => slices_Clone_int_int__c hm (Sl.lo (sz := 1) (hs.arg Rha0_Wagons) (of_decide_eq_true h9))) rfl rfl fun v10 q11 => ?_
    refine jg_L (r6 rfl) ?_
    refine jg_nil ?_
    refine jk_dn [1, 2, 3, 4, 5] rfl ?_
    refine jd_h rfl ?_
    refine jg_store 2 rfl rfl rfl (l3 rfl) rfl rfl rfl rfl (l3 rfl) (r6 rfl) ?_
    refine jg_nil ?_
    refine jk_df rfl ?_
    refine jf_h rfl ?_
    refine jg_as rfl rfl rfl ?_
    refine jg_nil ?_
    refine jk_df rfl ?_
    refine jf_h rfl ?_
    refine jg_as rfl rfl rfl ?_
    refine jg_nil ?_
    refine jk_df rfl ?_
    refine jf_nils [(4, _), (5, _), (6, _)] ⟨rfl, rfl, rfl, trivial⟩ ?_
    refine jk_sel (is := [0, 2, 4, 5]) (s4 rfl) rfl ?_
    refine jk_sn ?_
    refine jn_ret ?_
    exact jk_ret3 rfl (fun w hs => .cell rfl (ldBB (hs.blkL (i := 1) rfl) rfl)) (fun w hs => .tmp rfl) (fun w hs => .tmp rfl) (fun w hs => ⟨(q6.2.1, q6.2.2, q11), rfl, hs.sel (is := [2, 3, 0]) rfl rfl⟩)
  intro k7 H8
  refine jn_drawA 6 [0, 1, 2, 3, 4, 5, 6, 7, 8, 9, 10, 11, 12, 13, 14] 32767 528 13 [0, 1, 0, 4, 0, 24, 32, 0, 128, 0, 768, 1088, 2114, 0, 16383] [0, 1, 0, 4, 0, 28, 60, 0, 128, 0, 896, 2044, 4095, 0, 16383] [(4, true), (9, true)] (np_seq np_rt) (by kernel_rfl) (by kernel_rfl) (by kernel_rfl) (by kernel_rfl) (by kernel_rfl) (by kernel_rfl) (by kernel_rfl) (by kernel_rfl) ?_
  refine jt_mv rfl rfl rfl ?_
  refine jt_mv rfl rfl rfl ?_
  refine jd_x ?_
  refine jx_to (L' := [_, _]) [0, 1, 2, 3, 5, 6, 7, 8, 10, 11, 12, 13] [14] [0, 1] rfl ?_
  refine jx_lin [0, 1] 15855 1983 5 [0, 1, 0, 4, 0, 28, 60, 0, 128, 0, 896, 2044, 4095, 0, 16383] [(0, true), (1, true), (2, true), (3, true), (5, true), (7, true), (8, true), (10, true)] rfl (np_seq np_rt) (by kernel_rfl) (by kernel_rfl) (by kernel_rfl) (by kernel_rfl) (by kernel_rfl) (by kernel_rfl) (by kernel_rfl) (by kernel_rfl) (by kernel_rfl) ?_
  refine jd_y rfl (fun w hs => yv_fieldAddr rfl) rfl rfl ?_
  refine jd_y rfl (fun w hs => yv_load rfl (ld1B (hs.blk (i := 1) rfl) rfl)) rfl rfl ?_
  refine jd_y rfl (fun w hs => yv_fieldAddr rfl) rfl rfl ?_
  refine jd_y rfl (fun w hs => yv_load rfl (ld1B (hs.blk (i := 1) rfl) rfl)) rfl rfl ?_
  refine jd_ck fun h112 => ?_
  refine jd_y rfl (fun w hs => yv_hi rfl rfl (hs.arg Rha0_Wagons) (of_decide_eq_true h112)) rfl rfl ?_
  refine jd_y rfl (fun w hs => yv_fieldAddr rfl) rfl rfl ?_
  refine jd_y rfl (fun w hs => yv_load rfl (ld1B (hs.blk (i := 1) rfl) rfl)) rfl rfl ?_
  refine jd_ck fun h212 => ?_
  refine jd_y rfl (fun w hs => yv_hi rfl rfl (hs.arg Rha0_Lengths) (of_decide_eq_true h212)) rfl rfl ?_
  refine jd_x ?_
  refine jx2 (i := 6) (i2 := 13) (by kernel_rfl) (by kernel_rfl) rfl rfl ?_ ?_
  · refine jg_c rfl (fun v w hs hm => slices_Clone_int_int__c hm (Sl.hi (hs.arg Rha0_Wagons) (of_decide_eq_true h112))) rfl rfl fun v132 q133 => ?_
    refine jg_L (r3 rfl) ?_
    refine jg_nil ?_
    refine jk_xn [1, 2] rfl ?_
    refine jx2 (i := 11) (i2 := 13) (by kernel_rfl) (by kernel_rfl) rfl rfl ?_ ?_
    · refine jg_c rfl (fun v w hs hm => slices_Clone_int_int__c hm (Sl.hi (hs.arg Rha0_Lengths) (of_decide_eq_true h212))) rfl rfl fun v232 q233 => ?_
      refine jg_L (r4 rfl) ?_
      refine jg_nil ?_
      refine jk_xn [2, 3] rfl ?_
      refine jx_lin [2, 3] 15855 8191 2 [0, 1, 0, 4, 0, 28, 60, 0, 128, 0, 896, 2044, 4095, 0, 16383] [(12, true)] rfl (np_seq np_rt) (by kernel_rfl) (by kernel_rfl) (by kernel_rfl) (by kernel_rfl) (by kernel_rfl) (by kernel_rfl) (by kernel_rfl) (by kernel_rfl) (by kernel_rfl) ?_
      refine jd_y rfl (fun w hs => yv_build rfl (o3 rfl)) rfl rfl ?_
      refine jd_x ?_
      refine jx1 (i := 13) (by kernel_rfl) (by kernel_rfl) rfl ?_
      refine jg_alloc (l3 rfl) rfl rfl fun g272 => ?_
      refine jg_nil ?_
      refine jk_xn [3, 4] rfl ?_
      refine jx1 (i := 14) (by kernel_rfl) (by kernel_rfl) rfl ?_
      refine jg_store 0 rfl rfl rfl (l3 rfl) rfl rfl rfl rfl (l3 rfl) (r5 rfl) ?_
      refine jg_nil ?_
      refine jk_xf (by kernel_rfl) ?_
      refine jx0 [(2, _), (4, _), (7, _), (8, _)] ⟨rfl, rfl, rfl, rfl, trivial⟩ (by kernel_rfl) (by kernel_rfl) ?_
      exact jk_use H8 (v132, v232) (g272, q133, q233) [4, 3, 0, 2, 1] ⟨rfl, rfl, rfl, rfl, trivial⟩ rfl rfl rfl
    refine jg_alloc (l3 rfl) rfl rfl fun g272 => ?_
    refine jg_nil ?_
    refine jk_xn [2, 3] rfl ?_
    refine jx1 (i := 11) (by kernel_rfl) (by kernel_rfl) rfl ?_
    refine jg_c rfl (fun v w hs hm => slices_Clone_int_int__c hm (Sl.hi (hs.arg Rha0_Lengths) (of_decide_eq_true h212))) rfl rfl fun v232 q233 => ?_
    refine jg_L (r5 rfl) ?_
    refine jg_nil ?_
    refine jk_xn [3, 4] rfl ?_
    refine jx_lin [3, 4] 15855 16383 1 [0, 1, 0, 4, 0, 28, 60, 0, 128, 0, 896, 2044, 4095, 0, 16383] [(12, true)] rfl (np_seq np_rt) (by kernel_rfl) (by kernel_rfl) (by kernel_rfl) (by kernel_rfl) (by kernel_rfl) (by kernel_rfl) (by kernel_rfl) (by kernel_rfl) (by kernel_rfl) ?_
    refine jd_y rfl (fun w hs => yv_build rfl (o3 rfl)) rfl rfl ?_
    refine jd_x ?_
    refine jx1 (i := 14) (by kernel_rfl) (by kernel_rfl) rfl ?_
    refine jg_store 1 rfl rfl rfl (l3 rfl) rfl rfl rfl rfl (l3 rfl) (r5 rfl) ?_
    refine jg_nil ?_
    refine jk_xf (by kernel_rfl) ?_
    refine jx0 [(2, _), (4, _), (7, _), (8, _)] ⟨rfl, rfl, rfl, rfl, trivial⟩ (by kernel_rfl) (by kernel_rfl) ?_
    exact jk_use H8 (v132, v232) (g272, q133, q233) [4, 3, 1, 2, 0] ⟨rfl, rfl, rfl, rfl, trivial⟩ rfl rfl rfl
  refine jg_alloc (l3 rfl) rfl rfl fun g272 => ?_
  refine jg_nil ?_
  refine jk_xn [1, 2] rfl ?_
  refine jx1 (i := 6) (by kernel_rfl) (by kernel_rfl) rfl ?_
  refine jg_c rfl (fun v w hs hm => slices_Clone_int_int__c hm (Sl.hi (hs.arg Rha0_Wagons) (of_decide_eq_true h112))) rfl rfl fun v132 q133 => ?_
  refine jg_L (r4 rfl) ?_
  refine jg_nil ?_
  refine jk_xn [2, 3] rfl ?_
  refine jx1 (i := 11) (by kernel_rfl) (by kernel_rfl) rfl ?_
  refine jg_c rfl (fun v w hs hm => slices_Clone_int_int__c hm (Sl.hi (hs.arg Rha0_Lengths) (of_decide_eq_true h212))) rfl rfl fun v232 q233 => ?_
  refine jg_L (r5 rfl) ?_
  refine jg_nil ?_
  refine jk_xn [3, 4] rfl ?_
  refine jx_lin [3, 4] 15855 16383 1 [0, 1, 0, 4, 0, 28, 60, 0, 128, 0, 896, 2044, 4095, 0, 16383] [(12, true)] rfl (np_seq np_rt) (by kernel_rfl) (by kernel_rfl) (by kernel_rfl) (by kernel_rfl) (by kernel_rfl) (by kernel_rfl) (by kernel_rfl) (by kernel_rfl) (by kernel_rfl) ?_
  refine jd_y rfl (fun w hs => yv_build rfl (o3 rfl)) rfl rfl ?_
  refine jd_x ?_
  refine jx1 (i := 14) (by kernel_rfl) (by kernel_rfl) rfl ?_
  refine jg_store 2 rfl rfl rfl (l3 rfl) rfl rfl rfl rfl (l3 rfl) (r5 rfl) ?_
  refine jg_nil ?_
  refine jk_xf (by kernel_rfl) ?_
  refine jx0 [(2, _), (4, _), (7, _), (8, _)] ⟨rfl, rfl, rfl, rfl, trivial⟩ (by kernel_rfl) (by kernel_rfl) ?_
  exact jk_use H8 (v132, v232) (g272, q133, q233) [4, 3, 2, 1, 0] ⟨rfl, rfl, rfl, rfl, trivial⟩ rfl rfl rfl
end Go.Proofs.Ytdabnfhkojapjaa
