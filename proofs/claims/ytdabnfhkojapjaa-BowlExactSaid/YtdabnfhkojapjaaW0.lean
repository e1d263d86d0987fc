/-
  The functions give what their models give. Printed by a program.
-/
import Derived.Test.YtdabnfhkojapjaaFacts
import Derived.Test.YtdabnfhkojapjaaMod
namespace Go.Proofs.Ytdabnfhkojapjaa
open Go.Hy
set_option linter.unusedVariables false
set_option linter.unusedSimpArgs false
set_option maxHeartbeats 2000000
set_option maxRecDepth 100000

theorem gen_New_c {w : World} {a0 : (List Int)} {ha0 : Hd} {v : HumpgenMaker} (hm : gen_New a0 = some v) (Rha0 : Sl w ha0 encI a0) : Calls Try.prog 8 ([ha0.v] : List Value).toArray w (fun e w' => ∃ g : Nat, e = .returned (.pointer (some ⟨g, 0, none⟩)) ∧ St w w' [] [(Res.blk g 75 [ha0.v, .int .i64 v.fn])]) := by
  refine j_enter (vs := [ha0.v]) (R := fun (v : HumpgenMaker) (e : Ending) (w' : World) => ∃ g : Nat, e = .returned (.pointer (some ⟨g, 0, none⟩)) ∧ St w w' [] [(Res.blk g 75 [ha0.v, .int .i64 v.fn])]) Try.func8 rfl Try.ntmps8 rfl rfl (St.refl w) hm ?_
  unfold gen_New
  clear hm
  refine jn_seq ?_
  refine jn_reg 0 ?_
  refine jg_as rfl rfl rfl ?_
  refine jg_nils [(0, _)] ⟨rfl, trivial⟩ ?_
  refine jk_sn ?_
  refine jn_seq ?_
  refine jn_reg 1 ?_
  refine jg_mv rfl rfl rfl ?_
  refine jg_y (fun w hs => yv_build rfl (o2 rfl)) rfl rfl ?_
  refine jg_box rfl (l2 rfl) rfl rfl fun g1 => ?_
  refine jg_as rfl rfl rfl ?_
  refine jg_nils [(2, _)] ⟨rfl, trivial⟩ ?_
  refine jk_sn ?_
  refine jn_ret ?_
  exact jk_ret1 rfl (fun w hs => .tmp rfl) (fun w hs => ⟨g1, rfl, hs.sel (is := [0]) rfl rfl⟩)
theorem gen_Maker_Next_c {w : World} {a0 : HumpgenMaker} {a1 : Int} {ha0_fl : Hd} {b0 : Nat} {v : (Int × Int)} (hm : gen_Maker_Next a0 a1 = some v) (Hb : Blk w b0 75 [ha0_fl.v, .int .i64 a0.fn]) (Rha0_fl : Sl w ha0_fl encI a0.fl) (Oha0_fl : Offs ha0_fl [b0]) : Calls Try.prog 15 ([.pointer (some ⟨b0, 0, none⟩), .int .i64 a1] : List Value).toArray w (fun e w' => ∃ g : Unit, e = .returned (.int .i64 v.1) ∧ St w w' [.blk b0 75 [ha0_fl.v, .int .i64 v.2]] []) := by
  refine j_enter (vs := [.pointer (some ⟨b0, 0, none⟩), .int .i64 a1]) (R := fun (v : (Int × Int)) (e : Ending) (w' : World) => ∃ g : Unit, e = .returned (.int .i64 v.1) ∧ St w w' [.blk b0 75 [ha0_fl.v, .int .i64 v.2]] []) Try.func15 rfl Try.ntmps15 rfl rfl (mk_st Hb) hm ?_
  unfold gen_Maker_Next
  clear hm
  refine jn_seq ?_
  refine jn_reg 0 ?_
  refine jg_as rfl rfl rfl ?_
  refine jg_nils [(0, _), (1, _)] ⟨rfl, rfl, trivial⟩ ?_
  refine jk_sn ?_
  refine jn_seq ?_
  refine jn_reg 1 ?_
  refine jg_as rfl rfl rfl ?_
  refine jg_nils [(0, _), (1, _), (5, _)] ⟨rfl, rfl, rfl, trivial⟩ ?_
  refine jk_sn ?_
  refine jn_join (fun (s : Int) (g : Unit) => [(0, .pointer (some ⟨b0, 0, none⟩)), (1, .int .i64 a1), (5, .int .i64 s)]) (fun (s : Int) (g : Unit) => [(Res.blk b0 75 [ha0_fl.v, .int .i64 a0.fn])]) (fun (s : Int) (g : Unit) => []) ?_ ?_
  rotate_left
  · intro k3 H4
    refine jn_seq ?_
    refine jn_reg 2 ?_
    refine jg_mv rfl rfl rfl ?_
    refine jg_y (fun w hs => yv_nil rfl) rfl rfl ?_
    refine jg_y (fun w hs => yv_fieldAddr rfl) rfl rfl ?_
    refine jg_y (fun w hs => yv_load rfl (ld1B (hs.blkM (i := 0) rfl) rfl)) rfl rfl ?_
    refine jg_y (fun w hs => yv_ln rfl (hs.argM Rha0_fl Oha0_fl)) rfl rfl ?_
    refine jg_y (fun w hs => yv_gtr rfl rfl) rfl rfl ?_
    refine jg_nils [(0, _), (1, _), (5, _), (11, _)] ⟨rfl, rfl, rfl, rfl, trivial⟩ ?_
    refine jk_sn ?_
    refine jn_cond rfl ?_ ?_
    rotate_left
    · refine jn_skip ?_
      exact jk_use H4 0 () [] ⟨rfl, rfl, rfl, trivial⟩ rfl rfl rfl
    refine jn_draw (L' := [_]) 3 [0] [0, 1, 2, 3, 4, 5, 6, 7, 8, 9, 10, 11, 12, 13, 14, 15, 16, 17, 18, 19, 20, 21, 22, 23, 24, 25, 26, 27, 28] 536870911 536870911 [0, 1, 2, 4, 0, 16, 32, 64, 0, 256, 512, 1024, 2048, 4224, 8200, 16384, 0, 65536, 131072, 262144, 0, 1048576, 2097152, 4194304, 8388608, 17301504, 33554432, 67141632, 268435455] [0, 1, 3, 7, 0, 16, 48, 112, 0, 256, 768, 1792, 3840, 8176, 16383, 32767, 0, 65536, 196608, 458752, 0, 1048576, 3145728, 7340032, 15728640, 33488896, 67043328, 134217727, 268435455] [(0, true), (1, true), (2, true), (3, true), (4, true), (5, true), (6, true), (7, true), (8, true), (9, true), (10, true), (11, true), (12, true), (13, true), (14, true), (15, true), (16, true), (17, true), (18, true), (19, true), (20, true), (21, true), (22, true), (23, true), (24, true), (25, true), (26, true), (27, true), (28, true)] rfl (np_seq np_rt) (by kernel_rfl) (by kernel_rfl) (by kernel_rfl) (by kernel_rfl) (by kernel_rfl) (by kernel_rfl) (by kernel_rfl) (by kernel_rfl) ?_
    refine jd_mv rfl rfl rfl rfl ?_
    refine jd_y rfl (fun w hs => yv_nil rfl) rfl rfl ?_
    refine jd_y rfl (fun w hs => yv_fieldAddr rfl) rfl rfl ?_
    refine jd_y rfl (fun w hs => yv_load rfl (ld1B (hs.blk (i := 0) rfl) rfl)) rfl rfl ?_
    refine jd_mv rfl rfl rfl rfl ?_
    refine jd_y rfl (fun w hs => yv_nil rfl) rfl rfl ?_
    refine jd_y rfl (fun w hs => yv_fieldAddr rfl) rfl rfl ?_
    refine jd_y rfl (fun w hs => yv_load rfl (ld1B (hs.blk (i := 0) rfl) rfl)) rfl rfl ?_
    refine jd_mv rfl rfl rfl rfl ?_
    refine jd_y rfl (fun w hs => yv_nil rfl) rfl rfl ?_
    refine jd_y rfl (fun w hs => yv_fieldAddr rfl) rfl rfl ?_
    refine jd_y rfl (fun w hs => yv_load rfl (ld1B (hs.blk (i := 0) rfl) rfl)) rfl rfl ?_
    refine jd_y rfl (fun w hs => yv_ln rfl (hs.argM Rha0_fl Oha0_fl)) rfl rfl ?_
    refine jd_ck fun h6 => ?_
    refine jd_yl rfl (fun w hs => yv_tmod rfl rfl (of_decide_eq_true h6)) rfl rfl fun x7 => ?_
    refine jd_ix fun x8 h9 => ?_
    refine jd_y rfl (fun w hs => yv_ix rfl rfl (hs.argM Rha0_fl Oha0_fl) h9) rfl rfl ?_
    refine jd_y rfl (fun w hs => yv_e1 rfl (hs.argM Rha0_fl Oha0_fl) h9.1 rfl) rfl rfl ?_
    refine jd_mv rfl rfl rfl rfl ?_
    refine jd_y rfl (fun w hs => yv_nil rfl) rfl rfl ?_
    refine jd_y rfl (fun w hs => yv_fieldAddr rfl) rfl rfl ?_
    refine jd_y rfl (fun w hs => yv_load rfl (ld1B (hs.blk (i := 0) rfl) rfl)) rfl rfl ?_
    refine jd_mv rfl rfl rfl rfl ?_
    refine jd_y rfl (fun w hs => yv_nil rfl) rfl rfl ?_
    refine jd_y rfl (fun w hs => yv_fieldAddr rfl) rfl rfl ?_
    refine jd_y rfl (fun w hs => yv_load rfl (ld1B (hs.blk (i := 0) rfl) rfl)) rfl rfl ?_
    refine jd_y rfl (fun w hs => yv_ln rfl (hs.argM Rha0_fl Oha0_fl)) rfl rfl ?_
    refine jd_ck fun h10 => ?_
    refine jd_yl rfl (fun w hs => yv_tdiv_w rfl rfl (of_decide_eq_true h10)) rfl rfl fun x11 => ?_
    refine jd_y rfl (fun w hs => yv_mul_w rfl rfl) rfl rfl ?_
    refine jd_y rfl (fun w hs => yv_add_w rfl rfl) rfl rfl ?_
    refine jd_as rfl rfl rfl rfl ?_
    refine jd_nils [(0, _), (1, _), (5, _)] ⟨rfl, rfl, rfl, trivial⟩ ?_
    exact jk_use H4 (w64 (x8 + (w64 (x11 * 7919)))) () [] ⟨rfl, rfl, rfl, trivial⟩ rfl rfl rfl
  intro z1 q2
  refine jn_seq ?_
  refine jn_reg 4 ?_
  refine jg_mv rfl rfl rfl ?_
  refine jg_y (fun w hs => yv_nil rfl) rfl rfl ?_
  refine jg_y (fun w hs => yv_fieldAddr rfl) rfl rfl ?_
  refine jg_y (fun w hs => yv_load rfl (ld1B (hs.blkM (i := 0) rfl) rfl)) rfl rfl ?_
  refine jg_y (fun w hs => yv_add_w rfl rfl) rfl rfl ?_
  refine jg_y (fun w hs => yv_nil rfl) rfl rfl ?_
  refine jg_y (fun w hs => yv_fieldAddr rfl) rfl rfl ?_
  refine jg_storeM 0 rfl rfl rfl (l1 rfl) rfl rfl rfl rfl (l2 rfl) (r1 rfl) ?_
  refine jg_nils [(1, _), (5, _)] ⟨rfl, rfl, trivial⟩ ?_
  refine jk_sn ?_
  refine jn_seq ?_
  refine jn_reg 5 ?_
  refine jg_mv rfl rfl rfl ?_
  refine jg_mv rfl rfl rfl ?_
  refine jg_ck fun h5 => ?_
  refine jg_y (fun w hs => yv_tmod rfl rfl (of_decide_eq_true h5)) rfl rfl ?_
  refine jg_as rfl rfl rfl ?_
  refine jg_nils [(1, _), (5, _)] ⟨rfl, rfl, trivial⟩ ?_
  refine jk_sn ?_
  refine jn_seq ?_
  refine jn_seq ?_
  refine jn_reg 6 ?_
  refine jg_mv rfl rfl rfl ?_
  refine jg_y (fun w hs => yv_lss rfl rfl) rfl rfl ?_
  refine jg_nils [(1, _), (5, _), (51, _)] ⟨rfl, rfl, rfl, trivial⟩ ?_
  refine jk_sn ?_
  refine jn_cond rfl ?_ ?_
  rotate_left
  · refine jn_skip ?_
    refine jk_sn ?_
    refine jn_seq ?_
    refine jn_reg 8 ?_
    refine jg_mv rfl rfl rfl ?_
    refine jg_as rfl rfl rfl ?_
    refine jg_nils [(4, _)] ⟨rfl, trivial⟩ ?_
    refine jk_sn ?_
    refine jn_ret ?_
    exact jk_ret1 rfl (fun w hs => .tmp rfl) (fun w hs => ⟨(), rfl, hs.sel (is := []) rfl rfl⟩)
  refine jn_reg 7 ?_
  refine jg_mv rfl rfl rfl ?_
  refine jg_mv rfl rfl rfl ?_
  refine jg_y (fun w hs => yv_add_w rfl rfl) rfl rfl ?_
  refine jg_as rfl rfl rfl ?_
  refine jg_nils [(5, _)] ⟨rfl, trivial⟩ ?_
  refine jk_sn ?_
  refine jn_seq ?_
  refine jn_reg 8 ?_
  refine jg_mv rfl rfl rfl ?_
  refine jg_as rfl rfl rfl ?_
  refine jg_nils [(4, _)] ⟨rfl, trivial⟩ ?_
  refine jk_sn ?_
  refine jn_ret ?_
  exact jk_ret1 rfl (fun w hs => .tmp rfl) (fun w hs => ⟨(), rfl, hs.sel (is := []) rfl rfl⟩)
theorem gen_Maker_Pick_c {w : World} {a0 : HumpgenMaker} {a1 : (List Int)} {ha0_fl : Hd} {b0 : Nat} {ha1 : Hd} {v : (Int × Int)} (hm : gen_Maker_Pick a0 a1 = some v) (Hb : Blk w b0 75 [ha0_fl.v, .int .i64 a0.fn]) (Rha0_fl : Sl w ha0_fl encI a0.fl) (Oha0_fl : Offs ha0_fl [b0]) (Rha1 : Sl w ha1 encI a1) (Oha1 : Offs ha1 [b0]) : Calls Try.prog 11 ([.pointer (some ⟨b0, 0, none⟩), ha1.v] : List Value).toArray w (fun e w' => ∃ g : Unit, e = .returned (.int .i64 v.1) ∧ St w w' [.blk b0 75 [ha0_fl.v, .int .i64 v.2]] []) := by
  refine j_enter (vs := [.pointer (some ⟨b0, 0, none⟩), ha1.v]) (R := fun (v : (Int × Int)) (e : Ending) (w' : World) => ∃ g : Unit, e = .returned (.int .i64 v.1) ∧ St w w' [.blk b0 75 [ha0_fl.v, .int .i64 v.2]] []) Try.func11 rfl Try.ntmps11 rfl rfl (mk_st Hb) hm ?_
  unfold gen_Maker_Pick
  clear hm
  refine jn_seq ?_
  refine jn_reg 0 ?_
  refine jg_as rfl rfl rfl ?_
  refine jg_nils [(0, _), (1, _)] ⟨rfl, rfl, trivial⟩ ?_
  refine jk_sn ?_
  refine jn_seq ?_
  refine jn_reg 1 ?_
  refine jg_mv rfl rfl rfl ?_
  refine jg_mv rfl rfl rfl ?_
  refine jg_mv rfl rfl rfl ?_
  refine jg_y (fun w hs => yv_ln rfl (hs.argM Rha1 Oha1)) rfl rfl ?_
  refine jm_c rfl (fun v w hs hm => gen_Maker_Next_c hm (hs.blkM (i := 0) rfl) (hs.argM Rha0_fl Oha0_fl) Oha0_fl) (fun _ => rfl) rfl rfl fun v1 q2 => ?_
  refine jg_ix fun x3 h4 => ?_
  refine jg_y (fun w hs => yv_ix rfl rfl (hs.argM Rha1 Oha1) h4) rfl rfl ?_
  refine jg_y (fun w hs => yv_e1 rfl (hs.argM Rha1 Oha1) h4.1 rfl) rfl rfl ?_
  refine jg_as rfl rfl rfl ?_
  refine jg_nils [(4, _)] ⟨rfl, trivial⟩ ?_
  refine jk_sn ?_
  refine jn_ret ?_
  exact jk_ret1 rfl (fun w hs => .tmp rfl) (fun w hs => ⟨(), rfl, hs.sel (is := []) rfl rfl⟩)
theorem law32_stand_c {w : World} {a0 : HumpgenMaker} {ha0_fl : Hd} {b0 : Nat} {v : (Stand × Int)} (hm : law32_stand a0 = some v) (Hb : Blk w b0 75 [ha0_fl.v, .int .i64 a0.fn]) (Rha0_fl : Sl w ha0_fl encI a0.fl) (Oha0_fl : Offs ha0_fl [b0]) : Calls Try.prog 9 ([.pointer (some ⟨b0, 0, none⟩)] : List Value).toArray w (fun e w' => ∃ g : (Hd × Hd), e = .returned (.agg #[.int .i64 v.1.Room, g.1.v, g.2.v]) ∧ St w w' [.blk b0 75 [ha0_fl.v, .int .i64 v.2]] [(rowH g.1 3 1 encI v.1.Wagons), (rowH g.2 3 1 encI v.1.Lengths)]) := by
  refine j_enter (vs := [.pointer (some ⟨b0, 0, none⟩)]) (R := fun (v : (Stand × Int)) (e : Ending) (w' : World) => ∃ g : (Hd × Hd), e = .returned (.agg #[.int .i64 v.1.Room, g.1.v, g.2.v]) ∧ St w w' [.blk b0 75 [ha0_fl.v, .int .i64 v.2]] [(rowH g.1 3 1 encI v.1.Wagons), (rowH g.2 3 1 encI v.1.Lengths)]) Try.func9 rfl Try.ntmps9 rfl rfl (mk_st Hb) hm ?_
  unfold law32_stand
  clear hm
  refine jn_seq ?_
  refine jn_reg 0 ?_
  refine jg_alloc (l3 rfl) rfl rfl fun g1 => ?_
  refine jg_nils [(0, _), (2, _)] ⟨rfl, rfl, trivial⟩ ?_
  refine jk_sn ?_
  refine jn_seq ?_
  refine jn_reg 1 ?_
  refine jg_mv rfl rfl rfl ?_
  refine jg_lit (enc := encI) [0, 300, 1000, 5000, 100000] rfl rfl rfl rfl rfl rfl rfl rfl fun hd2 => ?_
  refine jm_c rfl (fun v w hs hm => gen_Maker_Pick_c hm (hs.blkM (i := 0) rfl) (hs.argM Rha0_fl Oha0_fl) Oha0_fl (hs.row 0 rfl) (hs.offML 0 0 rfl rfl)) (fun _ => rfl) rfl rfl fun v3 q4 => ?_
  refine jg_y (fun w hs => yv_build rfl (o3 rfl)) rfl rfl ?_
  refine jg_alloc (l3 rfl) rfl rfl fun g5 => ?_
  refine jg_store 0 rfl rfl rfl (l3 rfl) rfl rfl rfl rfl (l3 rfl) (r3 rfl) ?_
  refine jg_nils [(0, _), (2, _), (3, _)] ⟨rfl, rfl, rfl, trivial⟩ ?_
  refine jk_sn ?_
  refine jn_seq ?_
  refine jn_seq ?_
  refine jn_reg 2 ?_
  refine jg_mv rfl rfl rfl ?_
  refine jm_c rfl (fun v w hs hm => gen_Maker_Next_c hm (hs.blkM (i := 0) rfl) (hs.argM Rha0_fl Oha0_fl) Oha0_fl) (fun _ => rfl) rfl rfl fun v6 q7 => ?_
  refine jg_as rfl rfl rfl ?_
  refine jg_nils [(0, _), (2, _), (3, _), (4, _)] ⟨rfl, rfl, rfl, rfl, trivial⟩ ?_
  refine jk_sn ?_
  refine jn_block ?_
  refine jn_addnil 3 1 encI ?_
  refine jn_addnil 3 1 encI ?_
  refine jn_lp (n := big) (fun (s : ((List Int) × (List Int) × Int × Int)) (g : (Hd × Hd)) => [(0, .pointer (some ⟨b0, 0, none⟩)), (2, .pointer (some ⟨g1, 0, none⟩)), (3, .pointer (some ⟨g5, 0, none⟩)), (4, .int .i64 s.2.2.1)]) (fun (s : ((List Int) × (List Int) × Int × Int)) (g : (Hd × Hd)) => [(Res.blk b0 75 [ha0_fl.v, .int .i64 s.2.2.2])]) (fun (s : ((List Int) × (List Int) × Int × Int)) (g : (Hd × Hd)) => [(Res.blk g1 24 [.int .i64 0, (Hd.mk none 0 0).v, (Hd.mk none 0 0).v]), (Res.blk g5 24 [.int .i64 v3.1, g.1.v, g.2.v]), (rowH g.1 3 1 encI s.1), (rowH g.2 3 1 encI s.2.1)]) (([] : List Int), ([] : List Int), v6.1, v6.2) ((Hd.mk none 0 0), (Hd.mk none 0 0)) [4, 2, 1, 0] ⟨rfl, rfl, rfl, rfl, trivial⟩ rfl rfl rfl ?_
  intro z8 q9 n12 k10 H11
  refine jn_seq ?_
  refine jn_seq ?_
  refine jn_reg 3 ?_
  refine jg_mv rfl rfl rfl ?_
  refine jg_y (fun w hs => yv_gtr rfl rfl) rfl rfl ?_
  refine jg_nils [(0, _), (2, _), (3, _), (4, _), (12, _)] ⟨rfl, rfl, rfl, rfl, rfl, trivial⟩ ?_
  refine jk_sn ?_
  refine jn_cond rfl ?_ ?_
  rotate_left
  · refine jn_exit ?_
    refine jk_se (jk_le (jk_bh (jk_sn ?_)))
    refine jn_seq ?_
    refine jn_reg 6 ?_
    refine jg_y (fun w hs => yv_load rfl (ldBB (hs.blkL (i := 1) rfl) rfl)) rfl rfl ?_
    refine jg_store 0 rfl rfl rfl (l3 rfl) rfl rfl rfl rfl (l3 rfl) (r4 rfl) ?_
    refine jg_nils [(2, _)] ⟨rfl, trivial⟩ ?_
    refine jk_sn ?_
    refine jn_ret ?_
    exact jk_ret1 rfl (fun w hs => .cell rfl (ldBB (hs.blkL (i := 0) rfl) rfl)) (fun w hs => ⟨(q9.1, q9.2), rfl, hs.sel (is := [2, 3]) rfl rfl⟩)
  refine jn_skip ?_
  refine jk_sn ?_
  refine jn_seq ?_
  refine jn_block ?_
  refine jn_drawA 5 [0, 1, 2, 3, 4, 5, 6, 7, 8, 9, 10, 11, 12, 13, 14, 15, 16, 17, 18, 19, 20, 21] 4194303 8256 20 [0, 1, 0, 4, 8, 16, 0, 64, 160, 256, 642, 0, 2048, 0, 0, 25600, 32768, 102400, 8191, 401407, 1048575, 2097151] [0, 1, 0, 4, 12, 28, 0, 64, 252, 508, 1023, 0, 2048, 0, 0, 26623, 59391, 131071, 8191, 524287, 1048575, 2097151] [(6, true), (13, true)] (np_blk (np_seq (np_rnd (np_blk (np_seq np_rt))))) (by kernel_rfl) (by kernel_rfl) (by kernel_rfl) (by kernel_rfl) (by kernel_rfl) (by kernel_rfl) (by kernel_rfl) (by kernel_rfl) ?_
  refine jt_mv rfl rfl rfl ?_
  refine jt_mv rfl rfl rfl ?_
  refine jd_x ?_
  refine jx_to (L' := [_, _]) [0, 1, 2, 3, 4, 5, 7, 8, 9, 10, 11, 12, 14, 15, 16, 17, 18] [19, 21] [0, 1] rfl ?_
  refine jx_lin [0, 1] 516031 14415 14 [0, 1, 0, 4, 12, 28, 0, 64, 252, 508, 1023, 0, 2048, 0, 0, 26623, 59391, 131071, 8191, 524287, 1048575, 2097151] [(0, true), (1, true), (2, true), (3, true), (11, true), (12, true)] rfl (np_blk (np_seq (np_rnd (np_blk (np_seq np_rt))))) (by kernel_rfl) (by kernel_rfl) (by kernel_rfl) (by kernel_rfl) (by kernel_rfl) (by kernel_rfl) (by kernel_rfl) (by kernel_rfl) (by kernel_rfl) ?_
  refine jd_y rfl (fun w hs => yv_fieldAddr rfl) rfl rfl ?_
  refine jd_y rfl (fun w hs => yv_load rfl (ld1B (hs.blk (i := 1) rfl) rfl)) rfl rfl ?_
  refine jd_y rfl (fun w hs => yv_fieldAddr rfl) rfl rfl ?_
  refine jd_y rfl (fun w hs => yv_load rfl (ld1B (hs.blk (i := 1) rfl) rfl)) rfl rfl ?_
  refine jd_y rfl (fun w hs => yv_fieldAddr rfl) rfl rfl ?_
  refine jd_y rfl (fun w hs => yv_load rfl (ld1B (hs.blk (i := 1) rfl) rfl)) rfl rfl ?_
  refine jd_x ?_
  refine jx3 (i := 4) (i2 := 7) (i3 := 14) (by kernel_rfl) (by kernel_rfl) rfl rfl rfl ?_ ?_ ?_
  · refine jg_y (fun w hs => yv_ln rfl (hs.row 2 rfl)) rfl rfl ?_
    refine jg_nil ?_
    refine jk_xn [0, 1] rfl ?_
    refine jx_lin [0, 1] 516031 14463 12 [0, 1, 0, 4, 12, 28, 0, 64, 252, 508, 1023, 0, 2048, 0, 0, 26623, 59391, 131071, 8191, 524287, 1048575, 2097151] [(5, true)] rfl (np_blk (np_seq (np_rnd (np_blk (np_seq np_rt))))) (by kernel_rfl) (by kernel_rfl) (by kernel_rfl) (by kernel_rfl) (by kernel_rfl) (by kernel_rfl) (by kernel_rfl) (by kernel_rfl) (by kernel_rfl) ?_
    refine jd_y rfl (fun w hs => yv_mul_w rfl rfl) rfl rfl ?_
    refine jd_x ?_
    refine jx2 (i := 7) (i2 := 14) (by kernel_rfl) (by kernel_rfl) rfl rfl ?_ ?_
    · refine jm_c rfl (fun v w hs hm => gen_Maker_Next_c hm (hs.blkM (i := 0) rfl) (hs.argM Rha0_fl Oha0_fl) Oha0_fl) (fun _ => rfl) rfl rfl fun v153 q154 => ?_
      refine jg_nil ?_
      refine jk_xn [0, 1] rfl ?_
      refine jx_lin [0, 1] 516031 14847 10 [0, 1, 0, 4, 12, 28, 0, 64, 252, 508, 1023, 0, 2048, 0, 0, 26623, 59391, 131071, 8191, 524287, 1048575, 2097151] [(8, true)] rfl (np_blk (np_seq (np_rnd (np_blk (np_seq np_rt))))) (by kernel_rfl) (by kernel_rfl) (by kernel_rfl) (by kernel_rfl) (by kernel_rfl) (by kernel_rfl) (by kernel_rfl) (by kernel_rfl) (by kernel_rfl) ?_
      refine jd_yl rfl (fun w hs => yv_add_w rfl rfl) rfl rfl fun x173 => ?_
      refine jd_x ?_
      refine jx2 (i := 9) (i2 := 14) (by kernel_rfl) (by kernel_rfl) rfl rfl ?_ ?_
      · refine jg_lit (enc := encI) [x173] rfl rfl rfl rfl rfl rfl rfl rfl fun hd193 => ?_
        refine jg_nil ?_
        refine jk_xn [1, 2] rfl ?_
        refine jx2 (i := 10) (i2 := 14) (by kernel_rfl) (by kernel_rfl) rfl rfl ?_ ?_
        · refine jg_append 3 rfl rfl rfl (fun w hs => (hs.row 0 rfl)) rfl rfl rfl fun y213 hd214 => ?_
          refine jg_L (r5 rfl) ?_
          refine jg_nil ?_
          refine jk_xn [1, 2] rfl ?_
          refine jx_lin [1, 2] 516031 278527 7 [0, 1, 0, 4, 12, 28, 0, 64, 252, 508, 1023, 0, 2048, 0, 0, 26623, 59391, 131071, 8191, 524287, 1048575, 2097151] [(18, true)] rfl (np_blk (np_seq (np_rnd (np_blk (np_seq np_rt))))) (by kernel_rfl) (by kernel_rfl) (by kernel_rfl) (by kernel_rfl) (by kernel_rfl) (by kernel_rfl) (by kernel_rfl) (by kernel_rfl) (by kernel_rfl) ?_
          refine jd_y rfl (fun w hs => yv_fieldAddr rfl) rfl rfl ?_
          refine jd_x ?_
          refine jx1 (i := 14) (by kernel_rfl) (by kernel_rfl) rfl ?_
          refine jg_lit (enc := encI) [80, 142, 262, 400] rfl rfl rfl rfl rfl rfl rfl rfl fun hd293 => ?_
          refine jg_nil ?_
          refine jk_xn [2, 3] rfl ?_
          refine jx1 (i := 15) (by kernel_rfl) (by kernel_rfl) rfl ?_
          refine jm_c rfl (fun v w hs hm => gen_Maker_Pick_c hm (hs.blkM (i := 0) rfl) (hs.argM Rha0_fl Oha0_fl) Oha0_fl (hs.row 0 rfl) (hs.offML 0 0 rfl rfl)) (fun _ => rfl) rfl rfl fun v313 q314 => ?_
          refine jg_nil ?_
          refine jk_xn [2, 3] rfl ?_
          refine jx1 (i := 16) (by kernel_rfl) (by kernel_rfl) rfl ?_
          refine jg_lit (enc := encI) [v313.1] rfl rfl rfl rfl rfl rfl rfl rfl fun hd333 => ?_
          refine jg_nil ?_
          refine jk_xn [3, 4] rfl ?_
          refine jx1 (i := 17) (by kernel_rfl) (by kernel_rfl) rfl ?_
          refine jg_append 6 rfl rfl rfl (fun w hs => (hs.row 0 rfl)) rfl rfl rfl fun y353 hd354 => ?_
          refine jg_L (r7 rfl) ?_
          refine jg_nil ?_
          refine jk_xn [3, 4] rfl ?_
          refine jx1 (i := 19) (by kernel_rfl) (by kernel_rfl) rfl ?_
          refine jg_store 4 rfl rfl rfl (l1 rfl) rfl rfl rfl rfl (l3 rfl) (r7 rfl) ?_
          refine jg_nil ?_
          refine jk_xf (by kernel_rfl) ?_
          refine jx1 (i := 20) (by kernel_rfl) (by kernel_rfl) rfl ?_
          refine jg_y (fun w hs => yv_fieldAddr rfl) rfl rfl ?_
          refine jg_nil ?_
          refine jk_xf (by kernel_rfl) ?_
          refine jx1 (i := 21) (by kernel_rfl) (by kernel_rfl) rfl ?_
          refine jg_store 4 rfl rfl rfl (l1 rfl) rfl rfl rfl rfl (l3 rfl) (r7 rfl) ?_
          refine jg_nil ?_
          refine jk_xf (by kernel_rfl) ?_
          refine jx0 [(0, _), (2, _), (3, _), (4, _)] ⟨rfl, rfl, rfl, rfl, trivial⟩ (by kernel_rfl) (by kernel_rfl) ?_
          refine jk_sel (is := [3, 4, 5, 6]) (s4 rfl) rfl ?_
          refine jk_bn (jk_sn ?_)
          refine jn_reg 4 ?_
          refine jg_mv rfl rfl rfl ?_
          refine jg_y (fun w hs => yv_sub_w rfl rfl) rfl rfl ?_
          refine jg_as rfl rfl rfl ?_
          refine jg_nils [(0, _), (2, _), (3, _), (4, _)] ⟨rfl, rfl, rfl, rfl, trivial⟩ ?_
          exact jk_use H11 (y213, y353, w64 (z8.2.2.1 - 1), v313.2) (hd214, hd354) [0, 1, 2, 3] ⟨rfl, rfl, rfl, rfl, trivial⟩ rfl rfl rfl
        refine jg_lit (enc := encI) [80, 142, 262, 400] rfl rfl rfl rfl rfl rfl rfl rfl fun hd293 => ?_
        refine jg_nil ?_
        refine jk_xn [2, 3] rfl ?_
        refine jx1 (i := 10) (by kernel_rfl) (by kernel_rfl) rfl ?_
        refine jg_append 4 rfl rfl rfl (fun w hs => (hs.row 1 rfl)) rfl rfl rfl fun y213 hd214 => ?_
        refine jg_L (r6 rfl) ?_
        refine jg_nil ?_
        refine jk_xn [2, 3] rfl ?_
        refine jx_lin [2, 3] 516031 294911 6 [0, 1, 0, 4, 12, 28, 0, 64, 252, 508, 1023, 0, 2048, 0, 0, 26623, 59391, 131071, 8191, 524287, 1048575, 2097151] [(18, true)] rfl (np_blk (np_seq (np_rnd (np_blk (np_seq np_rt))))) (by kernel_rfl) (by kernel_rfl) (by kernel_rfl) (by kernel_rfl) (by kernel_rfl) (by kernel_rfl) (by kernel_rfl) (by kernel_rfl) (by kernel_rfl) ?_
        refine jd_y rfl (fun w hs => yv_fieldAddr rfl) rfl rfl ?_
        refine jd_x ?_
        refine jx1 (i := 15) (by kernel_rfl) (by kernel_rfl) rfl ?_
        refine jm_c rfl (fun v w hs hm => gen_Maker_Pick_c hm (hs.blkM (i := 0) rfl) (hs.argM Rha0_fl Oha0_fl) Oha0_fl (hs.row 0 rfl) (hs.offML 0 0 rfl rfl)) (fun _ => rfl) rfl rfl fun v313 q314 => ?_
        refine jg_nil ?_
        refine jk_xn [2, 3] rfl ?_
        refine jx1 (i := 16) (by kernel_rfl) (by kernel_rfl) rfl ?_
        refine jg_lit (enc := encI) [v313.1] rfl rfl rfl rfl rfl rfl rfl rfl fun hd333 => ?_
        refine jg_nil ?_
        refine jk_xn [3, 4] rfl ?_
        refine jx1 (i := 17) (by kernel_rfl) (by kernel_rfl) rfl ?_
        refine jg_append 6 rfl rfl rfl (fun w hs => (hs.row 0 rfl)) rfl rfl rfl fun y353 hd354 => ?_
        refine jg_L (r7 rfl) ?_
        refine jg_nil ?_
        refine jk_xn [3, 4] rfl ?_
        refine jx1 (i := 19) (by kernel_rfl) (by kernel_rfl) rfl ?_
        refine jg_store 4 rfl rfl rfl (l1 rfl) rfl rfl rfl rfl (l3 rfl) (r7 rfl) ?_
        refine jg_nil ?_
        refine jk_xf (by kernel_rfl) ?_
        refine jx1 (i := 20) (by kernel_rfl) (by kernel_rfl) rfl ?_
        refine jg_y (fun w hs => yv_fieldAddr rfl) rfl rfl ?_
        refine jg_nil ?_
        refine jk_xf (by kernel_rfl) ?_
        refine jx1 (i := 21) (by kernel_rfl) (by kernel_rfl) rfl ?_
        refine jg_store 4 rfl rfl rfl (l1 rfl) rfl rfl rfl rfl (l3 rfl) (r7 rfl) ?_
        refine jg_nil ?_
        refine jk_xf (by kernel_rfl) ?_
        refine jx0 [(0, _), (2, _), (3, _), (4, _)] ⟨rfl, rfl, rfl, rfl, trivial⟩ (by kernel_rfl) (by kernel_rfl) ?_
        refine jk_sel (is := [3, 4, 5, 6]) (s4 rfl) rfl ?_
        refine jk_bn (jk_sn ?_)
        refine jn_reg 4 ?_
        refine jg_mv rfl rfl rfl ?_
        refine jg_y (fun w hs => yv_sub_w rfl rfl) rfl rfl ?_
        refine jg_as rfl rfl rfl ?_
        refine jg_nils [(0, _), (2, _), (3, _), (4, _)] ⟨rfl, rfl, rfl, rfl, trivial⟩ ?_
        exact jk_use H11 (y213, y353, w64 (z8.2.2.1 - 1), v313.2) (hd214, hd354) [0, 1, 2, 3] ⟨rfl, rfl, rfl, rfl, trivial⟩ rfl rfl rfl
      refine jg_lit (enc := encI) [80, 142, 262, 400] rfl rfl rfl rfl rfl rfl rfl rfl fun hd293 => ?_
      refine jg_nil ?_
      refine jk_xn [1, 2] rfl ?_
      refine jx1 (i := 9) (by kernel_rfl) (by kernel_rfl) rfl ?_
      refine jg_lit (enc := encI) [x173] rfl rfl rfl rfl rfl rfl rfl rfl fun hd193 => ?_
      refine jg_nil ?_
      refine jk_xn [2, 3] rfl ?_
      refine jx1 (i := 10) (by kernel_rfl) (by kernel_rfl) rfl ?_
      refine jg_append 4 rfl rfl rfl (fun w hs => (hs.row 0 rfl)) rfl rfl rfl fun y213 hd214 => ?_
      refine jg_L (r6 rfl) ?_
      refine jg_nil ?_
      refine jk_xn [2, 3] rfl ?_
      refine jx_lin [2, 3] 516031 294911 6 [0, 1, 0, 4, 12, 28, 0, 64, 252, 508, 1023, 0, 2048, 0, 0, 26623, 59391, 131071, 8191, 524287, 1048575, 2097151] [(18, true)] rfl (np_blk (np_seq (np_rnd (np_blk (np_seq np_rt))))) (by kernel_rfl) (by kernel_rfl) (by kernel_rfl) (by kernel_rfl) (by kernel_rfl) (by kernel_rfl) (by kernel_rfl) (by kernel_rfl) (by kernel_rfl) ?_
      refine jd_y rfl (fun w hs => yv_fieldAddr rfl) rfl rfl ?_
      refine jd_x ?_
      refine jx1 (i := 15) (by kernel_rfl) (by kernel_rfl) rfl ?_
      refine jm_c rfl (fun v w hs hm => gen_Maker_Pick_c hm (hs.blkM (i := 0) rfl) (hs.argM Rha0_fl Oha0_fl) Oha0_fl (hs.row 1 rfl) (hs.offML 1 0 rfl rfl)) (fun _ => rfl) rfl rfl fun v313 q314 => ?_
      refine jg_nil ?_
      refine jk_xn [2, 3] rfl ?_
      refine jx1 (i := 16) (by kernel_rfl) (by kernel_rfl) rfl ?_
      refine jg_lit (enc := encI) [v313.1] rfl rfl rfl rfl rfl rfl rfl rfl fun hd333 => ?_
      refine jg_nil ?_
      refine jk_xn [3, 4] rfl ?_
      refine jx1 (i := 17) (by kernel_rfl) (by kernel_rfl) rfl ?_
      refine jg_append 6 rfl rfl rfl (fun w hs => (hs.row 0 rfl)) rfl rfl rfl fun y353 hd354 => ?_
      refine jg_L (r7 rfl) ?_
      refine jg_nil ?_
      refine jk_xn [3, 4] rfl ?_
      refine jx1 (i := 19) (by kernel_rfl) (by kernel_rfl) rfl ?_
      refine jg_store 4 rfl rfl rfl (l1 rfl) rfl rfl rfl rfl (l3 rfl) (r7 rfl) ?_
      refine jg_nil ?_
      refine jk_xf (by kernel_rfl) ?_
      refine jx1 (i := 20) (by kernel_rfl) (by kernel_rfl) rfl ?_
      refine jg_y (fun w hs => yv_fieldAddr rfl) rfl rfl ?_
      refine jg_nil ?_
      refine jk_xf (by kernel_rfl) ?_
      refine jx1 (i := 21) (by kernel_rfl) (by kernel_rfl) rfl ?_
      refine jg_store 4 rfl rfl rfl (l1 rfl) rfl rfl rfl rfl (l3 rfl) (r7 rfl) ?_
      refine jg_nil ?_
      refine jk_xf (by kernel_rfl) ?_
      refine jx0 [(0, _), (2, _), (3, _), (4, _)] ⟨rfl, rfl, rfl, rfl, trivial⟩ (by kernel_rfl) (by kernel_rfl) ?_
      refine jk_sel (is := [3, 4, 5, 6]) (s4 rfl) rfl ?_
      refine jk_bn (jk_sn ?_)
      refine jn_reg 4 ?_
      refine jg_mv rfl rfl rfl ?_
      refine jg_y (fun w hs => yv_sub_w rfl rfl) rfl rfl ?_
      refine jg_as rfl rfl rfl ?_
      refine jg_nils [(0, _), (2, _), (3, _), (4, _)] ⟨rfl, rfl, rfl, rfl, trivial⟩ ?_
      exact jk_use H11 (y213, y353, w64 (z8.2.2.1 - 1), v313.2) (hd214, hd354) [0, 1, 2, 3] ⟨rfl, rfl, rfl, rfl, trivial⟩ rfl rfl rfl
    refine jg_lit (enc := encI) [80, 142, 262, 400] rfl rfl rfl rfl rfl rfl rfl rfl fun hd293 => ?_
    refine jg_nil ?_
    refine jk_xn [1, 2] rfl ?_
    refine jx1 (i := 7) (by kernel_rfl) (by kernel_rfl) rfl ?_
    refine jm_c rfl (fun v w hs hm => gen_Maker_Next_c hm (hs.blkM (i := 0) rfl) (hs.argM Rha0_fl Oha0_fl) Oha0_fl) (fun _ => rfl) rfl rfl fun v153 q154 => ?_
    refine jg_nil ?_
    refine jk_xn [1, 2] rfl ?_
    refine jx_lin [1, 2] 516031 31231 9 [0, 1, 0, 4, 12, 28, 0, 64, 252, 508, 1023, 0, 2048, 0, 0, 26623, 59391, 131071, 8191, 524287, 1048575, 2097151] [(8, true)] rfl (np_blk (np_seq (np_rnd (np_blk (np_seq np_rt))))) (by kernel_rfl) (by kernel_rfl) (by kernel_rfl) (by kernel_rfl) (by kernel_rfl) (by kernel_rfl) (by kernel_rfl) (by kernel_rfl) (by kernel_rfl) ?_
    refine jd_yl rfl (fun w hs => yv_add_w rfl rfl) rfl rfl fun x173 => ?_
    refine jd_x ?_
    refine jx1 (i := 9) (by kernel_rfl) (by kernel_rfl) rfl ?_
    refine jg_lit (enc := encI) [x173] rfl rfl rfl rfl rfl rfl rfl rfl fun hd193 => ?_
    refine jg_nil ?_
    refine jk_xn [2, 3] rfl ?_
    refine jx1 (i := 10) (by kernel_rfl) (by kernel_rfl) rfl ?_
    refine jg_append 4 rfl rfl rfl (fun w hs => (hs.row 0 rfl)) rfl rfl rfl fun y213 hd214 => ?_
    refine jg_L (r6 rfl) ?_
    refine jg_nil ?_
    refine jk_xn [2, 3] rfl ?_
    refine jx_lin [2, 3] 516031 294911 6 [0, 1, 0, 4, 12, 28, 0, 64, 252, 508, 1023, 0, 2048, 0, 0, 26623, 59391, 131071, 8191, 524287, 1048575, 2097151] [(18, true)] rfl (np_blk (np_seq (np_rnd (np_blk (np_seq np_rt))))) (by kernel_rfl) (by kernel_rfl) (by kernel_rfl) (by kernel_rfl) (by kernel_rfl) (by kernel_rfl) (by kernel_rfl) (by kernel_rfl) (by kernel_rfl) ?_
    refine jd_y rfl (fun w hs => yv_fieldAddr rfl) rfl rfl ?_
    refine jd_x ?_
    refine jx1 (i := 15) (by kernel_rfl) (by kernel_rfl) rfl ?_
    refine jm_c rfl (fun v w hs hm => gen_Maker_Pick_c hm (hs.blkM (i := 0) rfl) (hs.argM Rha0_fl Oha0_fl) Oha0_fl (hs.row 1 rfl) (hs.offML 1 0 rfl rfl)) (fun _ => rfl) rfl rfl fun v313 q314 => ?_
    refine jg_nil ?_
    refine jk_xn [2, 3] rfl ?_
    refine jx1 (i := 16) (by kernel_rfl) (by kernel_rfl) rfl ?_
    refine jg_lit (enc := encI) [v313.1] rfl rfl rfl rfl rfl rfl rfl rfl fun hd333 => ?_
    refine jg_nil ?_
    refine jk_xn [3, 4] rfl ?_
    refine jx1 (i := 17) (by kernel_rfl) (by kernel_rfl) rfl ?_
    refine jg_append 6 rfl rfl rfl (fun w hs => (hs.row 0 rfl)) rfl rfl rfl fun y353 hd354 => ?_
    refine jg_L (r7 rfl) ?_
    refine jg_nil ?_
    refine jk_xn [3, 4] rfl ?_
    refine jx1 (i := 19) (by kernel_rfl) (by kernel_rfl) rfl ?_
    refine jg_store 4 rfl rfl rfl (l1 rfl) rfl rfl rfl rfl (l3 rfl) (r7 rfl) ?_
    refine jg_nil ?_
    refine jk_xf (by kernel_rfl) ?_
    refine jx1 (i := 20) (by kernel_rfl) (by kernel_rfl) rfl ?_
    refine jg_y (fun w hs => yv_fieldAddr rfl) rfl rfl ?_
    refine jg_nil ?_
    refine jk_xf (by kernel_rfl) ?_
    refine jx1 (i := 21) (by kernel_rfl) (by kernel_rfl) rfl ?_
    refine jg_store 4 rfl rfl rfl (l1 rfl) rfl rfl rfl rfl (l3 rfl) (r7 rfl) ?_
    refine jg_nil ?_
    refine jk_xf (by kernel_rfl) ?_
    refine jx0 [(0, _), (2, _), (3, _), (4, _)] ⟨rfl, rfl, rfl, rfl, trivial⟩ (by kernel_rfl) (by kernel_rfl) ?_
    refine jk_sel (is := [3, 4, 5, 6]) (s4 rfl) rfl ?_
    refine jk_bn (jk_sn ?_)
    refine jn_reg 4 ?_
    refine jg_mv rfl rfl rfl ?_
    refine jg_y (fun w hs => yv_sub_w rfl rfl) rfl rfl ?_
    refine jg_as rfl rfl rfl ?_
    refine jg_nils [(0, _), (2, _), (3, _), (4, _)] ⟨rfl, rfl, rfl, rfl, trivial⟩ ?_
    exact jk_use H11 (y213, y353, w64 (z8.2.2.1 - 1), v313.2) (hd214, hd354) [0, 1, 2, 3] ⟨rfl, rfl, rfl, rfl, trivial⟩ rfl rfl rfl
  · refine jm_c rfl (fun v w hs hm => gen_Maker_Next_c hm (hs.blkM (i := 0) rfl) (hs.argM Rha0_fl Oha0_fl) Oha0_fl) (fun _ => rfl) rfl rfl fun v153 q154 => ?_
    refine jg_nil ?_
    refine jk_xn [0, 1] rfl ?_
    refine jx2 (i := 4) (i2 := 14) (by kernel_rfl) (by kernel_rfl) rfl rfl ?_ ?_
    · refine jg_y (fun w hs => yv_ln rfl (hs.row 2 rfl)) rfl rfl ?_
      refine jg_nil ?_
      refine jk_xn [0, 1] rfl ?_
      refine jx_lin [0, 1] 516031 14847 10 [0, 1, 0, 4, 12, 28, 0, 64, 252, 508, 1023, 0, 2048, 0, 0, 26623, 59391, 131071, 8191, 524287, 1048575, 2097151] [(5, true), (8, true)] rfl (np_blk (np_seq (np_rnd (np_blk (np_seq np_rt))))) (by kernel_rfl) (by kernel_rfl) (by kernel_rfl) (by kernel_rfl) (by kernel_rfl) (by kernel_rfl) (by kernel_rfl) (by kernel_rfl) (by kernel_rfl) ?_
      refine jd_y rfl (fun w hs => yv_mul_w rfl rfl) rfl rfl ?_
      refine jd_yl rfl (fun w hs => yv_add_w rfl rfl) rfl rfl fun x173 => ?_
      refine jd_x ?_
      refine jx2 (i := 9) (i2 := 14) (by kernel_rfl) (by kernel_rfl) rfl rfl ?_ ?_
      · refine jg_lit (enc := encI) [x173] rfl rfl rfl rfl rfl rfl rfl rfl fun hd193 => ?_
        refine jg_nil ?_
        refine jk_xn [1, 2] rfl ?_
        refine jx2 (i := 10) (i2 := 14) (by kernel_rfl) (by kernel_rfl) rfl rfl ?_ ?_
        · refine jg_append 3 rfl rfl rfl (fun w hs => (hs.row 0 rfl)) rfl rfl rfl fun y213 hd214 => ?_
          refine jg_L (r5 rfl) ?_
          refine jg_nil ?_
          refine jk_xn [1, 2] rfl ?_
          refine jx_lin [1, 2] 516031 278527 7 [0, 1, 0, 4, 12, 28, 0, 64, 252, 508, 1023, 0, 2048, 0, 0, 26623, 59391, 131071, 8191, 524287, 1048575, 2097151] [(18, true)] rfl (np_blk (np_seq (np_rnd (np_blk (np_seq np_rt))))) (by kernel_rfl) (by kernel_rfl) (by kernel_rfl) (by kernel_rfl) (by kernel_rfl) (by kernel_rfl) (by kernel_rfl) (by kernel_rfl) (by kernel_rfl) ?_
          refine jd_y rfl (fun w hs => yv_fieldAddr rfl) rfl rfl ?_
          refine jd_x ?_
          refine jx1 (i := 14) (by kernel_rfl) (by kernel_rfl) rfl ?_
          refine jg_lit (enc := encI) [80, 142, 262, 400] rfl rfl rfl rfl rfl rfl rfl rfl fun hd293 => ?_
          refine jg_nil ?_
          refine jk_xn [2, 3] rfl ?_
          refine jx1 (i := 15) (by kernel_rfl) (by kernel_rfl) rfl ?_
          refine jm_c rfl (fun v w hs hm => gen_Maker_Pick_c hm (hs.blkM (i := 0) rfl) (hs.argM Rha0_fl Oha0_fl) Oha0_fl (hs.row 0 rfl) (hs.offML 0 0 rfl rfl)) (fun _ => rfl) rfl rfl fun v313 q314 => ?_
          refine jg_nil ?_
          refine jk_xn [2, 3] rfl ?_
          refine jx1 (i := 16) (by kernel_rfl) (by kernel_rfl) rfl ?_
          refine jg_lit (enc := encI) [v313.1] rfl rfl rfl rfl rfl rfl rfl rfl fun hd333 => ?_
          refine jg_nil ?_
          refine jk_xn [3, 4] rfl ?_
          refine jx1 (i := 17) (by kernel_rfl) (by kernel_rfl) rfl ?_
          refine jg_append 6 rfl rfl rfl (fun w hs => (hs.row 0 rfl)) rfl rfl rfl fun y353 hd354 => ?_
          refine jg_L (r7 rfl) ?_
          refine jg_nil ?_
          refine jk_xn [3, 4] rfl ?_
          refine jx1 (i := 19) (by kernel_rfl) (by kernel_rfl) rfl ?_
          refine jg_store 4 rfl rfl rfl (l1 rfl) rfl rfl rfl rfl (l3 rfl) (r7 rfl) ?_
          refine jg_nil ?_
          refine jk_xf (by kernel_rfl) ?_
          refine jx1 (i := 20) (by kernel_rfl) (by kernel_rfl) rfl ?_
          refine jg_y (fun w hs => yv_fieldAddr rfl) rfl rfl ?_
          refine jg_nil ?_
          refine jk_xf (by kernel_rfl) ?_
          refine jx1 (i := 21) (by kernel_rfl) (by kernel_rfl) rfl ?_
          refine jg_store 4 rfl rfl rfl (l1 rfl) rfl rfl rfl rfl (l3 rfl) (r7 rfl) ?_
          refine jg_nil ?_
          refine jk_xf (by kernel_rfl) ?_
          refine jx0 [(0, _), (2, _), (3, _), (4, _)] ⟨rfl, rfl, rfl, rfl, trivial⟩ (by kernel_rfl) (by kernel_rfl) ?_
          refine jk_sel (is := [3, 4, 5, 6]) (s4 rfl) rfl ?_
          refine jk_bn (jk_sn ?_)
          refine jn_reg 4 ?_
          refine jg_mv rfl rfl rfl ?_
          refine jg_y (fun w hs => yv_sub_w rfl rfl) rfl rfl ?_
          refine jg_as rfl rfl rfl ?_
          refine jg_nils [(0, _), (2, _), (3, _), (4, _)] ⟨rfl, rfl, rfl, rfl, trivial⟩ ?_
          exact jk_use H11 (y213, y353, w64 (z8.2.2.1 - 1), v313.2) (hd214, hd354) [0, 1, 2, 3] ⟨rfl, rfl, rfl, rfl, trivial⟩ rfl rfl rfl
        refine jg_lit (enc := encI) [80, 142, 262, 400] rfl rfl rfl rfl rfl rfl rfl rfl fun hd293 => ?_
        refine jg_nil ?_
        refine jk_xn [2, 3] rfl ?_
        refine jx1 (i := 10) (by kernel_rfl) (by kernel_rfl) rfl ?_
        refine jg_append 4 rfl rfl rfl (fun w hs => (hs.row 1 rfl)) rfl rfl rfl fun y213 hd214 => ?_
        refine jg_L (r6 rfl) ?_
        refine jg_nil ?_
        refine jk_xn [2, 3] rfl ?_
        refine jx_lin [2, 3] 516031 294911 6 [0, 1, 0, 4, 12, 28, 0, 64, 252, 508, 1023, 0, 2048, 0, 0, 26623, 59391, 131071, 8191, 524287, 1048575, 2097151] [(18, true)] rfl (np_blk (np_seq (np_rnd (np_blk (np_seq np_rt))))) (by kernel_rfl) (by kernel_rfl) (by kernel_rfl) (by kernel_rfl) (by kernel_rfl) (by kernel_rfl) (by kernel_rfl) (by kernel_rfl) (by kernel_rfl) ?_
        refine jd_y rfl (fun w hs => yv_fieldAddr rfl) rfl rfl ?_
        refine jd_x ?_
        refine jx1 (i := 15) (by kernel_rfl) (by kernel_rfl) rfl ?_
        refine jm_c rfl (fun v w hs hm => gen_Maker_Pick_c hm (hs.blkM (i := 0) rfl) (hs.argM Rha0_fl Oha0_fl) Oha0_fl (hs.row 0 rfl) (hs.offML 0 0 rfl rfl)) (fun _ => rfl) rfl rfl fun v313 q314 => ?_
        refine jg_nil ?_
        refine jk_xn [2, 3] rfl ?_
        refine jx1 (i := 16) (by kernel_rfl) (by kernel_rfl) rfl ?_
        refine jg_lit (enc := encI) [v313.1] rfl rfl rfl rfl rfl rfl rfl rfl fun hd333 => ?_
        refine jg_nil ?_
        refine jk_xn [3, 4] rfl ?_
        refine jx1 (i := 17) (by kernel_rfl) (by kernel_rfl) rfl ?_
        refine jg_append 6 rfl rfl rfl (fun w hs => (hs.row 0 rfl)) rfl rfl rfl fun y353 hd354 => ?_
        refine jg_L (r7 rfl) ?_
        refine jg_nil ?_
        refine jk_xn [3, 4] rfl ?_
        refine jx1 (i := 19) (by kernel_rfl) (by kernel_rfl) rfl ?_
        refine jg_store 4 rfl rfl rfl (l1 rfl) rfl rfl rfl rfl (l3 rfl) (r7 rfl) ?_
        refine jg_nil ?_
        refine jk_xf (by kernel_rfl) ?_
        refine jx1 (i := 20) (by kernel_rfl) (by kernel_rfl) rfl ?_
        refine jg_y (fun w hs => yv_fieldAddr rfl) rfl rfl ?_
        refine jg_nil ?_
        refine jk_xf (by kernel_rfl) ?_
        refine jx1 (i := 21) (by kernel_rfl) (by kernel_rfl) rfl ?_
        refine jg_store 4 rfl rfl rfl (l1 rfl) rfl rfl rfl rfl (l3 rfl) (r7 rfl) ?_
        refine jg_nil ?_
        refine jk_xf (by kernel_rfl) ?_
        refine jx0 [(0, _), (2, _), (3, _), (4, _)] ⟨rfl, rfl, rfl, rfl, trivial⟩ (by kernel_rfl) (by kernel_rfl) ?_
        refine jk_sel (is := [3, 4, 5, 6]) (s4 rfl) rfl ?_
        refine jk_bn (jk_sn ?_)
        refine jn_reg 4 ?_
        refine jg_mv rfl rfl rfl ?_
        refine jg_y (fun w hs => yv_sub_w rfl rfl) rfl rfl ?_
        refine jg_as rfl rfl rfl ?_
        refine jg_nils [(0, _), (2, _), (3, _), (4, _)] ⟨rfl, rfl, rfl, rfl, trivial⟩ ?_
        exact jk_use H11 (y213, y353, w64 (z8.2.2.1 - 1), v313.2) (hd214, hd354) [0, 1, 2, 3] ⟨rfl, rfl, rfl, rfl, trivial⟩ rfl rfl rfl
      refine jg_lit (enc := encI) [80, 142, 262, 400] rfl rfl rfl rfl rfl rfl rfl rfl fun hd293 => ?_
      refine jg_nil ?_
      refine jk_xn [1, 2] rfl ?_
      refine jx1 (i := 9) (by kernel_rfl) (by kernel_rfl) rfl ?_
      refine jg_lit (enc := encI) [x173] rfl rfl rfl rfl rfl rfl rfl rfl fun hd193 => ?_
      refine jg_nil ?_
      refine jk_xn [2, 3] rfl ?_
      refine jx1 (i := 10) (by kernel_rfl) (by kernel_rfl) rfl ?_
      refine jg_append 4 rfl rfl rfl (fun w hs => (hs.row 0 rfl)) rfl rfl rfl fun y213 hd214 => ?_
      refine jg_L (r6 rfl) ?_
      refine jg_nil ?_
      refine jk_xn [2, 3] rfl ?_
      refine jx_lin [2, 3] 516031 294911 6 [0, 1, 0, 4, 12, 28, 0, 64, 252, 508, 1023, 0, 2048, 0, 0, 26623, 59391, 131071, 8191, 524287, 1048575, 2097151] [(18, true)] rfl (np_blk (np_seq (np_rnd (np_blk (np_seq np_rt))))) (by kernel_rfl) (by kernel_rfl) (by kernel_rfl) (by kernel_rfl) (by kernel_rfl) (by kernel_rfl) (by kernel_rfl) (by kernel_rfl) (by kernel_rfl) ?_
      refine jd_y rfl (fun w hs => yv_fieldAddr rfl) rfl rfl ?_
      refine jd_x ?_
      refine jx1 (i := 15) (by kernel_rfl) (by kernel_rfl) rfl ?_
      refine jm_c rfl (fun v w hs hm => gen_Maker_Pick_c hm (hs.blkM (i := 0) rfl) (hs.argM Rha0_fl Oha0_fl) Oha0_fl (hs.row 1 rfl) (hs.offML 1 0 rfl rfl)) (fun _ => rfl) rfl rfl fun v313 q314 => ?_
      refine jg_nil ?_
      refine jk_xn [2, 3] rfl ?_
      refine jx1 (i := 16) (by kernel_rfl) (by kernel_rfl) rfl ?_
      refine jg_lit (enc := encI) [v313.1] rfl rfl rfl rfl rfl rfl rfl rfl fun hd333 => ?_
      refine jg_nil ?_
      refine jk_xn [3, 4] rfl ?_
      refine jx1 (i := 17) (by kernel_rfl) (by kernel_rfl) rfl ?_
      refine jg_append 6 rfl rfl rfl (fun w hs => (hs.row 0 rfl)) rfl rfl rfl fun y353 hd354 => ?_
      refine jg_L (r7 rfl) ?_
      refine jg_nil ?_
      refine jk_xn [3, 4] rfl ?_
      refine jx1 (i := 19) (by kernel_rfl) (by kernel_rfl) rfl ?_
      refine jg_store 4 rfl rfl rfl (l1 rfl) rfl rfl rfl rfl (l3 rfl) (r7 rfl) ?_
      refine jg_nil ?_
      refine jk_xf (by kernel_rfl) ?_
      refine jx1 (i := 20) (by kernel_rfl) (by kernel_rfl) rfl ?_
      refine jg_y (fun w hs => yv_fieldAddr rfl) rfl rfl ?_
      refine jg_nil ?_
      refine jk_xf (by kernel_rfl) ?_
      refine jx1 (i := 21) (by kernel_rfl) (by kernel_rfl) rfl ?_
      refine jg_store 4 rfl rfl rfl (l1 rfl) rfl rfl rfl rfl (l3 rfl) (r7 rfl) ?_
      refine jg_nil ?_
      refine jk_xf (by kernel_rfl) ?_
      refine jx0 [(0, _), (2, _), (3, _), (4, _)] ⟨rfl, rfl, rfl, rfl, trivial⟩ (by kernel_rfl) (by kernel_rfl) ?_
      refine jk_sel (is := [3, 4, 5, 6]) (s4 rfl) rfl ?_
      refine jk_bn (jk_sn ?_)
      refine jn_reg 4 ?_
      refine jg_mv rfl rfl rfl ?_
      refine jg_y (fun w hs => yv_sub_w rfl rfl) rfl rfl ?_
      refine jg_as rfl rfl rfl ?_
      refine jg_nils [(0, _), (2, _), (3, _), (4, _)] ⟨rfl, rfl, rfl, rfl, trivial⟩ ?_
      exact jk_use H11 (y213, y353, w64 (z8.2.2.1 - 1), v313.2) (hd214, hd354) [0, 1, 2, 3] ⟨rfl, rfl, rfl, rfl, trivial⟩ rfl rfl rfl
    refine jg_lit (enc := encI) [80, 142, 262, 400] rfl rfl rfl rfl rfl rfl rfl rfl fun hd293 => ?_
    refine jg_nil ?_
    refine jk_xn [1, 2] rfl ?_
    refine jx1 (i := 4) (by kernel_rfl) (by kernel_rfl) rfl ?_
    refine jg_y (fun w hs => yv_ln rfl (hs.row 3 rfl)) rfl rfl ?_
    refine jg_nil ?_
    refine jk_xn [1, 2] rfl ?_
    refine jx_lin [1, 2] 516031 31231 9 [0, 1, 0, 4, 12, 28, 0, 64, 252, 508, 1023, 0, 2048, 0, 0, 26623, 59391, 131071, 8191, 524287, 1048575, 2097151] [(5, true), (8, true)] rfl (np_blk (np_seq (np_rnd (np_blk (np_seq np_rt))))) (by kernel_rfl) (by kernel_rfl) (by kernel_rfl) (by kernel_rfl) (by kernel_rfl) (by kernel_rfl) (by kernel_rfl) (by kernel_rfl) (by kernel_rfl) ?_
    refine jd_y rfl (fun w hs => yv_mul_w rfl rfl) rfl rfl ?_
    refine jd_yl rfl (fun w hs => yv_add_w rfl rfl) rfl rfl fun x173 => ?_
    refine jd_x ?_
    refine jx1 (i := 9) (by kernel_rfl) (by kernel_rfl) rfl ?_
    refine jg_lit (enc := encI) [x173] rfl rfl rfl rfl rfl rfl rfl rfl fun hd193 => ?_
    refine jg_nil ?_
    refine jk_xn [2, 3] rfl ?_
    refine jx1 (i := 10) (by kernel_rfl) (by kernel_rfl) rfl ?_
    refine jg_append 4 rfl rfl rfl (fun w hs => (hs.row 0 rfl)) rfl rfl rfl fun y213 hd214 => ?_
    refine jg_L (r6 rfl) ?_
    refine jg_nil ?_
    refine jk_xn [2, 3] rfl ?_
    refine jx_lin [2, 3] 516031 294911 6 [0, 1, 0, 4, 12, 28, 0, 64, 252, 508, 1023, 0, 2048, 0, 0, 26623, 59391, 131071, 8191, 524287, 1048575, 2097151] [(18, true)] rfl (np_blk (np_seq (np_rnd (np_blk (np_seq np_rt))))) (by kernel_rfl) (by kernel_rfl) (by kernel_rfl) (by kernel_rfl) (by kernel_rfl) (by kernel_rfl) (by kernel_rfl) (by kernel_rfl) (by kernel_rfl) ?_
    refine jd_y rfl (fun w hs => yv_fieldAddr rfl) rfl rfl ?_
    refine jd_x ?_
    refine jx1 (i := 15) (by kernel_rfl) (by kernel_rfl) rfl ?_
    refine jm_c rfl (fun v w hs hm => gen_Maker_Pick_c hm (hs.blkM (i := 0) rfl) (hs.argM Rha0_fl Oha0_fl) Oha0_fl (hs.row 1 rfl) (hs.offML 1 0 rfl rfl)) (fun _ => rfl) rfl rfl fun v313 q314 => ?_
    refine jg_nil ?_
    refine jk_xn [2, 3] rfl ?_
    refine jx1 (i := 16) (by kernel_rfl) (by kernel_rfl) rfl ?_
    refine jg_lit (enc := encI) [v313.1] rfl rfl rfl rfl rfl rfl rfl rfl fun hd333 => ?_
    refine jg_nil ?_
    refine jk_xn [3, 4] rfl ?_
    refine jx1 (i := 17) (by kernel_rfl) (by kernel_rfl) rfl ?_
    refine jg_append 6 rfl rfl rfl (fun w hs => (hs.row 0 rfl)) rfl rfl rfl fun y353 hd354 => ?_
    refine jg_L (r7 rfl) ?_
    refine jg_nil ?_
    refine jk_xn [3, 4] rfl ?_
    refine jx1 (i := 19) (by kernel_rfl) (by kernel_rfl) rfl ?_
    refine jg_store 4 rfl rfl rfl (l1 rfl) rfl rfl rfl rfl (l3 rfl) (r7 rfl) ?_
    refine jg_nil ?_
    refine jk_xf (by kernel_rfl) ?_
    refine jx1 (i := 20) (by kernel_rfl) (by kernel_rfl) rfl ?_
    refine jg_y (fun w hs => yv_fieldAddr rfl) rfl rfl ?_
    refine jg_nil ?_
    refine jk_xf (by kernel_rfl) ?_
    refine jx1 (i := 21) (by kernel_rfl) (by kernel_rfl) rfl ?_
    refine jg_store 4 rfl rfl rfl (l1 rfl) rfl rfl rfl rfl (l3 rfl) (r7 rfl) ?_
    refine jg_nil ?_
    refine jk_xf (by kernel_rfl) ?_
    refine jx0 [(0, _), (2, _), (3, _), (4, _)] ⟨rfl, rfl, rfl, rfl, trivial⟩ (by kernel_rfl) (by kernel_rfl) ?_
    refine jk_sel (is := [3, 4, 5, 6]) (s4 rfl) rfl ?_
    refine jk_bn (jk_sn ?_)
    refine jn_reg 4 ?_
    refine jg_mv rfl rfl rfl ?_
    refine jg_y (fun w hs => yv_sub_w rfl rfl) rfl rfl ?_
    refine jg_as rfl rfl rfl ?_
    refine jg_nils [(0, _), (2, _), (3, _), (4, _)] ⟨rfl, rfl, rfl, rfl, trivial⟩ ?_
    exact jk_use H11 (y213, y353, w64 (z8.2.2.1 - 1), v313.2) (hd214, hd354) [0, 1, 2, 3] ⟨rfl, rfl, rfl, rfl, trivial⟩ rfl rfl rfl
  refine jg_lit (enc := encI) [80, 142, 262, 400] rfl rfl rfl rfl rfl rfl rfl rfl fun hd293 => ?_
  refine jg_nil ?_
  refine jk_xn [1, 2] rfl ?_
  refine jx2 (i := 4) (i2 := 7) (by kernel_rfl) (by kernel_rfl) rfl rfl ?_ ?_
  · refine jg_y (fun w hs => yv_ln rfl (hs.row 3 rfl)) rfl rfl ?_
    refine jg_nil ?_
    refine jk_xn [1, 2] rfl ?_
    refine jx_lin [1, 2] 516031 30847 11 [0, 1, 0, 4, 12, 28, 0, 64, 252, 508, 1023, 0, 2048, 0, 0, 26623, 59391, 131071, 8191, 524287, 1048575, 2097151] [(5, true)] rfl (np_blk (np_seq (np_rnd (np_blk (np_seq np_rt))))) (by kernel_rfl) (by kernel_rfl) (by kernel_rfl) (by kernel_rfl) (by kernel_rfl) (by kernel_rfl) (by kernel_rfl) (by kernel_rfl) (by kernel_rfl) ?_
    refine jd_y rfl (fun w hs => yv_mul_w rfl rfl) rfl rfl ?_
    refine jd_x ?_
    refine jx1 (i := 7) (by kernel_rfl) (by kernel_rfl) rfl ?_
    refine jm_c rfl (fun v w hs hm => gen_Maker_Next_c hm (hs.blkM (i := 0) rfl) (hs.argM Rha0_fl Oha0_fl) Oha0_fl) (fun _ => rfl) rfl rfl fun v153 q154 => ?_
    refine jg_nil ?_
    refine jk_xn [1, 2] rfl ?_
    refine jx_lin [1, 2] 516031 31231 9 [0, 1, 0, 4, 12, 28, 0, 64, 252, 508, 1023, 0, 2048, 0, 0, 26623, 59391, 131071, 8191, 524287, 1048575, 2097151] [(8, true)] rfl (np_blk (np_seq (np_rnd (np_blk (np_seq np_rt))))) (by kernel_rfl) (by kernel_rfl) (by kernel_rfl) (by kernel_rfl) (by kernel_rfl) (by kernel_rfl) (by kernel_rfl) (by kernel_rfl) (by kernel_rfl) ?_
    refine jd_yl rfl (fun w hs => yv_add_w rfl rfl) rfl rfl fun x173 => ?_
    refine jd_x ?_
    refine jx1 (i := 9) (by kernel_rfl) (by kernel_rfl) rfl ?_
    refine jg_lit (enc := encI) [x173] rfl rfl rfl rfl rfl rfl rfl rfl fun hd193 => ?_
    refine jg_nil ?_
    refine jk_xn [2, 3] rfl ?_
    refine jx1 (i := 10) (by kernel_rfl) (by kernel_rfl) rfl ?_
    refine jg_append 4 rfl rfl rfl (fun w hs => (hs.row 0 rfl)) rfl rfl rfl fun y213 hd214 => ?_
    refine jg_L (r6 rfl) ?_
    refine jg_nil ?_
    refine jk_xn [2, 3] rfl ?_
    refine jx_lin [2, 3] 516031 294911 6 [0, 1, 0, 4, 12, 28, 0, 64, 252, 508, 1023, 0, 2048, 0, 0, 26623, 59391, 131071, 8191, 524287, 1048575, 2097151] [(18, true)] rfl (np_blk (np_seq (np_rnd (np_blk (np_seq np_rt))))) (by kernel_rfl) (by kernel_rfl) (by kernel_rfl) (by kernel_rfl) (by kernel_rfl) (by kernel_rfl) (by kernel_rfl) (by kernel_rfl) (by kernel_rfl) ?_
    refine jd_y rfl (fun w hs => yv_fieldAddr rfl) rfl rfl ?_
    refine jd_x ?_
    refine jx1 (i := 15) (by kernel_rfl) (by kernel_rfl) rfl ?_
    refine jm_c rfl (fun v w hs hm => gen_Maker_Pick_c hm (hs.blkM (i := 0) rfl) (hs.argM Rha0_fl Oha0_fl) Oha0_fl (hs.row 1 rfl) (hs.offML 1 0 rfl rfl)) (fun _ => rfl) rfl rfl fun v313 q314 => ?_
    refine jg_nil ?_
    refine jk_xn [2, 3] rfl ?_
    refine jx1 (i := 16) (by kernel_rfl) (by kernel_rfl) rfl ?_
    refine jg_lit (enc := encI) [v313.1] rfl rfl rfl rfl rfl rfl rfl rfl fun hd333 => ?_
    refine jg_nil ?_
    refine jk_xn [3, 4] rfl ?_
    refine jx1 (i := 17) (by kernel_rfl) (by kernel_rfl) rfl ?_
    refine jg_append 6 rfl rfl rfl (fun w hs => (hs.row 0 rfl)) rfl rfl rfl fun y353 hd354 => ?_
    refine jg_L (r7 rfl) ?_
    refine jg_nil ?_
    refine jk_xn [3, 4] rfl ?_
    refine jx1 (i := 19) (by kernel_rfl) (by kernel_rfl) rfl ?_
    refine jg_store 4 rfl rfl rfl (l1 rfl) rfl rfl rfl rfl (l3 rfl) (r7 rfl) ?_
    refine jg_nil ?_
    refine jk_xf (by kernel_rfl) ?_
    refine jx1 (i := 20) (by kernel_rfl) (by kernel_rfl) rfl ?_
    refine jg_y (fun w hs => yv_fieldAddr rfl) rfl rfl ?_
    refine jg_nil ?_
    refine jk_xf (by kernel_rfl) ?_
    refine jx1 (i := 21) (by kernel_rfl) (by kernel_rfl) rfl ?_
    refine jg_store 4 rfl rfl rfl (l1 rfl) rfl rfl rfl rfl (l3 rfl) (r7 rfl) ?_
    refine jg_nil ?_
    refine jk_xf (by kernel_rfl) ?_
    refine jx0 [(0, _), (2, _), (3, _), (4, _)] ⟨rfl, rfl, rfl, rfl, trivial⟩ (by kernel_rfl) (by kernel_rfl) ?_
    refine jk_sel (is := [3, 4, 5, 6]) (s4 rfl) rfl ?_
    refine jk_bn (jk_sn ?_)
    refine jn_reg 4 ?_
    refine jg_mv rfl rfl rfl ?_
    refine jg_y (fun w hs => yv_sub_w rfl rfl) rfl rfl ?_
    refine jg_as rfl rfl rfl ?_
    refine jg_nils [(0, _), (2, _), (3, _), (4, _)] ⟨rfl, rfl, rfl, rfl, trivial⟩ ?_
    exact jk_use H11 (y213, y353, w64 (z8.2.2.1 - 1), v313.2) (hd214, hd354) [0, 1, 2, 3] ⟨rfl, rfl, rfl, rfl, trivial⟩ rfl rfl rfl
  refine jm_c rfl (fun v w hs hm => gen_Maker_Next_c hm (hs.blkM (i := 0) rfl) (hs.argM Rha0_fl Oha0_fl) Oha0_fl) (fun _ => rfl) rfl rfl fun v153 q154 => ?_
  refine jg_nil ?_
  refine jk_xn [1, 2] rfl ?_
  refine jx1 (i := 4) (by kernel_rfl) (by kernel_rfl) rfl ?_
  refine jg_y (fun w hs => yv_ln rfl (hs.row 3 rfl)) rfl rfl ?_
  refine jg_nil ?_
  refine jk_xn [1, 2] rfl ?_
  refine jx_lin [1, 2] 516031 31231 9 [0, 1, 0, 4, 12, 28, 0, 64, 252, 508, 1023, 0, 2048, 0, 0, 26623, 59391, 131071, 8191, 524287, 1048575, 2097151] [(5, true), (8, true)] rfl (np_blk (np_seq (np_rnd (np_blk (np_seq np_rt))))) (by kernel_rfl) (by kernel_rfl) (by kernel_rfl) (by kernel_rfl) (by kernel_rfl) (by kernel_rfl) (by kernel_rfl) (by kernel_rfl) (by kernel_rfl) ?_
  refine jd_y rfl (fun w hs => yv_mul_w rfl rfl) rfl rfl ?_
  refine jd_yl rfl (fun w hs => yv_add_w rfl rfl) rfl rfl fun x173 => ?_
  refine jd_x ?_
  refine jx1 (i := 9) (by kernel_rfl) (by kernel_rfl) rfl ?_
  refine jg_lit (enc := encI) [x173] rfl rfl rfl rfl rfl rfl rfl rfl fun hd193 => ?_
  refine jg_nil ?_
  refine jk_xn [2, 3] rfl ?_
  refine jx1 (i := 10) (by kernel_rfl) (by kernel_rfl) rfl ?_
  refine jg_append 4 rfl rfl rfl (fun w hs => (hs.row 0 rfl)) rfl rfl rfl fun y213 hd214 => ?_
  refine jg_L (r6 rfl) ?_
  refine jg_nil ?_
  refine jk_xn [2, 3] rfl ?_
  refine jx_lin [2, 3] 516031 294911 6 [0, 1, 0, 4, 12, 28, 0, 64, 252, 508, 1023, 0, 2048, 0, 0, 26623, 59391, 131071, 8191, 524287, 1048575, 2097151] [(18, true)] rfl (np_blk (np_seq (np_rnd (np_blk (np_seq np_rt))))) (by kernel_rfl) (by kernel_rfl) (by kernel_rfl) (by kernel_rfl) (by kernel_rfl) (by kernel_rfl) (by kernel_rfl) (by kernel_rfl) (by kernel_rfl) ?_
  refine jd_y rfl (fun w hs => yv_fieldAddr rfl) rfl rfl ?_
  refine jd_x ?_
  refine jx1 (i := 15) (by kernel_rfl) (by kernel_rfl) rfl ?_
  refine jm_c rfl (fun v w hs hm => gen_Maker_Pick_c hm (hs.blkM (i := 0) rfl) (hs.argM Rha0_fl Oha0_fl) Oha0_fl (hs.row 1 rfl) (hs.offML 1 0 rfl rfl)) (fun _ => rfl) rfl rfl fun v313 q314 => ?_
  refine jg_nil ?_
  refine jk_xn [2, 3] rfl ?_
  refine jx1 (i := 16) (by kernel_rfl) (by kernel_rfl) rfl ?_
  refine jg_lit (enc := encI) [v313.1] rfl rfl rfl rfl rfl rfl rfl rfl fun hd333 => ?_
  refine jg_nil ?_
  refine jk_xn [3, 4] rfl ?_
  refine jx1 (i := 17) (by kernel_rfl) (by kernel_rfl) rfl ?_
  refine jg_append 6 rfl rfl rfl (fun w hs => (hs.row 0 rfl)) rfl rfl rfl fun y353 hd354 => ?_
  refine jg_L (r7 rfl) ?_
  refine jg_nil ?_
  refine jk_xn [3, 4] rfl ?_
  refine jx1 (i := 19) (by kernel_rfl) (by kernel_rfl) rfl ?_
  refine jg_store 4 rfl rfl rfl (l1 rfl) rfl rfl rfl rfl (l3 rfl) (r7 rfl) ?_
  refine jg_nil ?_
  refine jk_xf (by kernel_rfl) ?_
  refine jx1 (i := 20) (by kernel_rfl) (by kernel_rfl) rfl ?_
  refine jg_y (fun w hs => yv_fieldAddr rfl) rfl rfl ?_
  refine jg_nil ?_
  refine jk_xf (by kernel_rfl) ?_
  refine jx1 (i := 21) (by kernel_rfl) (by kernel_rfl) rfl ?_
  refine jg_store 4 rfl rfl rfl (l1 rfl) rfl rfl rfl rfl (l3 rfl) (r7 rfl) ?_
  refine jg_nil ?_
  refine jk_xf (by kernel_rfl) ?_
  refine jx0 [(0, _), (2, _), (3, _), (4, _)] ⟨rfl, rfl, rfl, rfl, trivial⟩ (by kernel_rfl) (by kernel_rfl) ?_
  refine jk_sel (is := [3, 4, 5, 6]) (s4 rfl) rfl ?_
  refine jk_bn (jk_sn ?_)
  refine jn_reg 4 ?_
  refine jg_mv rfl rfl rfl ?_
  refine jg_y (fun w hs => yv_sub_w rfl rfl) rfl rfl ?_
  refine jg_as rfl rfl rfl ?_
  refine jg_nils [(0, _), (2, _), (3, _), (4, _)] ⟨rfl, rfl, rfl, rfl, trivial⟩ ?_
  exact jk_use H11 (y213, y353, w64 (z8.2.2.1 - 1), v313.2) (hd214, hd354) [0, 1, 2, 3] ⟨rfl, rfl, rfl, rfl, trivial⟩ rfl rfl rfl
theorem law32_more_c {w : World} {a0 : HumpgenMaker} {ha0_fl : Hd} {b0 : Nat} {v : ((List Int) × (List Int) × Int)} (hm : law32_more a0 = some v) (Hb : Blk w b0 75 [ha0_fl.v, .int .i64 a0.fn]) (Rha0_fl : Sl w ha0_fl encI a0.fl) (Oha0_fl : Offs ha0_fl [b0]) : Calls Try.prog 10 ([.pointer (some ⟨b0, 0, none⟩)] : List Value).toArray w (fun e w' => ∃ g : (Hd × Hd), e = .returned (.tuple #[g.1.v, g.2.v]) ∧ St w w' [.blk b0 75 [ha0_fl.v, .int .i64 v.2.2]] [(rowH g.1 3 1 encI v.1), (rowH g.2 3 1 encI v.2.1)]) := by
  refine j_enter (vs := [.pointer (some ⟨b0, 0, none⟩)]) (R := fun (v : ((List Int) × (List Int) × Int)) (e : Ending) (w' : World) => ∃ g : (Hd × Hd), e = .returned (.tuple #[g.1.v, g.2.v]) ∧ St w w' [.blk b0 75 [ha0_fl.v, .int .i64 v.2.2]] [(rowH g.1 3 1 encI v.1), (rowH g.2 3 1 encI v.2.1)]) Try.func10 rfl Try.ntmps10 rfl rfl (mk_st Hb) hm ?_
  unfold law32_more
  clear hm
  refine jn_seq ?_
  refine jn_reg 0 ?_
  refine jg_as rfl rfl rfl ?_
  refine jg_as rfl rfl rfl ?_
  refine jg_nils [(0, _), (2, _), (3, _)] ⟨rfl, rfl, rfl, trivial⟩ ?_
  refine jk_sn ?_
  refine jn_seq ?_
  refine jn_seq ?_
  refine jn_reg 1 ?_
  refine jg_mv rfl rfl rfl ?_
  refine jm_c rfl (fun v w hs hm => gen_Maker_Next_c hm (hs.blkM (i := 0) rfl) (hs.argM Rha0_fl Oha0_fl) Oha0_fl) (fun _ => rfl) rfl rfl fun v1 q2 => ?_
  refine jg_as rfl rfl rfl ?_
  refine jg_nils [(0, _), (2, _), (3, _), (4, _)] ⟨rfl, rfl, rfl, rfl, trivial⟩ ?_
  refine jk_sn ?_
  refine jn_block ?_
  refine jn_addnil 3 1 encI ?_
  refine jn_addnil 3 1 encI ?_
  refine jn_lp (n := big) (fun (s : ((List Int) × (List Int) × Int × Int)) (g : (Hd × Hd)) => [(0, .pointer (some ⟨b0, 0, none⟩)), (2, g.1.v), (3, g.2.v), (4, .int .i64 s.2.2.1)]) (fun (s : ((List Int) × (List Int) × Int × Int)) (g : (Hd × Hd)) => [(Res.blk b0 75 [ha0_fl.v, .int .i64 s.2.2.2])]) (fun (s : ((List Int) × (List Int) × Int × Int)) (g : (Hd × Hd)) => [(rowH g.1 3 1 encI s.1), (rowH g.2 3 1 encI s.2.1)]) (([] : List Int), ([] : List Int), v1.1, v1.2) ((Hd.mk none 0 0), (Hd.mk none 0 0)) [1, 0] ⟨rfl, rfl, rfl, rfl, trivial⟩ rfl rfl rfl ?_
  intro z3 q4 n7 k5 H6
  refine jn_seq ?_
  refine jn_seq ?_
  refine jn_reg 2 ?_
  refine jg_mv rfl rfl rfl ?_
  refine jg_y (fun w hs => yv_gtr rfl rfl) rfl rfl ?_
  refine jg_nils [(0, _), (2, _), (3, _), (4, _), (8, _)] ⟨rfl, rfl, rfl, rfl, rfl, trivial⟩ ?_
  refine jk_sn ?_
  refine jn_cond rfl ?_ ?_
  rotate_left
  · refine jn_exit ?_
    refine jk_se (jk_le (jk_bh (jk_sn ?_)))
    refine jn_seq ?_
    refine jn_reg 5 ?_
    refine jg_mv rfl rfl rfl ?_
    refine jg_mv rfl rfl rfl ?_
    refine jg_as rfl rfl rfl ?_
    refine jg_as rfl rfl rfl ?_
    refine jg_nils [(2, _), (3, _)] ⟨rfl, rfl, trivial⟩ ?_
    refine jk_sn ?_
    refine jn_ret ?_
    exact jk_ret2 rfl (fun w hs => .tmp rfl) (fun w hs => .tmp rfl) (fun w hs => ⟨(q4.1, q4.2), rfl, hs.sel (is := [0, 1]) rfl rfl⟩)
  refine jn_skip ?_
  refine jk_sn ?_
  refine jn_seq ?_
  refine jn_block ?_
  refine jn_reg 4 ?_
  refine jg_mv rfl rfl rfl ?_
  refine jg_mv rfl rfl rfl ?_
  refine jg_y (fun w hs => yv_ln rfl (hs.row 0 rfl)) rfl rfl ?_
  refine jg_y (fun w hs => yv_mul_w rfl rfl) rfl rfl ?_
  refine jg_yl (fun w hs => yv_add_w rfl rfl) rfl rfl fun x8 => ?_
  refine jg_mv rfl rfl rfl ?_
  refine jm_c rfl (fun v w hs hm => gen_Maker_Next_c hm (hs.blkM (i := 0) rfl) (hs.argM Rha0_fl Oha0_fl) Oha0_fl) (fun _ => rfl) rfl rfl fun v9 q10 => ?_
  refine jg_y (fun w hs => yv_add_w rfl rfl) rfl rfl ?_
  refine jg_lit (enc := encI) [w64 (x8 + v9.1)] rfl rfl rfl rfl rfl rfl rfl rfl fun hd11 => ?_
  refine jg_append 1 rfl rfl rfl (fun w hs => (hs.row 0 rfl)) rfl rfl rfl fun y12 hd13 => ?_
  refine jg_L (r3 rfl) ?_
  refine jg_mv rfl rfl rfl ?_
  refine jg_mv rfl rfl rfl ?_
  refine jg_lit (enc := encI) [1, 80, 142, 262, 400] rfl rfl rfl rfl rfl rfl rfl rfl fun hd14 => ?_
  refine jm_c rfl (fun v w hs hm => gen_Maker_Pick_c hm (hs.blkM (i := 0) rfl) (hs.argM Rha0_fl Oha0_fl) Oha0_fl (hs.row 0 rfl) (hs.offML 0 0 rfl rfl)) (fun _ => rfl) rfl rfl fun v15 q16 => ?_
  refine jg_lit (enc := encI) [v15.1] rfl rfl rfl rfl rfl rfl rfl rfl fun hd17 => ?_
  refine jg_append 4 rfl rfl rfl (fun w hs => (hs.row 0 rfl)) rfl rfl rfl fun y18 hd19 => ?_
  refine jg_L (r5 rfl) ?_
  refine jg_as rfl rfl rfl ?_
  refine jg_as rfl rfl rfl ?_
  refine jg_nils [(0, _), (2, _), (3, _), (4, _)] ⟨rfl, rfl, rfl, rfl, trivial⟩ ?_
  refine jk_sel (is := [3, 4]) (s2 rfl) rfl ?_
  refine jk_bn (jk_sn ?_)
  refine jn_reg 3 ?_
  refine jg_mv rfl rfl rfl ?_
  refine jg_y (fun w hs => yv_sub_w rfl rfl) rfl rfl ?_
  refine jg_as rfl rfl rfl ?_
  refine jg_nils [(0, _), (2, _), (3, _), (4, _)] ⟨rfl, rfl, rfl, rfl, trivial⟩ ?_
  exact jk_use H6 (y12, y18, w64 (z3.2.2.1 - 1), v15.2) (hd13, hd19) [0, 1] ⟨rfl, rfl, rfl, rfl, trivial⟩ rfl rfl rfl
theorem gen_Maker_Pieces_c {w : World} {a0 : HumpgenMaker} {a1 : Int} {ha0_fl : Hd} {b0 : Nat} {v : ((List Piece) × Int)} (hm : gen_Maker_Pieces a0 a1 = some v) (Hb : Blk w b0 75 [ha0_fl.v, .int .i64 a0.fn]) (Rha0_fl : Sl w ha0_fl encI a0.fl) (Oha0_fl : Offs ha0_fl [b0]) : Calls Try.prog 12 ([.pointer (some ⟨b0, 0, none⟩), .int .i64 a1] : List Value).toArray w (fun e w' => ∃ g : Hd, e = .returned (g.v) ∧ St w w' [.blk b0 75 [ha0_fl.v, .int .i64 v.2]] [(rowH g 43 5 Piece.enc v.1)]) := by
  refine j_enter (vs := [.pointer (some ⟨b0, 0, none⟩), .int .i64 a1]) (R := fun (v : ((List Piece) × Int)) (e : Ending) (w' : World) => ∃ g : Hd, e = .returned (g.v) ∧ St w w' [.blk b0 75 [ha0_fl.v, .int .i64 v.2]] [(rowH g 43 5 Piece.enc v.1)]) Try.func12 rfl Try.ntmps12 rfl rfl (mk_st Hb) hm ?_
  unfold gen_Maker_Pieces
  clear hm
  refine jn_seq ?_
  refine jn_reg 0 ?_
  refine jg_as rfl rfl rfl ?_
  refine jg_nils [(0, _), (1, _)] ⟨rfl, rfl, trivial⟩ ?_
  refine jk_sn ?_
  refine jn_seq ?_
  refine jn_reg 1 ?_
  refine jg_as rfl rfl rfl ?_
  refine jg_nils [(0, _), (1, _), (5, _)] ⟨rfl, rfl, rfl, trivial⟩ ?_
  refine jk_sn ?_
  refine jn_seq ?_
  refine jn_seq ?_
  refine jn_reg 2 ?_
  refine jg_mv rfl rfl rfl ?_
  refine jg_mv rfl rfl rfl ?_
  refine jm_c rfl (fun v w hs hm => gen_Maker_Next_c hm (hs.blkM (i := 0) rfl) (hs.argM Rha0_fl Oha0_fl) Oha0_fl) (fun _ => rfl) rfl rfl fun v1 q2 => ?_
  refine jg_y (fun w hs => yv_add_w rfl rfl) rfl rfl ?_
  refine jg_as rfl rfl rfl ?_
  refine jg_nils [(0, _), (5, _), (6, _)] ⟨rfl, rfl, rfl, trivial⟩ ?_
  refine jk_sn ?_
  refine jn_block ?_
  refine jn_addnil 43 5 Piece.enc ?_
  refine jn_lp (n := big) (fun (s : ((List Piece) × Int × Int)) (g : Hd) => [(0, .pointer (some ⟨b0, 0, none⟩)), (5, g.v), (6, .int .i64 s.2.1)]) (fun (s : ((List Piece) × Int × Int)) (g : Hd) => [(Res.blk b0 75 [ha0_fl.v, .int .i64 s.2.2])]) (fun (s : ((List Piece) × Int × Int)) (g : Hd) => [(rowH g 43 5 Piece.enc s.1)]) (([] : List Piece), w64 (1 + v1.1), v1.2) (Hd.mk none 0 0) [0] ⟨rfl, rfl, rfl, trivial⟩ rfl rfl rfl ?_
  intro z3 q4 n7 k5 H6
  refine jn_seq ?_
  refine jn_seq ?_
  refine jn_reg 3 ?_
  refine jg_mv rfl rfl rfl ?_
  refine jg_y (fun w hs => yv_gtr rfl rfl) rfl rfl ?_
  refine jg_nils [(0, _), (5, _), (6, _), (13, _)] ⟨rfl, rfl, rfl, rfl, trivial⟩ ?_
  refine jk_sn ?_
  refine jn_cond rfl ?_ ?_
  rotate_left
  · refine jn_exit ?_
    refine jk_se (jk_le (jk_bh (jk_sn ?_)))
    refine jn_seq ?_
    refine jn_reg 9 ?_
    refine jg_mv rfl rfl rfl ?_
    refine jg_as rfl rfl rfl ?_
    refine jg_nils [(4, _)] ⟨rfl, trivial⟩ ?_
    refine jk_sn ?_
    refine jn_ret ?_
    exact jk_ret1 rfl (fun w hs => .tmp rfl) (fun w hs => ⟨q4, rfl, hs.sel (is := [0]) rfl rfl⟩)
  refine jn_skip ?_
  refine jk_sn ?_
  refine jn_seq ?_
  refine jn_block ?_
  refine jn_seq ?_
  refine jn_reg 5 ?_
  refine jg_mv rfl rfl rfl ?_
  refine jg_y (fun w hs => yv_ln rfl (hs.row 0 rfl)) rfl rfl ?_
  refine jg_y (fun w hs => yv_add_w rfl rfl) rfl rfl ?_
  refine jg_mv rfl rfl rfl ?_
  refine jg_lit (enc := encI) [1, 1000, 5000, 9000, 30000, 100000] rfl rfl rfl rfl rfl rfl rfl rfl fun hd8 => ?_
  refine jm_c rfl (fun v w hs hm => gen_Maker_Pick_c hm (hs.blkM (i := 0) rfl) (hs.argM Rha0_fl Oha0_fl) Oha0_fl (hs.row 0 rfl) (hs.offML 0 0 rfl rfl)) (fun _ => rfl) rfl rfl fun v9 q10 => ?_
  refine jg_mv rfl rfl rfl ?_
  refine jg_lit (enc := encI) [0, 100, (-150), 400, 1000, 3500, 5000] rfl rfl rfl rfl rfl rfl rfl rfl fun hd11 => ?_
  refine jm_c rfl (fun v w hs hm => gen_Maker_Pick_c hm (hs.blkM (i := 0) rfl) (hs.argM Rha0_fl Oha0_fl) Oha0_fl (hs.row 0 rfl) (hs.offML 0 0 rfl rfl)) (fun _ => rfl) rfl rfl fun v12 q13 => ?_
  refine jg_mv rfl rfl rfl ?_
  refine jg_lit (enc := encI) [0, 0, 20, 150] rfl rfl rfl rfl rfl rfl rfl rfl fun hd14 => ?_
  refine jm_c rfl (fun v w hs hm => gen_Maker_Pick_c hm (hs.blkM (i := 0) rfl) (hs.argM Rha0_fl Oha0_fl) Oha0_fl (hs.row 0 rfl) (hs.offML 0 0 rfl rfl)) (fun _ => rfl) rfl rfl fun v15 q16 => ?_
  refine jg_y (fun w hs => yv_build rfl (o5 rfl)) rfl rfl ?_
  refine jg_alloc (l5 rfl) rfl rfl fun g17 => ?_
  refine jg_store 0 rfl rfl rfl (l5 rfl) rfl rfl rfl rfl (l5 rfl) (r5 rfl) ?_
  refine jg_nils [(0, _), (5, _), (6, _), (7, _)] ⟨rfl, rfl, rfl, rfl, trivial⟩ ?_
  refine jk_sel (is := [0, 4]) (s2 rfl) rfl ?_
  refine jk_sn ?_
  refine jn_seq ?_
  refine jn_seq ?_
  refine jn_reg 6 ?_
  refine jg_mv rfl rfl rfl ?_
  refine jm_c rfl (fun v w hs hm => gen_Maker_Next_c hm (hs.blkM (i := 0) rfl) (hs.argM Rha0_fl Oha0_fl) Oha0_fl) (fun _ => rfl) rfl rfl fun v18 q19 => ?_
  refine jg_y (fun w hs => yv_eql rfl rfl) rfl rfl ?_
  refine jg_nils [(0, _), (5, _), (6, _), (7, _), (31, _)] ⟨rfl, rfl, rfl, rfl, rfl, trivial⟩ ?_
  refine jk_sn ?_
  refine jn_cond rfl ?_ ?_
  rotate_left
  · refine jn_skip ?_
    refine jk_sn ?_
    refine jn_reg 8 ?_
    refine jg_mv rfl rfl rfl ?_
    refine jg_y (fun w hs => yv_load rfl (ldBB (hs.blkL (i := 0) rfl) rfl)) rfl rfl ?_
    refine jg_lit (enc := Piece.enc) [(Piece.mk (w64 ((z3.1.length : Int) + 1)) v9.1 v12.1 v15.1 0)] rfl rfl rfl rfl rfl rfl rfl rfl fun hd26 => ?_
    refine jg_append 2 rfl rfl rfl (fun w hs => (hs.row 0 rfl)) rfl rfl rfl fun y27 hd28 => ?_
    refine jg_L (r3 rfl) ?_
    refine jg_as rfl rfl rfl ?_
    refine jg_nils [(0, _), (5, _), (6, _)] ⟨rfl, rfl, rfl, trivial⟩ ?_
    refine jk_sel (is := [2]) (s1 rfl) rfl ?_
    refine jk_bn (jk_sn ?_)
    refine jn_reg 4 ?_
    refine jg_mv rfl rfl rfl ?_
    refine jg_y (fun w hs => yv_sub_w rfl rfl) rfl rfl ?_
    refine jg_as rfl rfl rfl ?_
    refine jg_nils [(0, _), (5, _), (6, _)] ⟨rfl, rfl, rfl, trivial⟩ ?_
    exact jk_use H6 (y27, w64 (z3.2.1 - 1), v18.2) hd28 [0] ⟨rfl, rfl, rfl, trivial⟩ rfl rfl rfl
  refine jn_reg 7 ?_
  refine jg_mv rfl rfl rfl ?_
  refine jg_lit (enc := encI) [1, 500000, 2000000, 8000000, 30000000] rfl rfl rfl rfl rfl rfl rfl rfl fun hd20 => ?_
  refine jm_c rfl (fun v w hs hm => gen_Maker_Pick_c hm (hs.blkM (i := 0) rfl) (hs.argM Rha0_fl Oha0_fl) Oha0_fl (hs.row 0 rfl) (hs.offML 0 0 rfl rfl)) (fun _ => rfl) rfl rfl fun v21 q22 => ?_
  refine jg_y (fun w hs => yv_fieldAddr rfl) rfl rfl ?_
  refine jg_store 1 rfl rfl rfl (l1 rfl) rfl rfl rfl rfl (l5 rfl) (r3 rfl) ?_
  refine jg_nils [(0, _), (5, _), (6, _), (7, _)] ⟨rfl, rfl, rfl, rfl, trivial⟩ ?_
  refine jk_sn ?_
  refine jn_reg 8 ?_
  refine jg_mv rfl rfl rfl ?_
  refine jg_y (fun w hs => yv_load rfl (ldBB (hs.blkL (i := 1) rfl) rfl)) rfl rfl ?_
  refine jg_lit (enc := Piece.enc) [(Piece.mk (w64 ((z3.1.length : Int) + 1)) v9.1 v12.1 v15.1 v21.1)] rfl rfl rfl rfl rfl rfl rfl rfl fun hd23 => ?_
  refine jg_append 3 rfl rfl rfl (fun w hs => (hs.row 0 rfl)) rfl rfl rfl fun y24 hd25 => ?_
  refine jg_L (r4 rfl) ?_
  refine jg_as rfl rfl rfl ?_
  refine jg_nils [(0, _), (5, _), (6, _)] ⟨rfl, rfl, rfl, trivial⟩ ?_
  refine jk_sel (is := [3]) (s1 rfl) rfl ?_
  refine jk_bn (jk_sn ?_)
  refine jn_reg 4 ?_
  refine jg_mv rfl rfl rfl ?_
  refine jg_y (fun w hs => yv_sub_w rfl rfl) rfl rfl ?_
  refine jg_as rfl rfl rfl ?_
  refine jg_nils [(0, _), (5, _), (6, _)] ⟨rfl, rfl, rfl, trivial⟩ ?_
  exact jk_use H6 (y24, w64 (z3.2.1 - 1), v21.2) hd25 [0] ⟨rfl, rfl, rfl, trivial⟩ rfl rfl rfl
theorem r20_Retarders_c {w : World} {a0 : (List Piece)} {ha0 : Hd} {v : Int} (hm : r20_Retarders a0 = some v) (Rha0 : Sl w ha0 Piece.enc a0) : Gives Try.prog 33 [ha0.v] w (.int .i64 v) := by
  refine j_gives (vs := [ha0.v]) (U := fun (v : Int) => .int .i64 v) Try.func33 rfl Try.ntmps33 rfl rfl hm ?_
  unfold r20_Retarders
  clear hm
  refine jn_seq ?_
  refine jn_reg 0 ?_
  refine jg_as rfl rfl rfl ?_
  refine jg_nils [(0, _)] ⟨rfl, trivial⟩ ?_
  refine jk_sn ?_
  refine jn_seq ?_
  refine jn_reg 1 ?_
  refine jg_as rfl rfl rfl ?_
  refine jg_nils [(0, _), (3, _)] ⟨rfl, rfl, trivial⟩ ?_
  refine jk_sn ?_
  refine jn_seq ?_
  refine jn_seq ?_
  refine jn_reg 2 ?_
  refine jg_as rfl rfl rfl ?_
  refine jg_nils [(0, _), (3, _), (4, _)] ⟨rfl, rfl, rfl, trivial⟩ ?_
  refine jk_sn ?_
  refine jn_block ?_
  refine jn_lp (n := big) (fun (s : (Int × Int)) (g : Unit) => [(0, ha0.v), (3, .int .i64 s.1), (4, .int .i64 s.2)]) (fun (s : (Int × Int)) (g : Unit) => []) (fun (s : (Int × Int)) (g : Unit) => []) (0, 0) () [] ⟨rfl, rfl, rfl, trivial⟩ rfl rfl rfl ?_
  intro z1 q2 n5 k3 H4
  refine jn_seq ?_
  refine jn_seq ?_
  refine jn_reg 3 ?_
  refine jg_mv rfl rfl rfl ?_
  refine jg_mv rfl rfl rfl ?_
  refine jg_y (fun w hs => yv_ln rfl (hs.arg Rha0)) rfl rfl ?_
  refine jg_y (fun w hs => yv_lss rfl rfl) rfl rfl ?_
  refine jg_nils [(0, _), (3, _), (4, _), (8, _)] ⟨rfl, rfl, rfl, rfl, trivial⟩ ?_
  refine jk_sn ?_
  refine jn_cond rfl ?_ ?_
  rotate_left
  · refine jn_exit ?_
    refine jk_se (jk_le (jk_bh (jk_sn ?_)))
    refine jn_seq ?_
    refine jn_reg 7 ?_
    refine jg_mv rfl rfl rfl ?_
    refine jg_as rfl rfl rfl ?_
    refine jg_nils [(2, _)] ⟨rfl, trivial⟩ ?_
    refine jk_sn ?_
    refine jn_ret ?_
    exact jk_ret1 rfl (fun w hs => .tmp rfl) (fun w hs => ⟨rfl, hs.drop⟩)
  refine jn_skip ?_
  refine jk_sn ?_
  refine jn_seq ?_
  refine jn_block ?_
  refine jn_seq ?_
  refine jn_reg 5 ?_
  refine jg_mv rfl rfl rfl ?_
  refine jg_mv rfl rfl rfl ?_
  refine jg_ix fun x6 h7 => ?_
  refine jg_y (fun w hs => yv_ix rfl rfl (hs.arg Rha0) h7) rfl rfl ?_
  refine jg_y (fun w hs => yv_ef rfl (hs.arg Rha0) h7.1) rfl rfl ?_
  refine jg_y (fun w hs => yv_e1 rfl (hs.arg Rha0) h7.1 rfl) rfl rfl ?_
  refine jg_y (fun w hs => yv_gtr rfl rfl) rfl rfl ?_
  refine jg_nils [(0, _), (3, _), (4, _), (16, _)] ⟨rfl, rfl, rfl, rfl, trivial⟩ ?_
  refine jk_sn ?_
  refine jn_cond rfl ?_ ?_
  rotate_left
  · refine jn_skip ?_
    refine jk_bn (jk_sn ?_)
    refine jn_reg 4 ?_
    refine jg_mv rfl rfl rfl ?_
    refine jg_y (fun w hs => yv_add_w rfl rfl) rfl rfl ?_
    refine jg_as rfl rfl rfl ?_
    refine jg_nils [(0, _), (3, _), (4, _)] ⟨rfl, rfl, rfl, trivial⟩ ?_
    exact jk_use H4 (z1.1, w64 (z1.2 + 1)) () [] ⟨rfl, rfl, rfl, trivial⟩ rfl rfl rfl
  refine jn_reg 6 ?_
  refine jg_mv rfl rfl rfl ?_
  refine jg_y (fun w hs => yv_add_w rfl rfl) rfl rfl ?_
  refine jg_as rfl rfl rfl ?_
  refine jg_nils [(0, _), (3, _), (4, _)] ⟨rfl, rfl, rfl, trivial⟩ ?_
  refine jk_bn (jk_sn ?_)
  refine jn_reg 4 ?_
  refine jg_mv rfl rfl rfl ?_
  refine jg_y (fun w hs => yv_add_w rfl rfl) rfl rfl ?_
  refine jg_as rfl rfl rfl ?_
  refine jg_nils [(0, _), (3, _), (4, _)] ⟨rfl, rfl, rfl, trivial⟩ ?_
  exact jk_use H4 (w64 (z1.1 + 1), w64 (z1.2 + 1)) () [] ⟨rfl, rfl, rfl, trivial⟩ rfl rfl rfl
theorem gen_Maker_Motion_c {w : World} {a0 : HumpgenMaker} {a1 : (List Piece)} {ha0_fl : Hd} {b0 : Nat} {ha1 : Hd} {v : (Motion × Int)} (hm : gen_Maker_Motion a0 a1 = some v) (Hb : Blk w b0 75 [ha0_fl.v, .int .i64 a0.fn]) (Rha0_fl : Sl w ha0_fl encI a0.fl) (Oha0_fl : Offs ha0_fl [b0]) (Rha1 : Sl w ha1 Piece.enc a1) (Oha1 : Offs ha1 [b0]) : Calls Try.prog 13 ([.pointer (some ⟨b0, 0, none⟩), ha1.v] : List Value).toArray w (fun e w' => ∃ g : (Hd × Hd), e = .returned (.agg #[.int .i64 v.1.Speed.Lo, .int .i64 v.1.Speed.Hi, g.1.v, .int .i64 v.1.Error, g.2.v]) ∧ St w w' [.blk b0 75 [ha0_fl.v, .int .i64 v.2]] [(rowH g.1 34 2 Interval.enc v.1.Class), (rowH g.2 3 1 encI v.1.Targets)]) := by
  refine j_enter (vs := [.pointer (some ⟨b0, 0, none⟩), ha1.v]) (R := fun (v : (Motion × Int)) (e : Ending) (w' : World) => ∃ g : (Hd × Hd), e = .returned (.agg #[.int .i64 v.1.Speed.Lo, .int .i64 v.1.Speed.Hi, g.1.v, .int .i64 v.1.Error, g.2.v]) ∧ St w w' [.blk b0 75 [ha0_fl.v, .int .i64 v.2]] [(rowH g.1 34 2 Interval.enc v.1.Class), (rowH g.2 3 1 encI v.1.Targets)]) Try.func13 rfl Try.ntmps13 rfl rfl (mk_st Hb) hm ?_
  unfold gen_Maker_Motion
  clear hm
  refine jn_seq ?_
  refine jn_reg 0 ?_
  refine jg_alloc (l5 rfl) rfl rfl fun g1 => ?_
  refine jg_nils [(0, _), (1, _), (4, _)] ⟨rfl, rfl, rfl, trivial⟩ ?_
  refine jk_sn ?_
  refine jn_seq ?_
  refine jn_reg 1 ?_
  refine jg_mv rfl rfl rfl ?_
  refine jg_lit (enc := encI) [0, 500, 1200, 1400, 2000] rfl rfl rfl rfl rfl rfl rfl rfl fun hd2 => ?_
  refine jm_c rfl (fun v w hs hm => gen_Maker_Pick_c hm (hs.blkM (i := 0) rfl) (hs.argM Rha0_fl Oha0_fl) Oha0_fl (hs.row 0 rfl) (hs.offML 0 0 rfl rfl)) (fun _ => rfl) rfl rfl fun v3 q4 => ?_
  refine jg_as rfl rfl rfl ?_
  refine jg_nils [(0, _), (1, _), (4, _), (5, _)] ⟨rfl, rfl, rfl, rfl, trivial⟩ ?_
  refine jk_sn ?_
  refine jn_seq ?_
  refine jn_reg 2 ?_
  refine jg_mv rfl rfl rfl ?_
  refine jg_mv rfl rfl rfl ?_
  refine jg_mv rfl rfl rfl ?_
  refine jg_lit (enc := encI) [0, 10, 100] rfl rfl rfl rfl rfl rfl rfl rfl fun hd5 => ?_
  refine jm_c rfl (fun v w hs hm => gen_Maker_Pick_c hm (hs.blkM (i := 0) rfl) (hs.argM Rha0_fl Oha0_fl) Oha0_fl (hs.row 0 rfl) (hs.offML 0 0 rfl rfl)) (fun _ => rfl) rfl rfl fun v6 q7 => ?_
  refine jg_y (fun w hs => yv_add_w rfl rfl) rfl rfl ?_
  refine jg_y (fun w hs => yv_build rfl (o2 rfl)) rfl rfl ?_
  refine jg_mv rfl rfl rfl ?_
  refine jg_lit (enc := encI) [0, 20, 100] rfl rfl rfl rfl rfl rfl rfl rfl fun hd8 => ?_
  refine jm_c rfl (fun v w hs hm => gen_Maker_Pick_c hm (hs.blkM (i := 0) rfl) (hs.argM Rha0_fl Oha0_fl) Oha0_fl (hs.row 0 rfl) (hs.offML 0 0 rfl rfl)) (fun _ => rfl) rfl rfl fun v9 q10 => ?_
  refine jg_y (fun w hs => yv_build rfl (o5 rfl)) rfl rfl ?_
  refine jg_alloc (l5 rfl) rfl rfl fun g11 => ?_
  refine jg_store 0 rfl rfl rfl (l5 rfl) rfl rfl rfl rfl (l5 rfl) (r5 rfl) ?_
  refine jg_nils [(0, _), (1, _), (4, _), (6, _)] ⟨rfl, rfl, rfl, rfl, trivial⟩ ?_
  refine jk_sel (is := [0, 4]) (s2 rfl) rfl ?_
  refine jk_sn ?_
  refine jn_seq ?_
  refine jn_reg 3 ?_
  refine jg_mv rfl rfl rfl ?_
  refine jg_lit (enc := encI) [0, 10, 20, 60] rfl rfl rfl rfl rfl rfl rfl rfl fun hd12 => ?_
  refine jm_c rfl (fun v w hs hm => gen_Maker_Pick_c hm (hs.blkM (i := 0) rfl) (hs.argM Rha0_fl Oha0_fl) Oha0_fl (hs.row 0 rfl) (hs.offML 0 0 rfl rfl)) (fun _ => rfl) rfl rfl fun v13 q14 => ?_
  refine jg_as rfl rfl rfl ?_
  refine jg_nils [(0, _), (1, _), (4, _), (6, _), (7, _)] ⟨rfl, rfl, rfl, rfl, rfl, trivial⟩ ?_
  refine jk_sn ?_
  refine jn_seq ?_
  refine jn_reg 4 ?_
  refine jg_mv rfl rfl rfl ?_
  refine jg_mv rfl rfl rfl ?_
  refine jg_lit (enc := encI) [0, 5, 30, 150] rfl rfl rfl rfl rfl rfl rfl rfl fun hd15 => ?_
  refine jm_c rfl (fun v w hs hm => gen_Maker_Pick_c hm (hs.blkM (i := 0) rfl) (hs.argM Rha0_fl Oha0_fl) Oha0_fl (hs.row 0 rfl) (hs.offML 0 0 rfl rfl)) (fun _ => rfl) rfl rfl fun v16 q17 => ?_
  refine jg_y (fun w hs => yv_add_w rfl rfl) rfl rfl ?_
  refine jg_as rfl rfl rfl ?_
  refine jg_nils [(0, _), (1, _), (4, _), (6, _), (7, _), (8, _)] ⟨rfl, rfl, rfl, rfl, rfl, rfl, trivial⟩ ?_
  refine jk_sel (is := [2, 3]) (s2 rfl) rfl ?_
  refine jk_sn ?_
  refine jn_join (fun (s : (List Interval)) (g : Hd) => [(0, .pointer (some ⟨b0, 0, none⟩)), (1, ha1.v), (4, .pointer (some ⟨g1, 0, none⟩)), (6, .pointer (some ⟨g11, 0, none⟩))]) (fun (s : (List Interval)) (g : Hd) => [(Res.blk b0 75 [ha0_fl.v, .int .i64 v16.2])]) (fun (s : (List Interval)) (g : Hd) => [(Res.blk g1 37 [.int .i64 0, .int .i64 0, (Hd.mk none 0 0).v, .int .i64 0, (Hd.mk none 0 0).v]), (Res.blk g11 37 [.int .i64 v3.1, .int .i64 (w64 (v3.1 + v6.1)), g.v, .int .i64 v9.1, (Hd.mk none 0 0).v]), (rowH g 34 2 Interval.enc s)]) ?_ ?_
  rotate_left
  · intro k20 H21
    refine jn_seq ?_
    refine jn_reg 5 ?_
    refine jg_as rfl rfl rfl ?_
    refine jg_nils [(0, _), (1, _), (4, _), (6, _), (7, _), (8, _), (9, _)] ⟨rfl, rfl, rfl, rfl, rfl, rfl, rfl, trivial⟩ ?_
    refine jk_sn ?_
    refine jn_block ?_
    refine jn_addnil 34 2 Interval.enc ?_
    refine jn_lp (n := big) (fun (s : ((List Interval) × Int)) (g : Hd) => [(0, .pointer (some ⟨b0, 0, none⟩)), (1, ha1.v), (4, .pointer (some ⟨g1, 0, none⟩)), (6, .pointer (some ⟨g11, 0, none⟩)), (7, .int .i64 v13.1), (8, .int .i64 (w64 (v13.1 + v16.1))), (9, .int .i64 s.2)]) (fun (s : ((List Interval) × Int)) (g : Hd) => [(Res.blk b0 75 [ha0_fl.v, .int .i64 v16.2])]) (fun (s : ((List Interval) × Int)) (g : Hd) => [(Res.blk g1 37 [.int .i64 0, .int .i64 0, (Hd.mk none 0 0).v, .int .i64 0, (Hd.mk none 0 0).v]), (Res.blk g11 37 [.int .i64 v3.1, .int .i64 (w64 (v3.1 + v6.1)), g.v, .int .i64 v9.1, (Hd.mk none 0 0).v]), (rowH g 34 2 Interval.enc s.1)]) (([] : List Interval), 0) (Hd.mk none 0 0) [2, 1, 0] ⟨rfl, rfl, rfl, rfl, rfl, rfl, rfl, trivial⟩ rfl rfl rfl ?_
    intro z34 q35 n38 k36 H37
    refine jn_seq ?_
    refine jn_seq ?_
    refine jn_reg 6 ?_
    refine jg_mv rfl rfl rfl ?_
    refine jg_mv rfl rfl rfl ?_
    refine jg_y (fun w hs => yv_ln rfl (hs.argM Rha1 Oha1)) rfl rfl ?_
    refine jg_y (fun w hs => yv_lss rfl rfl) rfl rfl ?_
    refine jg_nils [(0, _), (1, _), (4, _), (6, _), (7, _), (8, _), (9, _), (36, _)] ⟨rfl, rfl, rfl, rfl, rfl, rfl, rfl, rfl, trivial⟩ ?_
    refine jk_sn ?_
    refine jn_cond rfl ?_ ?_
    rotate_left
    · refine jn_exit ?_
      refine jk_se (jk_le (jk_bh ?_))
      exact jk_use H21 z34.1 q35 [0, 1, 2] ⟨rfl, rfl, rfl, rfl, trivial⟩ rfl rfl rfl
    refine jn_skip ?_
    refine jk_sn ?_
    refine jn_seq ?_
    refine jn_block ?_
    refine jn_draw (L' := [_, _, _]) 8 [0, 1, 3] [0, 1, 2, 3, 4, 5, 6, 7, 8, 9, 10, 11, 12, 13, 14, 15, 16, 17, 18, 19] 1048575 2097151 [0, 1, 0, 0, 0, 24, 32, 64, 132, 0, 0, 0, 3072, 4096, 8192, 16896, 33024, 65536, 131074, 524287, 1048575] [0, 1, 0, 0, 0, 24, 56, 120, 252, 0, 0, 0, 3072, 7168, 15360, 32256, 65532, 131068, 262143, 524287, 1048575] [(0, true), (1, true), (2, true), (3, true), (4, true), (5, true), (6, true), (7, true), (8, true), (9, true), (10, true), (11, true), (12, true), (13, true), (14, true), (15, true), (16, true), (17, false), (18, false), (19, true), (20, false)] rfl (np_blk (np_seq (np_rnd (np_blk (np_seq np_rt))))) (by kernel_rfl) (by kernel_rfl) (by kernel_rfl) (by kernel_rfl) (by kernel_rfl) (by kernel_rfl) (by kernel_rfl) (by kernel_rfl) ?_
    refine jd_y rfl (fun w hs => yv_fieldAddr rfl) rfl rfl ?_
    refine jd_y rfl (fun w hs => yv_load rfl (ld1B (hs.blk (i := 1) rfl) rfl)) rfl rfl ?_
    refine jd_mv rfl rfl rfl rfl ?_
    refine jd_mv rfl rfl rfl rfl ?_
    refine jd_mv rfl rfl rfl rfl ?_
    refine jd_ix fun x39 h40 => ?_
    refine jd_y rfl (fun w hs => yv_ix rfl rfl (hs.argM Rha1 Oha1) h40) rfl rfl ?_
    refine jd_y rfl (fun w hs => yv_ef rfl (hs.argM Rha1 Oha1) h40.1) rfl rfl ?_
    refine jd_y rfl (fun w hs => yv_e1 rfl (hs.argM Rha1 Oha1) h40.1 rfl) rfl rfl ?_
    refine jd_y rfl (fun w hs => yv_add_w rfl rfl) rfl rfl ?_
    refine jd_mv rfl rfl rfl rfl ?_
    refine jd_mv rfl rfl rfl rfl ?_
    refine jd_mv rfl rfl rfl rfl ?_
    refine jd_ix fun x41 h42 => ?_
    refine jd_y rfl (fun w hs => yv_ix rfl rfl (hs.argM Rha1 Oha1) h42) rfl rfl ?_
    refine jd_y rfl (fun w hs => yv_ef rfl (hs.argM Rha1 Oha1) h42.1) rfl rfl ?_
    refine jd_y rfl (fun w hs => yv_e1 rfl (hs.argM Rha1 Oha1) h42.1 rfl) rfl rfl ?_
    refine jd_yl rfl (fun w hs => yv_add_w rfl rfl) rfl rfl fun x43 => ?_
    refine jd_y rfl (fun w hs => yv_build rfl (o2 rfl)) rfl rfl ?_
    refine jd_h rfl ?_
    refine jg_lit (enc := Interval.enc) [(Interval.mk (w64 (v13.1 + x39.Curve)) x43)] rfl rfl rfl rfl rfl rfl rfl rfl fun hd44 => ?_
    refine jg_nil ?_
    refine jk_dn [1, 2, 4] rfl ?_
    refine jd_h rfl ?_
    refine jg_append 3 rfl rfl rfl (fun w hs => (hs.row 0 rfl)) rfl rfl rfl fun y45 hd46 => ?_
    refine jg_L (r4 rfl) ?_
    refine jg_nil ?_
    refine jk_dn [1, 2, 4] rfl ?_
    refine jd_y rfl (fun w hs => yv_fieldAddr rfl) rfl rfl ?_
    refine jd_h rfl ?_
    refine jg_store 2 rfl rfl rfl (l1 rfl) rfl rfl rfl rfl (l5 rfl) (r4 rfl) ?_
    refine jg_nil ?_
    refine jk_df rfl ?_
    refine jf_nils [(0, _), (1, _), (4, _), (6, _), (7, _), (8, _), (9, _)] ⟨rfl, rfl, rfl, rfl, rfl, rfl, rfl, trivial⟩ ?_
    refine jk_bn (jk_sn ?_)
    refine jn_reg 7 ?_
    refine jg_mv rfl rfl rfl ?_
    refine jg_y (fun w hs => yv_add_w rfl rfl) rfl rfl ?_
    refine jg_as rfl rfl rfl ?_
    refine jg_nils [(0, _), (1, _), (4, _), (6, _), (7, _), (8, _), (9, _)] ⟨rfl, rfl, rfl, rfl, rfl, rfl, rfl, trivial⟩ ?_
    exact jk_use H37 (y45, w64 (z34.2 + 1)) hd46 [1, 2, 3] ⟨rfl, rfl, rfl, rfl, rfl, rfl, rfl, trivial⟩ rfl rfl rfl
  intro z18 q19
  refine jn_seq ?_
  refine jn_seq ?_
  refine jn_reg 9 ?_
  refine jg_mv rfl rfl rfl ?_
  refine jg_c0 rfl (fun v w hs hm => r20_Retarders_c hm (hs.argM Rha1 Oha1)) rfl rfl fun v22 => ?_
  refine jg_as rfl rfl rfl ?_
  refine jg_nils [(0, _), (4, _), (6, _), (10, _)] ⟨rfl, rfl, rfl, rfl, trivial⟩ ?_
  refine jk_sn ?_
  refine jn_block ?_
  refine jn_addnil 3 1 encI ?_
  refine jn_lp (n := big) (fun (s : ((List Int) × Int × Int)) (g : Hd) => [(0, .pointer (some ⟨b0, 0, none⟩)), (4, .pointer (some ⟨g1, 0, none⟩)), (6, .pointer (some ⟨g11, 0, none⟩)), (10, .int .i64 s.2.1)]) (fun (s : ((List Int) × Int × Int)) (g : Hd) => [(Res.blk b0 75 [ha0_fl.v, .int .i64 s.2.2])]) (fun (s : ((List Int) × Int × Int)) (g : Hd) => [(Res.blk g1 37 [.int .i64 0, .int .i64 0, (Hd.mk none 0 0).v, .int .i64 0, (Hd.mk none 0 0).v]), (Res.blk g11 37 [.int .i64 v3.1, .int .i64 (w64 (v3.1 + v6.1)), q19.v, .int .i64 v9.1, g.v]), (rowH q19 34 2 Interval.enc z18), (rowH g 3 1 encI s.1)]) (([] : List Int), v22, v16.2) (Hd.mk none 0 0) [1, 2, 3, 0] ⟨rfl, rfl, rfl, rfl, trivial⟩ rfl rfl rfl ?_
  intro z23 q24 n27 k25 H26
  refine jn_seq ?_
  refine jn_seq ?_
  refine jn_reg 10 ?_
  refine jg_mv rfl rfl rfl ?_
  refine jg_y (fun w hs => yv_gtr rfl rfl) rfl rfl ?_
  refine jg_nils [(0, _), (4, _), (6, _), (10, _), (62, _)] ⟨rfl, rfl, rfl, rfl, rfl, trivial⟩ ?_
  refine jk_sn ?_
  refine jn_cond rfl ?_ ?_
  rotate_left
  · refine jn_exit ?_
    refine jk_se (jk_le (jk_bh (jk_sn ?_)))
    refine jn_seq ?_
    refine jn_reg 13 ?_
    refine jg_y (fun w hs => yv_load rfl (ldBB (hs.blkL (i := 1) rfl) rfl)) rfl rfl ?_
    refine jg_store 0 rfl rfl rfl (l5 rfl) rfl rfl rfl rfl (l5 rfl) (r4 rfl) ?_
    refine jg_nils [(4, _)] ⟨rfl, trivial⟩ ?_
    refine jk_sn ?_
    refine jn_ret ?_
    exact jk_ret1 rfl (fun w hs => .cell rfl (ldBB (hs.blkL (i := 0) rfl) rfl)) (fun w hs => ⟨(q19, q24), rfl, hs.sel (is := [2, 3]) rfl rfl⟩)
  refine jn_skip ?_
  refine jk_sn ?_
  refine jn_seq ?_
  refine jn_block ?_
  refine jn_draw (L' := [_, _, _]) 12 [0, 1, 2] [0, 1, 2, 3, 4, 5, 6, 7] 255 511 [0, 1, 0, 0, 12, 16, 50, 127, 255] [0, 1, 0, 0, 12, 28, 63, 127, 255] [(0, true), (1, true), (2, true), (3, false), (4, false), (5, false), (6, false), (7, true), (8, false)] rfl (np_blk (np_seq (np_rnd (np_blk (np_seq np_rt))))) (by kernel_rfl) (by kernel_rfl) (by kernel_rfl) (by kernel_rfl) (by kernel_rfl) (by kernel_rfl) (by kernel_rfl) (by kernel_rfl) ?_
  refine jd_y rfl (fun w hs => yv_fieldAddr rfl) rfl rfl ?_
  refine jd_y rfl (fun w hs => yv_load rfl (ld1B (hs.blk (i := 1) rfl) rfl)) rfl rfl ?_
  refine jd_mv rfl rfl rfl rfl ?_
  refine jd_h rfl ?_
  refine jg_lit (enc := encI) [(-1), 0, 800, 1200, 3000, 5000] rfl rfl rfl rfl rfl rfl rfl rfl fun hd28 => ?_
  refine jg_nil ?_
  refine jk_dn [1, 2, 3] rfl ?_
  refine jd_h rfl ?_
  refine jm_c rfl (fun v w hs hm => gen_Maker_Pick_c hm (hs.blkM (i := 0) rfl) (hs.argM Rha0_fl Oha0_fl) Oha0_fl (hs.row 0 rfl) (hs.offML 0 0 rfl rfl)) (fun _ => rfl) rfl rfl fun v29 q30 => ?_
  refine jg_nil ?_
  refine jk_dn [1, 2, 3] rfl ?_
  refine jd_h rfl ?_
  refine jg_lit (enc := encI) [v29.1] rfl rfl rfl rfl rfl rfl rfl rfl fun hd31 => ?_
  refine jg_nil ?_
  refine jk_dn [2, 3, 4] rfl ?_
  refine jd_h rfl ?_
  refine jg_append 5 rfl rfl rfl (fun w hs => (hs.row 0 rfl)) rfl rfl rfl fun y32 hd33 => ?_
  refine jg_L (r6 rfl) ?_
  refine jg_nil ?_
  refine jk_dn [2, 3, 4] rfl ?_
  refine jd_y rfl (fun w hs => yv_fieldAddr rfl) rfl rfl ?_
  refine jd_h rfl ?_
  refine jg_store 3 rfl rfl rfl (l1 rfl) rfl rfl rfl rfl (l5 rfl) (r6 rfl) ?_
  refine jg_nil ?_
  refine jk_df rfl ?_
  refine jf_nils [(0, _), (4, _), (6, _), (10, _)] ⟨rfl, rfl, rfl, rfl, trivial⟩ ?_
  refine jk_sel (is := [2, 3, 4, 5]) (s4 rfl) rfl ?_
  refine jk_bn (jk_sn ?_)
  refine jn_reg 11 ?_
  refine jg_mv rfl rfl rfl ?_
  refine jg_y (fun w hs => yv_sub_w rfl rfl) rfl rfl ?_
  refine jg_as rfl rfl rfl ?_
  refine jg_nils [(0, _), (4, _), (6, _), (10, _)] ⟨rfl, rfl, rfl, rfl, trivial⟩ ?_
  exact jk_use H26 (y32, w64 (z23.2.1 - 1), v29.2) hd33 [0, 1, 2, 3] ⟨rfl, rfl, rfl, rfl, trivial⟩ rfl rfl rfl
theorem bowl_Valid_c {w : World} {a0 : Stand} {ha0_Wagons : Hd} {ha0_Lengths : Hd} {v : Bool} (hm : bowl_Valid a0 = some v) (Rha0_Wagons : Sl w ha0_Wagons encI a0.Wagons) (Rha0_Lengths : Sl w ha0_Lengths encI a0.Lengths) : Gives Try.prog 36 [.agg #[.int .i64 a0.Room, ha0_Wagons.v, ha0_Lengths.v]] w (.bool v) := by
  refine j_gives (vs := [.agg #[.int .i64 a0.Room, ha0_Wagons.v, ha0_Lengths.v]]) (U := fun (v : Bool) => .bool v) Try.func36 rfl Try.ntmps36 rfl rfl hm ?_
  unfold bowl_Valid
  clear hm
  refine jn_seq ?_
  refine jn_reg 0 ?_
  refine jg_box rfl (l3 rfl) rfl rfl fun g1 => ?_
  refine jg_as rfl rfl rfl ?_
  refine jg_nils [(1, _)] ⟨rfl, trivial⟩ ?_
  refine jk_sn ?_
  refine jn_seq ?_
  refine jn_seq ?_
  refine jn_reg 1 ?_
  refine jg_y (fun w hs => yv_fieldAddr rfl) rfl rfl ?_
  refine jg_y (fun w hs => yv_load rfl (ld1B (hs.blkL (i := 0) rfl) rfl)) rfl rfl ?_
  refine jg_y (fun w hs => yv_lss rfl rfl) rfl rfl ?_
  refine jg_mv rfl rfl rfl ?_
  refine jg_split 9 rfl ?_ ?_
  · refine jg_skip rfl rfl ?_
    refine jg_skip rfl rfl ?_
    refine jg_skip rfl rfl ?_
    refine jg_y (fun w hs => yv_pick_t rfl rfl) rfl rfl ?_
    refine jg_mv rfl rfl rfl ?_
    refine jg_skip rfl rfl ?_
    refine jg_skip rfl rfl ?_
    refine jg_skip rfl rfl ?_
    refine jg_skip rfl rfl ?_
    refine jg_y (fun w hs => yv_pick_t rfl rfl) rfl rfl ?_
    refine jg_mv rfl rfl rfl ?_
    refine jg_skip rfl rfl ?_
    refine jg_skip rfl rfl ?_
    refine jg_skip rfl rfl ?_
    refine jg_skip rfl rfl ?_
    refine jg_skip rfl rfl ?_
    refine jg_skip rfl rfl ?_
    refine jg_skip rfl rfl ?_
    refine jg_y (fun w hs => yv_pick_t rfl rfl) rfl rfl ?_
    refine jg_nils [(1, _), (28, _)] ⟨rfl, rfl, trivial⟩ ?_
    refine jk_sn ?_
    refine jn_ct rfl ?_
    refine jn_seq ?_
    refine jn_reg 2 ?_
    refine jg_as rfl rfl rfl ?_
    refine jg_nils [(2, _)] ⟨rfl, trivial⟩ ?_
    refine jk_sn ?_
    refine jn_ret ?_
    refine jk_sr ?_
    exact jk_ret1 rfl (fun w hs => .tmp rfl) (fun w hs => ⟨rfl, hs.drop⟩)
  refine jg_y (fun w hs => yv_fieldAddr rfl) rfl rfl ?_
  refine jg_y (fun w hs => yv_load rfl (ld1B (hs.blkL (i := 0) rfl) rfl)) rfl rfl ?_
  refine jg_y (fun w hs => yv_gtr rfl rfl) rfl rfl ?_
  refine jg_y (fun w hs => yv_pick_f rfl rfl) rfl rfl ?_
  refine jg_mv rfl rfl rfl ?_
  refine jg_split 14 rfl ?_ ?_
  · refine jg_skip rfl rfl ?_
    refine jg_skip rfl rfl ?_
    refine jg_skip rfl rfl ?_
    refine jg_skip rfl rfl ?_
    refine jg_y (fun w hs => yv_pick_t rfl rfl) rfl rfl ?_
    refine jg_mv rfl rfl rfl ?_
    refine jg_skip rfl rfl ?_
    refine jg_skip rfl rfl ?_
    refine jg_skip rfl rfl ?_
    refine jg_skip rfl rfl ?_
    refine jg_skip rfl rfl ?_
    refine jg_skip rfl rfl ?_
    refine jg_skip rfl rfl ?_
    refine jg_y (fun w hs => yv_pick_t rfl rfl) rfl rfl ?_
    refine jg_nils [(1, _), (28, _)] ⟨rfl, rfl, trivial⟩ ?_
    refine jk_sn ?_
    refine jn_ct rfl ?_
    refine jn_seq ?_
    refine jn_reg 2 ?_
    refine jg_as rfl rfl rfl ?_
    refine jg_nils [(2, _)] ⟨rfl, trivial⟩ ?_
    refine jk_sn ?_
    refine jn_ret ?_
    refine jk_sr ?_
    exact jk_ret1 rfl (fun w hs => .tmp rfl) (fun w hs => ⟨rfl, hs.drop⟩)
  refine jg_y (fun w hs => yv_fieldAddr rfl) rfl rfl ?_
  refine jg_y (fun w hs => yv_load rfl (ld1B (hs.blkL (i := 0) rfl) rfl)) rfl rfl ?_
  refine jg_y (fun w hs => yv_ln rfl (hs.arg Rha0_Wagons)) rfl rfl ?_
  refine jg_y (fun w hs => yv_gtr rfl rfl) rfl rfl ?_
  refine jg_y (fun w hs => yv_pick_f rfl rfl) rfl rfl ?_
  refine jg_mv rfl rfl rfl ?_
  refine jg_split 20 rfl ?_ ?_
  · refine jg_skip rfl rfl ?_
    refine jg_skip rfl rfl ?_
    refine jg_skip rfl rfl ?_
    refine jg_skip rfl rfl ?_
    refine jg_skip rfl rfl ?_
    refine jg_skip rfl rfl ?_
    refine jg_skip rfl rfl ?_
    refine jg_y (fun w hs => yv_pick_t rfl rfl) rfl rfl ?_
    refine jg_nils [(1, _), (28, _)] ⟨rfl, rfl, trivial⟩ ?_
    refine jk_sn ?_
    refine jn_ct rfl ?_
    refine jn_seq ?_
    refine jn_reg 2 ?_
    refine jg_as rfl rfl rfl ?_
    refine jg_nils [(2, _)] ⟨rfl, trivial⟩ ?_
    refine jk_sn ?_
    refine jn_ret ?_
    refine jk_sr ?_
    exact jk_ret1 rfl (fun w hs => .tmp rfl) (fun w hs => ⟨rfl, hs.drop⟩)
  refine jg_y (fun w hs => yv_fieldAddr rfl) rfl rfl ?_
  refine jg_y (fun w hs => yv_load rfl (ld1B (hs.blkL (i := 0) rfl) rfl)) rfl rfl ?_
  refine jg_y (fun w hs => yv_ln rfl (hs.arg Rha0_Lengths)) rfl rfl ?_
  refine jg_y (fun w hs => yv_fieldAddr rfl) rfl rfl ?_
  refine jg_y (fun w hs => yv_load rfl (ld1B (hs.blkL (i := 0) rfl) rfl)) rfl rfl ?_
  refine jg_y (fun w hs => yv_ln rfl (hs.arg Rha0_Wagons)) rfl rfl ?_
  refine jg_y (fun w hs => yv_neq rfl rfl) rfl rfl ?_
  refine jg_y (fun w hs => yv_pick_f rfl rfl) rfl rfl ?_
  refine jg_nils [(1, _), (28, _)] ⟨rfl, rfl, trivial⟩ ?_
  refine jk_sn ?_
  refine jn_cond rfl ?_ ?_
  · refine jn_seq ?_
    refine jn_reg 2 ?_
    refine jg_as rfl rfl rfl ?_
    refine jg_nils [(2, _)] ⟨rfl, trivial⟩ ?_
    refine jk_sn ?_
    refine jn_ret ?_
    refine jk_sr ?_
    exact jk_ret1 rfl (fun w hs => .tmp rfl) (fun w hs => ⟨rfl, hs.drop⟩)
  refine jn_skip ?_
  refine jk_sn ?_
  refine jn_seq ?_
  refine jn_reg 3 ?_
  refine jg_map (kv := kvI) rfl rfl fun g2 => ?_
  refine jg_as rfl rfl rfl ?_
  refine jg_nils [(1, _), (3, _)] ⟨rfl, rfl, trivial⟩ ?_
  refine jk_sn ?_
  refine jn_seq ?_
  refine jn_seq ?_
  refine jn_reg 4 ?_
  refine jg_y (fun w hs => yv_fieldAddr rfl) rfl rfl ?_
  refine jg_y (fun w hs => yv_load rfl (ld1B (hs.blkL (i := 1) rfl) rfl)) rfl rfl ?_
  refine jg_y (fun w hs => yv_ln rfl (hs.arg Rha0_Wagons)) rfl rfl ?_
  refine jg_mv rfl rfl rfl ?_
  refine jg_nils [(1, _), (3, _), (31, _), (32, _), (33, _)] ⟨rfl, rfl, rfl, rfl, rfl, trivial⟩ ?_
  refine jk_sn ?_
  refine jn_block ?_
  refine jn_lp (n := big) (fun (s : ((List Int) × Int)) (g : Unit) => [(1, .pointer (some ⟨g1, 0, none⟩)), (3, .map (some g2)), (31, ha0_Wagons.v), (32, .int .i64 (a0.Wagons.length : Int)), (33, .int .i64 s.2)]) (fun (s : ((List Int) × Int)) (g : Unit) => []) (fun (s : ((List Int) × Int)) (g : Unit) => [(Res.blk g1 24 [.int .i64 a0.Room, ha0_Wagons.v, ha0_Lengths.v]), (Res.obj g2 (mapO kvI s.1))]) (([] : List Int), 0) () [1, 0] ⟨rfl, rfl, rfl, rfl, rfl, trivial⟩ rfl rfl rfl ?_
  intro z3 q4 n7 k5 H6
  refine jn_seq ?_
  refine jn_reg 5 ?_
  refine jg_y (fun w hs => yv_lss rfl rfl) rfl rfl ?_
  refine jg_nils [(1, _), (3, _), (31, _), (32, _), (33, _), (34, _)] ⟨rfl, rfl, rfl, rfl, rfl, rfl, trivial⟩ ?_
  refine jk_sn ?_
  refine jn_seq ?_
  refine jn_cond rfl ?_ ?_
  rotate_left
  · refine jn_exit ?_
    refine jk_se (jk_le (jk_bh (jk_sn ?_)))
    refine jn_seq ?_
    refine jn_reg 11 ?_
    refine jg_as rfl rfl rfl ?_
    refine jg_nils [(2, _)] ⟨rfl, trivial⟩ ?_
    refine jk_sel (is := []) (s0 rfl) rfl ?_
    refine jk_sn ?_
    refine jn_ret ?_
    exact jk_ret1 rfl (fun w hs => .tmp rfl) (fun w hs => ⟨rfl, hs.drop⟩)
  refine jn_skip ?_
  refine jk_sn ?_
  refine jn_seq ?_
  refine jn_block ?_
  refine jn_seq ?_
  refine jn_reg 6 ?_
  refine jg_mv rfl rfl rfl ?_
  refine jg_ix fun x8 h9 => ?_
  refine jg_y (fun w hs => yv_ix rfl rfl (hs.arg Rha0_Wagons) h9) rfl rfl ?_
  refine jg_y (fun w hs => yv_e1 rfl (hs.arg Rha0_Wagons) h9.1 rfl) rfl rfl ?_
  refine jg_as rfl rfl rfl ?_
  refine jg_as rfl rfl rfl ?_
  refine jg_nils [(1, _), (3, _), (4, _), (5, _), (31, _), (32, _), (33, _)] ⟨rfl, rfl, rfl, rfl, rfl, rfl, rfl, trivial⟩ ?_
  refine jk_sn ?_
  refine jn_seq ?_
  refine jn_seq ?_
  refine jn_reg 7 ?_
  refine jg_mv rfl rfl rfl ?_
  refine jg_y (fun w hs => yv_lss rfl rfl) rfl rfl ?_
  refine jg_mv rfl rfl rfl ?_
  refine jg_split 40 rfl ?_ ?_
  · refine jg_skip rfl rfl ?_
    refine jg_skip rfl rfl ?_
    refine jg_skip rfl rfl ?_
    refine jg_y (fun w hs => yv_pick_t rfl rfl) rfl rfl ?_
    refine jg_mv rfl rfl rfl ?_
    refine jg_skip rfl rfl ?_
    refine jg_skip rfl rfl ?_
    refine jg_skip rfl rfl ?_
    refine jg_skip rfl rfl ?_
    refine jg_skip rfl rfl ?_
    refine jg_skip rfl rfl ?_
    refine jg_y (fun w hs => yv_pick_t rfl rfl) rfl rfl ?_
    refine jg_mv rfl rfl rfl ?_
    refine jg_skip rfl rfl ?_
    refine jg_skip rfl rfl ?_
    refine jg_skip rfl rfl ?_
    refine jg_skip rfl rfl ?_
    refine jg_skip rfl rfl ?_
    refine jg_skip rfl rfl ?_
    refine jg_y (fun w hs => yv_pick_t rfl rfl) rfl rfl ?_
    refine jg_nils [(1, _), (3, _), (5, _), (31, _), (32, _), (33, _), (60, _)] ⟨rfl, rfl, rfl, rfl, rfl, rfl, rfl, trivial⟩ ?_
    refine jk_sn ?_
    refine jn_ct rfl ?_
    refine jn_seq ?_
    refine jn_reg 8 ?_
    refine jg_as rfl rfl rfl ?_
    refine jg_nils [(2, _)] ⟨rfl, trivial⟩ ?_
    refine jk_sel (is := []) (s0 rfl) rfl ?_
    refine jk_sn ?_
    refine jn_ret ?_
    refine jk_sr (jk_br (jk_sr (jk_lr (jk_br (jk_sr ?_)))))
    exact jk_ret1 rfl (fun w hs => .tmp rfl) (fun w hs => ⟨rfl, hs.drop⟩)
  refine jg_mv rfl rfl rfl ?_
  refine jg_mv rfl rfl rfl ?_
  refine jg_y (fun w hs => yv_lookup (kv := kvI) (k := x8) rfl rfl (hs.mapL (i := 1) rfl)) rfl rfl ?_
  refine jg_y (fun w hs => yv_pick_f rfl rfl) rfl rfl ?_
  refine jg_mv rfl rfl rfl ?_
  refine jg_split 45 rfl ?_ ?_
  · refine jg_skip rfl rfl ?_
    refine jg_skip rfl rfl ?_
    refine jg_skip rfl rfl ?_
    refine jg_skip rfl rfl ?_
    refine jg_skip rfl rfl ?_
    refine jg_skip rfl rfl ?_
    refine jg_y (fun w hs => yv_pick_t rfl rfl) rfl rfl ?_
    refine jg_mv rfl rfl rfl ?_
    refine jg_skip rfl rfl ?_
    refine jg_skip rfl rfl ?_
    refine jg_skip rfl rfl ?_
    refine jg_skip rfl rfl ?_
    refine jg_skip rfl rfl ?_
    refine jg_skip rfl rfl ?_
    refine jg_y (fun w hs => yv_pick_t rfl rfl) rfl rfl ?_
    refine jg_nils [(1, _), (3, _), (5, _), (31, _), (32, _), (33, _), (60, _)] ⟨rfl, rfl, rfl, rfl, rfl, rfl, rfl, trivial⟩ ?_
    refine jk_sn ?_
    refine jn_ct rfl ?_
    refine jn_seq ?_
    refine jn_reg 8 ?_
    refine jg_as rfl rfl rfl ?_
    refine jg_nils [(2, _)] ⟨rfl, trivial⟩ ?_
    refine jk_sel (is := []) (s0 rfl) rfl ?_
    refine jk_sn ?_
    refine jn_ret ?_
    refine jk_sr (jk_br (jk_sr (jk_lr (jk_br (jk_sr ?_)))))
    exact jk_ret1 rfl (fun w hs => .tmp rfl) (fun w hs => ⟨rfl, hs.drop⟩)
  refine jg_y (fun w hs => yv_fieldAddr rfl) rfl rfl ?_
  refine jg_y (fun w hs => yv_load rfl (ld1B (hs.blkL (i := 0) rfl) rfl)) rfl rfl ?_
  refine jg_mv rfl rfl rfl ?_
  refine jg_ix fun x10 h11 => ?_
  refine jg_y (fun w hs => yv_ix rfl rfl (hs.arg Rha0_Lengths) h11) rfl rfl ?_
  refine jg_y (fun w hs => yv_e1 rfl (hs.arg Rha0_Lengths) h11.1 rfl) rfl rfl ?_
  refine jg_y (fun w hs => yv_lss rfl rfl) rfl rfl ?_
  refine jg_y (fun w hs => yv_pick_f rfl rfl) rfl rfl ?_
  refine jg_mv rfl rfl rfl ?_
  refine jg_split 53 rfl ?_ ?_
  · refine jg_skip rfl rfl ?_
    refine jg_skip rfl rfl ?_
    refine jg_skip rfl rfl ?_
    refine jg_skip rfl rfl ?_
    refine jg_skip rfl rfl ?_
    refine jg_skip rfl rfl ?_
    refine jg_y (fun w hs => yv_pick_t rfl rfl) rfl rfl ?_
    refine jg_nils [(1, _), (3, _), (5, _), (31, _), (32, _), (33, _), (60, _)] ⟨rfl, rfl, rfl, rfl, rfl, rfl, rfl, trivial⟩ ?_
    refine jk_sn ?_
    refine jn_ct rfl ?_
    refine jn_seq ?_
    refine jn_reg 8 ?_
    refine jg_as rfl rfl rfl ?_
    refine jg_nils [(2, _)] ⟨rfl, trivial⟩ ?_
    refine jk_sel (is := []) (s0 rfl) rfl ?_
    refine jk_sn ?_
    refine jn_ret ?_
    refine jk_sr (jk_br (jk_sr (jk_lr (jk_br (jk_sr ?_)))))
    exact jk_ret1 rfl (fun w hs => .tmp rfl) (fun w hs => ⟨rfl, hs.drop⟩)
  refine jg_y (fun w hs => yv_fieldAddr rfl) rfl rfl ?_
  refine jg_y (fun w hs => yv_load rfl (ld1B (hs.blkL (i := 0) rfl) rfl)) rfl rfl ?_
  refine jg_mv rfl rfl rfl ?_
  refine jg_ix fun x12 h13 => ?_
  refine jg_y (fun w hs => yv_ix rfl rfl (hs.arg Rha0_Lengths) h13) rfl rfl ?_
  refine jg_y (fun w hs => yv_e1 rfl (hs.arg Rha0_Lengths) h13.1 rfl) rfl rfl ?_
  refine jg_y (fun w hs => yv_gtr rfl rfl) rfl rfl ?_
  refine jg_y (fun w hs => yv_pick_f rfl rfl) rfl rfl ?_
  refine jg_nils [(1, _), (3, _), (5, _), (31, _), (32, _), (33, _), (60, _)] ⟨rfl, rfl, rfl, rfl, rfl, rfl, rfl, trivial⟩ ?_
  refine jk_sn ?_
  refine jn_cond rfl ?_ ?_
  · refine jn_seq ?_
    refine jn_reg 8 ?_
    refine jg_as rfl rfl rfl ?_
    refine jg_nils [(2, _)] ⟨rfl, trivial⟩ ?_
    refine jk_sel (is := []) (s0 rfl) rfl ?_
    refine jk_sn ?_
    refine jn_ret ?_
    refine jk_sr (jk_br (jk_sr (jk_lr (jk_br (jk_sr ?_)))))
    exact jk_ret1 rfl (fun w hs => .tmp rfl) (fun w hs => ⟨rfl, hs.drop⟩)
  refine jn_skip ?_
  refine jk_sn ?_
  refine jn_reg 9 ?_
  refine jg_mv rfl rfl rfl ?_
  refine jg_mv rfl rfl rfl ?_
  refine jg_mapset 1 (kv := kvI) (k := x8) rfl rfl rfl rfl rfl fun y14 => ?_
  refine jg_L (r2 rfl) ?_
  refine jg_nils [(1, _), (3, _), (31, _), (32, _), (33, _)] ⟨rfl, rfl, rfl, rfl, rfl, trivial⟩ ?_
  refine jk_bn (jk_sn ?_)
  refine jn_reg 10 ?_
  refine jg_y (fun w hs => yv_add_w rfl rfl) rfl rfl ?_
  refine jg_mv rfl rfl rfl ?_
  refine jg_nils [(1, _), (3, _), (31, _), (32, _), (33, _)] ⟨rfl, rfl, rfl, rfl, rfl, trivial⟩ ?_
  exact jk_use H6 (y14, w64 (z3.2 + 1)) () [0, 1] ⟨rfl, rfl, rfl, rfl, rfl, trivial⟩ rfl rfl rfl
theorem slices_Grow_int_int__c {w : World} {a1 : Int}  {v : (List Int)} (hm : slices_Grow_int_int_ a1 = some v) : Calls Try.prog 63 ([(Hd.mk none 0 0).v, .int .i64 a1] : List Value).toArray w (fun e w' => ∃ g : Hd, e = .returned (g.v) ∧ St w w' [] [(rowH g 3 1 encI v)]) := by
  refine j_enter (vs := [(Hd.mk none 0 0).v, .int .i64 a1]) (R := fun (v : (List Int)) (e : Ending) (w' : World) => ∃ g : Hd, e = .returned (g.v) ∧ St w w' [] [(rowH g 3 1 encI v)]) Try.func63 rfl Try.ntmps63 rfl rfl (St.refl w) hm ?_
  unfold slices_Grow_int_int_
  clear hm
  refine jn_seq ?_
  refine jn_reg 0 ?_
  refine jg_as rfl rfl rfl ?_
  refine jg_nils [(0, _), (1, _)] ⟨rfl, rfl, trivial⟩ ?_
  refine jk_sn ?_
  refine jn_seq ?_
  refine jn_seq ?_
  refine jn_reg 1 ?_
  refine jg_mv rfl rfl rfl ?_
  refine jg_y (fun w hs => yv_lss rfl rfl) rfl rfl ?_
  refine jg_nils [(0, _), (1, _), (6, _)] ⟨rfl, rfl, rfl, trivial⟩ ?_
  refine jk_sn ?_
  refine jn_cond rfl ?_ ?_
  · exact jn_none
  refine jn_skip ?_
  refine jk_sn ?_
  refine jn_seq ?_
  refine jn_seq ?_
  refine jn_reg 3 ?_
  refine jg_mv rfl rfl rfl ?_
  refine jg_mv rfl rfl rfl ?_
  refine jg_y (fun w hs => yv_cap0 rfl) rfl rfl ?_
  refine jg_mv rfl rfl rfl ?_
  refine jg_y (fun w hs => yv_len (n := 0) rfl) rfl rfl ?_
  refine jg_y (fun w hs => yv_sub_w rfl rfl) rfl rfl ?_
  refine jg_yl (fun w hs => yv_sub_w rfl rfl) rfl rfl fun x1 => ?_
  refine jg_as rfl rfl rfl ?_
  refine jg_nils [(0, _), (1, _)] ⟨rfl, rfl, trivial⟩ ?_
  refine jk_sn ?_
  refine jn_seq ?_
  refine jn_reg 4 ?_
  refine jg_mv rfl rfl rfl ?_
  refine jg_y (fun w hs => yv_gtr rfl rfl) rfl rfl ?_
  refine jg_nils [(0, _), (1, _), (16, _)] ⟨rfl, rfl, rfl, trivial⟩ ?_
  refine jk_sn ?_
  refine jn_cond rfl ?_ ?_
  rotate_left
  · refine jn_skip ?_
    refine jk_sn ?_
    refine jn_seq ?_
    refine jn_reg 6 ?_
    refine jg_mv rfl rfl rfl ?_
    refine jg_as rfl rfl rfl ?_
    refine jg_nils [(4, _)] ⟨rfl, trivial⟩ ?_
    refine jk_sn ?_
    refine jn_ret ?_
    refine jk_addnil 3 1 encI ?_
    exact jk_ret1 rfl (fun w hs => .tmp rfl) (fun w hs => ⟨(Hd.mk none 0 0), rfl, hs.sel (is := [0]) rfl rfl⟩)
  refine jn_reg 5 ?_
  refine jg_mv rfl rfl rfl ?_
  refine jg_mv rfl rfl rfl ?_
  refine jg_y (fun w hs => yv_cap0 rfl) rfl rfl ?_
  refine jg_y (fun w hs => yv_hi0 rfl rfl) rfl rfl ?_
  refine jg_mv rfl rfl rfl ?_
  refine jg_append0 (zz := 0) (enc := encI) Try.underlying3 rfl rfl rfl rfl rfl rfl fun y2 hd3 => ?_
  refine jg_mv rfl rfl rfl ?_
  refine jg_y (fun w hs => yv_len (n := 0) rfl) rfl rfl ?_
  refine jg_ck fun h4 => ?_
  refine jg_y (fun w hs => yv_hi rfl rfl (hs.row 0 rfl) (of_decide_eq_true h4)) rfl rfl ?_
  refine jg_as rfl rfl rfl ?_
  refine jg_nils [(0, _)] ⟨rfl, trivial⟩ ?_
  refine jk_rhi 0 rfl (of_decide_eq_true h4) (r1 rfl) ?_
  refine jk_sn ?_
  refine jn_seq ?_
  refine jn_reg 6 ?_
  refine jg_mv rfl rfl rfl ?_
  refine jg_as rfl rfl rfl ?_
  refine jg_nils [(4, _)] ⟨rfl, trivial⟩ ?_
  refine jk_sn ?_
  refine jn_ret ?_
  exact jk_ret1 rfl (fun w hs => .tmp rfl) (fun w hs => ⟨(⟨hd3.A, (Int.toNat 0), hd3.c⟩ : Hd), rfl, hs.sel (is := [0]) rfl rfl⟩)
theorem slices_Concat_int_int__c {w : World} {a0 : (List (List Int))} {ha0 : Hd} {v : (List Int)} (hm : slices_Concat_int_int_ a0 = some v) (Rha0 : SlD w ha0 encI a0) : Calls Try.prog 42 ([ha0.v] : List Value).toArray w (fun e w' => ∃ g : Hd, e = .returned (g.v) ∧ St w w' [] [(rowH g 3 1 encI v)]) := by
  refine j_enter (vs := [ha0.v]) (R := fun (v : (List Int)) (e : Ending) (w' : World) => ∃ g : Hd, e = .returned (g.v) ∧ St w w' [] [(rowH g 3 1 encI v)]) Try.func42 rfl Try.ntmps42 rfl rfl (St.refl w) hm ?_
  unfold slices_Concat_int_int_
  clear hm
  obtain ⟨qha0, eha0, Rqha0, Dha0⟩ := Rha0
  refine jn_seq ?_
  refine jn_reg 0 ?_
  refine jg_as rfl rfl rfl ?_
  refine jg_nils [(0, _)] ⟨rfl, trivial⟩ ?_
  refine jk_sn ?_
  refine jn_seq ?_
  refine jn_reg 1 ?_
  refine jg_as rfl rfl rfl ?_
  refine jg_nils [(0, _), (3, _)] ⟨rfl, rfl, trivial⟩ ?_
  refine jk_sn ?_
  refine jn_join (fun (s : Int) (g : Unit) => [(0, ha0.v), (3, .int .i64 s)]) (fun (s : Int) (g : Unit) => []) (fun (s : Int) (g : Unit) => []) ?_ ?_
  rotate_left
  · intro k3 H4
    refine jn_seq ?_
    refine jn_reg 2 ?_
    refine jg_mv rfl rfl rfl ?_
    refine jg_y (fun w hs => yv_lnD rfl (hs.arg Rqha0) eha0) rfl rfl ?_
    refine jg_mv rfl rfl rfl ?_
    refine jg_nils [(0, _), (3, _), (9, _), (10, _), (11, _)] ⟨rfl, rfl, rfl, rfl, rfl, trivial⟩ ?_
    refine jk_sn ?_
    refine jn_block ?_
    refine jn_lp (n := big) (fun (s : (Int × Int)) (g : Unit) => [(0, ha0.v), (3, .int .i64 s.1), (9, ha0.v), (10, .int .i64 (a0.length : Int)), (11, .int .i64 s.2)]) (fun (s : (Int × Int)) (g : Unit) => []) (fun (s : (Int × Int)) (g : Unit) => []) (0, 0) () [] ⟨rfl, rfl, rfl, rfl, rfl, trivial⟩ rfl rfl rfl ?_
    intro z17 q18 n21 k19 H20
    refine jn_seq ?_
    refine jn_reg 3 ?_
    refine jg_y (fun w hs => yv_lss rfl rfl) rfl rfl ?_
    refine jg_nils [(0, _), (3, _), (9, _), (10, _), (11, _), (12, _)] ⟨rfl, rfl, rfl, rfl, rfl, rfl, trivial⟩ ?_
    refine jk_sn ?_
    refine jn_seq ?_
    refine jn_cond rfl ?_ ?_
    rotate_left
    · refine jn_exit ?_
      refine jk_se (jk_le (jk_bh ?_))
      exact jk_use H4 z17.1 () [] ⟨rfl, rfl, trivial⟩ rfl rfl rfl
    refine jn_skip ?_
    refine jk_sn ?_
    refine jn_seq ?_
    refine jn_block ?_
    refine jn_seq ?_
    refine jn_reg 4 ?_
    refine jg_ixD eha0 fun x22 d23 h24 => ?_
    have Rd23 := Dha0 _ (List.mem_of_getElem? h24.1)
    refine jg_y (fun w hs => yv_ix rfl rfl (hs.arg Rqha0) h24) rfl rfl ?_
    refine jg_y (fun w hs => yv_e1 rfl (hs.arg Rqha0) h24.1 rfl) rfl rfl ?_
    refine jg_as rfl rfl rfl ?_
    refine jg_nils [(0, _), (3, _), (5, _), (9, _), (10, _), (11, _)] ⟨rfl, rfl, rfl, rfl, rfl, rfl, trivial⟩ ?_
    refine jk_sn ?_
    refine jn_seq ?_
    refine jn_reg 5 ?_
    refine jg_mv rfl rfl rfl ?_
    refine jg_mv rfl rfl rfl ?_
    refine jg_y (fun w hs => yv_ln rfl (hs.arg Rd23)) rfl rfl ?_
    refine jg_yl (fun w hs => yv_add_w rfl rfl) rfl rfl fun x25 => ?_
    refine jg_as rfl rfl rfl ?_
    refine jg_nils [(0, _), (3, _), (9, _), (10, _), (11, _)] ⟨rfl, rfl, rfl, rfl, rfl, trivial⟩ ?_
    refine jk_sn ?_
    refine jn_seq ?_
    refine jn_reg 6 ?_
    refine jg_mv rfl rfl rfl ?_
    refine jg_y (fun w hs => yv_lss rfl rfl) rfl rfl ?_
    refine jg_nils [(0, _), (3, _), (9, _), (10, _), (11, _), (20, _)] ⟨rfl, rfl, rfl, rfl, rfl, rfl, trivial⟩ ?_
    refine jk_sn ?_
    refine jn_cond rfl ?_ ?_
    · exact jn_none
    refine jn_skip ?_
    refine jk_bn (jk_sn ?_)
    refine jn_reg 8 ?_
    refine jg_y (fun w hs => yv_add_w rfl rfl) rfl rfl ?_
    refine jg_mv rfl rfl rfl ?_
    refine jg_nils [(0, _), (3, _), (9, _), (10, _), (11, _)] ⟨rfl, rfl, rfl, rfl, rfl, trivial⟩ ?_
    exact jk_use H20 (x25, w64 (z17.2 + 1)) () [] ⟨rfl, rfl, rfl, rfl, rfl, trivial⟩ rfl rfl rfl
  intro z1 q2
  refine jn_seq ?_
  refine jn_reg 9 ?_
  refine jg_mv rfl rfl rfl ?_
  refine jg_c rfl (fun v w hs hm => slices_Grow_int_int__c hm ) rfl rfl fun v5 q6 => ?_
  refine jg_L (r1 rfl) ?_
  refine jg_as rfl rfl rfl ?_
  refine jg_nils [(0, _), (6, _)] ⟨rfl, rfl, trivial⟩ ?_
  refine jk_sn ?_
  refine jn_seq ?_
  refine jn_seq ?_
  refine jn_reg 10 ?_
  refine jg_mv rfl rfl rfl ?_
  refine jg_y (fun w hs => yv_lnD rfl (hs.arg Rqha0) eha0) rfl rfl ?_
  refine jg_mv rfl rfl rfl ?_
  refine jg_nils [(6, _), (25, _), (26, _), (27, _)] ⟨rfl, rfl, rfl, rfl, trivial⟩ ?_
  refine jk_sn ?_
  refine jn_block ?_
  refine jn_lp (n := big) (fun (s : ((List Int) × Int)) (g : Hd) => [(6, g.v), (25, ha0.v), (26, .int .i64 (a0.length : Int)), (27, .int .i64 s.2)]) (fun (s : ((List Int) × Int)) (g : Hd) => []) (fun (s : ((List Int) × Int)) (g : Hd) => [(rowH g 3 1 encI s.1)]) (v5, 0) q6 [0] ⟨rfl, rfl, rfl, rfl, trivial⟩ rfl rfl rfl ?_
  intro z7 q8 n11 k9 H10
  refine jn_seq ?_
  refine jn_reg 11 ?_
  refine jg_y (fun w hs => yv_lss rfl rfl) rfl rfl ?_
  refine jg_nils [(6, _), (25, _), (26, _), (27, _), (28, _)] ⟨rfl, rfl, rfl, rfl, rfl, trivial⟩ ?_
  refine jk_sn ?_
  refine jn_seq ?_
  refine jn_cond rfl ?_ ?_
  rotate_left
  · refine jn_exit ?_
    refine jk_se (jk_le (jk_bh (jk_sn ?_)))
    refine jn_seq ?_
    refine jn_reg 15 ?_
    refine jg_mv rfl rfl rfl ?_
    refine jg_as rfl rfl rfl ?_
    refine jg_nils [(2, _)] ⟨rfl, trivial⟩ ?_
    refine jk_sn ?_
    refine jn_ret ?_
    exact jk_ret1 rfl (fun w hs => .tmp rfl) (fun w hs => ⟨q8, rfl, hs.sel (is := [0]) rfl rfl⟩)
  refine jn_skip ?_
  refine jk_sn ?_
  refine jn_seq ?_
  refine jn_block ?_
  refine jn_seq ?_
  refine jn_reg 12 ?_
  refine jg_ixD eha0 fun x12 d13 h14 => ?_
  have Rd13 := Dha0 _ (List.mem_of_getElem? h14.1)
  refine jg_y (fun w hs => yv_ix rfl rfl (hs.arg Rqha0) h14) rfl rfl ?_
  refine jg_y (fun w hs => yv_e1 rfl (hs.arg Rqha0) h14.1 rfl) rfl rfl ?_
  refine jg_as rfl rfl rfl ?_
  refine jg_nils [(6, _), (8, _), (25, _), (26, _), (27, _)] ⟨rfl, rfl, rfl, rfl, rfl, trivial⟩ ?_
  refine jk_sn ?_
  refine jn_reg 13 ?_
  refine jg_mv rfl rfl rfl ?_
  refine jg_mv rfl rfl rfl ?_
  refine jg_append 0 rfl rfl rfl (fun w hs => (hs.arg Rd13)) rfl rfl rfl fun y15 hd16 => ?_
  refine jg_L (r1 rfl) ?_
  refine jg_as rfl rfl rfl ?_
  refine jg_nils [(6, _), (25, _), (26, _), (27, _)] ⟨rfl, rfl, rfl, rfl, trivial⟩ ?_
  refine jk_bn (jk_sn ?_)
  refine jn_reg 14 ?_
  refine jg_y (fun w hs => yv_add_w rfl rfl) rfl rfl ?_
  refine jg_mv rfl rfl rfl ?_
  refine jg_nils [(6, _), (25, _), (26, _), (27, _)] ⟨rfl, rfl, rfl, rfl, trivial⟩ ?_
  exact jk_use H10 (y15, w64 (z7.2 + 1)) hd16 [0] ⟨rfl, rfl, rfl, rfl, trivial⟩ rfl rfl rfl
theorem bowl_foul_c {w : World} {a0 : Stand} {ha0_Wagons : Hd} {ha0_Lengths : Hd} {v : (Int × Int)} (hm : bowl_foul a0 = some v) (Rha0_Wagons : Sl w ha0_Wagons encI a0.Wagons) (Rha0_Lengths : Sl w ha0_Lengths encI a0.Lengths) : Gives Try.prog 43 [.agg #[.int .i64 a0.Room, ha0_Wagons.v, ha0_Lengths.v]] w (.tuple #[.int .i64 v.1, .int .i64 v.2]) := by
  refine j_gives (vs := [.agg #[.int .i64 a0.Room, ha0_Wagons.v, ha0_Lengths.v]]) (U := fun (v : (Int × Int)) => .tuple #[.int .i64 v.1, .int .i64 v.2]) Try.func43 rfl Try.ntmps43 rfl rfl hm ?_
  unfold bowl_foul
  clear hm
  refine jn_seq ?_
  refine jn_reg 0 ?_
  refine jg_box rfl (l3 rfl) rfl rfl fun g1 => ?_
  refine jg_as rfl rfl rfl ?_
  refine jg_as rfl rfl rfl ?_
  refine jg_nils [(1, _)] ⟨rfl, trivial⟩ ?_
  refine jk_sn ?_
  refine jn_seq ?_
  refine jn_draw (L' := [_]) 1 [0] [0, 1, 2, 3] 15 15 [0, 1, 0, 7] [0, 1, 0, 7] [(0, true), (1, true), (2, true), (3, true)] rfl (np_seq np_rt) (by kernel_rfl) (by kernel_rfl) (by kernel_rfl) (by kernel_rfl) (by kernel_rfl) (by kernel_rfl) (by kernel_rfl) (by kernel_rfl) ?_
  refine jd_y rfl (fun w hs => yv_fieldAddr rfl) rfl rfl ?_
  refine jd_y rfl (fun w hs => yv_load rfl (ld1B (hs.blk (i := 0) rfl) rfl)) rfl rfl ?_
  refine jd_as rfl rfl rfl rfl ?_
  refine jd_as rfl rfl rfl rfl ?_
  refine jd_nils [(1, _), (4, _), (5, _)] ⟨rfl, rfl, rfl, trivial⟩ ?_
  refine jk_sn ?_
  refine jn_seq ?_
  refine jn_seq ?_
  refine jn_reg 2 ?_
  refine jg_y (fun w hs => yv_fieldAddr rfl) rfl rfl ?_
  refine jg_y (fun w hs => yv_load rfl (ld1B (hs.blkL (i := 0) rfl) rfl)) rfl rfl ?_
  refine jg_y (fun w hs => yv_ln rfl (hs.arg Rha0_Lengths)) rfl rfl ?_
  refine jg_mv rfl rfl rfl ?_
  refine jg_nils [(4, _), (5, _), (11, _), (12, _), (13, _)] ⟨rfl, rfl, rfl, rfl, rfl, trivial⟩ ?_
  refine jk_sn ?_
  refine jn_block ?_
  refine jn_lp (n := big) (fun (s : (Int × Int × Int)) (g : Unit) => [(4, .int .i64 s.1), (5, .int .i64 s.2.1), (11, ha0_Lengths.v), (12, .int .i64 (a0.Lengths.length : Int)), (13, .int .i64 s.2.2)]) (fun (s : (Int × Int × Int)) (g : Unit) => []) (fun (s : (Int × Int × Int)) (g : Unit) => []) (0, a0.Room, 0) () [] ⟨rfl, rfl, rfl, rfl, rfl, trivial⟩ rfl rfl rfl ?_
  intro z2 q3 n6 k4 H5
  refine jn_seq ?_
  refine jn_reg 3 ?_
  refine jg_y (fun w hs => yv_lss rfl rfl) rfl rfl ?_
  refine jg_nils [(4, _), (5, _), (11, _), (12, _), (13, _), (14, _)] ⟨rfl, rfl, rfl, rfl, rfl, rfl, trivial⟩ ?_
  refine jk_sn ?_
  refine jn_seq ?_
  refine jn_cond rfl ?_ ?_
  rotate_left
  · refine jn_exit ?_
    refine jk_se (jk_le (jk_bh (jk_sn ?_)))
    refine jn_seq ?_
    refine jn_reg 9 ?_
    refine jg_mv rfl rfl rfl ?_
    refine jg_mv rfl rfl rfl ?_
    refine jg_as rfl rfl rfl ?_
    refine jg_as rfl rfl rfl ?_
    refine jg_nils [(2, _), (3, _)] ⟨rfl, rfl, trivial⟩ ?_
    refine jk_sn ?_
    refine jn_ret ?_
    exact jk_ret2 rfl (fun w hs => .tmp rfl) (fun w hs => .tmp rfl) (fun w hs => ⟨rfl, hs.drop⟩)
  refine jn_skip ?_
  refine jk_sn ?_
  refine jn_seq ?_
  refine jn_block ?_
  refine jn_seq ?_
  refine jn_reg 4 ?_
  refine jg_ix fun x7 h8 => ?_
  refine jg_y (fun w hs => yv_ix rfl rfl (hs.arg Rha0_Lengths) h8) rfl rfl ?_
  refine jg_y (fun w hs => yv_e1 rfl (hs.arg Rha0_Lengths) h8.1 rfl) rfl rfl ?_
  refine jg_as rfl rfl rfl ?_
  refine jg_nils [(4, _), (5, _), (7, _), (11, _), (12, _), (13, _)] ⟨rfl, rfl, rfl, rfl, rfl, rfl, trivial⟩ ?_
  refine jk_sn ?_
  refine jn_seq ?_
  refine jn_reg 5 ?_
  refine jg_mv rfl rfl rfl ?_
  refine jg_mv rfl rfl rfl ?_
  refine jg_y (fun w hs => yv_sub_w rfl rfl) rfl rfl ?_
  refine jg_as rfl rfl rfl ?_
  refine jg_nils [(4, _), (5, _), (11, _), (12, _), (13, _)] ⟨rfl, rfl, rfl, rfl, rfl, trivial⟩ ?_
  refine jk_sn ?_
  refine jn_seq ?_
  refine jn_reg 6 ?_
  refine jg_mv rfl rfl rfl ?_
  refine jg_y (fun w hs => yv_lss rfl rfl) rfl rfl ?_
  refine jg_nils [(4, _), (5, _), (11, _), (12, _), (13, _), (21, _)] ⟨rfl, rfl, rfl, rfl, rfl, rfl, trivial⟩ ?_
  refine jk_sn ?_
  refine jn_cond rfl ?_ ?_
  rotate_left
  · refine jn_skip ?_
    refine jk_bn (jk_sn ?_)
    refine jn_reg 8 ?_
    refine jg_y (fun w hs => yv_add_w rfl rfl) rfl rfl ?_
    refine jg_mv rfl rfl rfl ?_
    refine jg_nils [(4, _), (5, _), (11, _), (12, _), (13, _)] ⟨rfl, rfl, rfl, rfl, rfl, trivial⟩ ?_
    exact jk_use H5 (z2.1, w64 (z2.2.1 - x7), w64 (z2.2.2 + 1)) () [] ⟨rfl, rfl, rfl, rfl, rfl, trivial⟩ rfl rfl rfl
  refine jn_reg 7 ?_
  refine jg_mv rfl rfl rfl ?_
  refine jg_y (fun w hs => yv_add_w rfl rfl) rfl rfl ?_
  refine jg_as rfl rfl rfl ?_
  refine jg_nils [(4, _), (5, _), (11, _), (12, _), (13, _)] ⟨rfl, rfl, rfl, rfl, rfl, trivial⟩ ?_
  refine jk_bn (jk_sn ?_)
  refine jn_reg 8 ?_
  refine jg_y (fun w hs => yv_add_w rfl rfl) rfl rfl ?_
  refine jg_mv rfl rfl rfl ?_
  refine jg_nils [(4, _), (5, _), (11, _), (12, _), (13, _)] ⟨rfl, rfl, rfl, rfl, rfl, trivial⟩ ?_
  exact jk_use H5 (w64 (z2.1 + 1), w64 (z2.2.1 - x7), w64 (z2.2.2 + 1)) () [] ⟨rfl, rfl, rfl, rfl, rfl, trivial⟩ rfl rfl rfl
end Go.Proofs.Ytdabnfhkojapjaa
