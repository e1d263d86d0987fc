/-
  The functions give what their models give. Printed by a program.
-/
import Derived.Test.YtbojnnefpapamaaFacts
import Derived.Test.YtbojnnefpapamaaMod
namespace Go.Proofs.Ytbojnnefpapamaa
open Go.Hy
set_option linter.unusedVariables false
set_option linter.unusedSimpArgs false
set_option maxHeartbeats 2000000
set_option maxRecDepth 100000
instance : CK Try.prog 109 LayoutPlace.kv := CK.ofS Try.underlying109 Try.underlying111 (fun k e w => by cases k; kernel_rfl)
  (fun a b w => by
    unfold Op.equal
    rw [show Op.maxDepth = 9997 + 3 from rfl]
    unfold LayoutPlace.kv
    rw [qin111]
    congr 1
    exact decide_eq_decide.2 (by cases a; cases b; simp)) (by kernel_rfl)
theorem gen_New_c {w : World} {a0 : (List Int)} {ha0 : Hd} {v : HumpgenMaker} (hm : gen_New a0 = some v) (Rha0 : Sl w ha0 encI a0) : Calls Try.prog 15 ([ha0.v] : List Value).toArray w (fun e w' => ∃ g : Nat, e = .returned (.pointer (some ⟨g, 0, none⟩)) ∧ St w w' [] [(Res.blk g 82 [ha0.v, .int .i64 v.fn])]) := by
  refine j_enter (vs := [ha0.v]) (R := fun (v : HumpgenMaker) (e : Ending) (w' : World) => ∃ g : Nat, e = .returned (.pointer (some ⟨g, 0, none⟩)) ∧ St w w' [] [(Res.blk g 82 [ha0.v, .int .i64 v.fn])]) Try.func15 rfl Try.ntmps15 rfl rfl (St.refl w) hm ?_
  unfold gen_New
  clear hm
  refine jn_seq ?_
  refine jn_reg 0 ?_
  refine jg_as rfl rfl rfl ?_
  refine jg_nils [(0, _)] ⟨rfl, trivial⟩ ?_
  refine jk_sn ?_
  refine jn_seq ?_
  refine jn_reg 1 ?_
  refine jg_mv rfl rfl rfl ?_
  refine jg_y (fun w hs => yv_build rfl (o2 rfl)) rfl rfl ?_
  refine jg_box rfl (l2 rfl) rfl rfl fun g1 => ?_
  refine jg_as rfl rfl rfl ?_
  refine jg_nils [(2, _)] ⟨rfl, trivial⟩ ?_
  refine jk_sn ?_
  refine jn_ret ?_
  exact jk_ret1 rfl (fun w hs => .tmp rfl) (fun w hs => ⟨g1, rfl, hs.sel (is := [0]) rfl rfl⟩)
theorem gen_word_c {w : World} {a0 : Int}  {v : ByteArray} (hm : gen_word a0 = some v) : Gives Try.prog 47 [.int .i64 a0] w (.string v) := by
  refine j_gives (vs := [.int .i64 a0]) (U := fun (v : ByteArray) => .string v) Try.func47 rfl Try.ntmps47 rfl rfl hm ?_
  unfold gen_word
  clear hm
  refine jn_seq ?_
  refine jn_reg 0 ?_
  refine jg_as rfl rfl rfl ?_
  refine jg_nils [(0, _)] ⟨rfl, trivial⟩ ?_
  refine jk_sn ?_
  refine jn_seq ?_
  refine jn_reg 1 ?_
  refine jg_mv rfl rfl rfl ?_
  refine jg_y (fun w hs => yv_tdiv_w rfl rfl (by decide)) rfl rfl ?_
  refine jg_yl (fun w hs => yv_tmod rfl rfl (by decide)) rfl rfl fun x1 => ?_
  refine jg_y (fun w hs => yv_add_w rfl rfl) rfl rfl ?_
  refine jg_yl (fun w hs => yv_conv Try.underlying3 Try.underlying5 rfl) rfl rfl fun x2 => ?_
  refine jg_mv rfl rfl rfl ?_
  refine jg_y (fun w hs => yv_tdiv_w rfl rfl (by decide)) rfl rfl ?_
  refine jg_yl (fun w hs => yv_tmod rfl rfl (by decide)) rfl rfl fun x3 => ?_
  refine jg_y (fun w hs => yv_add_w rfl rfl) rfl rfl ?_
  refine jg_yl (fun w hs => yv_conv Try.underlying3 Try.underlying5 rfl) rfl rfl fun x4 => ?_
  refine jg_mv rfl rfl rfl ?_
  refine jg_y (fun w hs => yv_tmod rfl rfl (by decide)) rfl rfl ?_
  refine jg_y (fun w hs => yv_add_w rfl rfl) rfl rfl ?_
  refine jg_yl (fun w hs => yv_conv Try.underlying3 Try.underlying5 rfl) rfl rfl fun x5 => ?_
  refine jg_lit (enc := (encK .u8)) [101, x2, x4, x5] rfl rfl rfl rfl rfl rfl rfl rfl fun hd6 => ?_
  refine jg_y (fun w hs => yv_b2s Try.underlying104 Try.underlying5 Try.underlying9 rfl (hs.row 0 rfl)) rfl rfl ?_
  refine jg_as rfl rfl rfl ?_
  refine jg_nils [(2, _)] ⟨rfl, trivial⟩ ?_
  refine jk_sn ?_
  refine jn_ret ?_
  exact jk_ret1 rfl (fun w hs => .tmp rfl) (fun w hs => ⟨rfl, hs.drop⟩)
theorem gen_Maker_Next_c {w : World} {a0 : HumpgenMaker} {a1 : Int} {ha0_fl : Hd} {b0 : Nat} {v : (Int × Int)} (hm : gen_Maker_Next a0 a1 = some v) (Hb : Blk w b0 82 [ha0_fl.v, .int .i64 a0.fn]) (Rha0_fl : Sl w ha0_fl encI a0.fl) (Oha0_fl : Offs ha0_fl [b0]) : Calls Try.prog 19 ([.pointer (some ⟨b0, 0, none⟩), .int .i64 a1] : List Value).toArray w (fun e w' => ∃ g : Unit, e = .returned (.int .i64 v.1) ∧ St w w' [.blk b0 82 [ha0_fl.v, .int .i64 v.2]] []) := by
  refine j_enter (vs := [.pointer (some ⟨b0, 0, none⟩), .int .i64 a1]) (R := fun (v : (Int × Int)) (e : Ending) (w' : World) => ∃ g : Unit, e = .returned (.int .i64 v.1) ∧ St w w' [.blk b0 82 [ha0_fl.v, .int .i64 v.2]] []) Try.func19 rfl Try.ntmps19 rfl rfl (mk_st Hb) hm ?_
  unfold gen_Maker_Next
  clear hm
  refine jn_seq ?_
  refine jn_reg 0 ?_
  refine jg_as rfl rfl rfl ?_
  refine jg_nils [(0, _), (1, _)] ⟨rfl, rfl, trivial⟩ ?_
  refine jk_sn ?_
  refine jn_seq ?_
  refine jn_reg 1 ?_
  refine jg_as rfl rfl rfl ?_
  refine jg_nils [(0, _), (1, _), (5, _)] ⟨rfl, rfl, rfl, trivial⟩ ?_
  refine jk_sn ?_
  refine jn_join (fun (s : Int) (g : Unit) => [(0, .pointer (some ⟨b0, 0, none⟩)), (1, .int .i64 a1), (5, .int .i64 s)]) (fun (s : Int) (g : Unit) => [(Res.blk b0 82 [ha0_fl.v, .int .i64 a0.fn])]) (fun (s : Int) (g : Unit) => []) ?_ ?_
  rotate_left
  · intro k3 H4
    refine jn_seq ?_
    refine jn_reg 2 ?_
    refine jg_mv rfl rfl rfl ?_
    refine jg_y (fun w hs => yv_nil rfl) rfl rfl ?_
    refine jg_y (fun w hs => yv_fieldAddr rfl) rfl rfl ?_
    refine jg_y (fun w hs => yv_load rfl (ld1B (hs.blkM (i := 0) rfl) rfl)) rfl rfl ?_
    refine jg_y (fun w hs => yv_ln rfl (hs.argM Rha0_fl Oha0_fl)) rfl rfl ?_
    refine jg_y (fun w hs => yv_gtr rfl rfl) rfl rfl ?_
    refine jg_nils [(0, _), (1, _), (5, _), (11, _)] ⟨rfl, rfl, rfl, rfl, trivial⟩ ?_
    refine jk_sn ?_
    refine jn_cond rfl ?_ ?_
    rotate_left
    · refine jn_skip ?_
      exact jk_use H4 0 () [] ⟨rfl, rfl, rfl, trivial⟩ rfl rfl rfl
    refine jn_draw (L' := [_]) 3 [0] [0, 1, 2, 3, 4, 5, 6, 7, 8, 9, 10, 11, 12, 13, 14, 15, 16, 17, 18, 19, 20, 21, 22, 23, 24, 25, 26, 27, 28] 536870911 536870911 [0, 1, 2, 4, 0, 16, 32, 64, 0, 256, 512, 1024, 2048, 4224, 8200, 16384, 0, 65536, 131072, 262144, 0, 1048576, 2097152, 4194304, 8388608, 17301504, 33554432, 67141632, 268435455] [0, 1, 3, 7, 0, 16, 48, 112, 0, 256, 768, 1792, 3840, 8176, 16383, 32767, 0, 65536, 196608, 458752, 0, 1048576, 3145728, 7340032, 15728640, 33488896, 67043328, 134217727, 268435455] [(0, true), (1, true), (2, true), (3, true), (4, true), (5, true), (6, true), (7, true), (8, true), (9, true), (10, true), (11, true), (12, true), (13, true), (14, true), (15, true), (16, true), (17, true), (18, true), (19, true), (20, true), (21, true), (22, true), (23, true), (24, true), (25, true), (26, true), (27, true), (28, true)] rfl (np_seq np_rt) (by kernel_rfl) (by kernel_rfl) (by kernel_rfl) (by kernel_rfl) (by kernel_rfl) (by kernel_rfl) (by kernel_rfl) (by kernel_rfl) ?_
    refine jd_mv rfl rfl rfl rfl ?_
    refine jd_y rfl (fun w hs => yv_nil rfl) rfl rfl ?_
    refine jd_y rfl (fun w hs => yv_fieldAddr rfl) rfl rfl ?_
    refine jd_y rfl (fun w hs => yv_load rfl (ld1B (hs.blk (i := 0) rfl) rfl)) rfl rfl ?_
    refine jd_mv rfl rfl rfl rfl ?_
    refine jd_y rfl (fun w hs => yv_nil rfl) rfl rfl ?_
    refine jd_y rfl (fun w hs => yv_fieldAddr rfl) rfl rfl ?_
    refine jd_y rfl (fun w hs => yv_load rfl (ld1B (hs.blk (i := 0) rfl) rfl)) rfl rfl ?_
    refine jd_mv rfl rfl rfl rfl ?_
    refine jd_y rfl (fun w hs => yv_nil rfl) rfl rfl ?_
    refine jd_y rfl (fun w hs => yv_fieldAddr rfl) rfl rfl ?_
    refine jd_y rfl (fun w hs => yv_load rfl (ld1B (hs.blk (i := 0) rfl) rfl)) rfl rfl ?_
    refine jd_y rfl (fun w hs => yv_ln rfl (hs.argM Rha0_fl Oha0_fl)) rfl rfl ?_
    refine jd_ck fun h6 => ?_
    refine jd_yl rfl (fun w hs => yv_tmod rfl rfl (of_decide_eq_true h6)) rfl rfl fun x7 => ?_
    refine jd_ix fun x8 h9 => ?_
    refine jd_y rfl (fun w hs => yv_ix rfl rfl (hs.argM Rha0_fl Oha0_fl) h9) rfl rfl ?_
    refine jd_y rfl (fun w hs => yv_e1 rfl (hs.argM Rha0_fl Oha0_fl) h9.1 rfl) rfl rfl ?_
    refine jd_mv rfl rfl rfl rfl ?_
    refine jd_y rfl (fun w hs => yv_nil rfl) rfl rfl ?_
    refine jd_y rfl (fun w hs => yv_fieldAddr rfl) rfl rfl ?_
    refine jd_y rfl (fun w hs => yv_load rfl (ld1B (hs.blk (i := 0) rfl) rfl)) rfl rfl ?_
    refine jd_mv rfl rfl rfl rfl ?_
    refine jd_y rfl (fun w hs => yv_nil rfl) rfl rfl ?_
    refine jd_y rfl (fun w hs => yv_fieldAddr rfl) rfl rfl ?_
    refine jd_y rfl (fun w hs => yv_load rfl (ld1B (hs.blk (i := 0) rfl) rfl)) rfl rfl ?_
    refine jd_y rfl (fun w hs => yv_ln rfl (hs.argM Rha0_fl Oha0_fl)) rfl rfl ?_
    refine jd_ck fun h10 => ?_
    refine jd_yl rfl (fun w hs => yv_tdiv_w rfl rfl (of_decide_eq_true h10)) rfl rfl fun x11 => ?_
    refine jd_y rfl (fun w hs => yv_mul_w rfl rfl) rfl rfl ?_
    refine jd_y rfl (fun w hs => yv_add_w rfl rfl) rfl rfl ?_
    refine jd_as rfl rfl rfl rfl ?_
    refine jd_nils [(0, _), (1, _), (5, _)] ⟨rfl, rfl, rfl, trivial⟩ ?_
    exact jk_use H4 (w64 (x8 + (w64 (x11 * 7919)))) () [] ⟨rfl, rfl, rfl, trivial⟩ rfl rfl rfl
  intro z1 q2
  refine jn_seq ?_
  refine jn_reg 4 ?_
  refine jg_mv rfl rfl rfl ?_
  refine jg_y (fun w hs => yv_nil rfl) rfl rfl ?_
  refine jg_y (fun w hs => yv_fieldAddr rfl) rfl rfl ?_
  refine jg_y (fun w hs => yv_load rfl (ld1B (hs.blkM (i := 0) rfl) rfl)) rfl rfl ?_
  refine jg_y (fun w hs => yv_add_w rfl rfl) rfl rfl ?_
  refine jg_y (fun w hs => yv_nil rfl) rfl rfl ?_
  refine jg_y (fun w hs => yv_fieldAddr rfl) rfl rfl ?_
  refine jg_storeM 0 rfl rfl rfl (l1 rfl) rfl rfl rfl rfl (l2 rfl) (r1 rfl) ?_
  refine jg_nils [(1, _), (5, _)] ⟨rfl, rfl, trivial⟩ ?_
  refine jk_sn ?_
  refine jn_seq ?_
  refine jn_reg 5 ?_
  refine jg_mv rfl rfl rfl ?_
  refine jg_mv rfl rfl rfl ?_
  refine jg_ck fun h5 => ?_
  refine jg_y (fun w hs => yv_tmod rfl rfl (of_decide_eq_true h5)) rfl rfl ?_
  refine jg_as rfl rfl rfl ?_
  refine jg_nils [(1, _), (5, _)] ⟨rfl, rfl, trivial⟩ ?_
  refine jk_sn ?_
  refine jn_seq ?_
  refine jn_seq ?_
  refine jn_reg 6 ?_
  refine jg_mv rfl rfl rfl ?_
  refine jg_y (fun w hs => yv_lss rfl rfl) rfl rfl ?_
  refine jg_nils [(1, _), (5, _), (51, _)] ⟨rfl, rfl, rfl, trivial⟩ ?_
  refine jk_sn ?_
  refine jn_cond rfl ?_ ?_
  rotate_left
  · refine jn_skip ?_
    refine jk_sn ?_
    refine jn_seq ?_
    refine jn_reg 8 ?_
    refine jg_mv rfl rfl rfl ?_
    refine jg_as rfl rfl rfl ?_
    refine jg_nils [(4, _)] ⟨rfl, trivial⟩ ?_
    refine jk_sn ?_
    refine jn_ret ?_
    exact jk_ret1 rfl (fun w hs => .tmp rfl) (fun w hs => ⟨(), rfl, hs.sel (is := []) rfl rfl⟩)
  refine jn_reg 7 ?_
  refine jg_mv rfl rfl rfl ?_
  refine jg_mv rfl rfl rfl ?_
  refine jg_y (fun w hs => yv_add_w rfl rfl) rfl rfl ?_
  refine jg_as rfl rfl rfl ?_
  refine jg_nils [(5, _)] ⟨rfl, trivial⟩ ?_
  refine jk_sn ?_
  refine jn_seq ?_
  refine jn_reg 8 ?_
  refine jg_mv rfl rfl rfl ?_
  refine jg_as rfl rfl rfl ?_
  refine jg_nils [(4, _)] ⟨rfl, trivial⟩ ?_
  refine jk_sn ?_
  refine jn_ret ?_
  exact jk_ret1 rfl (fun w hs => .tmp rfl) (fun w hs => ⟨(), rfl, hs.sel (is := []) rfl rfl⟩)
theorem gen_Maker_Pick_c {w : World} {a0 : HumpgenMaker} {a1 : (List Int)} {ha0_fl : Hd} {b0 : Nat} {ha1 : Hd} {v : (Int × Int)} (hm : gen_Maker_Pick a0 a1 = some v) (Hb : Blk w b0 82 [ha0_fl.v, .int .i64 a0.fn]) (Rha0_fl : Sl w ha0_fl encI a0.fl) (Oha0_fl : Offs ha0_fl [b0]) (Rha1 : Sl w ha1 encI a1) (Oha1 : Offs ha1 [b0]) : Calls Try.prog 20 ([.pointer (some ⟨b0, 0, none⟩), ha1.v] : List Value).toArray w (fun e w' => ∃ g : Unit, e = .returned (.int .i64 v.1) ∧ St w w' [.blk b0 82 [ha0_fl.v, .int .i64 v.2]] []) := by
  refine j_enter (vs := [.pointer (some ⟨b0, 0, none⟩), ha1.v]) (R := fun (v : (Int × Int)) (e : Ending) (w' : World) => ∃ g : Unit, e = .returned (.int .i64 v.1) ∧ St w w' [.blk b0 82 [ha0_fl.v, .int .i64 v.2]] []) Try.func20 rfl Try.ntmps20 rfl rfl (mk_st Hb) hm ?_
  unfold gen_Maker_Pick
  clear hm
  refine jn_seq ?_
  refine jn_reg 0 ?_
  refine jg_as rfl rfl rfl ?_
  refine jg_nils [(0, _), (1, _)] ⟨rfl, rfl, trivial⟩ ?_
  refine jk_sn ?_
  refine jn_seq ?_
  refine jn_reg 1 ?_
  refine jg_mv rfl rfl rfl ?_
  refine jg_mv rfl rfl rfl ?_
  refine jg_mv rfl rfl rfl ?_
  refine jg_y (fun w hs => yv_ln rfl (hs.argM Rha1 Oha1)) rfl rfl ?_
  refine jm_c rfl (fun v w hs hm => gen_Maker_Next_c hm (hs.blkM (i := 0) rfl) (hs.argM Rha0_fl Oha0_fl) Oha0_fl) (fun _ => rfl) rfl rfl fun v1 q2 => ?_
  refine jg_ix fun x3 h4 => ?_
  refine jg_y (fun w hs => yv_ix rfl rfl (hs.argM Rha1 Oha1) h4) rfl rfl ?_
  refine jg_y (fun w hs => yv_e1 rfl (hs.argM Rha1 Oha1) h4.1 rfl) rfl rfl ?_
  refine jg_as rfl rfl rfl ?_
  refine jg_nils [(4, _)] ⟨rfl, trivial⟩ ?_
  refine jk_sn ?_
  refine jn_ret ?_
  exact jk_ret1 rfl (fun w hs => .tmp rfl) (fun w hs => ⟨(), rfl, hs.sel (is := []) rfl rfl⟩)
theorem gen_Maker_element_c {w : World} {a0 : HumpgenMaker} {a1 : Int} {a2 : Int} {a3 : Int} {a4 : Int} {ha0_fl : Hd} {b0 : Nat} {v : (Element × Int)} (hm : gen_Maker_element a0 a1 a2 a3 a4 = some v) (Hb : Blk w b0 82 [ha0_fl.v, .int .i64 a0.fn]) (Rha0_fl : Sl w ha0_fl encI a0.fl) (Oha0_fl : Offs ha0_fl [b0]) : Calls Try.prog 48 ([.pointer (some ⟨b0, 0, none⟩), .int .i64 a1, .int .i64 a2, .int .i64 a3, .int .i64 a4] : List Value).toArray w (fun e w' => ∃ g : Unit, e = .returned (.agg #[.int .i64 v.1.Kind, .string v.1.Name, .int .i64 v.1.Parent, .int .i64 v.1.Side, .int .i64 v.1.Length, .int .i64 v.1.Grade, .int .i64 v.1.Curve, .int .i64 v.1.Power]) ∧ St w w' [.blk b0 82 [ha0_fl.v, .int .i64 v.2]] []) := by
  refine j_enter (vs := [.pointer (some ⟨b0, 0, none⟩), .int .i64 a1, .int .i64 a2, .int .i64 a3, .int .i64 a4]) (R := fun (v : (Element × Int)) (e : Ending) (w' : World) => ∃ g : Unit, e = .returned (.agg #[.int .i64 v.1.Kind, .string v.1.Name, .int .i64 v.1.Parent, .int .i64 v.1.Side, .int .i64 v.1.Length, .int .i64 v.1.Grade, .int .i64 v.1.Curve, .int .i64 v.1.Power]) ∧ St w w' [.blk b0 82 [ha0_fl.v, .int .i64 v.2]] []) Try.func48 rfl Try.ntmps48 rfl rfl (mk_st Hb) hm ?_
  unfold gen_Maker_element
  clear hm
  refine jn_seq ?_
  refine jn_reg 0 ?_
  refine jg_alloc (l8 rfl) rfl rfl fun g1 => ?_
  refine jg_nils [(0, _), (1, _), (2, _), (3, _), (4, _), (10, _)] ⟨rfl, rfl, rfl, rfl, rfl, rfl, trivial⟩ ?_
  refine jk_sn ?_
  refine jn_seq ?_
  refine jn_reg 1 ?_
  refine jg_mv rfl rfl rfl ?_
  refine jg_mv rfl rfl rfl ?_
  refine jg_c0 rfl (fun v w hs hm => gen_word_c hm ) rfl rfl fun v2 => ?_
  refine jg_mv rfl rfl rfl ?_
  refine jg_mv rfl rfl rfl ?_
  refine jg_mv rfl rfl rfl ?_
  refine jg_lit (enc := encI) [1000, 5000, 9000, 12000, 30000, 100000] rfl rfl rfl rfl rfl rfl rfl rfl fun hd3 => ?_
  refine jm_c rfl (fun v w hs hm => gen_Maker_Pick_c hm (hs.blkM (i := 0) rfl) (hs.argM Rha0_fl Oha0_fl) Oha0_fl (hs.row 0 rfl) (hs.offML 0 0 rfl rfl)) (fun _ => rfl) rfl rfl fun v4 q5 => ?_
  refine jg_mv rfl rfl rfl ?_
  refine jg_lit (enc := encI) [0, 100, (-150), 400, 1000, 3500, 5000] rfl rfl rfl rfl rfl rfl rfl rfl fun hd6 => ?_
  refine jm_c rfl (fun v w hs hm => gen_Maker_Pick_c hm (hs.blkM (i := 0) rfl) (hs.argM Rha0_fl Oha0_fl) Oha0_fl (hs.row 0 rfl) (hs.offML 0 0 rfl rfl)) (fun _ => rfl) rfl rfl fun v7 q8 => ?_
  refine jg_mv rfl rfl rfl ?_
  refine jg_lit (enc := encI) [0, 0, 20, 150] rfl rfl rfl rfl rfl rfl rfl rfl fun hd9 => ?_
  refine jm_c rfl (fun v w hs hm => gen_Maker_Pick_c hm (hs.blkM (i := 0) rfl) (hs.argM Rha0_fl Oha0_fl) Oha0_fl (hs.row 0 rfl) (hs.offML 0 0 rfl rfl)) (fun _ => rfl) rfl rfl fun v10 q11 => ?_
  refine jg_y (fun w hs => yv_build rfl (o8 rfl)) rfl rfl ?_
  refine jg_alloc (l8 rfl) rfl rfl fun g12 => ?_
  refine jg_store 0 rfl rfl rfl (l8 rfl) rfl rfl rfl rfl (l8 rfl) (r5 rfl) ?_
  refine jg_nils [(0, _), (1, _), (10, _), (11, _)] ⟨rfl, rfl, rfl, rfl, trivial⟩ ?_
  refine jk_sel (is := [0, 4]) (s2 rfl) rfl ?_
  refine jk_sn ?_
  refine jn_seq ?_
  refine jn_seq ?_
  refine jn_reg 2 ?_
  refine jg_mv rfl rfl rfl ?_
  refine jg_nils [(0, _), (10, _), (11, _), (27, _)] ⟨rfl, rfl, rfl, rfl, trivial⟩ ?_
  refine jk_sn ?_
  refine jn_block ?_
  refine jn_seq ?_
  refine jn_reg 3 ?_
  refine jg_y (fun w hs => yv_eql rfl rfl) rfl rfl ?_
  refine jg_as rfl rfl rfl ?_
  refine jg_nils [(0, _), (10, _), (11, _), (27, _), (28, _)] ⟨rfl, rfl, rfl, rfl, rfl, trivial⟩ ?_
  refine jk_sn ?_
  refine jn_cond rfl ?_ ?_
  · refine jn_reg 4 ?_
    refine jg_mv rfl rfl rfl ?_
    refine jg_lit (enc := encI) [500000, 2000000, 8000000, 30000000] rfl rfl rfl rfl rfl rfl rfl rfl fun hd13 => ?_
    refine jm_c rfl (fun v w hs hm => gen_Maker_Pick_c hm (hs.blkM (i := 0) rfl) (hs.argM Rha0_fl Oha0_fl) Oha0_fl (hs.row 0 rfl) (hs.offML 0 0 rfl rfl)) (fun _ => rfl) rfl rfl fun v14 q15 => ?_
    refine jg_y (fun w hs => yv_fieldAddr rfl) rfl rfl ?_
    refine jg_store 1 rfl rfl rfl (l1 rfl) rfl rfl rfl rfl (l8 rfl) (r3 rfl) ?_
    refine jg_nils [(10, _), (11, _)] ⟨rfl, rfl, trivial⟩ ?_
    refine jk_bn (jk_sn ?_)
    refine jn_seq ?_
    refine jn_reg 7 ?_
    refine jg_y (fun w hs => yv_load rfl (ldBB (hs.blkL (i := 1) rfl) rfl)) rfl rfl ?_
    refine jg_store 2 rfl rfl rfl (l8 rfl) rfl rfl rfl rfl (l8 rfl) (r3 rfl) ?_
    refine jg_nils [(10, _)] ⟨rfl, trivial⟩ ?_
    refine jk_sel (is := [2]) (s1 rfl) rfl ?_
    refine jk_sn ?_
    refine jn_ret ?_
    exact jk_ret1 rfl (fun w hs => .cell rfl (ldBB (hs.blkL (i := 0) rfl) rfl)) (fun w hs => ⟨(), rfl, hs.sel (is := []) rfl rfl⟩)
  refine jn_seq ?_
  refine jn_reg 5 ?_
  refine jg_y (fun w hs => yv_eql rfl rfl) rfl rfl ?_
  refine jg_as rfl rfl rfl ?_
  refine jg_nils [(0, _), (10, _), (11, _), (34, _)] ⟨rfl, rfl, rfl, rfl, trivial⟩ ?_
  refine jk_sn ?_
  refine jn_cond rfl ?_ ?_
  rotate_left
  · refine jn_skip ?_
    refine jk_bn (jk_sn ?_)
    refine jn_seq ?_
    refine jn_reg 7 ?_
    refine jg_y (fun w hs => yv_load rfl (ldBB (hs.blkL (i := 0) rfl) rfl)) rfl rfl ?_
    refine jg_store 1 rfl rfl rfl (l8 rfl) rfl rfl rfl rfl (l8 rfl) (r2 rfl) ?_
    refine jg_nils [(10, _)] ⟨rfl, trivial⟩ ?_
    refine jk_sn ?_
    refine jn_ret ?_
    exact jk_ret1 rfl (fun w hs => .cell rfl (ldBB (hs.blkL (i := 1) rfl) rfl)) (fun w hs => ⟨(), rfl, hs.sel (is := []) rfl rfl⟩)
  refine jn_reg 6 ?_
  refine jg_mv rfl rfl rfl ?_
  refine jg_lit (enc := encI) [100000, 400000, 700000] rfl rfl rfl rfl rfl rfl rfl rfl fun hd16 => ?_
  refine jm_c rfl (fun v w hs hm => gen_Maker_Pick_c hm (hs.blkM (i := 0) rfl) (hs.argM Rha0_fl Oha0_fl) Oha0_fl (hs.row 0 rfl) (hs.offML 0 0 rfl rfl)) (fun _ => rfl) rfl rfl fun v17 q18 => ?_
  refine jg_mv rfl rfl rfl ?_
  refine jg_lit (enc := encI) [(-100), 0, 50, 150] rfl rfl rfl rfl rfl rfl rfl rfl fun hd19 => ?_
  refine jm_c rfl (fun v w hs hm => gen_Maker_Pick_c hm (hs.blkM (i := 0) rfl) (hs.argM Rha0_fl Oha0_fl) Oha0_fl (hs.row 0 rfl) (hs.offML 0 0 rfl rfl)) (fun _ => rfl) rfl rfl fun v20 q21 => ?_
  refine jg_y (fun w hs => yv_fieldAddr rfl) rfl rfl ?_
  refine jg_store 2 rfl rfl rfl (l1 rfl) rfl rfl rfl rfl (l8 rfl) (r4 rfl) ?_
  refine jg_y (fun w hs => yv_fieldAddr rfl) rfl rfl ?_
  refine jg_store 2 rfl rfl rfl (l1 rfl) rfl rfl rfl rfl (l8 rfl) (r4 rfl) ?_
  refine jg_nils [(10, _), (11, _)] ⟨rfl, rfl, trivial⟩ ?_
  refine jk_sel (is := [2, 3]) (s2 rfl) rfl ?_
  refine jk_bn (jk_sn ?_)
  refine jn_seq ?_
  refine jn_reg 7 ?_
  refine jg_y (fun w hs => yv_load rfl (ldBB (hs.blkL (i := 0) rfl) rfl)) rfl rfl ?_
  refine jg_store 1 rfl rfl rfl (l8 rfl) rfl rfl rfl rfl (l8 rfl) (r2 rfl) ?_
  refine jg_nils [(10, _)] ⟨rfl, trivial⟩ ?_
  refine jk_sn ?_
  refine jn_ret ?_
  exact jk_ret1 rfl (fun w hs => .cell rfl (ldBB (hs.blkL (i := 1) rfl) rfl)) (fun w hs => ⟨(), rfl, hs.sel (is := []) rfl rfl⟩)
theorem gen_Maker_Layout_c {w : World} {a0 : HumpgenMaker} {a1 : Int} {ha0_fl : Hd} {b0 : Nat} {v : ((List Element) × Int)} (hm : gen_Maker_Layout a0 a1 = some v) (Hb : Blk w b0 82 [ha0_fl.v, .int .i64 a0.fn]) (Rha0_fl : Sl w ha0_fl encI a0.fl) (Oha0_fl : Offs ha0_fl [b0]) : Calls Try.prog 29 ([.pointer (some ⟨b0, 0, none⟩), .int .i64 a1] : List Value).toArray w (fun e w' => ∃ g : Hd, e = .returned (g.v) ∧ St w w' [.blk b0 82 [ha0_fl.v, .int .i64 v.2]] [(rowH g 87 8 Element.enc v.1)]) := by
  refine j_enter (vs := [.pointer (some ⟨b0, 0, none⟩), .int .i64 a1]) (R := fun (v : ((List Element) × Int)) (e : Ending) (w' : World) => ∃ g : Hd, e = .returned (g.v) ∧ St w w' [.blk b0 82 [ha0_fl.v, .int .i64 v.2]] [(rowH g 87 8 Element.enc v.1)]) Try.func29 rfl Try.ntmps29 rfl rfl (mk_st Hb) hm ?_
  unfold gen_Maker_Layout
  clear hm
  refine jn_seq ?_
  refine jn_reg 0 ?_
  refine jg_as rfl rfl rfl ?_
  refine jg_nils [(0, _), (1, _)] ⟨rfl, rfl, trivial⟩ ?_
  refine jk_sn ?_
  refine jn_seq ?_
  refine jn_reg 1 ?_
  refine jg_c0 rfl (fun v w hs hm => gen_word_c hm ) rfl rfl fun v1 => ?_
  refine jg_y (fun w hs => yv_build rfl (o8 rfl)) rfl rfl ?_
  refine jg_lit (enc := Element.enc) [(Element.mk 0 v1 (-1) 0 0 0 0 0)] rfl rfl rfl rfl rfl rfl rfl rfl fun hd2 => ?_
  refine jg_as rfl rfl rfl ?_
  refine jg_nils [(0, _), (1, _), (5, _)] ⟨rfl, rfl, rfl, trivial⟩ ?_
  refine jk_sn ?_
  refine jn_seq ?_
  refine jn_reg 2 ?_
  refine jg_y (fun w hs => yv_buildA rfl (o2 rfl)) rfl rfl ?_
  refine jg_lit (enc := Arr2Int.enc) [(Arr2Int.mk 0 0)] rfl rfl rfl rfl rfl rfl rfl rfl fun hd3 => ?_
  refine jg_as rfl rfl rfl ?_
  refine jg_nils [(0, _), (1, _), (5, _), (6, _)] ⟨rfl, rfl, rfl, rfl, trivial⟩ ?_
  refine jk_sn ?_
  refine jn_seq ?_
  refine jn_reg 3 ?_
  refine jg_mv rfl rfl rfl ?_
  refine jg_mv rfl rfl rfl ?_
  refine jg_y (fun w hs => yv_add_w rfl rfl) rfl rfl ?_
  refine jm_c rfl (fun v w hs hm => gen_Maker_Next_c hm (hs.blkM (i := 0) rfl) (hs.argM Rha0_fl Oha0_fl) Oha0_fl) (fun _ => rfl) rfl rfl fun v4 q5 => ?_
  refine jg_as rfl rfl rfl ?_
  refine jg_nils [(0, _), (5, _), (6, _), (7, _)] ⟨rfl, rfl, rfl, rfl, trivial⟩ ?_
  refine jk_sn ?_
  refine jn_seq ?_
  refine jn_block ?_
  refine jn_lp (n := big) (fun (s : ((List Element) × (List Arr2Int) × Int × Int)) (g : (Hd × Hd)) => [(0, .pointer (some ⟨b0, 0, none⟩)), (5, g.1.v), (6, g.2.v), (7, .int .i64 s.2.2.1)]) (fun (s : ((List Element) × (List Arr2Int) × Int × Int)) (g : (Hd × Hd)) => [(Res.blk b0 82 [ha0_fl.v, .int .i64 s.2.2.2])]) (fun (s : ((List Element) × (List Arr2Int) × Int × Int)) (g : (Hd × Hd)) => [(rowH g.1 87 8 Element.enc s.1), (rowH g.2 88 2 Arr2Int.enc s.2.1)]) (([(Element.mk 0 v1 (-1) 0 0 0 0 0)] : List Element), ([(Arr2Int.mk 0 0)] : List Arr2Int), v4.1, v4.2) (hd2, hd3) [1, 0] ⟨rfl, rfl, rfl, rfl, trivial⟩ rfl rfl rfl ?_
  intro z6 q7 n10 k8 H9
  refine jn_seq ?_
  refine jn_seq ?_
  refine jn_reg 4 ?_
  refine jg_mv rfl rfl rfl ?_
  refine jg_y (fun w hs => yv_ln rfl (hs.row 1 rfl)) rfl rfl ?_
  refine jg_y (fun w hs => yv_gtr rfl rfl) rfl rfl ?_
  refine jg_nils [(0, _), (5, _), (6, _), (7, _), (22, _)] ⟨rfl, rfl, rfl, rfl, rfl, trivial⟩ ?_
  refine jk_sn ?_
  refine jn_cond rfl ?_ ?_
  rotate_left
  · refine jn_exit ?_
    refine jk_se (jk_le (jk_bh (jk_sn ?_)))
    refine jn_seq ?_
    refine jn_reg 18 ?_
    refine jg_mv rfl rfl rfl ?_
    refine jg_as rfl rfl rfl ?_
    refine jg_nils [(4, _)] ⟨rfl, trivial⟩ ?_
    refine jk_sn ?_
    refine jn_ret ?_
    exact jk_ret1 rfl (fun w hs => .tmp rfl) (fun w hs => ⟨q7.1, rfl, hs.sel (is := [0]) rfl rfl⟩)
  refine jn_skip ?_
  refine jk_sn ?_
  refine jn_block ?_
  refine jn_seq ?_
  refine jn_reg 5 ?_
  refine jg_mv rfl rfl rfl ?_
  refine jg_ix fun x11 h12 => ?_
  refine jg_y (fun w hs => yv_ix rfl rfl (hs.row 1 rfl) h12) rfl rfl ?_
  refine jg_y (fun w hs => yv_eS rfl (hs.row 1 rfl) h12.1 (l2 rfl) rfl) rfl rfl ?_
  refine jg_alloc (l2 rfl) rfl rfl fun g13 => ?_
  refine jg_store 0 rfl rfl rfl (l2 rfl) rfl rfl rfl rfl (l2 rfl) (r3 rfl) ?_
  refine jg_nils [(0, _), (5, _), (6, _), (7, _), (8, _)] ⟨rfl, rfl, rfl, rfl, rfl, trivial⟩ ?_
  refine jk_sn ?_
  refine jn_seq ?_
  refine jn_reg 6 ?_
  refine jg_mv rfl rfl rfl ?_
  refine jg_ck fun h14 => ?_
  refine jg_y (fun w hs => yv_lo rfl rfl (hs.row 2 rfl) (of_decide_eq_true h14)) rfl rfl ?_
  refine jg_as rfl rfl rfl ?_
  refine jg_nils [(0, _), (5, _), (6, _), (7, _), (8, _)] ⟨rfl, rfl, rfl, rfl, rfl, trivial⟩ ?_
  refine jk_rlo 2 rfl (of_decide_eq_true h14) (r3 rfl) ?_
  refine jk_sn ?_
  refine jn_join (fun (s : ((List Element) × Int × Int × Int)) (g : Hd) => [(0, .pointer (some ⟨b0, 0, none⟩)), (5, g.v), (6, (q7.2.lo (Int.toNat 1) 2).v), (7, .int .i64 z6.2.2.1), (8, .pointer (some ⟨g13, 0, none⟩))]) (fun (s : ((List Element) × Int × Int × Int)) (g : Hd) => [(Res.blk b0 82 [ha0_fl.v, .int .i64 s.2.2.2])]) (fun (s : ((List Element) × Int × Int × Int)) (g : Hd) => [(rowH g 87 8 Element.enc s.1), (rowH (q7.2.lo (Int.toNat 1) 2) 88 2 Arr2Int.enc (z6.2.1.drop (Int.toNat 1))), (Res.blk g13 88 [.int .i64 s.2.1, .int .i64 s.2.2.1])]) ?_ ?_
  rotate_left
  · intro k17 H18
    refine jn_seq ?_
    refine jn_reg 7 ?_
    refine jg_mv rfl rfl rfl ?_
    refine jm_c rfl (fun v w hs hm => gen_Maker_Next_c hm (hs.blkM (i := 0) rfl) (hs.argM Rha0_fl Oha0_fl) Oha0_fl) (fun _ => rfl) rfl rfl fun v32 q33 => ?_
    refine jg_as rfl rfl rfl ?_
    refine jg_nils [(0, _), (5, _), (6, _), (7, _), (8, _), (9, _)] ⟨rfl, rfl, rfl, rfl, rfl, rfl, trivial⟩ ?_
    refine jk_sn ?_
    refine jn_block ?_
    refine jn_lp (n := big) (fun (s : ((List Element) × Int × Int × Int × Int)) (g : Hd) => [(0, .pointer (some ⟨b0, 0, none⟩)), (5, g.v), (6, (q7.2.lo (Int.toNat 1) 2).v), (7, .int .i64 z6.2.2.1), (8, .pointer (some ⟨g13, 0, none⟩)), (9, .int .i64 s.2.2.2.1)]) (fun (s : ((List Element) × Int × Int × Int × Int)) (g : Hd) => [(Res.blk b0 82 [ha0_fl.v, .int .i64 s.2.2.2.2])]) (fun (s : ((List Element) × Int × Int × Int × Int)) (g : Hd) => [(rowH g 87 8 Element.enc s.1), (rowH (q7.2.lo (Int.toNat 1) 2) 88 2 Arr2Int.enc (z6.2.1.drop (Int.toNat 1))), (Res.blk g13 88 [.int .i64 s.2.1, .int .i64 s.2.2.1])]) (z6.1, x11.a0, x11.a1, v32.1, v32.2) q7.1 [1, 2, 0] ⟨rfl, rfl, rfl, rfl, rfl, rfl, trivial⟩ rfl rfl rfl ?_
    intro z34 q35 n38 k36 H37
    refine jn_seq ?_
    refine jn_seq ?_
    refine jn_reg 8 ?_
    refine jg_mv rfl rfl rfl ?_
    refine jg_y (fun w hs => yv_gtr rfl rfl) rfl rfl ?_
    refine jg_nils [(0, _), (5, _), (6, _), (7, _), (8, _), (9, _), (31, _)] ⟨rfl, rfl, rfl, rfl, rfl, rfl, rfl, trivial⟩ ?_
    refine jk_sn ?_
    refine jn_cond rfl ?_ ?_
    rotate_left
    · refine jn_exit ?_
      refine jk_se (jk_le (jk_bh ?_))
      exact jk_use H18 (z34.1, z34.2.1, z34.2.2.1, z34.2.2.2.2) q35 [0, 1, 2] ⟨rfl, rfl, rfl, rfl, rfl, trivial⟩ rfl rfl rfl
    refine jn_skip ?_
    refine jk_sn ?_
    refine jn_seq ?_
    refine jn_block ?_
    refine jn_seq ?_
    refine jn_reg 10 ?_
    refine jg_mv rfl rfl rfl ?_
    refine jg_lit (enc := encI) [1, 1, 2] rfl rfl rfl rfl rfl rfl rfl rfl fun hd39 => ?_
    refine jm_c rfl (fun v w hs hm => gen_Maker_Pick_c hm (hs.blkM (i := 0) rfl) (hs.argM Rha0_fl Oha0_fl) Oha0_fl (hs.row 0 rfl) (hs.offML 0 0 rfl rfl)) (fun _ => rfl) rfl rfl fun v40 q41 => ?_
    refine jg_as rfl rfl rfl ?_
    refine jg_nils [(0, _), (5, _), (6, _), (7, _), (8, _), (9, _), (10, _)] ⟨rfl, rfl, rfl, rfl, rfl, rfl, rfl, trivial⟩ ?_
    refine jk_sn ?_
    refine jn_seq ?_
    refine jn_reg 11 ?_
    refine jg_mv rfl rfl rfl ?_
    refine jg_mv rfl rfl rfl ?_
    refine jg_mv rfl rfl rfl ?_
    refine jg_mv rfl rfl rfl ?_
    refine jg_y (fun w hs => yv_ln rfl (hs.row 1 rfl)) rfl rfl ?_
    refine jg_y (fun w hs => yv_ixA rfl rfl (by decide)) rfl rfl ?_
    refine jg_y (fun w hs => yv_load rfl (ld1B (hs.blkL (i := 3) rfl) rfl)) rfl rfl ?_
    refine jg_y (fun w hs => yv_ixA rfl rfl (by decide)) rfl rfl ?_
    refine jg_y (fun w hs => yv_load rfl (ld1B (hs.blkL (i := 3) rfl) rfl)) rfl rfl ?_
    refine jm_c rfl (fun v w hs hm => gen_Maker_element_c hm (hs.blkM (i := 0) rfl) (hs.argM Rha0_fl Oha0_fl) Oha0_fl) (fun _ => rfl) rfl rfl fun v42 q43 => ?_
    refine jg_lit (enc := Element.enc) [v42.1] rfl rfl rfl rfl rfl rfl rfl rfl fun hd44 => ?_
    refine jg_append 2 rfl rfl rfl (fun w hs => (hs.row 0 rfl)) rfl rfl rfl fun y45 hd46 => ?_
    refine jg_L (r5 rfl) ?_
    refine jg_as rfl rfl rfl ?_
    refine jg_nils [(0, _), (5, _), (6, _), (7, _), (8, _), (9, _)] ⟨rfl, rfl, rfl, rfl, rfl, rfl, trivial⟩ ?_
    refine jk_sel (is := [2, 3, 4]) (s3 rfl) rfl ?_
    refine jk_sn ?_
    refine jn_reg 12 ?_
    refine jg_mv rfl rfl rfl ?_
    refine jg_y (fun w hs => yv_ln rfl (hs.row 0 rfl)) rfl rfl ?_
    refine jg_y (fun w hs => yv_sub_w rfl rfl) rfl rfl ?_
    refine jg_y (fun w hs => yv_buildA rfl (o2 rfl)) rfl rfl ?_
    refine jg_store 2 rfl rfl rfl (l2 rfl) rfl rfl rfl rfl (l2 rfl) (r3 rfl) ?_
    refine jg_nils [(0, _), (5, _), (6, _), (7, _), (8, _), (9, _)] ⟨rfl, rfl, rfl, rfl, rfl, rfl, trivial⟩ ?_
    refine jk_bn (jk_sn ?_)
    refine jn_reg 9 ?_
    refine jg_mv rfl rfl rfl ?_
    refine jg_y (fun w hs => yv_sub_w rfl rfl) rfl rfl ?_
    refine jg_as rfl rfl rfl ?_
    refine jg_nils [(0, _), (5, _), (6, _), (7, _), (8, _), (9, _)] ⟨rfl, rfl, rfl, rfl, rfl, rfl, trivial⟩ ?_
    exact jk_use H37 (y45, w64 ((y45.length : Int) - 1), 0, w64 (z34.2.2.2.1 - 1), v42.2) hd46 [0, 1, 2] ⟨rfl, rfl, rfl, rfl, rfl, rfl, trivial⟩ rfl rfl rfl
  intro z15 q16
  refine jn_seq ?_
  refine jn_seq ?_
  refine jn_reg 13 ?_
  refine jg_mv rfl rfl rfl ?_
  refine jg_y (fun w hs => yv_gtr rfl rfl) rfl rfl ?_
  refine jg_nils [(0, _), (5, _), (6, _), (7, _), (8, _), (54, _)] ⟨rfl, rfl, rfl, rfl, rfl, rfl, trivial⟩ ?_
  refine jk_sn ?_
  refine jn_cond rfl ?_ ?_
  rotate_left
  · refine jn_skip ?_
    refine jk_sn ?_
    refine jn_reg 17 ?_
    refine jg_mv rfl rfl rfl ?_
    refine jg_mv rfl rfl rfl ?_
    refine jg_mv rfl rfl rfl ?_
    refine jg_y (fun w hs => yv_ln rfl (hs.row 0 rfl)) rfl rfl ?_
    refine jg_y (fun w hs => yv_ixA rfl rfl (by decide)) rfl rfl ?_
    refine jg_y (fun w hs => yv_load rfl (ld1B (hs.blkL (i := 2) rfl) rfl)) rfl rfl ?_
    refine jg_y (fun w hs => yv_ixA rfl rfl (by decide)) rfl rfl ?_
    refine jg_y (fun w hs => yv_load rfl (ld1B (hs.blkL (i := 2) rfl) rfl)) rfl rfl ?_
    refine jm_c rfl (fun v w hs hm => gen_Maker_element_c hm (hs.blkM (i := 0) rfl) (hs.argM Rha0_fl Oha0_fl) Oha0_fl) (fun _ => rfl) rfl rfl fun v27 q28 => ?_
    refine jg_lit (enc := Element.enc) [v27.1] rfl rfl rfl rfl rfl rfl rfl rfl fun hd29 => ?_
    refine jg_append 1 rfl rfl rfl (fun w hs => (hs.row 0 rfl)) rfl rfl rfl fun y30 hd31 => ?_
    refine jg_L (r4 rfl) ?_
    refine jg_as rfl rfl rfl ?_
    refine jg_nils [(0, _), (5, _), (6, _), (7, _)] ⟨rfl, rfl, rfl, rfl, trivial⟩ ?_
    refine jk_sel (is := [1, 2]) (s2 rfl) rfl ?_
    refine jk_bn ?_
    exact jk_use H9 (y30, z6.2.1.drop (Int.toNat 1), z6.2.2.1, v27.2) (hd31, (q7.2.lo (Int.toNat 1) 2)) [0, 1] ⟨rfl, rfl, rfl, rfl, trivial⟩ rfl rfl rfl
  refine jn_seq ?_
  refine jn_reg 14 ?_
  refine jg_mv rfl rfl rfl ?_
  refine jg_y (fun w hs => yv_sub_w rfl rfl) rfl rfl ?_
  refine jg_as rfl rfl rfl ?_
  refine jg_nils [(0, _), (5, _), (6, _), (7, _), (8, _)] ⟨rfl, rfl, rfl, rfl, rfl, trivial⟩ ?_
  refine jk_sn ?_
  refine jn_seq ?_
  refine jn_reg 15 ?_
  refine jg_mv rfl rfl rfl ?_
  refine jg_mv rfl rfl rfl ?_
  refine jg_mv rfl rfl rfl ?_
  refine jg_y (fun w hs => yv_ln rfl (hs.row 0 rfl)) rfl rfl ?_
  refine jg_y (fun w hs => yv_ixA rfl rfl (by decide)) rfl rfl ?_
  refine jg_y (fun w hs => yv_load rfl (ld1B (hs.blkL (i := 2) rfl) rfl)) rfl rfl ?_
  refine jg_y (fun w hs => yv_ixA rfl rfl (by decide)) rfl rfl ?_
  refine jg_y (fun w hs => yv_load rfl (ld1B (hs.blkL (i := 2) rfl) rfl)) rfl rfl ?_
  refine jm_c rfl (fun v w hs hm => gen_Maker_element_c hm (hs.blkM (i := 0) rfl) (hs.argM Rha0_fl Oha0_fl) Oha0_fl) (fun _ => rfl) rfl rfl fun v19 q20 => ?_
  refine jg_lit (enc := Element.enc) [v19.1] rfl rfl rfl rfl rfl rfl rfl rfl fun hd21 => ?_
  refine jg_append 1 rfl rfl rfl (fun w hs => (hs.row 0 rfl)) rfl rfl rfl fun y22 hd23 => ?_
  refine jg_L (r4 rfl) ?_
  refine jg_as rfl rfl rfl ?_
  refine jg_nils [(0, _), (5, _), (6, _), (7, _)] ⟨rfl, rfl, rfl, rfl, trivial⟩ ?_
  refine jk_sel (is := [1, 2]) (s2 rfl) rfl ?_
  refine jk_sn ?_
  refine jn_seq ?_
  refine jn_reg 16 ?_
  refine jg_mv rfl rfl rfl ?_
  refine jg_mv rfl rfl rfl ?_
  refine jg_y (fun w hs => yv_ln rfl (hs.row 0 rfl)) rfl rfl ?_
  refine jg_y (fun w hs => yv_sub_w rfl rfl) rfl rfl ?_
  refine jg_y (fun w hs => yv_buildA rfl (o2 rfl)) rfl rfl ?_
  refine jg_mv rfl rfl rfl ?_
  refine jg_y (fun w hs => yv_ln rfl (hs.row 0 rfl)) rfl rfl ?_
  refine jg_y (fun w hs => yv_sub_w rfl rfl) rfl rfl ?_
  refine jg_y (fun w hs => yv_buildA rfl (o2 rfl)) rfl rfl ?_
  refine jg_lit (enc := Arr2Int.enc) [(Arr2Int.mk (w64 ((y22.length : Int) - 1)) 1), (Arr2Int.mk (w64 ((y22.length : Int) - 1)) 2)] rfl rfl rfl rfl rfl rfl rfl rfl fun hd24 => ?_
  refine jg_append 2 rfl rfl rfl (fun w hs => (hs.row 0 rfl)) rfl rfl rfl fun y25 hd26 => ?_
  refine jg_L (r3 rfl) ?_
  refine jg_as rfl rfl rfl ?_
  refine jg_nils [(0, _), (5, _), (6, _), (7, _)] ⟨rfl, rfl, rfl, rfl, trivial⟩ ?_
  refine jk_sn ?_
  refine jn_exit ?_
  refine jk_se (jk_bh ?_)
  exact jk_use H9 (y22, y25, w64 (z6.2.2.1 - 1), v19.2) (hd23, hd26) [1, 2] ⟨rfl, rfl, rfl, rfl, trivial⟩ rfl rfl rfl
theorem gen_Maker_SpoilLayout_c {w : World} {a0 : HumpgenMaker} {a1 : (List Element)} {ha0_fl : Hd} {b0 : Nat} {ha1 : Hd} {v : ((List Element) × Int)} (hm : gen_Maker_SpoilLayout a0 a1 = some v) (Hb : Blk w b0 82 [ha0_fl.v, .int .i64 a0.fn]) (Rha0_fl : Sl w ha0_fl encI a0.fl) (Oha0_fl : Offs ha0_fl [b0]) (Rha1 : Sl w ha1 Element.enc a1) (Oha1 : Offs ha1 [b0]) : Calls Try.prog 30 ([.pointer (some ⟨b0, 0, none⟩), ha1.v] : List Value).toArray w (fun e w' => ∃ g : Hd, e = .returned (g.v) ∧ St w w' [.blk b0 82 [ha0_fl.v, .int .i64 v.2]] [(rowH g 87 8 Element.enc v.1)]) := by
  refine j_enter (vs := [.pointer (some ⟨b0, 0, none⟩), ha1.v]) (R := fun (v : ((List Element) × Int)) (e : Ending) (w' : World) => ∃ g : Hd, e = .returned (g.v) ∧ St w w' [.blk b0 82 [ha0_fl.v, .int .i64 v.2]] [(rowH g 87 8 Element.enc v.1)]) Try.func30 rfl Try.ntmps30 rfl rfl (mk_st Hb) hm ?_
  unfold gen_Maker_SpoilLayout
  clear hm
  refine jn_seq ?_
  refine jn_reg 0 ?_
  refine jg_as rfl rfl rfl ?_
  refine jg_nils [(0, _), (1, _)] ⟨rfl, rfl, trivial⟩ ?_
  refine jk_sn ?_
  refine jn_seq ?_
  refine jn_reg 1 ?_
  refine jg_lit0 (enc := Element.enc) rfl rfl fun hd1 => ?_
  refine jg_mv rfl rfl rfl ?_
  refine jg_append 0 rfl rfl rfl (fun w hs => (hs.argM Rha1 Oha1)) rfl rfl rfl fun y2 hd3 => ?_
  refine jg_L (r1 rfl) ?_
  refine jg_as rfl rfl rfl ?_
  refine jg_nils [(0, _), (1, _)] ⟨rfl, rfl, trivial⟩ ?_
  refine jk_sn ?_
  refine jn_seq ?_
  refine jn_seq ?_
  refine jn_reg 2 ?_
  refine jg_mv rfl rfl rfl ?_
  refine jg_y (fun w hs => yv_ln rfl (hs.row 0 rfl)) rfl rfl ?_
  refine jg_y (fun w hs => yv_eql rfl rfl) rfl rfl ?_
  refine jg_nils [(0, _), (1, _), (12, _)] ⟨rfl, rfl, rfl, trivial⟩ ?_
  refine jk_sn ?_
  refine jn_cond rfl ?_ ?_
  · refine jn_seq ?_
    refine jn_reg 3 ?_
    refine jg_mv rfl rfl rfl ?_
    refine jg_as rfl rfl rfl ?_
    refine jg_nils [(4, _)] ⟨rfl, trivial⟩ ?_
    refine jk_sn ?_
    refine jn_ret ?_
    refine jk_sr ?_
    exact jk_ret1 rfl (fun w hs => .tmp rfl) (fun w hs => ⟨hd3, rfl, hs.sel (is := [0]) rfl rfl⟩)
  refine jn_skip ?_
  refine jk_sn ?_
  refine jn_seq ?_
  refine jn_reg 4 ?_
  refine jg_mv rfl rfl rfl ?_
  refine jg_mv rfl rfl rfl ?_
  refine jg_y (fun w hs => yv_ln rfl (hs.row 0 rfl)) rfl rfl ?_
  refine jm_c rfl (fun v w hs hm => gen_Maker_Next_c hm (hs.blkM (i := 0) rfl) (hs.argM Rha0_fl Oha0_fl) Oha0_fl) (fun _ => rfl) rfl rfl fun v4 q5 => ?_
  refine jg_as rfl rfl rfl ?_
  refine jg_nils [(0, _), (1, _), (5, _)] ⟨rfl, rfl, rfl, trivial⟩ ?_
  refine jk_sn ?_
  refine jn_seq ?_
  refine jn_reg 5 ?_
  refine jg_mv rfl rfl rfl ?_
  refine jg_mv rfl rfl rfl ?_
  refine jg_ix fun x6 h7 => ?_
  refine jg_y (fun w hs => yv_ix rfl rfl (hs.row 0 rfl) h7) rfl rfl ?_
  refine jg_as rfl rfl rfl ?_
  refine jg_nils [(0, _), (1, _), (5, _), (6, _)] ⟨rfl, rfl, rfl, rfl, trivial⟩ ?_
  refine jk_sn ?_
  refine jn_seq ?_
  refine jn_seq ?_
  refine jn_reg 6 ?_
  refine jg_mv rfl rfl rfl ?_
  refine jm_c rfl (fun v w hs hm => gen_Maker_Next_c hm (hs.blkM (i := 0) rfl) (hs.argM Rha0_fl Oha0_fl) Oha0_fl) (fun _ => rfl) rfl rfl fun v8 q9 => ?_
  refine jg_nils [(0, _), (1, _), (5, _), (6, _), (22, _)] ⟨rfl, rfl, rfl, rfl, rfl, trivial⟩ ?_
  refine jk_sn ?_
  refine jn_block ?_
  refine jn_seq ?_
  refine jn_reg 7 ?_
  refine jg_y (fun w hs => yv_eql rfl rfl) rfl rfl ?_
  refine jg_as rfl rfl rfl ?_
  refine jg_nils [(0, _), (1, _), (5, _), (6, _), (22, _), (23, _)] ⟨rfl, rfl, rfl, rfl, rfl, rfl, trivial⟩ ?_
  refine jk_sn ?_
  refine jn_cond rfl ?_ ?_
  · refine jn_reg 8 ?_
    refine jg_mv rfl rfl rfl ?_
    refine jg_mv rfl rfl rfl ?_
    refine jg_lit (enc := encI) [(-1), 0, 1, 2, 3, 4, 5] rfl rfl rfl rfl rfl rfl rfl rfl fun hd10 => ?_
    refine jm_c rfl (fun v w hs hm => gen_Maker_Pick_c hm (hs.blkM (i := 0) rfl) (hs.argM Rha0_fl Oha0_fl) Oha0_fl (hs.row 0 rfl) (hs.offML 0 0 rfl rfl)) (fun _ => rfl) rfl rfl fun v11 q12 => ?_
    refine jg_y (fun w hs => yv_nilE rfl (hs.row 1 rfl) h7.1) rfl rfl ?_
    refine jg_y (fun w hs => yv_ef rfl (hs.row 1 rfl) h7.1) rfl rfl ?_
    refine jg_storeE 1 (a' := (Element.mk v11.1 x6.Name x6.Parent x6.Side x6.Length x6.Grade x6.Curve x6.Power)) rfl rfl h7.1 rfl (l1 rfl) rfl rfl rfl rfl fun y13 => ?_
    refine jg_L (r2 rfl) ?_
    refine jg_nils [(1, _)] ⟨rfl, trivial⟩ ?_
    refine jk_bn (jk_sn ?_)
    refine jn_seq ?_
    refine jn_reg 27 ?_
    refine jg_mv rfl rfl rfl ?_
    refine jg_as rfl rfl rfl ?_
    refine jg_nils [(4, _)] ⟨rfl, trivial⟩ ?_
    refine jk_sn ?_
    refine jn_ret ?_
    exact jk_ret1 rfl (fun w hs => .tmp rfl) (fun w hs => ⟨hd3, rfl, hs.sel (is := [1]) rfl rfl⟩)
  refine jn_seq ?_
  refine jn_reg 9 ?_
  refine jg_y (fun w hs => yv_eql rfl rfl) rfl rfl ?_
  refine jg_as rfl rfl rfl ?_
  refine jg_nils [(0, _), (1, _), (5, _), (6, _), (22, _), (31, _)] ⟨rfl, rfl, rfl, rfl, rfl, rfl, trivial⟩ ?_
  refine jk_sn ?_
  refine jn_cond rfl ?_ ?_
  · refine jn_reg 10 ?_
    refine jg_mv rfl rfl rfl ?_
    refine jg_lit (enc := encZ) [⟨#[]⟩, ⟨#[65]⟩, ⟨#[101, 48, 48, 48]⟩, ⟨#[101, 48, 48, 49]⟩, ⟨#[97, 98, 99, 100, 101, 102, 103, 104, 105, 106, 107, 108, 109]⟩, ⟨#[97, 58, 108, 101, 102, 116]⟩] rfl rfl rfl rfl rfl rfl rfl rfl fun hd14 => ?_
    refine jg_mv rfl rfl rfl ?_
    refine jm_c rfl (fun v w hs hm => gen_Maker_Next_c hm (hs.blkM (i := 0) rfl) (hs.argM Rha0_fl Oha0_fl) Oha0_fl) (fun _ => rfl) rfl rfl fun v15 q16 => ?_
    refine jg_ix fun x17 h18 => ?_
    refine jg_y (fun w hs => yv_ix rfl rfl (hs.row 0 rfl) h18) rfl rfl ?_
    refine jg_y (fun w hs => yv_e1 rfl (hs.row 0 rfl) h18.1 rfl) rfl rfl ?_
    refine jg_y (fun w hs => yv_nilE rfl (hs.row 1 rfl) h7.1) rfl rfl ?_
    refine jg_y (fun w hs => yv_ef rfl (hs.row 1 rfl) h7.1) rfl rfl ?_
    refine jg_storeE 1 (a' := (Element.mk x6.Kind x17 x6.Parent x6.Side x6.Length x6.Grade x6.Curve x6.Power)) rfl rfl h7.1 rfl (l1 rfl) rfl rfl rfl rfl fun y19 => ?_
    refine jg_L (r2 rfl) ?_
    refine jg_nils [(1, _)] ⟨rfl, trivial⟩ ?_
    refine jk_bn (jk_sn ?_)
    refine jn_seq ?_
    refine jn_reg 27 ?_
    refine jg_mv rfl rfl rfl ?_
    refine jg_as rfl rfl rfl ?_
    refine jg_nils [(4, _)] ⟨rfl, trivial⟩ ?_
    refine jk_sn ?_
    refine jn_ret ?_
    exact jk_ret1 rfl (fun w hs => .tmp rfl) (fun w hs => ⟨hd3, rfl, hs.sel (is := [1]) rfl rfl⟩)
  refine jn_seq ?_
  refine jn_reg 11 ?_
  refine jg_y (fun w hs => yv_eql rfl rfl) rfl rfl ?_
  refine jg_as rfl rfl rfl ?_
  refine jg_nils [(0, _), (1, _), (5, _), (6, _), (22, _), (41, _)] ⟨rfl, rfl, rfl, rfl, rfl, rfl, trivial⟩ ?_
  refine jk_sn ?_
  refine jn_cond rfl ?_ ?_
  · refine jn_reg 12 ?_
    refine jg_mv rfl rfl rfl ?_
    refine jg_mv rfl rfl rfl ?_
    refine jg_mv rfl rfl rfl ?_
    refine jg_mv rfl rfl rfl ?_
    refine jg_y (fun w hs => yv_add_w rfl rfl) rfl rfl ?_
    refine jg_mv rfl rfl rfl ?_
    refine jg_y (fun w hs => yv_ln rfl (hs.row 0 rfl)) rfl rfl ?_
    refine jg_lit (enc := encI) [(-1), 0, 1, v4.1, w64 (v4.1 + 1), (y2.length : Int)] rfl rfl rfl rfl rfl rfl rfl rfl fun hd20 => ?_
    refine jm_c rfl (fun v w hs hm => gen_Maker_Pick_c hm (hs.blkM (i := 0) rfl) (hs.argM Rha0_fl Oha0_fl) Oha0_fl (hs.row 0 rfl) (hs.offML 0 0 rfl rfl)) (fun _ => rfl) rfl rfl fun v21 q22 => ?_
    refine jg_y (fun w hs => yv_nilE rfl (hs.row 1 rfl) h7.1) rfl rfl ?_
    refine jg_y (fun w hs => yv_ef rfl (hs.row 1 rfl) h7.1) rfl rfl ?_
    refine jg_storeE 1 (a' := (Element.mk x6.Kind x6.Name v21.1 x6.Side x6.Length x6.Grade x6.Curve x6.Power)) rfl rfl h7.1 rfl (l1 rfl) rfl rfl rfl rfl fun y23 => ?_
    refine jg_L (r2 rfl) ?_
    refine jg_nils [(1, _)] ⟨rfl, trivial⟩ ?_
    refine jk_bn (jk_sn ?_)
    refine jn_seq ?_
    refine jn_reg 27 ?_
    refine jg_mv rfl rfl rfl ?_
    refine jg_as rfl rfl rfl ?_
    refine jg_nils [(4, _)] ⟨rfl, trivial⟩ ?_
    refine jk_sn ?_
    refine jn_ret ?_
    exact jk_ret1 rfl (fun w hs => .tmp rfl) (fun w hs => ⟨hd3, rfl, hs.sel (is := [1]) rfl rfl⟩)
  refine jn_seq ?_
  refine jn_reg 13 ?_
  refine jg_y (fun w hs => yv_eql rfl rfl) rfl rfl ?_
  refine jg_as rfl rfl rfl ?_
  refine jg_nils [(0, _), (1, _), (5, _), (6, _), (22, _), (54, _)] ⟨rfl, rfl, rfl, rfl, rfl, rfl, trivial⟩ ?_
  refine jk_sn ?_
  refine jn_cond rfl ?_ ?_
  · refine jn_reg 14 ?_
    refine jg_mv rfl rfl rfl ?_
    refine jg_mv rfl rfl rfl ?_
    refine jg_lit (enc := encI) [(-1), 0, 1, 2, 3] rfl rfl rfl rfl rfl rfl rfl rfl fun hd24 => ?_
    refine jm_c rfl (fun v w hs hm => gen_Maker_Pick_c hm (hs.blkM (i := 0) rfl) (hs.argM Rha0_fl Oha0_fl) Oha0_fl (hs.row 0 rfl) (hs.offML 0 0 rfl rfl)) (fun _ => rfl) rfl rfl fun v25 q26 => ?_
    refine jg_y (fun w hs => yv_nilE rfl (hs.row 1 rfl) h7.1) rfl rfl ?_
    refine jg_y (fun w hs => yv_ef rfl (hs.row 1 rfl) h7.1) rfl rfl ?_
    refine jg_storeE 1 (a' := (Element.mk x6.Kind x6.Name x6.Parent v25.1 x6.Length x6.Grade x6.Curve x6.Power)) rfl rfl h7.1 rfl (l1 rfl) rfl rfl rfl rfl fun y27 => ?_
    refine jg_L (r2 rfl) ?_
    refine jg_nils [(1, _)] ⟨rfl, trivial⟩ ?_
    refine jk_bn (jk_sn ?_)
    refine jn_seq ?_
    refine jn_reg 27 ?_
    refine jg_mv rfl rfl rfl ?_
    refine jg_as rfl rfl rfl ?_
    refine jg_nils [(4, _)] ⟨rfl, trivial⟩ ?_
    refine jk_sn ?_
    refine jn_ret ?_
    exact jk_ret1 rfl (fun w hs => .tmp rfl) (fun w hs => ⟨hd3, rfl, hs.sel (is := [1]) rfl rfl⟩)
  refine jn_seq ?_
  refine jn_reg 15 ?_
  refine jg_y (fun w hs => yv_eql rfl rfl) rfl rfl ?_
  refine jg_as rfl rfl rfl ?_
  refine jg_nils [(0, _), (1, _), (5, _), (6, _), (22, _), (62, _)] ⟨rfl, rfl, rfl, rfl, rfl, rfl, trivial⟩ ?_
  refine jk_sn ?_
  refine jn_cond rfl ?_ ?_
  · refine jn_reg 16 ?_
    refine jg_mv rfl rfl rfl ?_
    refine jg_mv rfl rfl rfl ?_
    refine jg_lit (enc := encI) [0, 1, 1000000, 1000001, (-1)] rfl rfl rfl rfl rfl rfl rfl rfl fun hd28 => ?_
    refine jm_c rfl (fun v w hs hm => gen_Maker_Pick_c hm (hs.blkM (i := 0) rfl) (hs.argM Rha0_fl Oha0_fl) Oha0_fl (hs.row 0 rfl) (hs.offML 0 0 rfl rfl)) (fun _ => rfl) rfl rfl fun v29 q30 => ?_
    refine jg_y (fun w hs => yv_nilE rfl (hs.row 1 rfl) h7.1) rfl rfl ?_
    refine jg_y (fun w hs => yv_ef rfl (hs.row 1 rfl) h7.1) rfl rfl ?_
    refine jg_storeE 1 (a' := (Element.mk x6.Kind x6.Name x6.Parent x6.Side v29.1 x6.Grade x6.Curve x6.Power)) rfl rfl h7.1 rfl (l1 rfl) rfl rfl rfl rfl fun y31 => ?_
    refine jg_L (r2 rfl) ?_
    refine jg_nils [(1, _)] ⟨rfl, trivial⟩ ?_
    refine jk_bn (jk_sn ?_)
    refine jn_seq ?_
    refine jn_reg 27 ?_
    refine jg_mv rfl rfl rfl ?_
    refine jg_as rfl rfl rfl ?_
    refine jg_nils [(4, _)] ⟨rfl, trivial⟩ ?_
    refine jk_sn ?_
    refine jn_ret ?_
    exact jk_ret1 rfl (fun w hs => .tmp rfl) (fun w hs => ⟨hd3, rfl, hs.sel (is := [1]) rfl rfl⟩)
  refine jn_seq ?_
  refine jn_reg 17 ?_
  refine jg_y (fun w hs => yv_eql rfl rfl) rfl rfl ?_
  refine jg_as rfl rfl rfl ?_
  refine jg_nils [(0, _), (1, _), (5, _), (6, _), (22, _), (70, _)] ⟨rfl, rfl, rfl, rfl, rfl, rfl, trivial⟩ ?_
  refine jk_sn ?_
  refine jn_cond rfl ?_ ?_
  · refine jn_reg 18 ?_
    refine jg_mv rfl rfl rfl ?_
    refine jg_mv rfl rfl rfl ?_
    refine jg_lit (enc := encI) [(-10001), (-10000), 10000, 10001] rfl rfl rfl rfl rfl rfl rfl rfl fun hd32 => ?_
    refine jm_c rfl (fun v w hs hm => gen_Maker_Pick_c hm (hs.blkM (i := 0) rfl) (hs.argM Rha0_fl Oha0_fl) Oha0_fl (hs.row 0 rfl) (hs.offML 0 0 rfl rfl)) (fun _ => rfl) rfl rfl fun v33 q34 => ?_
    refine jg_y (fun w hs => yv_nilE rfl (hs.row 1 rfl) h7.1) rfl rfl ?_
    refine jg_y (fun w hs => yv_ef rfl (hs.row 1 rfl) h7.1) rfl rfl ?_
    refine jg_storeE 1 (a' := (Element.mk x6.Kind x6.Name x6.Parent x6.Side x6.Length v33.1 x6.Curve x6.Power)) rfl rfl h7.1 rfl (l1 rfl) rfl rfl rfl rfl fun y35 => ?_
    refine jg_L (r2 rfl) ?_
    refine jg_nils [(1, _)] ⟨rfl, trivial⟩ ?_
    refine jk_bn (jk_sn ?_)
    refine jn_seq ?_
    refine jn_reg 27 ?_
    refine jg_mv rfl rfl rfl ?_
    refine jg_as rfl rfl rfl ?_
    refine jg_nils [(4, _)] ⟨rfl, trivial⟩ ?_
    refine jk_sn ?_
    refine jn_ret ?_
    exact jk_ret1 rfl (fun w hs => .tmp rfl) (fun w hs => ⟨hd3, rfl, hs.sel (is := [1]) rfl rfl⟩)
  refine jn_seq ?_
  refine jn_reg 19 ?_
  refine jg_y (fun w hs => yv_eql rfl rfl) rfl rfl ?_
  refine jg_as rfl rfl rfl ?_
  refine jg_nils [(0, _), (1, _), (5, _), (6, _), (22, _), (78, _)] ⟨rfl, rfl, rfl, rfl, rfl, rfl, trivial⟩ ?_
  refine jk_sn ?_
  refine jn_cond rfl ?_ ?_
  · refine jn_reg 20 ?_
    refine jg_mv rfl rfl rfl ?_
    refine jg_mv rfl rfl rfl ?_
    refine jg_lit (enc := encI) [(-1), 5000, 5001] rfl rfl rfl rfl rfl rfl rfl rfl fun hd36 => ?_
    refine jm_c rfl (fun v w hs hm => gen_Maker_Pick_c hm (hs.blkM (i := 0) rfl) (hs.argM Rha0_fl Oha0_fl) Oha0_fl (hs.row 0 rfl) (hs.offML 0 0 rfl rfl)) (fun _ => rfl) rfl rfl fun v37 q38 => ?_
    refine jg_y (fun w hs => yv_nilE rfl (hs.row 1 rfl) h7.1) rfl rfl ?_
    refine jg_y (fun w hs => yv_ef rfl (hs.row 1 rfl) h7.1) rfl rfl ?_
    refine jg_storeE 1 (a' := (Element.mk x6.Kind x6.Name x6.Parent x6.Side x6.Length x6.Grade v37.1 x6.Power)) rfl rfl h7.1 rfl (l1 rfl) rfl rfl rfl rfl fun y39 => ?_
    refine jg_L (r2 rfl) ?_
    refine jg_nils [(1, _)] ⟨rfl, trivial⟩ ?_
    refine jk_bn (jk_sn ?_)
    refine jn_seq ?_
    refine jn_reg 27 ?_
    refine jg_mv rfl rfl rfl ?_
    refine jg_as rfl rfl rfl ?_
    refine jg_nils [(4, _)] ⟨rfl, trivial⟩ ?_
    refine jk_sn ?_
    refine jn_ret ?_
    exact jk_ret1 rfl (fun w hs => .tmp rfl) (fun w hs => ⟨hd3, rfl, hs.sel (is := [1]) rfl rfl⟩)
  refine jn_seq ?_
  refine jn_reg 21 ?_
  refine jg_y (fun w hs => yv_eql rfl rfl) rfl rfl ?_
  refine jg_as rfl rfl rfl ?_
  refine jg_nils [(0, _), (1, _), (5, _), (6, _), (22, _), (86, _)] ⟨rfl, rfl, rfl, rfl, rfl, rfl, trivial⟩ ?_
  refine jk_sn ?_
  refine jn_cond rfl ?_ ?_
  · refine jn_reg 22 ?_
    refine jg_mv rfl rfl rfl ?_
    refine jg_mv rfl rfl rfl ?_
    refine jg_lit (enc := encI) [(-1), 0, 1, 1000000000, 1000000001] rfl rfl rfl rfl rfl rfl rfl rfl fun hd40 => ?_
    refine jm_c rfl (fun v w hs hm => gen_Maker_Pick_c hm (hs.blkM (i := 0) rfl) (hs.argM Rha0_fl Oha0_fl) Oha0_fl (hs.row 0 rfl) (hs.offML 0 0 rfl rfl)) (fun _ => rfl) rfl rfl fun v41 q42 => ?_
    refine jg_y (fun w hs => yv_nilE rfl (hs.row 1 rfl) h7.1) rfl rfl ?_
    refine jg_y (fun w hs => yv_ef rfl (hs.row 1 rfl) h7.1) rfl rfl ?_
    refine jg_storeE 1 (a' := (Element.mk x6.Kind x6.Name x6.Parent x6.Side x6.Length x6.Grade x6.Curve v41.1)) rfl rfl h7.1 rfl (l1 rfl) rfl rfl rfl rfl fun y43 => ?_
    refine jg_L (r2 rfl) ?_
    refine jg_nils [(1, _)] ⟨rfl, trivial⟩ ?_
    refine jk_bn (jk_sn ?_)
    refine jn_seq ?_
    refine jn_reg 27 ?_
    refine jg_mv rfl rfl rfl ?_
    refine jg_as rfl rfl rfl ?_
    refine jg_nils [(4, _)] ⟨rfl, trivial⟩ ?_
    refine jk_sn ?_
    refine jn_ret ?_
    exact jk_ret1 rfl (fun w hs => .tmp rfl) (fun w hs => ⟨hd3, rfl, hs.sel (is := [1]) rfl rfl⟩)
  refine jn_seq ?_
  refine jn_reg 23 ?_
  refine jg_y (fun w hs => yv_eql rfl rfl) rfl rfl ?_
  refine jg_as rfl rfl rfl ?_
  refine jg_nils [(1, _), (5, _), (22, _), (94, _)] ⟨rfl, rfl, rfl, rfl, trivial⟩ ?_
  refine jk_sn ?_
  refine jn_cond rfl ?_ ?_
  · refine jn_draw (L' := [_]) 24 [0] [0, 1, 2, 3, 4, 5, 6] 127 511 [0, 0, 3, 0, 0, 16, 40, 68, 255] [0, 0, 3, 0, 0, 16, 56, 127, 255] [(0, true), (1, true), (2, true), (3, true), (4, true), (5, true), (6, true), (7, false), (8, false)] rfl (np_blk (np_seq np_rt)) (by kernel_rfl) (by kernel_rfl) (by kernel_rfl) (by kernel_rfl) (by kernel_rfl) (by kernel_rfl) (by kernel_rfl) (by kernel_rfl) ?_
    refine jd_mv rfl rfl rfl rfl ?_
    refine jd_mv rfl rfl rfl rfl ?_
    refine jd_ck fun h44 => ?_
    refine jd_y rfl (fun w hs => yv_hi rfl rfl (hs.row 0 rfl) (of_decide_eq_true h44)) rfl rfl ?_
    refine jd_mv rfl rfl rfl rfl ?_
    refine jd_mv rfl rfl rfl rfl ?_
    refine jd_y rfl (fun w hs => yv_add_w rfl rfl) rfl rfl ?_
    refine jd_ck fun h45 => ?_
    refine jd_y rfl (fun w hs => yv_lo rfl rfl (hs.row 0 rfl) (of_decide_eq_true h45)) rfl rfl ?_
    refine jd_h rfl ?_
    refine jg_appendHi 0 (of_decide_eq_true h44) rfl rfl rfl (fun w hs => (Sl.lo (sz := 8) (hs.row 0 rfl) (of_decide_eq_true h45))) rfl rfl rfl fun y46 hd47 => ?_
    refine jg_L (r1 rfl) ?_
    refine jg_nil ?_
    refine jk_df rfl ?_
    refine jf_h rfl ?_
    refine jg_as rfl rfl rfl ?_
    refine jg_nil ?_
    refine jk_df rfl ?_
    refine jf_nils [(1, _)] ⟨rfl, trivial⟩ ?_
    refine jk_bn (jk_sn ?_)
    refine jn_seq ?_
    refine jn_reg 27 ?_
    refine jg_mv rfl rfl rfl ?_
    refine jg_as rfl rfl rfl ?_
    refine jg_nils [(4, _)] ⟨rfl, trivial⟩ ?_
    refine jk_sn ?_
    refine jn_ret ?_
    exact jk_ret1 rfl (fun w hs => .tmp rfl) (fun w hs => ⟨hd47, rfl, hs.sel (is := [0]) rfl rfl⟩)
  refine jn_seq ?_
  refine jn_reg 25 ?_
  refine jg_y (fun w hs => yv_eql rfl rfl) rfl rfl ?_
  refine jg_as rfl rfl rfl ?_
  refine jg_nils [(1, _), (5, _), (104, _)] ⟨rfl, rfl, rfl, trivial⟩ ?_
  refine jk_sn ?_
  refine jn_cond rfl ?_ ?_
  rotate_left
  · refine jn_skip ?_
    refine jk_bn (jk_sn ?_)
    refine jn_seq ?_
    refine jn_reg 27 ?_
    refine jg_mv rfl rfl rfl ?_
    refine jg_as rfl rfl rfl ?_
    refine jg_nils [(4, _)] ⟨rfl, trivial⟩ ?_
    refine jk_sn ?_
    refine jn_ret ?_
    exact jk_ret1 rfl (fun w hs => .tmp rfl) (fun w hs => ⟨hd3, rfl, hs.sel (is := [0]) rfl rfl⟩)
  refine jn_reg 26 ?_
  refine jg_mv rfl rfl rfl ?_
  refine jg_mv rfl rfl rfl ?_
  refine jg_ck fun h48 => ?_
  refine jg_y (fun w hs => yv_hi rfl rfl (hs.row 0 rfl) (of_decide_eq_true h48)) rfl rfl ?_
  refine jg_as rfl rfl rfl ?_
  refine jg_nils [(1, _)] ⟨rfl, trivial⟩ ?_
  refine jk_rhi 0 rfl (of_decide_eq_true h48) (r1 rfl) ?_
  refine jk_bn (jk_sn ?_)
  refine jn_seq ?_
  refine jn_reg 27 ?_
  refine jg_mv rfl rfl rfl ?_
  refine jg_as rfl rfl rfl ?_
  refine jg_nils [(4, _)] ⟨rfl, trivial⟩ ?_
  refine jk_sn ?_
  refine jn_ret ?_
  exact jk_ret1 rfl (fun w hs => .tmp rfl) (fun w hs => ⟨(⟨hd3.A, (Int.toNat v4.1), hd3.c⟩ : Hd), rfl, hs.sel (is := [0]) rfl rfl⟩)
theorem gen_Maker_From_c {w : World} {a0 : HumpgenMaker} {a1 : Int} {a2 : Int} {ha0_fl : Hd} {b0 : Nat} {v : (Int × Int)} (hm : gen_Maker_From a0 a1 a2 = some v) (Hb : Blk w b0 82 [ha0_fl.v, .int .i64 a0.fn]) (Rha0_fl : Sl w ha0_fl encI a0.fl) (Oha0_fl : Offs ha0_fl [b0]) : Calls Try.prog 22 ([.pointer (some ⟨b0, 0, none⟩), .int .i64 a1, .int .i64 a2] : List Value).toArray w (fun e w' => ∃ g : Unit, e = .returned (.int .i64 v.1) ∧ St w w' [.blk b0 82 [ha0_fl.v, .int .i64 v.2]] []) := by
  refine j_enter (vs := [.pointer (some ⟨b0, 0, none⟩), .int .i64 a1, .int .i64 a2]) (R := fun (v : (Int × Int)) (e : Ending) (w' : World) => ∃ g : Unit, e = .returned (.int .i64 v.1) ∧ St w w' [.blk b0 82 [ha0_fl.v, .int .i64 v.2]] []) Try.func22 rfl Try.ntmps22 rfl rfl (mk_st Hb) hm ?_
  unfold gen_Maker_From
  clear hm
  refine jn_seq ?_
  refine jn_reg 0 ?_
  refine jg_as rfl rfl rfl ?_
  refine jg_nils [(0, _), (1, _), (2, _)] ⟨rfl, rfl, rfl, trivial⟩ ?_
  refine jk_sn ?_
  refine jn_seq ?_
  refine jn_reg 1 ?_
  refine jg_mv rfl rfl rfl ?_
  refine jg_mv rfl rfl rfl ?_
  refine jg_mv rfl rfl rfl ?_
  refine jg_mv rfl rfl rfl ?_
  refine jg_y (fun w hs => yv_sub_w rfl rfl) rfl rfl ?_
  refine jg_y (fun w hs => yv_add_w rfl rfl) rfl rfl ?_
  refine jm_c rfl (fun v w hs hm => gen_Maker_Next_c hm (hs.blkM (i := 0) rfl) (hs.argM Rha0_fl Oha0_fl) Oha0_fl) (fun _ => rfl) rfl rfl fun v1 q2 => ?_
  refine jg_y (fun w hs => yv_add_w rfl rfl) rfl rfl ?_
  refine jg_as rfl rfl rfl ?_
  refine jg_nils [(6, _)] ⟨rfl, trivial⟩ ?_
  refine jk_sn ?_
  refine jn_ret ?_
  exact jk_ret1 rfl (fun w hs => .tmp rfl) (fun w hs => ⟨(), rfl, hs.sel (is := []) rfl rfl⟩)
theorem layout_name_c {w : World} {a0 : ByteArray}  {v : Bool} (hm : layout_name a0 = some v) : Gives Try.prog 76 [.string a0] w (.bool v) := by
  refine j_gives (vs := [.string a0]) (U := fun (v : Bool) => .bool v) Try.func76 rfl Try.ntmps76 rfl rfl hm ?_
  unfold layout_name
  clear hm
  refine jn_seq ?_
  refine jn_reg 0 ?_
  refine jg_as rfl rfl rfl ?_
  refine jg_nils [(0, _)] ⟨rfl, trivial⟩ ?_
  refine jk_sn ?_
  refine jn_join (fun (s : Unit) (g : Unit) => [(0, .string a0)]) (fun (s : Unit) (g : Unit) => []) (fun (s : Unit) (g : Unit) => []) ?_ ?_
  · intro z1 q2
    refine jn_seq ?_
    refine jn_reg 7 ?_
    refine jg_mv rfl rfl rfl ?_
    refine jg_y (fun w hs => yv_lnz Try.underlying9 rfl) rfl rfl ?_
    refine jg_y (fun w hs => yv_gtr rfl rfl) rfl rfl ?_
    refine jg_mv rfl rfl rfl ?_
    refine jg_split 31 rfl ?_ ?_
    · refine jg_mv rfl rfl rfl ?_
      refine jg_y (fun w hs => yv_lnz Try.underlying9 rfl) rfl rfl ?_
      refine jg_y (fun w hs => yv_leq rfl rfl) rfl rfl ?_
      refine jg_y (fun w hs => yv_pick_t rfl rfl) rfl rfl ?_
      refine jg_as rfl rfl rfl ?_
      refine jg_nils [(2, _)] ⟨rfl, trivial⟩ ?_
      refine jk_sn ?_
      refine jn_ret ?_
      exact jk_ret1 rfl (fun w hs => .tmp rfl) (fun w hs => ⟨rfl, hs.drop⟩)
    refine jg_skip rfl rfl ?_
    refine jg_skip rfl rfl ?_
    refine jg_skip rfl rfl ?_
    refine jg_y (fun w hs => yv_pick_f rfl rfl) rfl rfl ?_
    refine jg_as rfl rfl rfl ?_
    refine jg_nils [(2, _)] ⟨rfl, trivial⟩ ?_
    refine jk_sn ?_
    refine jn_ret ?_
    exact jk_ret1 rfl (fun w hs => .tmp rfl) (fun w hs => ⟨rfl, hs.drop⟩)
  intro k3 H4
  refine jn_seq ?_
  refine jn_reg 1 ?_
  refine jg_as rfl rfl rfl ?_
  refine jg_nils [(0, _), (3, _)] ⟨rfl, rfl, trivial⟩ ?_
  refine jk_sn ?_
  refine jn_block ?_
  refine jn_lp (n := big) (fun (s : Int) (g : Unit) => [(0, .string a0), (3, .int .i64 s)]) (fun (s : Int) (g : Unit) => []) (fun (s : Int) (g : Unit) => []) 0 () [] ⟨rfl, rfl, trivial⟩ rfl rfl rfl ?_
  intro z5 q6 n9 k7 H8
  refine jn_seq ?_
  refine jn_seq ?_
  refine jn_reg 2 ?_
  refine jg_mv rfl rfl rfl ?_
  refine jg_mv rfl rfl rfl ?_
  refine jg_y (fun w hs => yv_lnz Try.underlying9 rfl) rfl rfl ?_
  refine jg_y (fun w hs => yv_lss rfl rfl) rfl rfl ?_
  refine jg_nils [(0, _), (3, _), (8, _)] ⟨rfl, rfl, rfl, trivial⟩ ?_
  refine jk_sn ?_
  refine jn_cond rfl ?_ ?_
  rotate_left
  · refine jn_exit ?_
    refine jk_se (jk_le (jk_bh ?_))
    exact jk_use H4 () () [] ⟨rfl, trivial⟩ rfl rfl rfl
  refine jn_skip ?_
  refine jk_sn ?_
  refine jn_seq ?_
  refine jn_block ?_
  refine jn_seq ?_
  refine jn_reg 4 ?_
  refine jg_mv rfl rfl rfl ?_
  refine jg_mv rfl rfl rfl ?_
  refine jg_ck fun h10 => ?_
  refine jg_y (fun w hs => yv_ixZ Try.underlying9 rfl rfl (of_decide_eq_true h10)) rfl rfl ?_
  refine jg_as rfl rfl rfl ?_
  refine jg_nils [(0, _), (3, _), (4, _)] ⟨rfl, rfl, rfl, trivial⟩ ?_
  refine jk_sn ?_
  refine jn_seq ?_
  refine jn_reg 5 ?_
  refine jg_mv rfl rfl rfl ?_
  refine jg_y (fun w hs => yv_lss rfl rfl) rfl rfl ?_
  refine jg_mv rfl rfl rfl ?_
  refine jg_split 16 rfl ?_ ?_
  · refine jg_skip rfl rfl ?_
    refine jg_skip rfl rfl ?_
    refine jg_y (fun w hs => yv_pick_t rfl rfl) rfl rfl ?_
    refine jg_mv rfl rfl rfl ?_
    refine jg_mv rfl rfl rfl ?_
    refine jg_y (fun w hs => yv_lss rfl rfl) rfl rfl ?_
    refine jg_mv rfl rfl rfl ?_
    refine jg_split 23 rfl ?_ ?_
    · refine jg_skip rfl rfl ?_
      refine jg_skip rfl rfl ?_
      refine jg_y (fun w hs => yv_pick_t rfl rfl) rfl rfl ?_
      refine jg_y (fun w hs => yv_pick_t rfl rfl) rfl rfl ?_
      refine jg_nils [(0, _), (3, _), (27, _)] ⟨rfl, rfl, rfl, trivial⟩ ?_
      refine jk_sn ?_
      refine jn_ct rfl ?_
      refine jn_seq ?_
      refine jn_reg 6 ?_
      refine jg_as rfl rfl rfl ?_
      refine jg_nils [(2, _)] ⟨rfl, trivial⟩ ?_
      refine jk_sn ?_
      refine jn_ret ?_
      refine jk_br (jk_sr (jk_lr (jk_br (jk_sr ?_))))
      exact jk_ret1 rfl (fun w hs => .tmp rfl) (fun w hs => ⟨rfl, hs.drop⟩)
    refine jg_mv rfl rfl rfl ?_
    refine jg_y (fun w hs => yv_gtr rfl rfl) rfl rfl ?_
    refine jg_y (fun w hs => yv_pick_f rfl rfl) rfl rfl ?_
    refine jg_y (fun w hs => yv_pick_t rfl rfl) rfl rfl ?_
    refine jg_nils [(0, _), (3, _), (27, _)] ⟨rfl, rfl, rfl, trivial⟩ ?_
    refine jk_sn ?_
    refine jn_cond rfl ?_ ?_
    · refine jn_seq ?_
      refine jn_reg 6 ?_
      refine jg_as rfl rfl rfl ?_
      refine jg_nils [(2, _)] ⟨rfl, trivial⟩ ?_
      refine jk_sn ?_
      refine jn_ret ?_
      refine jk_br (jk_sr (jk_lr (jk_br (jk_sr ?_))))
      exact jk_ret1 rfl (fun w hs => .tmp rfl) (fun w hs => ⟨rfl, hs.drop⟩)
    refine jn_skip ?_
    refine jk_bn (jk_sn ?_)
    refine jn_reg 3 ?_
    refine jg_mv rfl rfl rfl ?_
    refine jg_y (fun w hs => yv_add_w rfl rfl) rfl rfl ?_
    refine jg_as rfl rfl rfl ?_
    refine jg_nils [(0, _), (3, _)] ⟨rfl, rfl, trivial⟩ ?_
    exact jk_use H8 (w64 (z5 + 1)) () [] ⟨rfl, rfl, trivial⟩ rfl rfl rfl
  refine jg_mv rfl rfl rfl ?_
  refine jg_y (fun w hs => yv_gtr rfl rfl) rfl rfl ?_
  refine jg_y (fun w hs => yv_pick_f rfl rfl) rfl rfl ?_
  refine jg_mv rfl rfl rfl ?_
  refine jg_split 20 rfl ?_ ?_
  rotate_left
  · refine jg_skip rfl rfl ?_
    refine jg_skip rfl rfl ?_
    refine jg_skip rfl rfl ?_
    refine jg_skip rfl rfl ?_
    refine jg_skip rfl rfl ?_
    refine jg_skip rfl rfl ?_
    refine jg_y (fun w hs => yv_pick_f rfl rfl) rfl rfl ?_
    refine jg_nils [(0, _), (3, _), (27, _)] ⟨rfl, rfl, rfl, trivial⟩ ?_
    refine jk_sn ?_
    refine jn_cf rfl ?_
    refine jn_skip ?_
    refine jk_bn (jk_sn ?_)
    refine jn_reg 3 ?_
    refine jg_mv rfl rfl rfl ?_
    refine jg_y (fun w hs => yv_add_w rfl rfl) rfl rfl ?_
    refine jg_as rfl rfl rfl ?_
    refine jg_nils [(0, _), (3, _)] ⟨rfl, rfl, trivial⟩ ?_
    exact jk_use H8 (w64 (z5 + 1)) () [] ⟨rfl, rfl, trivial⟩ rfl rfl rfl
  refine jg_mv rfl rfl rfl ?_
  refine jg_y (fun w hs => yv_lss rfl rfl) rfl rfl ?_
  refine jg_mv rfl rfl rfl ?_
  refine jg_split 23 rfl ?_ ?_
  · refine jg_skip rfl rfl ?_
    refine jg_skip rfl rfl ?_
    refine jg_y (fun w hs => yv_pick_t rfl rfl) rfl rfl ?_
    refine jg_y (fun w hs => yv_pick_t rfl rfl) rfl rfl ?_
    refine jg_nils [(0, _), (3, _), (27, _)] ⟨rfl, rfl, rfl, trivial⟩ ?_
    refine jk_sn ?_
    refine jn_ct rfl ?_
    refine jn_seq ?_
    refine jn_reg 6 ?_
    refine jg_as rfl rfl rfl ?_
    refine jg_nils [(2, _)] ⟨rfl, trivial⟩ ?_
    refine jk_sn ?_
    refine jn_ret ?_
    refine jk_br (jk_sr (jk_lr (jk_br (jk_sr ?_))))
    exact jk_ret1 rfl (fun w hs => .tmp rfl) (fun w hs => ⟨rfl, hs.drop⟩)
  refine jg_mv rfl rfl rfl ?_
  refine jg_y (fun w hs => yv_gtr rfl rfl) rfl rfl ?_
  refine jg_y (fun w hs => yv_pick_f rfl rfl) rfl rfl ?_
  refine jg_y (fun w hs => yv_pick_t rfl rfl) rfl rfl ?_
  refine jg_nils [(0, _), (3, _), (27, _)] ⟨rfl, rfl, rfl, trivial⟩ ?_
  refine jk_sn ?_
  refine jn_cond rfl ?_ ?_
  · refine jn_seq ?_
    refine jn_reg 6 ?_
    refine jg_as rfl rfl rfl ?_
    refine jg_nils [(2, _)] ⟨rfl, trivial⟩ ?_
    refine jk_sn ?_
    refine jn_ret ?_
    refine jk_br (jk_sr (jk_lr (jk_br (jk_sr ?_))))
    exact jk_ret1 rfl (fun w hs => .tmp rfl) (fun w hs => ⟨rfl, hs.drop⟩)
  refine jn_skip ?_
  refine jk_bn (jk_sn ?_)
  refine jn_reg 3 ?_
  refine jg_mv rfl rfl rfl ?_
  refine jg_y (fun w hs => yv_add_w rfl rfl) rfl rfl ?_
  refine jg_as rfl rfl rfl ?_
  refine jg_nils [(0, _), (3, _)] ⟨rfl, rfl, trivial⟩ ?_
  exact jk_use H8 (w64 (z5 + 1)) () [] ⟨rfl, rfl, trivial⟩ rfl rfl rfl
theorem layout_sound_c {w : World} {a0 : Element}  {v : Bool} (hm : layout_sound a0 = some v) : Gives Try.prog 74 [.agg #[.int .i64 a0.Kind, .string a0.Name, .int .i64 a0.Parent, .int .i64 a0.Side, .int .i64 a0.Length, .int .i64 a0.Grade, .int .i64 a0.Curve, .int .i64 a0.Power]] w (.bool v) := by
  refine j_gives (vs := [.agg #[.int .i64 a0.Kind, .string a0.Name, .int .i64 a0.Parent, .int .i64 a0.Side, .int .i64 a0.Length, .int .i64 a0.Grade, .int .i64 a0.Curve, .int .i64 a0.Power]]) (U := fun (v : Bool) => .bool v) Try.func74 rfl Try.ntmps74 rfl rfl hm ?_
  unfold layout_sound
  clear hm
  refine jn_seq ?_
  refine jn_reg 0 ?_
  refine jg_box rfl (l8 rfl) rfl rfl fun g1 => ?_
  refine jg_as rfl rfl rfl ?_
  refine jg_nils [(1, _)] ⟨rfl, trivial⟩ ?_
  refine jk_sn ?_
  refine jn_seq ?_
  refine jn_seq ?_
  refine jn_reg 1 ?_
  refine jg_y (fun w hs => yv_fieldAddr rfl) rfl rfl ?_
  refine jg_y (fun w hs => yv_load rfl (ld1B (hs.blkL (i := 0) rfl) rfl)) rfl rfl ?_
  refine jg_y (fun w hs => yv_lss rfl rfl) rfl rfl ?_
  refine jg_mv rfl rfl rfl ?_
  refine jg_split 7 rfl ?_ ?_
  · refine jg_skip rfl rfl ?_
    refine jg_skip rfl rfl ?_
    refine jg_skip rfl rfl ?_
    refine jg_y (fun w hs => yv_pick_t rfl rfl) rfl rfl ?_
    refine jg_mv rfl rfl rfl ?_
    refine jg_skip rfl rfl ?_
    refine jg_skip rfl rfl ?_
    refine jg_skip rfl rfl ?_
    refine jg_skip rfl rfl ?_
    refine jg_y (fun w hs => yv_pick_t rfl rfl) rfl rfl ?_
    refine jg_nils [(1, _), (17, _)] ⟨rfl, rfl, trivial⟩ ?_
    refine jk_sn ?_
    refine jn_ct rfl ?_
    refine jn_seq ?_
    refine jn_reg 2 ?_
    refine jg_as rfl rfl rfl ?_
    refine jg_nils [(2, _)] ⟨rfl, trivial⟩ ?_
    refine jk_sn ?_
    refine jn_ret ?_
    refine jk_sr ?_
    exact jk_ret1 rfl (fun w hs => .tmp rfl) (fun w hs => ⟨rfl, hs.drop⟩)
  refine jg_y (fun w hs => yv_fieldAddr rfl) rfl rfl ?_
  refine jg_y (fun w hs => yv_load rfl (ld1B (hs.blkL (i := 0) rfl) rfl)) rfl rfl ?_
  refine jg_y (fun w hs => yv_gtr rfl rfl) rfl rfl ?_
  refine jg_y (fun w hs => yv_pick_f rfl rfl) rfl rfl ?_
  refine jg_mv rfl rfl rfl ?_
  refine jg_split 12 rfl ?_ ?_
  · refine jg_skip rfl rfl ?_
    refine jg_skip rfl rfl ?_
    refine jg_skip rfl rfl ?_
    refine jg_skip rfl rfl ?_
    refine jg_y (fun w hs => yv_pick_t rfl rfl) rfl rfl ?_
    refine jg_nils [(1, _), (17, _)] ⟨rfl, rfl, trivial⟩ ?_
    refine jk_sn ?_
    refine jn_ct rfl ?_
    refine jn_seq ?_
    refine jn_reg 2 ?_
    refine jg_as rfl rfl rfl ?_
    refine jg_nils [(2, _)] ⟨rfl, trivial⟩ ?_
    refine jk_sn ?_
    refine jn_ret ?_
    refine jk_sr ?_
    exact jk_ret1 rfl (fun w hs => .tmp rfl) (fun w hs => ⟨rfl, hs.drop⟩)
  refine jg_y (fun w hs => yv_fieldAddr rfl) rfl rfl ?_
  refine jg_y (fun w hs => yv_load rfl (ld1B (hs.blkL (i := 0) rfl) rfl)) rfl rfl ?_
  refine jg_c0 rfl (fun v w hs hm => layout_name_c hm ) rfl rfl fun v2 => ?_
  refine jg_y (fun w hs => yv_not rfl) rfl rfl ?_
  refine jg_y (fun w hs => yv_pick_f rfl rfl) rfl rfl ?_
  refine jg_nils [(1, _), (17, _)] ⟨rfl, rfl, trivial⟩ ?_
  refine jk_sn ?_
  refine jn_cond rfl ?_ ?_
  · refine jn_seq ?_
    refine jn_reg 2 ?_
    refine jg_as rfl rfl rfl ?_
    refine jg_nils [(2, _)] ⟨rfl, trivial⟩ ?_
    refine jk_sn ?_
    refine jn_ret ?_
    refine jk_sr ?_
    exact jk_ret1 rfl (fun w hs => .tmp rfl) (fun w hs => ⟨rfl, hs.drop⟩)
  refine jn_skip ?_
  refine jk_sn ?_
  refine jn_seq ?_
  refine jn_seq ?_
  refine jn_reg 3 ?_
  refine jg_y (fun w hs => yv_fieldAddr rfl) rfl rfl ?_
  refine jg_y (fun w hs => yv_load rfl (ld1B (hs.blkL (i := 0) rfl) rfl)) rfl rfl ?_
  refine jg_y (fun w hs => yv_eql rfl rfl) rfl rfl ?_
  refine jg_nils [(1, _), (20, _)] ⟨rfl, rfl, trivial⟩ ?_
  refine jk_sn ?_
  refine jn_cond rfl ?_ ?_
  · refine jn_seq ?_
    refine jn_reg 4 ?_
    refine jg_y (fun w hs => yv_load rfl (ldBB (hs.blkL (i := 0) rfl) rfl)) rfl rfl ?_
    refine jg_y (fun w hs => yv_fieldAddr rfl) rfl rfl ?_
    refine jg_y (fun w hs => yv_load rfl (ld1B (hs.blkL (i := 0) rfl) rfl)) rfl rfl ?_
    refine jg_y (fun w hs => yv_build rfl (o8 rfl)) rfl rfl ?_
    refine jg_y (fun w hs => yeq87 rfl rfl) rfl rfl ?_
    refine jg_as rfl rfl rfl ?_
    refine jg_nils [(2, _)] ⟨rfl, trivial⟩ ?_
    refine jk_sn ?_
    refine jn_ret ?_
    refine jk_sr ?_
    exact jk_ret1 rfl (fun w hs => .tmp rfl) (fun w hs => ⟨rfl, hs.drop⟩)
  refine jn_skip ?_
  refine jk_sn ?_
  refine jn_seq ?_
  refine jn_reg 5 ?_
  refine jg_y (fun w hs => yv_fieldAddr rfl) rfl rfl ?_
  refine jg_y (fun w hs => yv_load rfl (ld1B (hs.blkL (i := 0) rfl) rfl)) rfl rfl ?_
  refine jg_y (fun w hs => yv_eql rfl rfl) rfl rfl ?_
  refine jg_as rfl rfl rfl ?_
  refine jg_nils [(1, _), (3, _)] ⟨rfl, rfl, trivial⟩ ?_
  refine jk_sn ?_
  refine jn_join (fun (s : Bool) (g : Unit) => [(1, .pointer (some ⟨g1, 0, none⟩)), (3, .bool s)]) (fun (s : Bool) (g : Unit) => []) (fun (s : Bool) (g : Unit) => [(Res.blk g1 87 [.int .i64 a0.Kind, .string a0.Name, .int .i64 a0.Parent, .int .i64 a0.Side, .int .i64 a0.Length, .int .i64 a0.Grade, .int .i64 a0.Curve, .int .i64 a0.Power])]) ?_ ?_
  rotate_left
  · intro k5 H6
    refine jn_seq ?_
    refine jn_reg 6 ?_
    refine jg_y (fun w hs => yv_fieldAddr rfl) rfl rfl ?_
    refine jg_y (fun w hs => yv_load rfl (ld1B (hs.blkL (i := 0) rfl) rfl)) rfl rfl ?_
    refine jg_y (fun w hs => yv_eql rfl rfl) rfl rfl ?_
    refine jg_nils [(1, _), (3, _), (31, _)] ⟨rfl, rfl, rfl, trivial⟩ ?_
    refine jk_sn ?_
    refine jn_cond rfl ?_ ?_
    rotate_left
    · refine jn_skip ?_
      exact jk_use H6 (decide (a0.Power = 0)) () [0] ⟨rfl, rfl, trivial⟩ rfl rfl rfl
    refine jn_reg 7 ?_
    refine jg_y (fun w hs => yv_fieldAddr rfl) rfl rfl ?_
    refine jg_y (fun w hs => yv_load rfl (ld1B (hs.blkL (i := 0) rfl) rfl)) rfl rfl ?_
    refine jg_y (fun w hs => yv_geq rfl rfl) rfl rfl ?_
    refine jg_mv rfl rfl rfl ?_
    refine jg_split 35 rfl ?_ ?_
    · refine jg_y (fun w hs => yv_fieldAddr rfl) rfl rfl ?_
      refine jg_y (fun w hs => yv_load rfl (ld1B (hs.blkL (i := 0) rfl) rfl)) rfl rfl ?_
      refine jg_y (fun w hs => yv_leq rfl rfl) rfl rfl ?_
      refine jg_y (fun w hs => yv_pick_t rfl rfl) rfl rfl ?_
      refine jg_as rfl rfl rfl ?_
      refine jg_nils [(1, _), (3, _)] ⟨rfl, rfl, trivial⟩ ?_
      exact jk_use H6 (decide (a0.Power ≤ 1000000000)) () [0] ⟨rfl, rfl, trivial⟩ rfl rfl rfl
    refine jg_skip rfl rfl ?_
    refine jg_skip rfl rfl ?_
    refine jg_skip rfl rfl ?_
    refine jg_y (fun w hs => yv_pick_f rfl rfl) rfl rfl ?_
    refine jg_as rfl rfl rfl ?_
    refine jg_nils [(1, _), (3, _)] ⟨rfl, rfl, trivial⟩ ?_
    exact jk_use H6 false () [0] ⟨rfl, rfl, trivial⟩ rfl rfl rfl
  intro z3 q4
  refine jn_seq ?_
  refine jn_reg 8 ?_
  refine jg_mv rfl rfl rfl ?_
  refine jg_mv rfl rfl rfl ?_
  refine jg_split 41 rfl ?_ ?_
  rotate_left
  · refine jg_skip rfl rfl ?_
    refine jg_skip rfl rfl ?_
    refine jg_skip rfl rfl ?_
    refine jg_y (fun w hs => yv_pick_f rfl rfl) rfl rfl ?_
    refine jg_mv rfl rfl rfl ?_
    refine jg_skip rfl rfl ?_
    refine jg_skip rfl rfl ?_
    refine jg_skip rfl rfl ?_
    refine jg_y (fun w hs => yv_pick_f rfl rfl) rfl rfl ?_
    refine jg_mv rfl rfl rfl ?_
    refine jg_skip rfl rfl ?_
    refine jg_skip rfl rfl ?_
    refine jg_skip rfl rfl ?_
    refine jg_y (fun w hs => yv_pick_f rfl rfl) rfl rfl ?_
    refine jg_mv rfl rfl rfl ?_
    refine jg_skip rfl rfl ?_
    refine jg_skip rfl rfl ?_
    refine jg_skip rfl rfl ?_
    refine jg_y (fun w hs => yv_pick_f rfl rfl) rfl rfl ?_
    refine jg_mv rfl rfl rfl ?_
    refine jg_skip rfl rfl ?_
    refine jg_skip rfl rfl ?_
    refine jg_skip rfl rfl ?_
    refine jg_y (fun w hs => yv_pick_f rfl rfl) rfl rfl ?_
    refine jg_mv rfl rfl rfl ?_
    refine jg_skip rfl rfl ?_
    refine jg_skip rfl rfl ?_
    refine jg_skip rfl rfl ?_
    refine jg_y (fun w hs => yv_pick_f rfl rfl) rfl rfl ?_
    refine jg_mv rfl rfl rfl ?_
    refine jg_skip rfl rfl ?_
    refine jg_skip rfl rfl ?_
    refine jg_skip rfl rfl ?_
    refine jg_y (fun w hs => yv_pick_f rfl rfl) rfl rfl ?_
    refine jg_mv rfl rfl rfl ?_
    refine jg_skip rfl rfl ?_
    refine jg_skip rfl rfl ?_
    refine jg_skip rfl rfl ?_
    refine jg_y (fun w hs => yv_pick_f rfl rfl) rfl rfl ?_
    refine jg_as rfl rfl rfl ?_
    refine jg_nils [(2, _)] ⟨rfl, trivial⟩ ?_
    refine jk_sn ?_
    refine jn_ret ?_
    exact jk_ret1 rfl (fun w hs => .tmp rfl) (fun w hs => ⟨rfl, hs.drop⟩)
  refine jg_y (fun w hs => yv_fieldAddr rfl) rfl rfl ?_
  refine jg_y (fun w hs => yv_load rfl (ld1B (hs.blkL (i := 0) rfl) rfl)) rfl rfl ?_
  refine jg_y (fun w hs => yv_geq rfl rfl) rfl rfl ?_
  refine jg_y (fun w hs => yv_pick_t rfl rfl) rfl rfl ?_
  refine jg_mv rfl rfl rfl ?_
  refine jg_split 46 rfl ?_ ?_
  rotate_left
  · refine jg_skip rfl rfl ?_
    refine jg_skip rfl rfl ?_
    refine jg_skip rfl rfl ?_
    refine jg_y (fun w hs => yv_pick_f rfl rfl) rfl rfl ?_
    refine jg_mv rfl rfl rfl ?_
    refine jg_skip rfl rfl ?_
    refine jg_skip rfl rfl ?_
    refine jg_skip rfl rfl ?_
    refine jg_y (fun w hs => yv_pick_f rfl rfl) rfl rfl ?_
    refine jg_mv rfl rfl rfl ?_
    refine jg_skip rfl rfl ?_
    refine jg_skip rfl rfl ?_
    refine jg_skip rfl rfl ?_
    refine jg_y (fun w hs => yv_pick_f rfl rfl) rfl rfl ?_
    refine jg_mv rfl rfl rfl ?_
    refine jg_skip rfl rfl ?_
    refine jg_skip rfl rfl ?_
    refine jg_skip rfl rfl ?_
    refine jg_y (fun w hs => yv_pick_f rfl rfl) rfl rfl ?_
    refine jg_mv rfl rfl rfl ?_
    refine jg_skip rfl rfl ?_
    refine jg_skip rfl rfl ?_
    refine jg_skip rfl rfl ?_
    refine jg_y (fun w hs => yv_pick_f rfl rfl) rfl rfl ?_
    refine jg_mv rfl rfl rfl ?_
    refine jg_skip rfl rfl ?_
    refine jg_skip rfl rfl ?_
    refine jg_skip rfl rfl ?_
    refine jg_y (fun w hs => yv_pick_f rfl rfl) rfl rfl ?_
    refine jg_mv rfl rfl rfl ?_
    refine jg_skip rfl rfl ?_
    refine jg_skip rfl rfl ?_
    refine jg_skip rfl rfl ?_
    refine jg_y (fun w hs => yv_pick_f rfl rfl) rfl rfl ?_
    refine jg_as rfl rfl rfl ?_
    refine jg_nils [(2, _)] ⟨rfl, trivial⟩ ?_
    refine jk_sn ?_
    refine jn_ret ?_
    exact jk_ret1 rfl (fun w hs => .tmp rfl) (fun w hs => ⟨rfl, hs.drop⟩)
  refine jg_y (fun w hs => yv_fieldAddr rfl) rfl rfl ?_
  refine jg_y (fun w hs => yv_load rfl (ld1B (hs.blkL (i := 0) rfl) rfl)) rfl rfl ?_
  refine jg_y (fun w hs => yv_leq rfl rfl) rfl rfl ?_
  refine jg_y (fun w hs => yv_pick_t rfl rfl) rfl rfl ?_
  refine jg_mv rfl rfl rfl ?_
  refine jg_split 51 rfl ?_ ?_
  rotate_left
  · refine jg_skip rfl rfl ?_
    refine jg_skip rfl rfl ?_
    refine jg_skip rfl rfl ?_
    refine jg_y (fun w hs => yv_pick_f rfl rfl) rfl rfl ?_
    refine jg_mv rfl rfl rfl ?_
    refine jg_skip rfl rfl ?_
    refine jg_skip rfl rfl ?_
    refine jg_skip rfl rfl ?_
    refine jg_y (fun w hs => yv_pick_f rfl rfl) rfl rfl ?_
    refine jg_mv rfl rfl rfl ?_
    refine jg_skip rfl rfl ?_
    refine jg_skip rfl rfl ?_
    refine jg_skip rfl rfl ?_
    refine jg_y (fun w hs => yv_pick_f rfl rfl) rfl rfl ?_
    refine jg_mv rfl rfl rfl ?_
    refine jg_skip rfl rfl ?_
    refine jg_skip rfl rfl ?_
    refine jg_skip rfl rfl ?_
    refine jg_y (fun w hs => yv_pick_f rfl rfl) rfl rfl ?_
    refine jg_mv rfl rfl rfl ?_
    refine jg_skip rfl rfl ?_
    refine jg_skip rfl rfl ?_
    refine jg_skip rfl rfl ?_
    refine jg_y (fun w hs => yv_pick_f rfl rfl) rfl rfl ?_
    refine jg_mv rfl rfl rfl ?_
    refine jg_skip rfl rfl ?_
    refine jg_skip rfl rfl ?_
    refine jg_skip rfl rfl ?_
    refine jg_y (fun w hs => yv_pick_f rfl rfl) rfl rfl ?_
    refine jg_as rfl rfl rfl ?_
    refine jg_nils [(2, _)] ⟨rfl, trivial⟩ ?_
    refine jk_sn ?_
    refine jn_ret ?_
    exact jk_ret1 rfl (fun w hs => .tmp rfl) (fun w hs => ⟨rfl, hs.drop⟩)
  refine jg_y (fun w hs => yv_fieldAddr rfl) rfl rfl ?_
  refine jg_y (fun w hs => yv_load rfl (ld1B (hs.blkL (i := 0) rfl) rfl)) rfl rfl ?_
  refine jg_y (fun w hs => yv_geq rfl rfl) rfl rfl ?_
  refine jg_y (fun w hs => yv_pick_t rfl rfl) rfl rfl ?_
  refine jg_mv rfl rfl rfl ?_
  refine jg_split 56 rfl ?_ ?_
  rotate_left
  · refine jg_skip rfl rfl ?_
    refine jg_skip rfl rfl ?_
    refine jg_skip rfl rfl ?_
    refine jg_y (fun w hs => yv_pick_f rfl rfl) rfl rfl ?_
    refine jg_mv rfl rfl rfl ?_
    refine jg_skip rfl rfl ?_
    refine jg_skip rfl rfl ?_
    refine jg_skip rfl rfl ?_
    refine jg_y (fun w hs => yv_pick_f rfl rfl) rfl rfl ?_
    refine jg_mv rfl rfl rfl ?_
    refine jg_skip rfl rfl ?_
    refine jg_skip rfl rfl ?_
    refine jg_skip rfl rfl ?_
    refine jg_y (fun w hs => yv_pick_f rfl rfl) rfl rfl ?_
    refine jg_mv rfl rfl rfl ?_
    refine jg_skip rfl rfl ?_
    refine jg_skip rfl rfl ?_
    refine jg_skip rfl rfl ?_
    refine jg_y (fun w hs => yv_pick_f rfl rfl) rfl rfl ?_
    refine jg_mv rfl rfl rfl ?_
    refine jg_skip rfl rfl ?_
    refine jg_skip rfl rfl ?_
    refine jg_skip rfl rfl ?_
    refine jg_y (fun w hs => yv_pick_f rfl rfl) rfl rfl ?_
    refine jg_as rfl rfl rfl ?_
    refine jg_nils [(2, _)] ⟨rfl, trivial⟩ ?_
    refine jk_sn ?_
    refine jn_ret ?_
    exact jk_ret1 rfl (fun w hs => .tmp rfl) (fun w hs => ⟨rfl, hs.drop⟩)
  refine jg_y (fun w hs => yv_fieldAddr rfl) rfl rfl ?_
  refine jg_y (fun w hs => yv_load rfl (ld1B (hs.blkL (i := 0) rfl) rfl)) rfl rfl ?_
  refine jg_y (fun w hs => yv_leq rfl rfl) rfl rfl ?_
  refine jg_y (fun w hs => yv_pick_t rfl rfl) rfl rfl ?_
  refine jg_mv rfl rfl rfl ?_
  refine jg_split 61 rfl ?_ ?_
  rotate_left
  · refine jg_skip rfl rfl ?_
    refine jg_skip rfl rfl ?_
    refine jg_skip rfl rfl ?_
    refine jg_y (fun w hs => yv_pick_f rfl rfl) rfl rfl ?_
    refine jg_mv rfl rfl rfl ?_
    refine jg_skip rfl rfl ?_
    refine jg_skip rfl rfl ?_
    refine jg_skip rfl rfl ?_
    refine jg_y (fun w hs => yv_pick_f rfl rfl) rfl rfl ?_
    refine jg_mv rfl rfl rfl ?_
    refine jg_skip rfl rfl ?_
    refine jg_skip rfl rfl ?_
    refine jg_skip rfl rfl ?_
    refine jg_y (fun w hs => yv_pick_f rfl rfl) rfl rfl ?_
    refine jg_mv rfl rfl rfl ?_
    refine jg_skip rfl rfl ?_
    refine jg_skip rfl rfl ?_
    refine jg_skip rfl rfl ?_
    refine jg_y (fun w hs => yv_pick_f rfl rfl) rfl rfl ?_
    refine jg_as rfl rfl rfl ?_
    refine jg_nils [(2, _)] ⟨rfl, trivial⟩ ?_
    refine jk_sn ?_
    refine jn_ret ?_
    exact jk_ret1 rfl (fun w hs => .tmp rfl) (fun w hs => ⟨rfl, hs.drop⟩)
  refine jg_y (fun w hs => yv_fieldAddr rfl) rfl rfl ?_
  refine jg_y (fun w hs => yv_load rfl (ld1B (hs.blkL (i := 0) rfl) rfl)) rfl rfl ?_
  refine jg_y (fun w hs => yv_geq rfl rfl) rfl rfl ?_
  refine jg_y (fun w hs => yv_pick_t rfl rfl) rfl rfl ?_
  refine jg_mv rfl rfl rfl ?_
  refine jg_split 66 rfl ?_ ?_
  rotate_left
  · refine jg_skip rfl rfl ?_
    refine jg_skip rfl rfl ?_
    refine jg_skip rfl rfl ?_
    refine jg_y (fun w hs => yv_pick_f rfl rfl) rfl rfl ?_
    refine jg_mv rfl rfl rfl ?_
    refine jg_skip rfl rfl ?_
    refine jg_skip rfl rfl ?_
    refine jg_skip rfl rfl ?_
    refine jg_y (fun w hs => yv_pick_f rfl rfl) rfl rfl ?_
    refine jg_mv rfl rfl rfl ?_
    refine jg_skip rfl rfl ?_
    refine jg_skip rfl rfl ?_
    refine jg_skip rfl rfl ?_
    refine jg_y (fun w hs => yv_pick_f rfl rfl) rfl rfl ?_
    refine jg_as rfl rfl rfl ?_
    refine jg_nils [(2, _)] ⟨rfl, trivial⟩ ?_
    refine jk_sn ?_
    refine jn_ret ?_
    exact jk_ret1 rfl (fun w hs => .tmp rfl) (fun w hs => ⟨rfl, hs.drop⟩)
  refine jg_y (fun w hs => yv_fieldAddr rfl) rfl rfl ?_
  refine jg_y (fun w hs => yv_load rfl (ld1B (hs.blkL (i := 0) rfl) rfl)) rfl rfl ?_
  refine jg_y (fun w hs => yv_leq rfl rfl) rfl rfl ?_
  refine jg_y (fun w hs => yv_pick_t rfl rfl) rfl rfl ?_
  refine jg_mv rfl rfl rfl ?_
  refine jg_split 71 rfl ?_ ?_
  rotate_left
  · refine jg_skip rfl rfl ?_
    refine jg_skip rfl rfl ?_
    refine jg_skip rfl rfl ?_
    refine jg_y (fun w hs => yv_pick_f rfl rfl) rfl rfl ?_
    refine jg_mv rfl rfl rfl ?_
    refine jg_skip rfl rfl ?_
    refine jg_skip rfl rfl ?_
    refine jg_skip rfl rfl ?_
    refine jg_y (fun w hs => yv_pick_f rfl rfl) rfl rfl ?_
    refine jg_as rfl rfl rfl ?_
    refine jg_nils [(2, _)] ⟨rfl, trivial⟩ ?_
    refine jk_sn ?_
    refine jn_ret ?_
    exact jk_ret1 rfl (fun w hs => .tmp rfl) (fun w hs => ⟨rfl, hs.drop⟩)
  refine jg_y (fun w hs => yv_fieldAddr rfl) rfl rfl ?_
  refine jg_y (fun w hs => yv_load rfl (ld1B (hs.blkL (i := 0) rfl) rfl)) rfl rfl ?_
  refine jg_y (fun w hs => yv_geq rfl rfl) rfl rfl ?_
  refine jg_y (fun w hs => yv_pick_t rfl rfl) rfl rfl ?_
  refine jg_mv rfl rfl rfl ?_
  refine jg_split 76 rfl ?_ ?_
  · refine jg_y (fun w hs => yv_fieldAddr rfl) rfl rfl ?_
    refine jg_y (fun w hs => yv_load rfl (ld1B (hs.blkL (i := 0) rfl) rfl)) rfl rfl ?_
    refine jg_y (fun w hs => yv_leq rfl rfl) rfl rfl ?_
    refine jg_y (fun w hs => yv_pick_t rfl rfl) rfl rfl ?_
    refine jg_as rfl rfl rfl ?_
    refine jg_nils [(2, _)] ⟨rfl, trivial⟩ ?_
    refine jk_sn ?_
    refine jn_ret ?_
    exact jk_ret1 rfl (fun w hs => .tmp rfl) (fun w hs => ⟨rfl, hs.drop⟩)
  refine jg_skip rfl rfl ?_
  refine jg_skip rfl rfl ?_
  refine jg_skip rfl rfl ?_
  refine jg_y (fun w hs => yv_pick_f rfl rfl) rfl rfl ?_
  refine jg_as rfl rfl rfl ?_
  refine jg_nils [(2, _)] ⟨rfl, trivial⟩ ?_
  refine jk_sn ?_
  refine jn_ret ?_
  exact jk_ret1 rfl (fun w hs => .tmp rfl) (fun w hs => ⟨rfl, hs.drop⟩)
theorem layout_Valid_c {w : World} {a0 : (List Element)} {ha0 : Hd} {v : Int} (hm : layout_Valid a0 = some v) (Rha0 : Sl w ha0 Element.enc a0) : Gives Try.prog 72 [ha0.v] w (.int .i64 v) := by
  refine j_gives (vs := [ha0.v]) (U := fun (v : Int) => .int .i64 v) Try.func72 rfl Try.ntmps72 rfl rfl hm ?_
  unfold layout_Valid
  clear hm
  refine jn_seq ?_
  refine jn_reg 0 ?_
  refine jg_as rfl rfl rfl ?_
  refine jg_nils [(0, _)] ⟨rfl, trivial⟩ ?_
  refine jk_sn ?_
  refine jn_seq ?_
  refine jn_block ?_
  refine jn_seq ?_
  refine jn_reg 1 ?_
  refine jg_mv rfl rfl rfl ?_
  refine jg_y (fun w hs => yv_ln rfl (hs.arg Rha0)) rfl rfl ?_
  refine jg_y (fun w hs => yv_gtr rfl rfl) rfl rfl ?_
  refine jg_as rfl rfl rfl ?_
  refine jg_nils [(0, _), (13, _)] ⟨rfl, rfl, trivial⟩ ?_
  refine jk_sn ?_
  refine jn_cond rfl ?_ ?_
  · refine jn_seq ?_
    refine jn_reg 2 ?_
    refine jg_as rfl rfl rfl ?_
    refine jg_nils [(2, _)] ⟨rfl, trivial⟩ ?_
    refine jk_sn ?_
    refine jn_ret ?_
    refine jk_br (jk_sr ?_)
    exact jk_ret1 rfl (fun w hs => .tmp rfl) (fun w hs => ⟨rfl, hs.drop⟩)
  refine jn_seq ?_
  refine jn_reg 3 ?_
  refine jg_mv rfl rfl rfl ?_
  refine jg_y (fun w hs => yv_ln rfl (hs.arg Rha0)) rfl rfl ?_
  refine jg_y (fun w hs => yv_eql rfl rfl) rfl rfl ?_
  refine jg_as rfl rfl rfl ?_
  refine jg_nils [(0, _), (17, _)] ⟨rfl, rfl, trivial⟩ ?_
  refine jk_sn ?_
  refine jn_cond rfl ?_ ?_
  · refine jn_seq ?_
    refine jn_reg 4 ?_
    refine jg_as rfl rfl rfl ?_
    refine jg_nils [(2, _)] ⟨rfl, trivial⟩ ?_
    refine jk_sn ?_
    refine jn_ret ?_
    refine jk_br (jk_sr ?_)
    exact jk_ret1 rfl (fun w hs => .tmp rfl) (fun w hs => ⟨rfl, hs.drop⟩)
  refine jn_skip ?_
  refine jk_bn (jk_sn ?_)
  refine jn_seq ?_
  refine jn_reg 5 ?_
  refine jg_map (kv := kvZ) rfl rfl fun g1 => ?_
  refine jg_as rfl rfl rfl ?_
  refine jg_nils [(0, _), (3, _)] ⟨rfl, rfl, trivial⟩ ?_
  refine jk_sn ?_
  refine jn_seq ?_
  refine jn_reg 6 ?_
  refine jg_map (kv := LayoutPlace.kv) rfl rfl fun g2 => ?_
  refine jg_as rfl rfl rfl ?_
  refine jg_nils [(0, _), (3, _), (4, _)] ⟨rfl, rfl, rfl, trivial⟩ ?_
  refine jk_sn ?_
  refine jn_seq ?_
  refine jn_reg 7 ?_
  refine jg_mv rfl rfl rfl ?_
  refine jg_y (fun w hs => yv_ln rfl (hs.arg Rha0)) rfl rfl ?_
  refine jg_make (n := (a0.length : Int)) (enc := encI) ?_ ?_ ?_ ?_ ?_ ?_ fun y3 hd4 => ?_
  · rfl
  · rfl
  · rfl
  · rfl
  · rfl
  · rfl
  refine jg_as rfl rfl rfl ?_
  refine jg_nils [(0, _), (3, _), (4, _), (5, _)] ⟨rfl, rfl, rfl, rfl, trivial⟩ ?_
  refine jk_sn ?_
  refine jn_seq ?_
  refine jn_reg 8 ?_
  refine jg_as rfl rfl rfl ?_
  refine jg_nils [(0, _), (3, _), (4, _), (5, _), (6, _)] ⟨rfl, rfl, rfl, rfl, rfl, trivial⟩ ?_
  refine jk_sn ?_
  refine jn_join (fun (s : ((List Int) × Int)) (g : Unit) => [(0, ha0.v), (5, hd4.v), (6, .int .i64 s.2)]) (fun (s : ((List Int) × Int)) (g : Unit) => []) (fun (s : ((List Int) × Int)) (g : Unit) => [(rowH hd4 3 1 encI s.1)]) ?_ ?_
  · intro z5 q6
    refine jn_seq ?_
    refine jn_seq ?_
    refine jn_reg 29 ?_
    refine jg_mv rfl rfl rfl ?_
    refine jg_y (fun w hs => yv_ln rfl (hs.arg Rha0)) rfl rfl ?_
    refine jg_mv rfl rfl rfl ?_
    refine jg_nils [(5, _), (6, _), (103, _), (104, _), (105, _)] ⟨rfl, rfl, rfl, rfl, rfl, trivial⟩ ?_
    refine jk_sn ?_
    refine jn_block ?_
    refine jn_lp (n := big) (fun (s : Int) (g : Unit) => [(5, hd4.v), (6, .int .i64 z5.2), (103, ha0.v), (104, .int .i64 (a0.length : Int)), (105, .int .i64 s)]) (fun (s : Int) (g : Unit) => []) (fun (s : Int) (g : Unit) => [(rowH hd4 3 1 encI z5.1)]) 0 () [0] ⟨rfl, rfl, rfl, rfl, rfl, trivial⟩ rfl rfl rfl ?_
    intro z9 q10 n13 k11 H12
    refine jn_seq ?_
    refine jn_reg 30 ?_
    refine jg_y (fun w hs => yv_lss rfl rfl) rfl rfl ?_
    refine jg_nils [(5, _), (6, _), (103, _), (104, _), (105, _), (106, _)] ⟨rfl, rfl, rfl, rfl, rfl, rfl, trivial⟩ ?_
    refine jk_sn ?_
    refine jn_seq ?_
    refine jn_cond rfl ?_ ?_
    rotate_left
    · refine jn_exit ?_
      refine jk_se (jk_le (jk_bh (jk_sn ?_)))
      refine jn_seq ?_
      refine jn_seq ?_
      refine jn_reg 35 ?_
      refine jg_mv rfl rfl rfl ?_
      refine jg_y (fun w hs => yv_gtr rfl rfl) rfl rfl ?_
      refine jg_nils [(134, _)] ⟨rfl, trivial⟩ ?_
      refine jk_sn ?_
      refine jn_cond rfl ?_ ?_
      · refine jn_seq ?_
        refine jn_reg 36 ?_
        refine jg_as rfl rfl rfl ?_
        refine jg_nils [(2, _)] ⟨rfl, trivial⟩ ?_
        refine jk_sn ?_
        refine jn_ret ?_
        refine jk_sr ?_
        exact jk_ret1 rfl (fun w hs => .tmp rfl) (fun w hs => ⟨rfl, hs.drop⟩)
      refine jn_skip ?_
      refine jk_sn ?_
      refine jn_seq ?_
      refine jn_reg 37 ?_
      refine jg_as rfl rfl rfl ?_
      refine jg_nils [(2, _)] ⟨rfl, trivial⟩ ?_
      refine jk_sn ?_
      refine jn_ret ?_
      exact jk_ret1 rfl (fun w hs => .tmp rfl) (fun w hs => ⟨rfl, hs.drop⟩)
    refine jn_skip ?_
    refine jk_sn ?_
    refine jn_seq ?_
    refine jn_block ?_
    refine jn_seq ?_
    refine jn_reg 31 ?_
    refine jg_mv rfl rfl rfl ?_
    refine jg_ix fun x14 h15 => ?_
    refine jg_y (fun w hs => yv_ix rfl rfl (hs.arg Rha0) h15) rfl rfl ?_
    refine jg_y (fun w hs => yv_eS rfl (hs.arg Rha0) h15.1 (l8 rfl) rfl) rfl rfl ?_
    refine jg_alloc (l8 rfl) rfl rfl fun g16 => ?_
    refine jg_as rfl rfl rfl ?_
    refine jg_store 0 rfl rfl rfl (l8 rfl) rfl rfl rfl rfl (l8 rfl) (r2 rfl) ?_
    refine jg_nils [(5, _), (6, _), (11, _), (12, _), (103, _), (104, _), (105, _)] ⟨rfl, rfl, rfl, rfl, rfl, rfl, rfl, trivial⟩ ?_
    refine jk_sn ?_
    refine jn_seq ?_
    refine jn_reg 32 ?_
    refine jg_y (fun w hs => yv_fieldAddr rfl) rfl rfl ?_
    refine jg_y (fun w hs => yv_load rfl (ld1B (hs.blkL (i := 0) rfl) rfl)) rfl rfl ?_
    refine jg_y (fun w hs => yv_eql rfl rfl) rfl rfl ?_
    refine jg_mv rfl rfl rfl ?_
    refine jg_split 113 rfl ?_ ?_
    rotate_left
    · refine jg_skip rfl rfl ?_
      refine jg_skip rfl rfl ?_
      refine jg_skip rfl rfl ?_
      refine jg_skip rfl rfl ?_
      refine jg_skip rfl rfl ?_
      refine jg_y (fun w hs => yv_pick_f rfl rfl) rfl rfl ?_
      refine jg_mv rfl rfl rfl ?_
      refine jg_y (fun w hs => yv_fieldAddr rfl) rfl rfl ?_
      refine jg_y (fun w hs => yv_load rfl (ld1B (hs.blkL (i := 0) rfl) rfl)) rfl rfl ?_
      refine jg_y (fun w hs => yv_neq rfl rfl) rfl rfl ?_
      refine jg_mv rfl rfl rfl ?_
      refine jg_split 124 rfl ?_ ?_
      rotate_left
      · refine jg_skip rfl rfl ?_
        refine jg_skip rfl rfl ?_
        refine jg_skip rfl rfl ?_
        refine jg_skip rfl rfl ?_
        refine jg_skip rfl rfl ?_
        refine jg_y (fun w hs => yv_pick_f rfl rfl) rfl rfl ?_
        refine jg_y (fun w hs => yv_pick_f rfl rfl) rfl rfl ?_
        refine jg_nils [(5, _), (6, _), (103, _), (104, _), (105, _), (131, _)] ⟨rfl, rfl, rfl, rfl, rfl, rfl, trivial⟩ ?_
        refine jk_sn ?_
        refine jn_cf rfl ?_
        refine jn_skip ?_
        refine jk_bn (jk_sn ?_)
        refine jn_reg 34 ?_
        refine jg_y (fun w hs => yv_add_w rfl rfl) rfl rfl ?_
        refine jg_mv rfl rfl rfl ?_
        refine jg_nils [(5, _), (6, _), (103, _), (104, _), (105, _)] ⟨rfl, rfl, rfl, rfl, rfl, trivial⟩ ?_
        exact jk_use H12 (w64 (z9 + 1)) () [1] ⟨rfl, rfl, rfl, rfl, rfl, trivial⟩ rfl rfl rfl
      refine jg_mv rfl rfl rfl ?_
      refine jg_mv rfl rfl rfl ?_
      refine jg_ix fun x21 h22 => ?_
      refine jg_y (fun w hs => yv_ix rfl rfl (hs.row 1 rfl) h22) rfl rfl ?_
      refine jg_y (fun w hs => yv_e1 rfl (hs.row 1 rfl) h22.1 rfl) rfl rfl ?_
      refine jg_y (fun w hs => yv_lss rfl rfl) rfl rfl ?_
      refine jg_y (fun w hs => yv_pick_t rfl rfl) rfl rfl ?_
      refine jg_y (fun w hs => yv_pick_f rfl rfl) rfl rfl ?_
      refine jg_nils [(5, _), (6, _), (103, _), (104, _), (105, _), (131, _)] ⟨rfl, rfl, rfl, rfl, rfl, rfl, trivial⟩ ?_
      refine jk_sn ?_
      refine jn_cond rfl ?_ ?_
      rotate_left
      · refine jn_skip ?_
        refine jk_bn (jk_sn ?_)
        refine jn_reg 34 ?_
        refine jg_y (fun w hs => yv_add_w rfl rfl) rfl rfl ?_
        refine jg_mv rfl rfl rfl ?_
        refine jg_nils [(5, _), (6, _), (103, _), (104, _), (105, _)] ⟨rfl, rfl, rfl, rfl, rfl, trivial⟩ ?_
        exact jk_use H12 (w64 (z9 + 1)) () [1] ⟨rfl, rfl, rfl, rfl, rfl, trivial⟩ rfl rfl rfl
      refine jn_seq ?_
      refine jn_reg 33 ?_
      refine jg_as rfl rfl rfl ?_
      refine jg_nils [(2, _)] ⟨rfl, trivial⟩ ?_
      refine jk_sel (is := []) (s0 rfl) rfl ?_
      refine jk_sn ?_
      refine jn_ret ?_
      refine jk_br (jk_sr (jk_lr (jk_br (jk_sr ?_))))
      exact jk_ret1 rfl (fun w hs => .tmp rfl) (fun w hs => ⟨rfl, hs.drop⟩)
    refine jg_mv rfl rfl rfl ?_
    refine jg_mv rfl rfl rfl ?_
    refine jg_ix fun x17 h18 => ?_
    refine jg_y (fun w hs => yv_ix rfl rfl (hs.row 1 rfl) h18) rfl rfl ?_
    refine jg_y (fun w hs => yv_e1 rfl (hs.row 1 rfl) h18.1 rfl) rfl rfl ?_
    refine jg_y (fun w hs => yv_lss rfl rfl) rfl rfl ?_
    refine jg_y (fun w hs => yv_pick_t rfl rfl) rfl rfl ?_
    refine jg_mv rfl rfl rfl ?_
    refine jg_split 120 rfl ?_ ?_
    · refine jg_skip rfl rfl ?_
      refine jg_skip rfl rfl ?_
      refine jg_skip rfl rfl ?_
      refine jg_skip rfl rfl ?_
      refine jg_skip rfl rfl ?_
      refine jg_skip rfl rfl ?_
      refine jg_skip rfl rfl ?_
      refine jg_skip rfl rfl ?_
      refine jg_skip rfl rfl ?_
      refine jg_skip rfl rfl ?_
      refine jg_y (fun w hs => yv_pick_t rfl rfl) rfl rfl ?_
      refine jg_nils [(5, _), (6, _), (103, _), (104, _), (105, _), (131, _)] ⟨rfl, rfl, rfl, rfl, rfl, rfl, trivial⟩ ?_
      refine jk_sn ?_
      refine jn_ct rfl ?_
      refine jn_seq ?_
      refine jn_reg 33 ?_
      refine jg_as rfl rfl rfl ?_
      refine jg_nils [(2, _)] ⟨rfl, trivial⟩ ?_
      refine jk_sel (is := []) (s0 rfl) rfl ?_
      refine jk_sn ?_
      refine jn_ret ?_
      refine jk_br (jk_sr (jk_lr (jk_br (jk_sr ?_))))
      exact jk_ret1 rfl (fun w hs => .tmp rfl) (fun w hs => ⟨rfl, hs.drop⟩)
    refine jg_y (fun w hs => yv_fieldAddr rfl) rfl rfl ?_
    refine jg_y (fun w hs => yv_load rfl (ld1B (hs.blkL (i := 0) rfl) rfl)) rfl rfl ?_
    refine jg_y (fun w hs => yv_neq rfl rfl) rfl rfl ?_
    refine jg_mv rfl rfl rfl ?_
    refine jg_split 124 rfl ?_ ?_
    rotate_left
    · refine jg_skip rfl rfl ?_
      refine jg_skip rfl rfl ?_
      refine jg_skip rfl rfl ?_
      refine jg_skip rfl rfl ?_
      refine jg_skip rfl rfl ?_
      refine jg_y (fun w hs => yv_pick_f rfl rfl) rfl rfl ?_
      refine jg_y (fun w hs => yv_pick_f rfl rfl) rfl rfl ?_
      refine jg_nils [(5, _), (6, _), (103, _), (104, _), (105, _), (131, _)] ⟨rfl, rfl, rfl, rfl, rfl, rfl, trivial⟩ ?_
      refine jk_sn ?_
      refine jn_cf rfl ?_
      refine jn_skip ?_
      refine jk_bn (jk_sn ?_)
      refine jn_reg 34 ?_
      refine jg_y (fun w hs => yv_add_w rfl rfl) rfl rfl ?_
      refine jg_mv rfl rfl rfl ?_
      refine jg_nils [(5, _), (6, _), (103, _), (104, _), (105, _)] ⟨rfl, rfl, rfl, rfl, rfl, trivial⟩ ?_
      exact jk_use H12 (w64 (z9 + 1)) () [1] ⟨rfl, rfl, rfl, rfl, rfl, trivial⟩ rfl rfl rfl
    refine jg_mv rfl rfl rfl ?_
    refine jg_mv rfl rfl rfl ?_
    refine jg_ix fun x19 h20 => ?_
    refine jg_y (fun w hs => yv_ix rfl rfl (hs.row 1 rfl) h20) rfl rfl ?_
    refine jg_y (fun w hs => yv_e1 rfl (hs.row 1 rfl) h20.1 rfl) rfl rfl ?_
    refine jg_y (fun w hs => yv_lss rfl rfl) rfl rfl ?_
    refine jg_y (fun w hs => yv_pick_t rfl rfl) rfl rfl ?_
    refine jg_y (fun w hs => yv_pick_f rfl rfl) rfl rfl ?_
    refine jg_nils [(5, _), (6, _), (103, _), (104, _), (105, _), (131, _)] ⟨rfl, rfl, rfl, rfl, rfl, rfl, trivial⟩ ?_
    refine jk_sn ?_
    refine jn_cond rfl ?_ ?_
    rotate_left
    · refine jn_skip ?_
      refine jk_bn (jk_sn ?_)
      refine jn_reg 34 ?_
      refine jg_y (fun w hs => yv_add_w rfl rfl) rfl rfl ?_
      refine jg_mv rfl rfl rfl ?_
      refine jg_nils [(5, _), (6, _), (103, _), (104, _), (105, _)] ⟨rfl, rfl, rfl, rfl, rfl, trivial⟩ ?_
      exact jk_use H12 (w64 (z9 + 1)) () [1] ⟨rfl, rfl, rfl, rfl, rfl, trivial⟩ rfl rfl rfl
    refine jn_seq ?_
    refine jn_reg 33 ?_
    refine jg_as rfl rfl rfl ?_
    refine jg_nils [(2, _)] ⟨rfl, trivial⟩ ?_
    refine jk_sel (is := []) (s0 rfl) rfl ?_
    refine jk_sn ?_
    refine jn_ret ?_
    refine jk_br (jk_sr (jk_lr (jk_br (jk_sr ?_))))
    exact jk_ret1 rfl (fun w hs => .tmp rfl) (fun w hs => ⟨rfl, hs.drop⟩)
  intro k7 H8
  refine jn_seq ?_
  refine jn_reg 9 ?_
  refine jg_mv rfl rfl rfl ?_
  refine jg_y (fun w hs => yv_ln rfl (hs.arg Rha0)) rfl rfl ?_
  refine jg_mv rfl rfl rfl ?_
  refine jg_nils [(0, _), (3, _), (4, _), (5, _), (6, _), (26, _), (27, _), (28, _)] ⟨rfl, rfl, rfl, rfl, rfl, rfl, rfl, rfl, trivial⟩ ?_
  refine jk_sn ?_
  refine jn_block ?_
  refine jn_lp (n := big) (fun (s : ((List ByteArray) × (List LayoutPlace) × (List Int) × Int × Int)) (g : Unit) => [(0, ha0.v), (3, .map (some g1)), (4, .map (some g2)), (5, hd4.v), (6, .int .i64 s.2.2.2.1), (26, ha0.v), (27, .int .i64 (a0.length : Int)), (28, .int .i64 s.2.2.2.2)]) (fun (s : ((List ByteArray) × (List LayoutPlace) × (List Int) × Int × Int)) (g : Unit) => []) (fun (s : ((List ByteArray) × (List LayoutPlace) × (List Int) × Int × Int)) (g : Unit) => [(Res.obj g1 (mapO kvZ s.1)), (Res.obj g2 (mapO LayoutPlace.kv s.2.1)), (rowH hd4 3 1 encI s.2.2.1)]) (([] : List ByteArray), ([] : List LayoutPlace), y3, 0, 0) () [2, 1, 0] ⟨rfl, rfl, rfl, rfl, rfl, rfl, rfl, rfl, trivial⟩ rfl rfl rfl ?_
  intro z23 q24 n27 k25 H26
  refine jn_seq ?_
  refine jn_reg 10 ?_
  refine jg_y (fun w hs => yv_lss rfl rfl) rfl rfl ?_
  refine jg_nils [(0, _), (3, _), (4, _), (5, _), (6, _), (26, _), (27, _), (28, _), (29, _)] ⟨rfl, rfl, rfl, rfl, rfl, rfl, rfl, rfl, rfl, trivial⟩ ?_
  refine jk_sn ?_
  refine jn_seq ?_
  refine jn_cond rfl ?_ ?_
  rotate_left
  · refine jn_exit ?_
    refine jk_se (jk_le (jk_bh ?_))
    exact jk_use H8 (z23.2.2.1, z23.2.2.2.1) () [2] ⟨rfl, rfl, rfl, trivial⟩ rfl rfl rfl
  refine jn_skip ?_
  refine jk_sn ?_
  refine jn_seq ?_
  refine jn_block ?_
  refine jn_seq ?_
  refine jn_reg 11 ?_
  refine jg_mv rfl rfl rfl ?_
  refine jg_ix fun x28 h29 => ?_
  refine jg_y (fun w hs => yv_ix rfl rfl (hs.arg Rha0) h29) rfl rfl ?_
  refine jg_y (fun w hs => yv_eS rfl (hs.arg Rha0) h29.1 (l8 rfl) rfl) rfl rfl ?_
  refine jg_alloc (l8 rfl) rfl rfl fun g30 => ?_
  refine jg_as rfl rfl rfl ?_
  refine jg_store 0 rfl rfl rfl (l8 rfl) rfl rfl rfl rfl (l8 rfl) (r4 rfl) ?_
  refine jg_nils [(0, _), (3, _), (4, _), (5, _), (6, _), (7, _), (8, _), (26, _), (27, _), (28, _)] ⟨rfl, rfl, rfl, rfl, rfl, rfl, rfl, rfl, rfl, rfl, trivial⟩ ?_
  refine jk_sn ?_
  refine jn_seq ?_
  refine jn_seq ?_
  refine jn_reg 12 ?_
  refine jg_y (fun w hs => yv_load rfl (ldBB (hs.blkL (i := 0) rfl) rfl)) rfl rfl ?_
  refine jg_c0 rfl (fun v w hs hm => layout_sound_c (a0 := x28) hm ) rfl rfl fun v31 => ?_
  refine jg_y (fun w hs => yv_not rfl) rfl rfl ?_
  refine jg_mv rfl rfl rfl ?_
  refine jg_split 36 rfl ?_ ?_
  · refine jg_skip rfl rfl ?_
    refine jg_skip rfl rfl ?_
    refine jg_skip rfl rfl ?_
    refine jg_skip rfl rfl ?_
    refine jg_skip rfl rfl ?_
    refine jg_skip rfl rfl ?_
    refine jg_y (fun w hs => yv_pick_t rfl rfl) rfl rfl ?_
    refine jg_nils [(0, _), (3, _), (4, _), (5, _), (6, _), (7, _), (8, _), (26, _), (27, _), (28, _), (43, _)] ⟨rfl, rfl, rfl, rfl, rfl, rfl, rfl, rfl, rfl, rfl, rfl, trivial⟩ ?_
    refine jk_sn ?_
    refine jn_ct rfl ?_
    refine jn_seq ?_
    refine jn_reg 13 ?_
    refine jg_as rfl rfl rfl ?_
    refine jg_nils [(2, _)] ⟨rfl, trivial⟩ ?_
    refine jk_sel (is := []) (s0 rfl) rfl ?_
    refine jk_sn ?_
    refine jn_ret ?_
    refine jk_sr (jk_br (jk_sr (jk_lr (jk_br (jk_sr ?_)))))
    exact jk_ret1 rfl (fun w hs => .tmp rfl) (fun w hs => ⟨rfl, hs.drop⟩)
  refine jg_y (fun w hs => yv_fieldAddr rfl) rfl rfl ?_
  refine jg_y (fun w hs => yv_load rfl (ld1B (hs.blkL (i := 0) rfl) rfl)) rfl rfl ?_
  refine jg_y (fun w hs => yv_eql rfl rfl) rfl rfl ?_
  refine jg_mv rfl rfl rfl ?_
  refine jg_y (fun w hs => yv_eql rfl rfl) rfl rfl ?_
  refine jg_y (fun w hs => yv_neqb Try.underlying4 rfl rfl) rfl rfl ?_
  refine jg_y (fun w hs => yv_pick_f rfl rfl) rfl rfl ?_
  refine jg_nils [(0, _), (3, _), (4, _), (5, _), (6, _), (7, _), (8, _), (26, _), (27, _), (28, _), (43, _)] ⟨rfl, rfl, rfl, rfl, rfl, rfl, rfl, rfl, rfl, rfl, rfl, trivial⟩ ?_
  refine jk_sn ?_
  refine jn_cond rfl ?_ ?_
  · refine jn_seq ?_
    refine jn_reg 13 ?_
    refine jg_as rfl rfl rfl ?_
    refine jg_nils [(2, _)] ⟨rfl, trivial⟩ ?_
    refine jk_sel (is := []) (s0 rfl) rfl ?_
    refine jk_sn ?_
    refine jn_ret ?_
    refine jk_sr (jk_br (jk_sr (jk_lr (jk_br (jk_sr ?_)))))
    exact jk_ret1 rfl (fun w hs => .tmp rfl) (fun w hs => ⟨rfl, hs.drop⟩)
  refine jn_skip ?_
  refine jk_sn ?_
  refine jn_seq ?_
  refine jn_seq ?_
  refine jn_reg 14 ?_
  refine jg_mv rfl rfl rfl ?_
  refine jg_y (fun w hs => yv_fieldAddr rfl) rfl rfl ?_
  refine jg_y (fun w hs => yv_load rfl (ld1B (hs.blkL (i := 0) rfl) rfl)) rfl rfl ?_
  refine jg_y (fun w hs => yv_lookup (kv := kvZ) (k := x28.Name) rfl rfl (hs.mapL (i := 1) rfl)) rfl rfl ?_
  refine jg_nils [(0, _), (3, _), (4, _), (5, _), (6, _), (7, _), (8, _), (26, _), (27, _), (28, _), (47, _)] ⟨rfl, rfl, rfl, rfl, rfl, rfl, rfl, rfl, rfl, rfl, rfl, trivial⟩ ?_
  refine jk_sn ?_
  refine jn_cond rfl ?_ ?_
  · refine jn_seq ?_
    refine jn_reg 15 ?_
    refine jg_as rfl rfl rfl ?_
    refine jg_nils [(2, _)] ⟨rfl, trivial⟩ ?_
    refine jk_sel (is := []) (s0 rfl) rfl ?_
    refine jk_sn ?_
    refine jn_ret ?_
    refine jk_sr (jk_br (jk_sr (jk_lr (jk_br (jk_sr ?_)))))
    exact jk_ret1 rfl (fun w hs => .tmp rfl) (fun w hs => ⟨rfl, hs.drop⟩)
  refine jn_skip ?_
  refine jk_sn ?_
  refine jn_seq ?_
  refine jn_reg 16 ?_
  refine jg_mv rfl rfl rfl ?_
  refine jg_y (fun w hs => yv_fieldAddr rfl) rfl rfl ?_
  refine jg_y (fun w hs => yv_load rfl (ld1B (hs.blkL (i := 0) rfl) rfl)) rfl rfl ?_
  refine jg_mapset 1 (kv := kvZ) (k := x28.Name) rfl rfl rfl rfl rfl fun y32 => ?_
  refine jg_L (r4 rfl) ?_
  refine jg_nils [(0, _), (3, _), (4, _), (5, _), (6, _), (7, _), (8, _), (26, _), (27, _), (28, _)] ⟨rfl, rfl, rfl, rfl, rfl, rfl, rfl, rfl, rfl, rfl, trivial⟩ ?_
  refine jk_sn ?_
  refine jn_seq ?_
  refine jn_seq ?_
  refine jn_reg 17 ?_
  refine jg_mv rfl rfl rfl ?_
  refine jg_y (fun w hs => yv_eql rfl rfl) rfl rfl ?_
  refine jg_nils [(0, _), (3, _), (4, _), (5, _), (6, _), (7, _), (8, _), (26, _), (27, _), (28, _), (52, _)] ⟨rfl, rfl, rfl, rfl, rfl, rfl, rfl, rfl, rfl, rfl, rfl, trivial⟩ ?_
  refine jk_sn ?_
  refine jn_cond rfl ?_ ?_
  · refine jn_exit ?_
    refine jk_se (jk_bh (jk_sn ?_))
    refine jn_reg 28 ?_
    refine jg_y (fun w hs => yv_add_w rfl rfl) rfl rfl ?_
    refine jg_mv rfl rfl rfl ?_
    refine jg_nils [(0, _), (3, _), (4, _), (5, _), (6, _), (26, _), (27, _), (28, _)] ⟨rfl, rfl, rfl, rfl, rfl, rfl, rfl, rfl, trivial⟩ ?_
    exact jk_use H26 (y32, z23.2.1, z23.2.2.1, z23.2.2.2.1, w64 (z23.2.2.2.2 + 1)) () [1, 2, 3] ⟨rfl, rfl, rfl, rfl, rfl, rfl, rfl, rfl, trivial⟩ rfl rfl rfl
  refine jn_skip ?_
  refine jk_sn ?_
  refine jn_seq ?_
  refine jn_seq ?_
  refine jn_reg 18 ?_
  refine jg_y (fun w hs => yv_fieldAddr rfl) rfl rfl ?_
  refine jg_y (fun w hs => yv_load rfl (ld1B (hs.blkL (i := 0) rfl) rfl)) rfl rfl ?_
  refine jg_y (fun w hs => yv_lss rfl rfl) rfl rfl ?_
  refine jg_mv rfl rfl rfl ?_
  refine jg_split 56 rfl ?_ ?_
  · refine jg_skip rfl rfl ?_
    refine jg_skip rfl rfl ?_
    refine jg_skip rfl rfl ?_
    refine jg_skip rfl rfl ?_
    refine jg_y (fun w hs => yv_pick_t rfl rfl) rfl rfl ?_
    refine jg_nils [(0, _), (3, _), (4, _), (5, _), (6, _), (8, _), (26, _), (27, _), (28, _), (61, _)] ⟨rfl, rfl, rfl, rfl, rfl, rfl, rfl, rfl, rfl, rfl, trivial⟩ ?_
    refine jk_sn ?_
    refine jn_ct rfl ?_
    refine jn_seq ?_
    refine jn_reg 19 ?_
    refine jg_as rfl rfl rfl ?_
    refine jg_nils [(2, _)] ⟨rfl, trivial⟩ ?_
    refine jk_sel (is := []) (s0 rfl) rfl ?_
    refine jk_sn ?_
    refine jn_ret ?_
    refine jk_sr (jk_br (jk_sr (jk_lr (jk_br (jk_sr ?_)))))
    exact jk_ret1 rfl (fun w hs => .tmp rfl) (fun w hs => ⟨rfl, hs.drop⟩)
  refine jg_y (fun w hs => yv_fieldAddr rfl) rfl rfl ?_
  refine jg_y (fun w hs => yv_load rfl (ld1B (hs.blkL (i := 0) rfl) rfl)) rfl rfl ?_
  refine jg_mv rfl rfl rfl ?_
  refine jg_y (fun w hs => yv_geq rfl rfl) rfl rfl ?_
  refine jg_y (fun w hs => yv_pick_f rfl rfl) rfl rfl ?_
  refine jg_nils [(0, _), (3, _), (4, _), (5, _), (6, _), (8, _), (26, _), (27, _), (28, _), (61, _)] ⟨rfl, rfl, rfl, rfl, rfl, rfl, rfl, rfl, rfl, rfl, trivial⟩ ?_
  refine jk_sn ?_
  refine jn_cond rfl ?_ ?_
  · refine jn_seq ?_
    refine jn_reg 19 ?_
    refine jg_as rfl rfl rfl ?_
    refine jg_nils [(2, _)] ⟨rfl, trivial⟩ ?_
    refine jk_sel (is := []) (s0 rfl) rfl ?_
    refine jk_sn ?_
    refine jn_ret ?_
    refine jk_sr (jk_br (jk_sr (jk_lr (jk_br (jk_sr ?_)))))
    exact jk_ret1 rfl (fun w hs => .tmp rfl) (fun w hs => ⟨rfl, hs.drop⟩)
  refine jn_skip ?_
  refine jk_sn ?_
  refine jn_seq ?_
  refine jn_reg 20 ?_
  refine jg_mv rfl rfl rfl ?_
  refine jg_y (fun w hs => yv_fieldAddr rfl) rfl rfl ?_
  refine jg_y (fun w hs => yv_load rfl (ld1B (hs.blkL (i := 0) rfl) rfl)) rfl rfl ?_
  refine jg_ix fun x33 h34 => ?_
  refine jg_y (fun w hs => yv_ix rfl rfl (hs.arg Rha0) h34) rfl rfl ?_
  refine jg_y (fun w hs => yv_ef rfl (hs.arg Rha0) h34.1) rfl rfl ?_
  refine jg_y (fun w hs => yv_e1 rfl (hs.arg Rha0) h34.1 rfl) rfl rfl ?_
  refine jg_as rfl rfl rfl ?_
  refine jg_nils [(0, _), (3, _), (4, _), (5, _), (6, _), (8, _), (9, _), (26, _), (27, _), (28, _)] ⟨rfl, rfl, rfl, rfl, rfl, rfl, rfl, rfl, rfl, rfl, trivial⟩ ?_
  refine jk_sn ?_
  refine jn_seq ?_
  refine jn_reg 21 ?_
  refine jg_y (fun w hs => yv_fieldAddr rfl) rfl rfl ?_
  refine jg_y (fun w hs => yv_load rfl (ld1B (hs.blkL (i := 0) rfl) rfl)) rfl rfl ?_
  refine jg_y (fun w hs => yv_fieldAddr rfl) rfl rfl ?_
  refine jg_y (fun w hs => yv_load rfl (ld1B (hs.blkL (i := 0) rfl) rfl)) rfl rfl ?_
  refine jg_y (fun w hs => yv_build rfl (o2 rfl)) rfl rfl ?_
  refine jg_alloc (l2 rfl) rfl rfl fun g35 => ?_
  refine jg_store 0 rfl rfl rfl (l2 rfl) rfl rfl rfl rfl (l2 rfl) (r5 rfl) ?_
  refine jg_nils [(0, _), (3, _), (4, _), (5, _), (6, _), (8, _), (9, _), (10, _), (26, _), (27, _), (28, _)] ⟨rfl, rfl, rfl, rfl, rfl, rfl, rfl, rfl, rfl, rfl, rfl, trivial⟩ ?_
  refine jk_sn ?_
  refine jn_seq ?_
  refine jn_seq ?_
  refine jn_reg 22 ?_
  refine jg_mv rfl rfl rfl ?_
  refine jg_y (fun w hs => yv_eql rfl rfl) rfl rfl ?_
  refine jg_mv rfl rfl rfl ?_
  refine jg_split 75 rfl ?_ ?_
  · refine jg_skip rfl rfl ?_
    refine jg_skip rfl rfl ?_
    refine jg_skip rfl rfl ?_
    refine jg_skip rfl rfl ?_
    refine jg_skip rfl rfl ?_
    refine jg_skip rfl rfl ?_
    refine jg_y (fun w hs => yv_pick_t rfl rfl) rfl rfl ?_
    refine jg_mv rfl rfl rfl ?_
    refine jg_skip rfl rfl ?_
    refine jg_skip rfl rfl ?_
    refine jg_skip rfl rfl ?_
    refine jg_y (fun w hs => yv_pick_t rfl rfl) rfl rfl ?_
    refine jg_nils [(0, _), (3, _), (4, _), (5, _), (6, _), (8, _), (10, _), (26, _), (27, _), (28, _), (87, _)] ⟨rfl, rfl, rfl, rfl, rfl, rfl, rfl, rfl, rfl, rfl, rfl, trivial⟩ ?_
    refine jk_sn ?_
    refine jn_ct rfl ?_
    refine jn_seq ?_
    refine jn_reg 23 ?_
    refine jg_as rfl rfl rfl ?_
    refine jg_nils [(2, _)] ⟨rfl, trivial⟩ ?_
    refine jk_sel (is := []) (s0 rfl) rfl ?_
    refine jk_sn ?_
    refine jn_ret ?_
    refine jk_sr (jk_br (jk_sr (jk_lr (jk_br (jk_sr ?_)))))
    exact jk_ret1 rfl (fun w hs => .tmp rfl) (fun w hs => ⟨rfl, hs.drop⟩)
  refine jg_mv rfl rfl rfl ?_
  refine jg_y (fun w hs => yv_eql rfl rfl) rfl rfl ?_
  refine jg_y (fun w hs => yv_fieldAddr rfl) rfl rfl ?_
  refine jg_y (fun w hs => yv_load rfl (ld1B (hs.blkL (i := 1) rfl) rfl)) rfl rfl ?_
  refine jg_y (fun w hs => yv_neq rfl rfl) rfl rfl ?_
  refine jg_y (fun w hs => yv_neqb Try.underlying4 rfl rfl) rfl rfl ?_
  refine jg_y (fun w hs => yv_pick_f rfl rfl) rfl rfl ?_
  refine jg_mv rfl rfl rfl ?_
  refine jg_split 83 rfl ?_ ?_
  · refine jg_skip rfl rfl ?_
    refine jg_skip rfl rfl ?_
    refine jg_skip rfl rfl ?_
    refine jg_y (fun w hs => yv_pick_t rfl rfl) rfl rfl ?_
    refine jg_nils [(0, _), (3, _), (4, _), (5, _), (6, _), (8, _), (10, _), (26, _), (27, _), (28, _), (87, _)] ⟨rfl, rfl, rfl, rfl, rfl, rfl, rfl, rfl, rfl, rfl, rfl, trivial⟩ ?_
    refine jk_sn ?_
    refine jn_ct rfl ?_
    refine jn_seq ?_
    refine jn_reg 23 ?_
    refine jg_as rfl rfl rfl ?_
    refine jg_nils [(2, _)] ⟨rfl, trivial⟩ ?_
    refine jk_sel (is := []) (s0 rfl) rfl ?_
    refine jk_sn ?_
    refine jn_ret ?_
    refine jk_sr (jk_br (jk_sr (jk_lr (jk_br (jk_sr ?_)))))
    exact jk_ret1 rfl (fun w hs => .tmp rfl) (fun w hs => ⟨rfl, hs.drop⟩)
  refine jg_mv rfl rfl rfl ?_
  refine jg_y (fun w hs => yv_load rfl (ldBB (hs.blkL (i := 0) rfl) rfl)) rfl rfl ?_
  refine jg_y (fun w hs => yv_lookup (kv := LayoutPlace.kv) (k := (LayoutPlace.mk x28.Parent x28.Side)) rfl rfl (hs.mapL (i := 3) rfl)) rfl rfl ?_
  refine jg_y (fun w hs => yv_pick_f rfl rfl) rfl rfl ?_
  refine jg_nils [(0, _), (3, _), (4, _), (5, _), (6, _), (8, _), (10, _), (26, _), (27, _), (28, _), (87, _)] ⟨rfl, rfl, rfl, rfl, rfl, rfl, rfl, rfl, rfl, rfl, rfl, trivial⟩ ?_
  refine jk_sn ?_
  refine jn_cond rfl ?_ ?_
  · refine jn_seq ?_
    refine jn_reg 23 ?_
    refine jg_as rfl rfl rfl ?_
    refine jg_nils [(2, _)] ⟨rfl, trivial⟩ ?_
    refine jk_sel (is := []) (s0 rfl) rfl ?_
    refine jk_sn ?_
    refine jn_ret ?_
    refine jk_sr (jk_br (jk_sr (jk_lr (jk_br (jk_sr ?_)))))
    exact jk_ret1 rfl (fun w hs => .tmp rfl) (fun w hs => ⟨rfl, hs.drop⟩)
  refine jn_skip ?_
  refine jk_sn ?_
  refine jn_seq ?_
  refine jn_reg 24 ?_
  refine jg_mv rfl rfl rfl ?_
  refine jg_y (fun w hs => yv_load rfl (ldBB (hs.blkL (i := 0) rfl) rfl)) rfl rfl ?_
  refine jg_mapset 3 (kv := LayoutPlace.kv) (k := (LayoutPlace.mk x28.Parent x28.Side)) rfl rfl rfl rfl rfl fun y36 => ?_
  refine jg_L (r5 rfl) ?_
  refine jg_nils [(0, _), (3, _), (4, _), (5, _), (6, _), (8, _), (26, _), (27, _), (28, _)] ⟨rfl, rfl, rfl, rfl, rfl, rfl, rfl, rfl, rfl, trivial⟩ ?_
  refine jk_sn ?_
  refine jn_seq ?_
  refine jn_reg 25 ?_
  refine jg_mv rfl rfl rfl ?_
  refine jg_y (fun w hs => yv_fieldAddr rfl) rfl rfl ?_
  refine jg_y (fun w hs => yv_load rfl (ld1B (hs.blkL (i := 1) rfl) rfl)) rfl rfl ?_
  refine jg_ix fun x37 h38 => ?_
  refine jg_y (fun w hs => yv_ix rfl rfl (hs.row 4 rfl) h38) rfl rfl ?_
  refine jg_y (fun w hs => yv_e1 rfl (hs.row 4 rfl) h38.1 rfl) rfl rfl ?_
  refine jg_y (fun w hs => yv_add_w rfl rfl) rfl rfl ?_
  refine jg_ix fun x39 h40 => ?_
  refine jg_y (fun w hs => yv_ix rfl rfl (hs.row 4 rfl) h40) rfl rfl ?_
  refine jg_storeE 4 (a' := w64 (x37 + 1)) rfl rfl h40.1 rfl (l1 rfl) rfl rfl rfl rfl fun y41 => ?_
  refine jg_L (r5 rfl) ?_
  refine jg_nils [(0, _), (3, _), (4, _), (5, _), (6, _), (8, _), (26, _), (27, _), (28, _)] ⟨rfl, rfl, rfl, rfl, rfl, rfl, rfl, rfl, rfl, trivial⟩ ?_
  refine jk_sn ?_
  refine jn_seq ?_
  refine jn_reg 26 ?_
  refine jg_y (fun w hs => yv_fieldAddr rfl) rfl rfl ?_
  refine jg_y (fun w hs => yv_load rfl (ld1B (hs.blkL (i := 1) rfl) rfl)) rfl rfl ?_
  refine jg_y (fun w hs => yv_eql rfl rfl) rfl rfl ?_
  refine jg_nils [(0, _), (3, _), (4, _), (5, _), (6, _), (26, _), (27, _), (28, _), (99, _)] ⟨rfl, rfl, rfl, rfl, rfl, rfl, rfl, rfl, rfl, trivial⟩ ?_
  refine jk_sel (is := [2, 3, 4]) (s3 rfl) rfl ?_
  refine jk_sn ?_
  refine jn_cond rfl ?_ ?_
  rotate_left
  · refine jn_skip ?_
    refine jk_bn (jk_sn ?_)
    refine jn_reg 28 ?_
    refine jg_y (fun w hs => yv_add_w rfl rfl) rfl rfl ?_
    refine jg_mv rfl rfl rfl ?_
    refine jg_nils [(0, _), (3, _), (4, _), (5, _), (6, _), (26, _), (27, _), (28, _)] ⟨rfl, rfl, rfl, rfl, rfl, rfl, rfl, rfl, trivial⟩ ?_
    exact jk_use H26 (y32, y36, y41, z23.2.2.2.1, w64 (z23.2.2.2.2 + 1)) () [0, 1, 2] ⟨rfl, rfl, rfl, rfl, rfl, rfl, rfl, rfl, trivial⟩ rfl rfl rfl
  refine jn_reg 27 ?_
  refine jg_mv rfl rfl rfl ?_
  refine jg_y (fun w hs => yv_add_w rfl rfl) rfl rfl ?_
  refine jg_as rfl rfl rfl ?_
  refine jg_nils [(0, _), (3, _), (4, _), (5, _), (6, _), (26, _), (27, _), (28, _)] ⟨rfl, rfl, rfl, rfl, rfl, rfl, rfl, rfl, trivial⟩ ?_
  refine jk_bn (jk_sn ?_)
  refine jn_reg 28 ?_
  refine jg_y (fun w hs => yv_add_w rfl rfl) rfl rfl ?_
  refine jg_mv rfl rfl rfl ?_
  refine jg_nils [(0, _), (3, _), (4, _), (5, _), (6, _), (26, _), (27, _), (28, _)] ⟨rfl, rfl, rfl, rfl, rfl, rfl, rfl, rfl, trivial⟩ ?_
  exact jk_use H26 (y32, y36, y41, w64 (z23.2.2.2.1 + 1), w64 (z23.2.2.2.2 + 1)) () [0, 1, 2] ⟨rfl, rfl, rfl, rfl, rfl, rfl, rfl, rfl, trivial⟩ rfl rfl rfl
theorem tree_check_c {w : World} {a0 : (List Element)} {a1 : (List Int)} {ha0 : Hd} {ha1 : Hd} {v : Int} (hm : tree_check a0 a1 = some v) (Rha0 : Sl w ha0 Element.enc a0) (Rha1 : Sl w ha1 encI a1) : Gives Try.prog 64 [ha0.v, ha1.v] w (.int .i64 v) := by
  refine j_gives (vs := [ha0.v, ha1.v]) (U := fun (v : Int) => .int .i64 v) Try.func64 rfl Try.ntmps64 rfl rfl hm ?_
  unfold tree_check
  clear hm
  refine jn_seq ?_
  refine jn_reg 0 ?_
  refine jg_as rfl rfl rfl ?_
  refine jg_nils [(0, _), (1, _)] ⟨rfl, rfl, trivial⟩ ?_
  refine jk_sn ?_
  refine jn_seq ?_
  refine jn_seq ?_
  refine jn_reg 1 ?_
  refine jg_mv rfl rfl rfl ?_
  refine jg_c0 rfl (fun v w hs hm => layout_Valid_c hm (hs.arg Rha0)) rfl rfl fun v1 => ?_
  refine jg_as rfl rfl rfl ?_
  refine jg_nils [(0, _), (1, _), (5, _)] ⟨rfl, rfl, rfl, trivial⟩ ?_
  refine jk_sn ?_
  refine jn_seq ?_
  refine jn_reg 2 ?_
  refine jg_mv rfl rfl rfl ?_
  refine jg_y (fun w hs => yv_neq rfl rfl) rfl rfl ?_
  refine jg_nils [(0, _), (1, _), (5, _), (11, _)] ⟨rfl, rfl, rfl, rfl, trivial⟩ ?_
  refine jk_sn ?_
  refine jn_cond rfl ?_ ?_
  · refine jn_seq ?_
    refine jn_reg 3 ?_
    refine jg_mv rfl rfl rfl ?_
    refine jg_as rfl rfl rfl ?_
    refine jg_nils [(4, _)] ⟨rfl, trivial⟩ ?_
    refine jk_sn ?_
    refine jn_ret ?_
    refine jk_sr ?_
    exact jk_ret1 rfl (fun w hs => .tmp rfl) (fun w hs => ⟨rfl, hs.drop⟩)
  refine jn_skip ?_
  refine jk_sn ?_
  refine jn_seq ?_
  refine jn_seq ?_
  refine jn_reg 4 ?_
  refine jg_mv rfl rfl rfl ?_
  refine jg_y (fun w hs => yv_ln rfl (hs.arg Rha1)) rfl rfl ?_
  refine jg_mv rfl rfl rfl ?_
  refine jg_nils [(0, _), (13, _), (14, _), (15, _)] ⟨rfl, rfl, rfl, rfl, trivial⟩ ?_
  refine jk_sn ?_
  refine jn_block ?_
  refine jn_lp (n := big) (fun (s : Int) (g : Unit) => [(0, ha0.v), (13, ha1.v), (14, .int .i64 (a1.length : Int)), (15, .int .i64 s)]) (fun (s : Int) (g : Unit) => []) (fun (s : Int) (g : Unit) => []) 0 () [] ⟨rfl, rfl, rfl, rfl, trivial⟩ rfl rfl rfl ?_
  intro z2 q3 n6 k4 H5
  refine jn_seq ?_
  refine jn_reg 5 ?_
  refine jg_y (fun w hs => yv_lss rfl rfl) rfl rfl ?_
  refine jg_nils [(0, _), (13, _), (14, _), (15, _), (16, _)] ⟨rfl, rfl, rfl, rfl, rfl, trivial⟩ ?_
  refine jk_sn ?_
  refine jn_seq ?_
  refine jn_cond rfl ?_ ?_
  rotate_left
  · refine jn_exit ?_
    refine jk_se (jk_le (jk_bh (jk_sn ?_)))
    refine jn_seq ?_
    refine jn_reg 10 ?_
    refine jg_as rfl rfl rfl ?_
    refine jg_nils [(4, _)] ⟨rfl, trivial⟩ ?_
    refine jk_sn ?_
    refine jn_ret ?_
    exact jk_ret1 rfl (fun w hs => .tmp rfl) (fun w hs => ⟨rfl, hs.drop⟩)
  refine jn_skip ?_
  refine jk_sn ?_
  refine jn_seq ?_
  refine jn_block ?_
  refine jn_seq ?_
  refine jn_reg 6 ?_
  refine jg_ix fun x7 h8 => ?_
  refine jg_y (fun w hs => yv_ix rfl rfl (hs.arg Rha1) h8) rfl rfl ?_
  refine jg_y (fun w hs => yv_e1 rfl (hs.arg Rha1) h8.1 rfl) rfl rfl ?_
  refine jg_as rfl rfl rfl ?_
  refine jg_nils [(0, _), (7, _), (13, _), (14, _), (15, _)] ⟨rfl, rfl, rfl, rfl, rfl, trivial⟩ ?_
  refine jk_sn ?_
  refine jn_seq ?_
  refine jn_reg 7 ?_
  refine jg_mv rfl rfl rfl ?_
  refine jg_y (fun w hs => yv_lss rfl rfl) rfl rfl ?_
  refine jg_mv rfl rfl rfl ?_
  refine jg_split 21 rfl ?_ ?_
  · refine jg_skip rfl rfl ?_
    refine jg_skip rfl rfl ?_
    refine jg_skip rfl rfl ?_
    refine jg_skip rfl rfl ?_
    refine jg_y (fun w hs => yv_pick_t rfl rfl) rfl rfl ?_
    refine jg_nils [(0, _), (13, _), (14, _), (15, _), (26, _)] ⟨rfl, rfl, rfl, rfl, rfl, trivial⟩ ?_
    refine jk_sn ?_
    refine jn_ct rfl ?_
    refine jn_seq ?_
    refine jn_reg 8 ?_
    refine jg_as rfl rfl rfl ?_
    refine jg_nils [(4, _)] ⟨rfl, trivial⟩ ?_
    refine jk_sn ?_
    refine jn_ret ?_
    refine jk_br (jk_sr (jk_lr (jk_br (jk_sr ?_))))
    exact jk_ret1 rfl (fun w hs => .tmp rfl) (fun w hs => ⟨rfl, hs.drop⟩)
  refine jg_mv rfl rfl rfl ?_
  refine jg_mv rfl rfl rfl ?_
  refine jg_y (fun w hs => yv_ln rfl (hs.arg Rha0)) rfl rfl ?_
  refine jg_y (fun w hs => yv_geq rfl rfl) rfl rfl ?_
  refine jg_y (fun w hs => yv_pick_f rfl rfl) rfl rfl ?_
  refine jg_nils [(0, _), (13, _), (14, _), (15, _), (26, _)] ⟨rfl, rfl, rfl, rfl, rfl, trivial⟩ ?_
  refine jk_sn ?_
  refine jn_cond rfl ?_ ?_
  rotate_left
  · refine jn_skip ?_
    refine jk_bn (jk_sn ?_)
    refine jn_reg 9 ?_
    refine jg_y (fun w hs => yv_add_w rfl rfl) rfl rfl ?_
    refine jg_mv rfl rfl rfl ?_
    refine jg_nils [(0, _), (13, _), (14, _), (15, _)] ⟨rfl, rfl, rfl, rfl, trivial⟩ ?_
    exact jk_use H5 (w64 (z2 + 1)) () [] ⟨rfl, rfl, rfl, rfl, trivial⟩ rfl rfl rfl
  refine jn_seq ?_
  refine jn_reg 8 ?_
  refine jg_as rfl rfl rfl ?_
  refine jg_nils [(4, _)] ⟨rfl, trivial⟩ ?_
  refine jk_sn ?_
  refine jn_ret ?_
  refine jk_br (jk_sr (jk_lr (jk_br (jk_sr ?_))))
  exact jk_ret1 rfl (fun w hs => .tmp rfl) (fun w hs => ⟨rfl, hs.drop⟩)
theorem tree_path_nc (n : Nat) : ∀ {w : World} {a0 : (List Element)} {a1 : Int} {ha0 : Hd} {v : (List Int)} (hm : tree_path_n n a0 a1 = some v) (Rha0 : Sl w ha0 Element.enc a0), Calls Try.prog 65 ([ha0.v, .int .i64 a1] : List Value).toArray w (fun e w' => ∃ g : Hd, e = .returned (g.v) ∧ St w w' [] [(rowH g 3 1 encI v)]) := by
  induction n with
  | zero => intro w a0 a1 ha0 v hm Rha0; exact absurd hm (by simp [tree_path_n])
  | succ n ih =>
  intro w a0 a1 ha0 v hm Rha0
  refine j_enter (vs := [ha0.v, .int .i64 a1]) (R := fun (v : (List Int)) (e : Ending) (w' : World) => ∃ g : Hd, e = .returned (g.v) ∧ St w w' [] [(rowH g 3 1 encI v)]) Try.func65 rfl Try.ntmps65 rfl rfl (St.refl w) hm ?_
  rw [tree_path_n]
  clear hm
  refine jn_seq ?_
  refine jn_reg 0 ?_
  refine jg_as rfl rfl rfl ?_
  refine jg_nils [(0, _), (1, _)] ⟨rfl, rfl, trivial⟩ ?_
  refine jk_sn ?_
  refine jn_seq ?_
  refine jn_seq ?_
  refine jn_reg 1 ?_
  refine jg_mv rfl rfl rfl ?_
  refine jg_y (fun w hs => yv_eql rfl rfl) rfl rfl ?_
  refine jg_nils [(0, _), (1, _), (6, _)] ⟨rfl, rfl, rfl, trivial⟩ ?_
  refine jk_sn ?_
  refine jn_cond rfl ?_ ?_
  · refine jn_seq ?_
    refine jn_reg 2 ?_
    refine jg_lit (enc := encI) [0] rfl rfl rfl rfl rfl rfl rfl rfl fun hd1 => ?_
    refine jg_as rfl rfl rfl ?_
    refine jg_nils [(4, _)] ⟨rfl, trivial⟩ ?_
    refine jk_sn ?_
    refine jn_ret ?_
    refine jk_sr ?_
    exact jk_ret1 rfl (fun w hs => .tmp rfl) (fun w hs => ⟨hd1, rfl, hs.sel (is := [0]) rfl rfl⟩)
  refine jn_skip ?_
  refine jk_sn ?_
  refine jn_seq ?_
  refine jn_reg 3 ?_
  refine jg_mv rfl rfl rfl ?_
  refine jg_mv rfl rfl rfl ?_
  refine jg_mv rfl rfl rfl ?_
  refine jg_ix fun x2 h3 => ?_
  refine jg_y (fun w hs => yv_ix rfl rfl (hs.arg Rha0) h3) rfl rfl ?_
  refine jg_y (fun w hs => yv_ef rfl (hs.arg Rha0) h3.1) rfl rfl ?_
  refine jg_y (fun w hs => yv_e1 rfl (hs.arg Rha0) h3.1 rfl) rfl rfl ?_
  refine jg_c rfl (fun v w hs hm => ih hm (hs.arg Rha0)) rfl rfl fun v4 q5 => ?_
  refine jg_L (r1 rfl) ?_
  refine jg_mv rfl rfl rfl ?_
  refine jg_lit (enc := encI) [a1] rfl rfl rfl rfl rfl rfl rfl rfl fun hd6 => ?_
  refine jg_append 1 rfl rfl rfl (fun w hs => (hs.row 0 rfl)) rfl rfl rfl fun y7 hd8 => ?_
  refine jg_L (r2 rfl) ?_
  refine jg_as rfl rfl rfl ?_
  refine jg_nils [(4, _)] ⟨rfl, trivial⟩ ?_
  refine jk_sn ?_
  refine jn_ret ?_
  exact jk_ret1 rfl (fun w hs => .tmp rfl) (fun w hs => ⟨hd8, rfl, hs.sel (is := [1]) rfl rfl⟩)
theorem tree_path_c {w : World} {a0 : (List Element)} {a1 : Int} {ha0 : Hd} {v : (List Int)} (hm : tree_path a0 a1 = some v) (Rha0 : Sl w ha0 Element.enc a0) : Calls Try.prog 65 ([ha0.v, .int .i64 a1] : List Value).toArray w (fun e w' => ∃ g : Hd, e = .returned (g.v) ∧ St w w' [] [(rowH g 3 1 encI v)]) :=
  tree_path_nc big hm Rha0
theorem tree_Path_c {w : World} {a0 : (List Element)} {a1 : Int} {ha0 : Hd} {v : ((List Int) × Int)} (hm : tree_Path a0 a1 = some v) (Rha0 : Sl w ha0 Element.enc a0) : Calls Try.prog 49 ([ha0.v, .int .i64 a1] : List Value).toArray w (fun e w' => ∃ g : Hd, e = .returned (.tuple #[g.v, .int .i64 v.2]) ∧ St w w' [] [(rowH g 3 1 encI v.1)]) := by
  refine j_enter (vs := [ha0.v, .int .i64 a1]) (R := fun (v : ((List Int) × Int)) (e : Ending) (w' : World) => ∃ g : Hd, e = .returned (.tuple #[g.v, .int .i64 v.2]) ∧ St w w' [] [(rowH g 3 1 encI v.1)]) Try.func49 rfl Try.ntmps49 rfl rfl (St.refl w) hm ?_
  unfold tree_Path
  clear hm
  refine jn_seq ?_
  refine jn_reg 0 ?_
  refine jg_as rfl rfl rfl ?_
  refine jg_as rfl rfl rfl ?_
  refine jg_nils [(0, _), (1, _)] ⟨rfl, rfl, trivial⟩ ?_
  refine jk_sn ?_
  refine jn_seq ?_
  refine jn_seq ?_
  refine jn_reg 1 ?_
  refine jg_mv rfl rfl rfl ?_
  refine jg_mv rfl rfl rfl ?_
  refine jg_lit (enc := encI) [a1] rfl rfl rfl rfl rfl rfl rfl rfl fun hd1 => ?_
  refine jg_c0 rfl (fun v w hs hm => tree_check_c hm (hs.arg Rha0) (hs.row 0 rfl)) rfl rfl fun v2 => ?_
  refine jg_as rfl rfl rfl ?_
  refine jg_nils [(0, _), (1, _), (6, _)] ⟨rfl, rfl, rfl, trivial⟩ ?_
  refine jk_sn ?_
  refine jn_seq ?_
  refine jn_reg 2 ?_
  refine jg_mv rfl rfl rfl ?_
  refine jg_y (fun w hs => yv_neq rfl rfl) rfl rfl ?_
  refine jg_nils [(0, _), (1, _), (6, _), (12, _)] ⟨rfl, rfl, rfl, rfl, trivial⟩ ?_
  refine jk_sn ?_
  refine jn_cond rfl ?_ ?_
  · refine jn_seq ?_
    refine jn_reg 3 ?_
    refine jg_mv rfl rfl rfl ?_
    refine jg_as rfl rfl rfl ?_
    refine jg_as rfl rfl rfl ?_
    refine jg_nils [(4, _), (5, _)] ⟨rfl, rfl, trivial⟩ ?_
    refine jk_sn ?_
    refine jn_ret ?_
    refine jk_sr ?_
    refine jk_addnil 3 1 encI ?_
    exact jk_ret2 rfl (fun w hs => .tmp rfl) (fun w hs => .tmp rfl) (fun w hs => ⟨(Hd.mk none 0 0), rfl, hs.sel (is := [0]) rfl rfl⟩)
  refine jn_skip ?_
  refine jk_sn ?_
  refine jn_seq ?_
  refine jn_reg 4 ?_
  refine jg_mv rfl rfl rfl ?_
  refine jg_mv rfl rfl rfl ?_
  refine jg_c rfl (fun v w hs hm => tree_path_c hm (hs.arg Rha0)) rfl rfl fun v3 q4 => ?_
  refine jg_L (r2 rfl) ?_
  refine jg_as rfl rfl rfl ?_
  refine jg_as rfl rfl rfl ?_
  refine jg_nils [(4, _), (5, _)] ⟨rfl, rfl, trivial⟩ ?_
  refine jk_sn ?_
  refine jn_ret ?_
  exact jk_ret2 rfl (fun w hs => .tmp rfl) (fun w hs => .tmp rfl) (fun w hs => ⟨q4, rfl, hs.sel (is := [0]) rfl rfl⟩)
theorem runoff_Path_c {w : World} {a0 : (List Element)} {a1 : Int} {ha0 : Hd} {v : ((List Piece) × Int)} (hm : runoff_Path a0 a1 = some v) (Rha0 : Sl w ha0 Element.enc a0) : Calls Try.prog 31 ([ha0.v, .int .i64 a1] : List Value).toArray w (fun e w' => ∃ g : Hd, e = .returned (.tuple #[g.v, .int .i64 v.2]) ∧ St w w' [] [(rowH g 32 5 Piece.enc v.1)]) := by
  refine j_enter (vs := [ha0.v, .int .i64 a1]) (R := fun (v : ((List Piece) × Int)) (e : Ending) (w' : World) => ∃ g : Hd, e = .returned (.tuple #[g.v, .int .i64 v.2]) ∧ St w w' [] [(rowH g 32 5 Piece.enc v.1)]) Try.func31 rfl Try.ntmps31 rfl rfl (St.refl w) hm ?_
  unfold runoff_Path
  clear hm
  refine jn_seq ?_
  refine jn_reg 0 ?_
  refine jg_as rfl rfl rfl ?_
  refine jg_as rfl rfl rfl ?_
  refine jg_nils [(0, _), (1, _)] ⟨rfl, rfl, trivial⟩ ?_
  refine jk_sn ?_
  refine jn_seq ?_
  refine jn_reg 1 ?_
  refine jg_mv rfl rfl rfl ?_
  refine jg_mv rfl rfl rfl ?_
  refine jg_c rfl (fun v w hs hm => tree_Path_c hm (hs.arg Rha0)) rfl rfl fun v1 q2 => ?_
  refine jg_L (r1 rfl) ?_
  refine jg_mv rfl rfl rfl ?_
  refine jg_y (fun w hs => yv_extract rfl rfl) rfl rfl ?_
  refine jg_y (fun w hs => yv_extract rfl rfl) rfl rfl ?_
  refine jg_as rfl rfl rfl ?_
  refine jg_as rfl rfl rfl ?_
  refine jg_nils [(0, _), (1, _), (6, _), (7, _)] ⟨rfl, rfl, rfl, rfl, trivial⟩ ?_
  refine jk_sn ?_
  refine jn_seq ?_
  refine jn_seq ?_
  refine jn_reg 2 ?_
  refine jg_mv rfl rfl rfl ?_
  refine jg_y (fun w hs => yv_neq rfl rfl) rfl rfl ?_
  refine jg_nils [(0, _), (1, _), (6, _), (7, _), (19, _)] ⟨rfl, rfl, rfl, rfl, rfl, trivial⟩ ?_
  refine jk_sn ?_
  refine jn_cond rfl ?_ ?_
  · refine jn_seq ?_
    refine jn_reg 3 ?_
    refine jg_mv rfl rfl rfl ?_
    refine jg_as rfl rfl rfl ?_
    refine jg_as rfl rfl rfl ?_
    refine jg_nils [(4, _), (5, _)] ⟨rfl, rfl, trivial⟩ ?_
    refine jk_sn ?_
    refine jn_ret ?_
    refine jk_sr ?_
    refine jk_addnil 32 5 Piece.enc ?_
    exact jk_ret2 rfl (fun w hs => .tmp rfl) (fun w hs => .tmp rfl) (fun w hs => ⟨(Hd.mk none 0 0), rfl, hs.sel (is := [0]) rfl rfl⟩)
  refine jn_skip ?_
  refine jk_sn ?_
  refine jn_seq ?_
  refine jn_seq ?_
  refine jn_reg 4 ?_
  refine jg_mv rfl rfl rfl ?_
  refine jg_mv rfl rfl rfl ?_
  refine jg_ix fun x3 h4 => ?_
  refine jg_y (fun w hs => yv_ix rfl rfl (hs.arg Rha0) h4) rfl rfl ?_
  refine jg_y (fun w hs => yv_ef rfl (hs.arg Rha0) h4.1) rfl rfl ?_
  refine jg_y (fun w hs => yv_e1 rfl (hs.arg Rha0) h4.1 rfl) rfl rfl ?_
  refine jg_y (fun w hs => yv_neq rfl rfl) rfl rfl ?_
  refine jg_nils [(0, _), (6, _), (26, _)] ⟨rfl, rfl, rfl, trivial⟩ ?_
  refine jk_sn ?_
  refine jn_cond rfl ?_ ?_
  · refine jn_seq ?_
    refine jn_reg 5 ?_
    refine jg_as rfl rfl rfl ?_
    refine jg_as rfl rfl rfl ?_
    refine jg_nils [(4, _), (5, _)] ⟨rfl, rfl, trivial⟩ ?_
    refine jk_sn ?_
    refine jn_ret ?_
    refine jk_sr ?_
    refine jk_addnil 32 5 Piece.enc ?_
    exact jk_ret2 rfl (fun w hs => .tmp rfl) (fun w hs => .tmp rfl) (fun w hs => ⟨(Hd.mk none 0 0), rfl, hs.sel (is := [0]) rfl rfl⟩)
  refine jn_skip ?_
  refine jk_sn ?_
  refine jn_seq ?_
  refine jn_reg 6 ?_
  refine jg_as rfl rfl rfl ?_
  refine jg_nils [(0, _), (6, _), (8, _)] ⟨rfl, rfl, rfl, trivial⟩ ?_
  refine jk_sn ?_
  refine jn_seq ?_
  refine jn_seq ?_
  refine jn_reg 7 ?_
  refine jg_mv rfl rfl rfl ?_
  refine jg_ck fun h5 => ?_
  refine jg_y (fun w hs => yv_lo rfl rfl (hs.row 0 rfl) (of_decide_eq_true h5)) rfl rfl ?_
  refine jg_yl (fun w hs => yv_ln rfl (Sl.lo (sz := 1) (hs.row 0 rfl) (of_decide_eq_true h5))) rfl rfl fun x6 => ?_
  refine jg_mv rfl rfl rfl ?_
  refine jg_nils [(0, _), (8, _), (28, _), (29, _), (30, _)] ⟨rfl, rfl, rfl, rfl, rfl, trivial⟩ ?_
  refine jk_rlo 0 rfl (of_decide_eq_true h5) (r1 rfl) ?_
  refine jk_sn ?_
  refine jn_block ?_
  refine jn_addnil 32 5 Piece.enc ?_
  refine jn_lp (n := big) (fun (s : ((List Piece) × Int)) (g : Hd) => [(0, ha0.v), (8, g.v), (28, (q2.lo (Int.toNat 1) 1).v), (29, .int .i64 x6), (30, .int .i64 s.2)]) (fun (s : ((List Piece) × Int)) (g : Hd) => []) (fun (s : ((List Piece) × Int)) (g : Hd) => [(rowH g 32 5 Piece.enc s.1), (rowH (q2.lo (Int.toNat 1) 1) 3 1 encI (v1.1.drop (Int.toNat 1)))]) (([] : List Piece), 0) (Hd.mk none 0 0) [0, 1] ⟨rfl, rfl, rfl, rfl, rfl, trivial⟩ rfl rfl rfl ?_
  intro z7 q8 n11 k9 H10
  refine jn_seq ?_
  refine jn_reg 8 ?_
  refine jg_y (fun w hs => yv_lss rfl rfl) rfl rfl ?_
  refine jg_nils [(0, _), (8, _), (28, _), (29, _), (30, _), (31, _)] ⟨rfl, rfl, rfl, rfl, rfl, rfl, trivial⟩ ?_
  refine jk_sn ?_
  refine jn_seq ?_
  refine jn_cond rfl ?_ ?_
  rotate_left
  · refine jn_exit ?_
    refine jk_se (jk_le (jk_bh (jk_sn ?_)))
    refine jn_seq ?_
    refine jn_reg 13 ?_
    refine jg_mv rfl rfl rfl ?_
    refine jg_as rfl rfl rfl ?_
    refine jg_as rfl rfl rfl ?_
    refine jg_nils [(4, _), (5, _)] ⟨rfl, rfl, trivial⟩ ?_
    refine jk_sn ?_
    refine jn_ret ?_
    exact jk_ret2 rfl (fun w hs => .tmp rfl) (fun w hs => .tmp rfl) (fun w hs => ⟨q8, rfl, hs.sel (is := [0]) rfl rfl⟩)
  refine jn_skip ?_
  refine jk_sn ?_
  refine jn_seq ?_
  refine jn_block ?_
  refine jn_seq ?_
  refine jn_reg 9 ?_
  refine jg_ix fun x12 h13 => ?_
  refine jg_y (fun w hs => yv_ix rfl rfl (hs.row 1 rfl) h13) rfl rfl ?_
  refine jg_y (fun w hs => yv_e1 rfl (hs.row 1 rfl) h13.1 rfl) rfl rfl ?_
  refine jg_as rfl rfl rfl ?_
  refine jg_nils [(0, _), (8, _), (10, _), (28, _), (29, _), (30, _)] ⟨rfl, rfl, rfl, rfl, rfl, rfl, trivial⟩ ?_
  refine jk_sn ?_
  refine jn_seq ?_
  refine jn_reg 10 ?_
  refine jg_mv rfl rfl rfl ?_
  refine jg_mv rfl rfl rfl ?_
  refine jg_ix fun x14 h15 => ?_
  refine jg_y (fun w hs => yv_ix rfl rfl (hs.arg Rha0) h15) rfl rfl ?_
  refine jg_y (fun w hs => yv_eS rfl (hs.arg Rha0) h15.1 (l8 rfl) rfl) rfl rfl ?_
  refine jg_alloc (l8 rfl) rfl rfl fun g16 => ?_
  refine jg_store 0 rfl rfl rfl (l8 rfl) rfl rfl rfl rfl (l8 rfl) (r3 rfl) ?_
  refine jg_nils [(0, _), (8, _), (10, _), (11, _), (28, _), (29, _), (30, _)] ⟨rfl, rfl, rfl, rfl, rfl, rfl, rfl, trivial⟩ ?_
  refine jk_sn ?_
  refine jn_reg 11 ?_
  refine jg_mv rfl rfl rfl ?_
  refine jg_mv rfl rfl rfl ?_
  refine jg_y (fun w hs => yv_fieldAddr rfl) rfl rfl ?_
  refine jg_y (fun w hs => yv_load rfl (ld1B (hs.blkL (i := 0) rfl) rfl)) rfl rfl ?_
  refine jg_y (fun w hs => yv_fieldAddr rfl) rfl rfl ?_
  refine jg_y (fun w hs => yv_load rfl (ld1B (hs.blkL (i := 0) rfl) rfl)) rfl rfl ?_
  refine jg_y (fun w hs => yv_fieldAddr rfl) rfl rfl ?_
  refine jg_y (fun w hs => yv_load rfl (ld1B (hs.blkL (i := 0) rfl) rfl)) rfl rfl ?_
  refine jg_y (fun w hs => yv_fieldAddr rfl) rfl rfl ?_
  refine jg_y (fun w hs => yv_load rfl (ld1B (hs.blkL (i := 0) rfl) rfl)) rfl rfl ?_
  refine jg_y (fun w hs => yv_build rfl (o5 rfl)) rfl rfl ?_
  refine jg_lit (enc := Piece.enc) [(Piece.mk x12 x14.Length x14.Grade x14.Curve x14.Power)] rfl rfl rfl rfl rfl rfl rfl rfl fun hd17 => ?_
  refine jg_append 2 rfl rfl rfl (fun w hs => (hs.row 0 rfl)) rfl rfl rfl fun y18 hd19 => ?_
  refine jg_L (r4 rfl) ?_
  refine jg_as rfl rfl rfl ?_
  refine jg_nils [(0, _), (8, _), (28, _), (29, _), (30, _)] ⟨rfl, rfl, rfl, rfl, rfl, trivial⟩ ?_
  refine jk_sel (is := [2, 3]) (s2 rfl) rfl ?_
  refine jk_bn (jk_sn ?_)
  refine jn_reg 12 ?_
  refine jg_y (fun w hs => yv_add_w rfl rfl) rfl rfl ?_
  refine jg_mv rfl rfl rfl ?_
  refine jg_nils [(0, _), (8, _), (28, _), (29, _), (30, _)] ⟨rfl, rfl, rfl, rfl, rfl, trivial⟩ ?_
  exact jk_use H10 (y18, w64 (z7.2 + 1)) hd19 [0, 1] ⟨rfl, rfl, rfl, rfl, rfl, trivial⟩ rfl rfl rfl
theorem r06_Name_c {w : World} {a0 : ByteArray}  {v : Bool} (hm : r06_Name a0 = some v) : Gives Try.prog 75 [.string a0] w (.bool v) := by
  refine j_gives (vs := [.string a0]) (U := fun (v : Bool) => .bool v) Try.func75 rfl Try.ntmps75 rfl rfl hm ?_
  unfold r06_Name
  clear hm
  refine jn_seq ?_
  refine jn_reg 0 ?_
  refine jg_as rfl rfl rfl ?_
  refine jg_nils [(0, _)] ⟨rfl, trivial⟩ ?_
  refine jk_sn ?_
  refine jn_join (fun (s : Unit) (g : Unit) => [(0, .string a0)]) (fun (s : Unit) (g : Unit) => []) (fun (s : Unit) (g : Unit) => []) ?_ ?_
  · intro z1 q2
    refine jn_seq ?_
    refine jn_reg 6 ?_
    refine jg_mv rfl rfl rfl ?_
    refine jg_y (fun w hs => yv_lnz Try.underlying9 rfl) rfl rfl ?_
    refine jg_y (fun w hs => yv_geq rfl rfl) rfl rfl ?_
    refine jg_mv rfl rfl rfl ?_
    refine jg_split 36 rfl ?_ ?_
    · refine jg_mv rfl rfl rfl ?_
      refine jg_y (fun w hs => yv_lnz Try.underlying9 rfl) rfl rfl ?_
      refine jg_y (fun w hs => yv_leq rfl rfl) rfl rfl ?_
      refine jg_y (fun w hs => yv_pick_t rfl rfl) rfl rfl ?_
      refine jg_as rfl rfl rfl ?_
      refine jg_nils [(2, _)] ⟨rfl, trivial⟩ ?_
      refine jk_sn ?_
      refine jn_ret ?_
      exact jk_ret1 rfl (fun w hs => .tmp rfl) (fun w hs => ⟨rfl, hs.drop⟩)
    refine jg_skip rfl rfl ?_
    refine jg_skip rfl rfl ?_
    refine jg_skip rfl rfl ?_
    refine jg_y (fun w hs => yv_pick_f rfl rfl) rfl rfl ?_
    refine jg_as rfl rfl rfl ?_
    refine jg_nils [(2, _)] ⟨rfl, trivial⟩ ?_
    refine jk_sn ?_
    refine jn_ret ?_
    exact jk_ret1 rfl (fun w hs => .tmp rfl) (fun w hs => ⟨rfl, hs.drop⟩)
  intro k3 H4
  refine jn_seq ?_
  refine jn_reg 1 ?_
  refine jg_as rfl rfl rfl ?_
  refine jg_nils [(0, _), (3, _)] ⟨rfl, rfl, trivial⟩ ?_
  refine jk_sn ?_
  refine jn_block ?_
  refine jn_lp (n := big) (fun (s : Int) (g : Unit) => [(0, .string a0), (3, .int .i64 s)]) (fun (s : Int) (g : Unit) => []) (fun (s : Int) (g : Unit) => []) 0 () [] ⟨rfl, rfl, trivial⟩ rfl rfl rfl ?_
  intro z5 q6 n9 k7 H8
  refine jn_seq ?_
  refine jn_seq ?_
  refine jn_reg 2 ?_
  refine jg_mv rfl rfl rfl ?_
  refine jg_mv rfl rfl rfl ?_
  refine jg_y (fun w hs => yv_lnz Try.underlying9 rfl) rfl rfl ?_
  refine jg_y (fun w hs => yv_lss rfl rfl) rfl rfl ?_
  refine jg_nils [(0, _), (3, _), (7, _)] ⟨rfl, rfl, rfl, trivial⟩ ?_
  refine jk_sn ?_
  refine jn_cond rfl ?_ ?_
  rotate_left
  · refine jn_exit ?_
    refine jk_se (jk_le (jk_bh ?_))
    exact jk_use H4 () () [] ⟨rfl, trivial⟩ rfl rfl rfl
  refine jn_skip ?_
  refine jk_sn ?_
  refine jn_seq ?_
  refine jn_block ?_
  refine jn_seq ?_
  refine jn_reg 4 ?_
  refine jg_mv rfl rfl rfl ?_
  refine jg_mv rfl rfl rfl ?_
  refine jg_ck fun h10 => ?_
  refine jg_y (fun w hs => yv_ixZ Try.underlying9 rfl rfl (of_decide_eq_true h10)) rfl rfl ?_
  refine jg_y (fun w hs => yv_geq rfl rfl) rfl rfl ?_
  refine jg_mv rfl rfl rfl ?_
  refine jg_split 14 rfl ?_ ?_
  rotate_left
  · refine jg_skip rfl rfl ?_
    refine jg_skip rfl rfl ?_
    refine jg_skip rfl rfl ?_
    refine jg_skip rfl rfl ?_
    refine jg_y (fun w hs => yv_pick_f rfl rfl) rfl rfl ?_
    refine jg_mv rfl rfl rfl ?_
    refine jg_mv rfl rfl rfl ?_
    refine jg_mv rfl rfl rfl ?_
    refine jg_ck fun h14 => ?_
    refine jg_y (fun w hs => yv_ixZ Try.underlying9 rfl rfl (of_decide_eq_true h14)) rfl rfl ?_
    refine jg_y (fun w hs => yv_geq rfl rfl) rfl rfl ?_
    refine jg_mv rfl rfl rfl ?_
    refine jg_split 25 rfl ?_ ?_
    rotate_left
    · refine jg_skip rfl rfl ?_
      refine jg_skip rfl rfl ?_
      refine jg_skip rfl rfl ?_
      refine jg_skip rfl rfl ?_
      refine jg_y (fun w hs => yv_pick_f rfl rfl) rfl rfl ?_
      refine jg_y (fun w hs => yv_pick_f rfl rfl) rfl rfl ?_
      refine jg_y (fun w hs => yv_not rfl) rfl rfl ?_
      refine jg_nils [(0, _), (3, _), (32, _)] ⟨rfl, rfl, rfl, trivial⟩ ?_
      refine jk_sn ?_
      refine jn_cond rfl ?_ ?_
      · refine jn_seq ?_
        refine jn_reg 5 ?_
        refine jg_as rfl rfl rfl ?_
        refine jg_nils [(2, _)] ⟨rfl, trivial⟩ ?_
        refine jk_sn ?_
        refine jn_ret ?_
        refine jk_br (jk_sr (jk_lr (jk_br (jk_sr ?_))))
        exact jk_ret1 rfl (fun w hs => .tmp rfl) (fun w hs => ⟨rfl, hs.drop⟩)
      refine jn_skip ?_
      refine jk_bn (jk_sn ?_)
      refine jn_reg 3 ?_
      refine jg_mv rfl rfl rfl ?_
      refine jg_y (fun w hs => yv_add_w rfl rfl) rfl rfl ?_
      refine jg_as rfl rfl rfl ?_
      refine jg_nils [(0, _), (3, _)] ⟨rfl, rfl, trivial⟩ ?_
      exact jk_use H8 (w64 (z5 + 1)) () [] ⟨rfl, rfl, trivial⟩ rfl rfl rfl
    refine jg_mv rfl rfl rfl ?_
    refine jg_mv rfl rfl rfl ?_
    refine jg_ck fun h15 => ?_
    refine jg_y (fun w hs => yv_ixZ Try.underlying9 rfl rfl (of_decide_eq_true h15)) rfl rfl ?_
    refine jg_y (fun w hs => yv_leq rfl rfl) rfl rfl ?_
    refine jg_y (fun w hs => yv_pick_t rfl rfl) rfl rfl ?_
    refine jg_y (fun w hs => yv_pick_f rfl rfl) rfl rfl ?_
    refine jg_y (fun w hs => yv_not rfl) rfl rfl ?_
    refine jg_nils [(0, _), (3, _), (32, _)] ⟨rfl, rfl, rfl, trivial⟩ ?_
    refine jk_sn ?_
    refine jn_cond rfl ?_ ?_
    · refine jn_seq ?_
      refine jn_reg 5 ?_
      refine jg_as rfl rfl rfl ?_
      refine jg_nils [(2, _)] ⟨rfl, trivial⟩ ?_
      refine jk_sn ?_
      refine jn_ret ?_
      refine jk_br (jk_sr (jk_lr (jk_br (jk_sr ?_))))
      exact jk_ret1 rfl (fun w hs => .tmp rfl) (fun w hs => ⟨rfl, hs.drop⟩)
    refine jn_skip ?_
    refine jk_bn (jk_sn ?_)
    refine jn_reg 3 ?_
    refine jg_mv rfl rfl rfl ?_
    refine jg_y (fun w hs => yv_add_w rfl rfl) rfl rfl ?_
    refine jg_as rfl rfl rfl ?_
    refine jg_nils [(0, _), (3, _)] ⟨rfl, rfl, trivial⟩ ?_
    exact jk_use H8 (w64 (z5 + 1)) () [] ⟨rfl, rfl, trivial⟩ rfl rfl rfl
  refine jg_mv rfl rfl rfl ?_
  refine jg_mv rfl rfl rfl ?_
  refine jg_ck fun h11 => ?_
  refine jg_y (fun w hs => yv_ixZ Try.underlying9 rfl rfl (of_decide_eq_true h11)) rfl rfl ?_
  refine jg_y (fun w hs => yv_leq rfl rfl) rfl rfl ?_
  refine jg_y (fun w hs => yv_pick_t rfl rfl) rfl rfl ?_
  refine jg_mv rfl rfl rfl ?_
  refine jg_split 20 rfl ?_ ?_
  · refine jg_skip rfl rfl ?_
    refine jg_skip rfl rfl ?_
    refine jg_skip rfl rfl ?_
    refine jg_skip rfl rfl ?_
    refine jg_skip rfl rfl ?_
    refine jg_skip rfl rfl ?_
    refine jg_skip rfl rfl ?_
    refine jg_skip rfl rfl ?_
    refine jg_skip rfl rfl ?_
    refine jg_skip rfl rfl ?_
    refine jg_y (fun w hs => yv_pick_t rfl rfl) rfl rfl ?_
    refine jg_y (fun w hs => yv_not rfl) rfl rfl ?_
    refine jg_nils [(0, _), (3, _), (32, _)] ⟨rfl, rfl, rfl, trivial⟩ ?_
    refine jk_sn ?_
    refine jn_cond rfl ?_ ?_
    · refine jn_seq ?_
      refine jn_reg 5 ?_
      refine jg_as rfl rfl rfl ?_
      refine jg_nils [(2, _)] ⟨rfl, trivial⟩ ?_
      refine jk_sn ?_
      refine jn_ret ?_
      refine jk_br (jk_sr (jk_lr (jk_br (jk_sr ?_))))
      exact jk_ret1 rfl (fun w hs => .tmp rfl) (fun w hs => ⟨rfl, hs.drop⟩)
    refine jn_skip ?_
    refine jk_bn (jk_sn ?_)
    refine jn_reg 3 ?_
    refine jg_mv rfl rfl rfl ?_
    refine jg_y (fun w hs => yv_add_w rfl rfl) rfl rfl ?_
    refine jg_as rfl rfl rfl ?_
    refine jg_nils [(0, _), (3, _)] ⟨rfl, rfl, trivial⟩ ?_
    exact jk_use H8 (w64 (z5 + 1)) () [] ⟨rfl, rfl, trivial⟩ rfl rfl rfl
  refine jg_mv rfl rfl rfl ?_
  refine jg_mv rfl rfl rfl ?_
  refine jg_ck fun h12 => ?_
  refine jg_y (fun w hs => yv_ixZ Try.underlying9 rfl rfl (of_decide_eq_true h12)) rfl rfl ?_
  refine jg_y (fun w hs => yv_geq rfl rfl) rfl rfl ?_
  refine jg_mv rfl rfl rfl ?_
  refine jg_split 25 rfl ?_ ?_
  rotate_left
  · refine jg_skip rfl rfl ?_
    refine jg_skip rfl rfl ?_
    refine jg_skip rfl rfl ?_
    refine jg_skip rfl rfl ?_
    refine jg_y (fun w hs => yv_pick_f rfl rfl) rfl rfl ?_
    refine jg_y (fun w hs => yv_pick_f rfl rfl) rfl rfl ?_
    refine jg_y (fun w hs => yv_not rfl) rfl rfl ?_
    refine jg_nils [(0, _), (3, _), (32, _)] ⟨rfl, rfl, rfl, trivial⟩ ?_
    refine jk_sn ?_
    refine jn_cond rfl ?_ ?_
    · refine jn_seq ?_
      refine jn_reg 5 ?_
      refine jg_as rfl rfl rfl ?_
      refine jg_nils [(2, _)] ⟨rfl, trivial⟩ ?_
      refine jk_sn ?_
      refine jn_ret ?_
      refine jk_br (jk_sr (jk_lr (jk_br (jk_sr ?_))))
      exact jk_ret1 rfl (fun w hs => .tmp rfl) (fun w hs => ⟨rfl, hs.drop⟩)
    refine jn_skip ?_
    refine jk_bn (jk_sn ?_)
    refine jn_reg 3 ?_
    refine jg_mv rfl rfl rfl ?_
    refine jg_y (fun w hs => yv_add_w rfl rfl) rfl rfl ?_
    refine jg_as rfl rfl rfl ?_
    refine jg_nils [(0, _), (3, _)] ⟨rfl, rfl, trivial⟩ ?_
    exact jk_use H8 (w64 (z5 + 1)) () [] ⟨rfl, rfl, trivial⟩ rfl rfl rfl
  refine jg_mv rfl rfl rfl ?_
  refine jg_mv rfl rfl rfl ?_
  refine jg_ck fun h13 => ?_
  refine jg_y (fun w hs => yv_ixZ Try.underlying9 rfl rfl (of_decide_eq_true h13)) rfl rfl ?_
  refine jg_y (fun w hs => yv_leq rfl rfl) rfl rfl ?_
  refine jg_y (fun w hs => yv_pick_t rfl rfl) rfl rfl ?_
  refine jg_y (fun w hs => yv_pick_f rfl rfl) rfl rfl ?_
  refine jg_y (fun w hs => yv_not rfl) rfl rfl ?_
  refine jg_nils [(0, _), (3, _), (32, _)] ⟨rfl, rfl, rfl, trivial⟩ ?_
  refine jk_sn ?_
  refine jn_cond rfl ?_ ?_
  · refine jn_seq ?_
    refine jn_reg 5 ?_
    refine jg_as rfl rfl rfl ?_
    refine jg_nils [(2, _)] ⟨rfl, trivial⟩ ?_
    refine jk_sn ?_
    refine jn_ret ?_
    refine jk_br (jk_sr (jk_lr (jk_br (jk_sr ?_))))
    exact jk_ret1 rfl (fun w hs => .tmp rfl) (fun w hs => ⟨rfl, hs.drop⟩)
  refine jn_skip ?_
  refine jk_bn (jk_sn ?_)
  refine jn_reg 3 ?_
  refine jg_mv rfl rfl rfl ?_
  refine jg_y (fun w hs => yv_add_w rfl rfl) rfl rfl ?_
  refine jg_as rfl rfl rfl ?_
  refine jg_nils [(0, _), (3, _)] ⟨rfl, rfl, trivial⟩ ?_
  exact jk_use H8 (w64 (z5 + 1)) () [] ⟨rfl, rfl, trivial⟩ rfl rfl rfl
end Go.Proofs.Ytbojnnefpapamaa
