/-
  Contracts of package interval, and of what its reference shares with it.
-/
import Derived.Test.YtbbcpffbdadnoaaFacts
import Derived.Test.YtbbcpffbdadnoaaIvM
namespace Go.Proofs.Ytbbcpffbdadnoaa
set_option linter.unusedVariables false
set_option linter.unusedSimpArgs false
set_option maxHeartbeats 2000000
set_option maxRecDepth 10000
open Go.Hy Go.Hy.Iv

theorem bt {p : Prop} [Decidable p] (h : p) : Ending.returned (.bool true) = .returned (.bool (decide p)) := by rw [decide_eq_true h]
theorem bf {p : Prop} [Decidable p] (h : ¬ p) : Ending.returned (.bool false) = .returned (.bool (decide p)) := by rw [decide_eq_false h]
theorem ri {k : IntKind} {a b : Int} (h : a = b) : Ending.returned (.int k a) = .returned (.int k b) := by rw [h]
abbrev ivv (a b : Int) : Value := .agg #[.int .i64 a, .int .i64 b]
abbrev tv3 (r : Int × Int × Int) : Value := .tuple #[.agg #[.int .i64 r.1, .int .i64 r.2.1], .int .i64 r.2.2]
abbrev tv2 (r : Int × Int) : Value := .tuple #[.int .i64 r.1, .int .i64 r.2]
theorem r3 {a b c : Int} {r : Int × Int × Int} (h : r = (a, b, c)) : Ending.returned (.tuple #[.agg #[.int .i64 a, .int .i64 b], .int .i64 c]) = .returned (tv3 r) := by rw [h]
theorem r2 {a b : Int} {r : Int × Int} (h : r = (a, b)) : Ending.returned (.tuple #[.int .i64 a, .int .i64 b]) = .returned (tv2 r) := by rw [h]
theorem yv_tdiv_q {P : Program} {N : Nat} {ρ : Env} {w : World} {d : Option Nat} {ty : TypeId} {ps : String} {af : Array Edge} {gd : Option (Nat × Bool)} {x y : Operand} {m n : Int} {xt yt : TypeId} (hx : evo ρ x = some (.int .i64 m)) (hy : evo ρ y = some (.int .i64 n)) (hn : n ≠ 0) :
    Yv P N ρ w ⟨d, .binOp .quo xt x y yt, ty, ps, af, gd⟩ (.int .i64 (qw m n)) := yv_tdiv_w hx hy hn

theorem inside_g (n : Int) (w : World) : Gives Try.prog 33 [.int .i64 n] w (.bool (decide (Inr n))) := by
  (try unfold Gives); refine calls_enter Try.func33 rfl Try.ntmps33 rfl rfl ?_; have hs := St.refl w
  repeat' (first
    | refine rn_seq ?_
    | refine ks_n ?_
    | refine rn_cond_t rfl ?_
    | refine rn_cond_f rfl ?_
    | refine kb_n ?_
    | refine rn_block ?_
    | refine rn_skip ?_
    | refine rn_ret ?_
    | refine ks_r ?_
    | refine rn_exit ?_
    | refine ks_e ?_
    | refine kb_hit ?_
    | refine kb_miss rfl ?_
    | refine kb_r ?_
    | refine kl_e ?_
    | refine kl_r ?_
    | refine kr_n ?_
    | refine rnds_succ ?_
    | refine kr_e ?_
    | refine kr_r ?_
    | (refine rn_reg 0 ?_
       all_goals (refine rg_y (yv_assign (kB rfl)) rfl rfl ?_)
       all_goals (first | refine rg_nils [(0, _), (6, _), (7, _)] ⟨sI rfl, sI rfl, sB rfl, trivial⟩ ?_ | refine rg_nil ?_))
    | (refine rn_reg 1 ?_
       all_goals (refine rg_y (yv_move (kI rfl)) rfl rfl ?_)
       all_goals (first | refine rg_bt (yv_geq rfl rfl) (by omega) rfl rfl ?_ | refine rg_bf (yv_geq rfl rfl) (by omega) rfl rfl ?_ | refine rg_b (yv_geq rfl rfl) rfl rfl (fun hc => ?_) (fun hc => ?_))
       all_goals (refine rg_y (yv_move (kB rfl)) rfl rfl ?_)
       all_goals (first | refine rg_skip rfl rfl ?_ | refine rg_y (yv_move (kI rfl)) rfl rfl ?_)
       all_goals (first | refine rg_skip rfl rfl ?_ | (first | refine rg_bt (yv_leq rfl rfl) (by omega) rfl rfl ?_ | refine rg_bf (yv_leq rfl rfl) (by omega) rfl rfl ?_ | refine rg_b (yv_leq rfl rfl) rfl rfl (fun hc => ?_) (fun hc => ?_)))
       all_goals (first | refine rg_y (yv_pick_t rfl (kB rfl)) rfl rfl ?_ | refine rg_y (yv_pick_f rfl (kB rfl)) rfl rfl ?_)
       all_goals (refine rg_y (yv_assign (kB rfl)) rfl rfl ?_)
       all_goals (first | refine rg_nils [(2, _)] ⟨sB rfl, trivial⟩ ?_ | refine rg_nil ?_)))
  all_goals (refine k_ret1 rfl (.tmp rfl) ⟨?_, hs.drop⟩; first | exact bt (by omega) | exact bf (by omega))
theorem Valid_g (lo hi : Int) (w : World) : Gives Try.prog 36 [ivv lo hi] w (.bool (decide (Ivd lo hi))) := by
  (try unfold Gives); refine calls_enter Try.func36 rfl Try.ntmps36 rfl rfl ?_; have hs := St.refl w
  repeat' (first
    | refine rn_seq ?_
    | refine ks_n ?_
    | refine rn_cond_t rfl ?_
    | refine rn_cond_f rfl ?_
    | refine kb_n ?_
    | refine rn_block ?_
    | refine rn_skip ?_
    | refine rn_ret ?_
    | refine ks_r ?_
    | refine rn_exit ?_
    | refine ks_e ?_
    | refine kb_hit ?_
    | refine kb_miss rfl ?_
    | refine kb_r ?_
    | refine kl_e ?_
    | refine kl_r ?_
    | refine kr_n ?_
    | refine rnds_succ ?_
    | refine kr_e ?_
    | refine kr_r ?_
    | (refine rn_reg 0 ?_
       all_goals ((refine rg_box hs (kA rfl) (l2 rfl) rfl rfl ?_; clear hs; intro g w hs))
       all_goals (refine rg_y (yv_assign (kB rfl)) rfl rfl ?_)
       all_goals (first | refine rg_nils [(1, _), (9, _), (10, _), (11, _), (14, _), (15, _), (16, _)] ⟨sP rfl, (by first | exact sE rfl | exact sP rfl), sI rfl, sB rfl, (by first | exact sE rfl | exact sP rfl), sI rfl, sB rfl, trivial⟩ ?_ | refine rg_nil ?_))
    | (refine rn_reg 1 ?_
       all_goals (refine rg_y (yv_fieldAddr rfl) rfl rfl ?_)
       all_goals (first | refine rg_y (yv_load rfl (ld1B (k1 (hs.blkL (i := 0) rfl)) (vI rfl))) rfl rfl ?_ | refine rg_y (yv_load rfl (ld1B (k1 (hs.blkL (i := 1) rfl)) (vI rfl))) rfl rfl ?_ | refine rg_y (yv_load rfl (ld1B (k1 (hs.blkL (i := 2) rfl)) (vI rfl))) rfl rfl ?_ | refine rg_y (yv_load rfl (ld1B (k1 (hs.blkL (i := 3) rfl)) (vI rfl))) rfl rfl ?_)
       all_goals (refine rg_y (yv_fieldAddr rfl) rfl rfl ?_)
       all_goals (first | refine rg_y (yv_load rfl (ld1B (k1 (hs.blkL (i := 0) rfl)) (vI rfl))) rfl rfl ?_ | refine rg_y (yv_load rfl (ld1B (k1 (hs.blkL (i := 1) rfl)) (vI rfl))) rfl rfl ?_ | refine rg_y (yv_load rfl (ld1B (k1 (hs.blkL (i := 2) rfl)) (vI rfl))) rfl rfl ?_ | refine rg_y (yv_load rfl (ld1B (k1 (hs.blkL (i := 3) rfl)) (vI rfl))) rfl rfl ?_)
       all_goals (first | refine rg_bt (yv_leq rfl rfl) (by omega) rfl rfl ?_ | refine rg_bf (yv_leq rfl rfl) (by omega) rfl rfl ?_ | refine rg_b (yv_leq rfl rfl) rfl rfl (fun hc => ?_) (fun hc => ?_))
       all_goals (refine rg_y (yv_move (kB rfl)) rfl rfl ?_)
       all_goals (first | refine rg_skip rfl rfl ?_ | refine rg_y (yv_fieldAddr rfl) rfl rfl ?_)
       all_goals (first | refine rg_skip rfl rfl ?_ | (first | refine rg_y (yv_load rfl (ld1B (k1 (hs.blkL (i := 0) rfl)) (vI rfl))) rfl rfl ?_ | refine rg_y (yv_load rfl (ld1B (k1 (hs.blkL (i := 1) rfl)) (vI rfl))) rfl rfl ?_ | refine rg_y (yv_load rfl (ld1B (k1 (hs.blkL (i := 2) rfl)) (vI rfl))) rfl rfl ?_ | refine rg_y (yv_load rfl (ld1B (k1 (hs.blkL (i := 3) rfl)) (vI rfl))) rfl rfl ?_))
       all_goals (first | refine rg_skip rfl rfl ?_ | (first | (refine rg_callbt (inside_g _ _) hs rfl (by omega) rfl rfl ?_; clear hs; intro w hs) | (refine rg_callbf (inside_g _ _) hs rfl (by omega) rfl rfl ?_; clear hs; intro w hs) | (refine rg_callb (inside_g _ _) hs rfl rfl rfl (fun hc => ?_) (fun hc => ?_) <;> (clear hs; intro w hs))))
       all_goals (first | refine rg_y (yv_pick_t rfl (kB rfl)) rfl rfl ?_ | refine rg_y (yv_pick_f rfl (kB rfl)) rfl rfl ?_)
       all_goals (refine rg_y (yv_move (kB rfl)) rfl rfl ?_)
       all_goals (first | refine rg_skip rfl rfl ?_ | refine rg_y (yv_fieldAddr rfl) rfl rfl ?_)
       all_goals (first | refine rg_skip rfl rfl ?_ | (first | refine rg_y (yv_load rfl (ld1B (k1 (hs.blkL (i := 0) rfl)) (vI rfl))) rfl rfl ?_ | refine rg_y (yv_load rfl (ld1B (k1 (hs.blkL (i := 1) rfl)) (vI rfl))) rfl rfl ?_ | refine rg_y (yv_load rfl (ld1B (k1 (hs.blkL (i := 2) rfl)) (vI rfl))) rfl rfl ?_ | refine rg_y (yv_load rfl (ld1B (k1 (hs.blkL (i := 3) rfl)) (vI rfl))) rfl rfl ?_))
       all_goals (first | refine rg_skip rfl rfl ?_ | (first | (refine rg_callbt (inside_g _ _) hs rfl (by omega) rfl rfl ?_; clear hs; intro w hs) | (refine rg_callbf (inside_g _ _) hs rfl (by omega) rfl rfl ?_; clear hs; intro w hs) | (refine rg_callb (inside_g _ _) hs rfl rfl rfl (fun hc => ?_) (fun hc => ?_) <;> (clear hs; intro w hs))))
       all_goals (first | refine rg_y (yv_pick_t rfl (kB rfl)) rfl rfl ?_ | refine rg_y (yv_pick_f rfl (kB rfl)) rfl rfl ?_)
       all_goals (refine rg_y (yv_assign (kB rfl)) rfl rfl ?_)
       all_goals (first | refine rg_nils [(2, _)] ⟨sB rfl, trivial⟩ ?_ | refine rg_nil ?_)))
  all_goals (refine k_ret1 rfl (.tmp rfl) ⟨?_, hs.drop⟩; first | exact bt (by omega) | exact bf (by omega))
theorem down_g (a b : Int) (w : World) (ha : I64 a) (hb : b ≠ 0) : Gives Try.prog 32 [.int .i64 a, .int .i64 b] w (.int .i64 (dnm a b)) := by
  have hq := qw_in a b
  have hm := qw_mid (b := b) ha
  (try unfold Gives); refine calls_enter Try.func32 rfl Try.ntmps32 rfl rfl ?_; have hs := St.refl w
  repeat' (first
    | refine rn_seq ?_
    | refine ks_n ?_
    | refine rn_cond_t rfl ?_
    | refine rn_cond_f rfl ?_
    | refine kb_n ?_
    | refine rn_block ?_
    | refine rn_skip ?_
    | refine rn_ret ?_
    | refine ks_r ?_
    | refine rn_exit ?_
    | refine ks_e ?_
    | refine kb_hit ?_
    | refine kb_miss rfl ?_
    | refine kb_r ?_
    | refine kl_e ?_
    | refine kl_r ?_
    | refine kr_n ?_
    | refine rnds_succ ?_
    | refine kr_e ?_
    | refine kr_r ?_
    | (refine rn_reg 0 ?_
       all_goals (refine rg_y (yv_assign (kI rfl)) rfl rfl ?_)
       all_goals (first | refine rg_nils [(0, _), (1, _), (16, _), (17, _), (18, _), (19, _), (20, _)] ⟨sI rfl, sI rfl, sI rfl, sB rfl, sI rfl, sB rfl, sB rfl, trivial⟩ ?_ | refine rg_nil ?_))
    | (refine rn_draw_st 1 [0, 1, 2, 3, 4, 5, 6, 7] [(0, true), (1, true), (2, true), (3, true), (4, true), (5, true), (6, true), (7, true)] hs (by repeat (first | exact np_ret | refine np_seq ?_ | refine np_blk ?_ | refine np_loop ?_ | refine np_rnd ?_)) (by kernel_rfl) rfl (by kernel_rfl) ?_; clear hs; intro w hs
       all_goals ((refine dr_y rfl (fun w hs => yv_move (kI rfl)) (by first | exact hs | exact hs.tail | exact hs.tail.tail | exact hs.tail.tail.tail) rfl rfl ?_; intro w hg; replace hs := hs.call0 hg; clear hg))
       all_goals ((refine dr_y rfl (fun w hs => yv_move (kI rfl)) (by first | exact hs | exact hs.tail | exact hs.tail.tail | exact hs.tail.tail.tail) rfl rfl ?_; intro w hg; replace hs := hs.call0 hg; clear hg))
       all_goals ((refine dr_y rfl (fun w hs => yv_tdiv_q rfl rfl hb) (by first | exact hs | exact hs.tail | exact hs.tail.tail | exact hs.tail.tail.tail) rfl rfl ?_; intro w hg; replace hs := hs.call0 hg; clear hg))
       all_goals ((refine dr_y rfl (fun w hs => yv_move (kI rfl)) (by first | exact hs | exact hs.tail | exact hs.tail.tail | exact hs.tail.tail.tail) rfl rfl ?_; intro w hg; replace hs := hs.call0 hg; clear hg))
       all_goals ((refine dr_y rfl (fun w hs => yv_move (kI rfl)) (by first | exact hs | exact hs.tail | exact hs.tail.tail | exact hs.tail.tail.tail) rfl rfl ?_; intro w hg; replace hs := hs.call0 hg; clear hg))
       all_goals ((refine dr_y rfl (fun w hs => yv_tmod rfl rfl hb) (by first | exact hs | exact hs.tail | exact hs.tail.tail | exact hs.tail.tail.tail) rfl rfl ?_; intro w hg; replace hs := hs.call0 hg; clear hg))
       all_goals ((refine dr_y rfl (fun w hs => yv_assign (kI rfl)) (by first | exact hs | exact hs.tail | exact hs.tail.tail | exact hs.tail.tail.tail) rfl rfl ?_; intro w hg; replace hs := hs.call0 hg; clear hg))
       all_goals ((refine dr_y rfl (fun w hs => yv_assign (kI rfl)) (by first | exact hs | exact hs.tail | exact hs.tail.tail | exact hs.tail.tail.tail) rfl rfl ?_; intro w hg; replace hs := hs.call0 hg; clear hg))
       all_goals (first | refine dr_nils [(1, _), (5, _), (6, _), (16, _), (17, _), (18, _), (19, _), (20, _)] ⟨sI rfl, sI rfl, sI rfl, sI rfl, sB rfl, sI rfl, sB rfl, sB rfl, trivial⟩ ?_ | refine dr_nil ?_))
    | (refine rn_reg 2 ?_
       all_goals (refine rg_y (yv_move (kI rfl)) rfl rfl ?_)
       all_goals (first | refine rg_bt (yv_neq rfl rfl) (by omega) rfl rfl ?_ | refine rg_bf (yv_neq rfl rfl) (by omega) rfl rfl ?_ | refine rg_b (yv_neq rfl rfl) rfl rfl (fun hc => ?_) (fun hc => ?_))
       all_goals (refine rg_y (yv_move (kB rfl)) rfl rfl ?_)
       all_goals (first | refine rg_skip rfl rfl ?_ | refine rg_y (yv_move (kI rfl)) rfl rfl ?_)
       all_goals (first | refine rg_skip rfl rfl ?_ | (first | refine rg_bt (yv_lss rfl rfl) (by omega) rfl rfl ?_ | refine rg_bf (yv_lss rfl rfl) (by omega) rfl rfl ?_ | refine rg_b (yv_lss rfl rfl) rfl rfl (fun hc => ?_) (fun hc => ?_)))
       all_goals (first | refine rg_skip rfl rfl ?_ | refine rg_y (yv_move (kI rfl)) rfl rfl ?_)
       all_goals (first | refine rg_skip rfl rfl ?_ | (first | refine rg_bt (yv_lss rfl rfl) (by omega) rfl rfl ?_ | refine rg_bf (yv_lss rfl rfl) (by omega) rfl rfl ?_ | refine rg_b (yv_lss rfl rfl) rfl rfl (fun hc => ?_) (fun hc => ?_)))
       all_goals (first | refine rg_skip rfl rfl ?_ | refine rg_y (yv_neqb Try.underlying4 rfl rfl) rfl rfl ?_)
       all_goals (first | refine rg_y (yv_pick_t rfl (kB rfl)) rfl rfl ?_ | refine rg_y (yv_pick_f rfl (kB rfl)) rfl rfl ?_)
       all_goals (first | refine rg_nils [(5, _), (21, _)] ⟨sI rfl, sB rfl, trivial⟩ ?_ | refine rg_nil ?_))
    | (refine rn_reg 3 ?_
       all_goals (refine rg_y (yv_move (kI rfl)) rfl rfl ?_)
       all_goals (refine rg_y (yv_sub rfl rfl (by omega)) rfl rfl ?_)
       all_goals (refine rg_y (yv_assign (kI rfl)) rfl rfl ?_)
       all_goals (first | refine rg_nils [(5, _)] ⟨sI rfl, trivial⟩ ?_ | refine rg_nil ?_))
    | (refine rn_reg 4 ?_
       all_goals (refine rg_y (yv_move (kI rfl)) rfl rfl ?_)
       all_goals (refine rg_y (yv_assign (kI rfl)) rfl rfl ?_)
       all_goals (first | refine rg_nils [(4, _)] ⟨sI rfl, trivial⟩ ?_ | refine rg_nil ?_)))
  all_goals (refine k_ret1 rfl (.tmp rfl) ⟨ri ?_, hs.drop⟩; unfold dnm; first | rw [if_pos (by omega)] | rw [if_neg (by omega)])
theorem up_g (a b : Int) (w : World) (ha : I64 a) (hb : b ≠ 0) : Gives Try.prog 34 [.int .i64 a, .int .i64 b] w (.int .i64 (upm a b)) := by
  have hq := qw_in a b
  have hm := qw_mid (b := b) ha
  (try unfold Gives); refine calls_enter Try.func34 rfl Try.ntmps34 rfl rfl ?_; have hs := St.refl w
  repeat' (first
    | refine rn_seq ?_
    | refine ks_n ?_
    | refine rn_cond_t rfl ?_
    | refine rn_cond_f rfl ?_
    | refine kb_n ?_
    | refine rn_block ?_
    | refine rn_skip ?_
    | refine rn_ret ?_
    | refine ks_r ?_
    | refine rn_exit ?_
    | refine ks_e ?_
    | refine kb_hit ?_
    | refine kb_miss rfl ?_
    | refine kb_r ?_
    | refine kl_e ?_
    | refine kl_r ?_
    | refine kr_n ?_
    | refine rnds_succ ?_
    | refine kr_e ?_
    | refine kr_r ?_
    | (refine rn_reg 0 ?_
       all_goals (refine rg_y (yv_assign (kI rfl)) rfl rfl ?_)
       all_goals (first | refine rg_nils [(0, _), (1, _), (16, _), (17, _), (18, _), (19, _), (20, _)] ⟨sI rfl, sI rfl, sI rfl, sB rfl, sI rfl, sB rfl, sB rfl, trivial⟩ ?_ | refine rg_nil ?_))
    | (refine rn_draw_st 1 [0, 1, 2, 3, 4, 5, 6, 7] [(0, true), (1, true), (2, true), (3, true), (4, true), (5, true), (6, true), (7, true)] hs (by repeat (first | exact np_ret | refine np_seq ?_ | refine np_blk ?_ | refine np_loop ?_ | refine np_rnd ?_)) (by kernel_rfl) rfl (by kernel_rfl) ?_; clear hs; intro w hs
       all_goals ((refine dr_y rfl (fun w hs => yv_move (kI rfl)) (by first | exact hs | exact hs.tail | exact hs.tail.tail | exact hs.tail.tail.tail) rfl rfl ?_; intro w hg; replace hs := hs.call0 hg; clear hg))
       all_goals ((refine dr_y rfl (fun w hs => yv_move (kI rfl)) (by first | exact hs | exact hs.tail | exact hs.tail.tail | exact hs.tail.tail.tail) rfl rfl ?_; intro w hg; replace hs := hs.call0 hg; clear hg))
       all_goals ((refine dr_y rfl (fun w hs => yv_tdiv_q rfl rfl hb) (by first | exact hs | exact hs.tail | exact hs.tail.tail | exact hs.tail.tail.tail) rfl rfl ?_; intro w hg; replace hs := hs.call0 hg; clear hg))
       all_goals ((refine dr_y rfl (fun w hs => yv_move (kI rfl)) (by first | exact hs | exact hs.tail | exact hs.tail.tail | exact hs.tail.tail.tail) rfl rfl ?_; intro w hg; replace hs := hs.call0 hg; clear hg))
       all_goals ((refine dr_y rfl (fun w hs => yv_move (kI rfl)) (by first | exact hs | exact hs.tail | exact hs.tail.tail | exact hs.tail.tail.tail) rfl rfl ?_; intro w hg; replace hs := hs.call0 hg; clear hg))
       all_goals ((refine dr_y rfl (fun w hs => yv_tmod rfl rfl hb) (by first | exact hs | exact hs.tail | exact hs.tail.tail | exact hs.tail.tail.tail) rfl rfl ?_; intro w hg; replace hs := hs.call0 hg; clear hg))
       all_goals ((refine dr_y rfl (fun w hs => yv_assign (kI rfl)) (by first | exact hs | exact hs.tail | exact hs.tail.tail | exact hs.tail.tail.tail) rfl rfl ?_; intro w hg; replace hs := hs.call0 hg; clear hg))
       all_goals ((refine dr_y rfl (fun w hs => yv_assign (kI rfl)) (by first | exact hs | exact hs.tail | exact hs.tail.tail | exact hs.tail.tail.tail) rfl rfl ?_; intro w hg; replace hs := hs.call0 hg; clear hg))
       all_goals (first | refine dr_nils [(1, _), (5, _), (6, _), (16, _), (17, _), (18, _), (19, _), (20, _)] ⟨sI rfl, sI rfl, sI rfl, sI rfl, sB rfl, sI rfl, sB rfl, sB rfl, trivial⟩ ?_ | refine dr_nil ?_))
    | (refine rn_reg 2 ?_
       all_goals (refine rg_y (yv_move (kI rfl)) rfl rfl ?_)
       all_goals (first | refine rg_bt (yv_neq rfl rfl) (by omega) rfl rfl ?_ | refine rg_bf (yv_neq rfl rfl) (by omega) rfl rfl ?_ | refine rg_b (yv_neq rfl rfl) rfl rfl (fun hc => ?_) (fun hc => ?_))
       all_goals (refine rg_y (yv_move (kB rfl)) rfl rfl ?_)
       all_goals (first | refine rg_skip rfl rfl ?_ | refine rg_y (yv_move (kI rfl)) rfl rfl ?_)
       all_goals (first | refine rg_skip rfl rfl ?_ | (first | refine rg_bt (yv_lss rfl rfl) (by omega) rfl rfl ?_ | refine rg_bf (yv_lss rfl rfl) (by omega) rfl rfl ?_ | refine rg_b (yv_lss rfl rfl) rfl rfl (fun hc => ?_) (fun hc => ?_)))
       all_goals (first | refine rg_skip rfl rfl ?_ | refine rg_y (yv_move (kI rfl)) rfl rfl ?_)
       all_goals (first | refine rg_skip rfl rfl ?_ | (first | refine rg_bt (yv_lss rfl rfl) (by omega) rfl rfl ?_ | refine rg_bf (yv_lss rfl rfl) (by omega) rfl rfl ?_ | refine rg_b (yv_lss rfl rfl) rfl rfl (fun hc => ?_) (fun hc => ?_)))
       all_goals (first | refine rg_skip rfl rfl ?_ | refine rg_y (yv_eqlb Try.underlying4 rfl rfl) rfl rfl ?_)
       all_goals (first | refine rg_y (yv_pick_t rfl (kB rfl)) rfl rfl ?_ | refine rg_y (yv_pick_f rfl (kB rfl)) rfl rfl ?_)
       all_goals (first | refine rg_nils [(5, _), (21, _)] ⟨sI rfl, sB rfl, trivial⟩ ?_ | refine rg_nil ?_))
    | (refine rn_reg 3 ?_
       all_goals (refine rg_y (yv_move (kI rfl)) rfl rfl ?_)
       all_goals (refine rg_y (yv_add rfl rfl (by omega)) rfl rfl ?_)
       all_goals (refine rg_y (yv_assign (kI rfl)) rfl rfl ?_)
       all_goals (first | refine rg_nils [(5, _)] ⟨sI rfl, trivial⟩ ?_ | refine rg_nil ?_))
    | (refine rn_reg 4 ?_
       all_goals (refine rg_y (yv_move (kI rfl)) rfl rfl ?_)
       all_goals (refine rg_y (yv_assign (kI rfl)) rfl rfl ?_)
       all_goals (first | refine rg_nils [(4, _)] ⟨sI rfl, trivial⟩ ?_ | refine rg_nil ?_)))
  all_goals (refine k_ret1 rfl (.tmp rfl) ⟨ri ?_, hs.drop⟩; unfold upm; first | rw [if_pos (by omega)] | rw [if_neg (by omega)])
theorem Floor_g (a b : Int) (w : World) (ha : I64 a) : Gives Try.prog 10 [.int .i64 a, .int .i64 b] w (tv2 (floorM a b)) := by
  (try unfold Gives); refine calls_enter Try.func10 rfl Try.ntmps10 rfl rfl ?_; have hs := St.refl w
  repeat' (first
    | refine rn_seq ?_
    | refine ks_n ?_
    | refine rn_cond_t rfl ?_
    | refine rn_cond_f rfl ?_
    | refine kb_n ?_
    | refine rn_block ?_
    | refine rn_skip ?_
    | refine rn_ret ?_
    | refine ks_r ?_
    | refine rn_exit ?_
    | refine ks_e ?_
    | refine kb_hit ?_
    | refine kb_miss rfl ?_
    | refine kb_r ?_
    | refine kl_e ?_
    | refine kl_r ?_
    | refine kr_n ?_
    | refine rnds_succ ?_
    | refine kr_e ?_
    | refine kr_r ?_
    | (refine rn_reg 0 ?_
       all_goals (refine rg_y (yv_assign (kI rfl)) rfl rfl ?_)
       all_goals (refine rg_y (yv_assign (kI rfl)) rfl rfl ?_)
       all_goals (first | refine rg_nils [(0, _), (1, _)] ⟨sI rfl, sI rfl, trivial⟩ ?_ | refine rg_nil ?_))
    | (refine rn_reg 1 ?_
       all_goals (refine rg_y (yv_move (kI rfl)) rfl rfl ?_)
       all_goals (first | refine rg_bt (yv_eql rfl rfl) (by omega) rfl rfl ?_ | refine rg_bf (yv_eql rfl rfl) (by omega) rfl rfl ?_ | refine rg_b (yv_eql rfl rfl) rfl rfl (fun hc => ?_) (fun hc => ?_))
       all_goals (first | refine rg_nils [(0, _), (1, _), (8, _)] ⟨sI rfl, sI rfl, sB rfl, trivial⟩ ?_ | refine rg_nil ?_))
    | (refine rn_reg 2 ?_
       all_goals (refine rg_y (yv_assign (kI rfl)) rfl rfl ?_)
       all_goals (refine rg_y (yv_assign (kI rfl)) rfl rfl ?_)
       all_goals (first | refine rg_nils [(4, _), (5, _)] ⟨sI rfl, sI rfl, trivial⟩ ?_ | refine rg_nil ?_))
    | (refine rn_reg 3 ?_
       all_goals (refine rg_y (yv_move (kI rfl)) rfl rfl ?_)
       all_goals (refine rg_y (yv_move (kI rfl)) rfl rfl ?_)
       all_goals ((refine rg_call0 (down_g _ _ _ (by assumption) (by omega)) hs rfl rfl rfl ?_; clear hs; intro w hs))
       all_goals (refine rg_y (yv_assign (kI rfl)) rfl rfl ?_)
       all_goals (first | refine rg_nils [(6, _)] ⟨sI rfl, trivial⟩ ?_ | refine rg_nil ?_))
    | (refine rn_reg 4 ?_
       all_goals (refine rg_y (yv_move (kI rfl)) rfl rfl ?_)
       all_goals (first | (refine rg_callbt (inside_g _ _) hs rfl (by omega) rfl rfl ?_; clear hs; intro w hs) | (refine rg_callbf (inside_g _ _) hs rfl (by omega) rfl rfl ?_; clear hs; intro w hs) | (refine rg_callb (inside_g _ _) hs rfl rfl rfl (fun hc => ?_) (fun hc => ?_) <;> (clear hs; intro w hs)))
       all_goals (first | refine rg_nils [(6, _), (13, _)] ⟨sI rfl, sB rfl, trivial⟩ ?_ | refine rg_nil ?_))
    | (refine rn_reg 5 ?_
       all_goals (refine rg_y (yv_move (kI rfl)) rfl rfl ?_)
       all_goals (refine rg_y (yv_assign (kI rfl)) rfl rfl ?_)
       all_goals (refine rg_y (yv_assign (kI rfl)) rfl rfl ?_)
       all_goals (first | refine rg_nils [(4, _), (5, _)] ⟨sI rfl, sI rfl, trivial⟩ ?_ | refine rg_nil ?_))
    | (refine rn_reg 6 ?_
       all_goals (refine rg_y (yv_assign (kI rfl)) rfl rfl ?_)
       all_goals (refine rg_y (yv_assign (kI rfl)) rfl rfl ?_)
       all_goals (first | refine rg_nils [(4, _), (5, _)] ⟨sI rfl, sI rfl, trivial⟩ ?_ | refine rg_nil ?_)))
  all_goals (refine k_ret2 rfl (.tmp rfl) (.tmp rfl) ⟨r2 ?_, hs.drop⟩; unfold floorM)
  · rw [if_pos (by assumption)]
  · rw [if_neg (by assumption), if_pos (by assumption)]
  · rw [if_neg (by assumption), if_neg (by assumption)]
theorem Ceil_g (a b : Int) (w : World) (ha : I64 a) : Gives Try.prog 11 [.int .i64 a, .int .i64 b] w (tv2 (ceilM a b)) := by
  (try unfold Gives); refine calls_enter Try.func11 rfl Try.ntmps11 rfl rfl ?_; have hs := St.refl w
  repeat' (first
    | refine rn_seq ?_
    | refine ks_n ?_
    | refine rn_cond_t rfl ?_
    | refine rn_cond_f rfl ?_
    | refine kb_n ?_
    | refine rn_block ?_
    | refine rn_skip ?_
    | refine rn_ret ?_
    | refine ks_r ?_
    | refine rn_exit ?_
    | refine ks_e ?_
    | refine kb_hit ?_
    | refine kb_miss rfl ?_
    | refine kb_r ?_
    | refine kl_e ?_
    | refine kl_r ?_
    | refine kr_n ?_
    | refine rnds_succ ?_
    | refine kr_e ?_
    | refine kr_r ?_
    | (refine rn_reg 0 ?_
       all_goals (refine rg_y (yv_assign (kI rfl)) rfl rfl ?_)
       all_goals (refine rg_y (yv_assign (kI rfl)) rfl rfl ?_)
       all_goals (first | refine rg_nils [(0, _), (1, _)] ⟨sI rfl, sI rfl, trivial⟩ ?_ | refine rg_nil ?_))
    | (refine rn_reg 1 ?_
       all_goals (refine rg_y (yv_move (kI rfl)) rfl rfl ?_)
       all_goals (first | refine rg_bt (yv_eql rfl rfl) (by omega) rfl rfl ?_ | refine rg_bf (yv_eql rfl rfl) (by omega) rfl rfl ?_ | refine rg_b (yv_eql rfl rfl) rfl rfl (fun hc => ?_) (fun hc => ?_))
       all_goals (first | refine rg_nils [(0, _), (1, _), (8, _)] ⟨sI rfl, sI rfl, sB rfl, trivial⟩ ?_ | refine rg_nil ?_))
    | (refine rn_reg 2 ?_
       all_goals (refine rg_y (yv_assign (kI rfl)) rfl rfl ?_)
       all_goals (refine rg_y (yv_assign (kI rfl)) rfl rfl ?_)
       all_goals (first | refine rg_nils [(4, _), (5, _)] ⟨sI rfl, sI rfl, trivial⟩ ?_ | refine rg_nil ?_))
    | (refine rn_reg 3 ?_
       all_goals (refine rg_y (yv_move (kI rfl)) rfl rfl ?_)
       all_goals (refine rg_y (yv_move (kI rfl)) rfl rfl ?_)
       all_goals ((refine rg_call0 (up_g _ _ _ (by assumption) (by omega)) hs rfl rfl rfl ?_; clear hs; intro w hs))
       all_goals (refine rg_y (yv_assign (kI rfl)) rfl rfl ?_)
       all_goals (first | refine rg_nils [(6, _)] ⟨sI rfl, trivial⟩ ?_ | refine rg_nil ?_))
    | (refine rn_reg 4 ?_
       all_goals (refine rg_y (yv_move (kI rfl)) rfl rfl ?_)
       all_goals (first | (refine rg_callbt (inside_g _ _) hs rfl (by omega) rfl rfl ?_; clear hs; intro w hs) | (refine rg_callbf (inside_g _ _) hs rfl (by omega) rfl rfl ?_; clear hs; intro w hs) | (refine rg_callb (inside_g _ _) hs rfl rfl rfl (fun hc => ?_) (fun hc => ?_) <;> (clear hs; intro w hs)))
       all_goals (first | refine rg_nils [(6, _), (13, _)] ⟨sI rfl, sB rfl, trivial⟩ ?_ | refine rg_nil ?_))
    | (refine rn_reg 5 ?_
       all_goals (refine rg_y (yv_move (kI rfl)) rfl rfl ?_)
       all_goals (refine rg_y (yv_assign (kI rfl)) rfl rfl ?_)
       all_goals (refine rg_y (yv_assign (kI rfl)) rfl rfl ?_)
       all_goals (first | refine rg_nils [(4, _), (5, _)] ⟨sI rfl, sI rfl, trivial⟩ ?_ | refine rg_nil ?_))
    | (refine rn_reg 6 ?_
       all_goals (refine rg_y (yv_assign (kI rfl)) rfl rfl ?_)
       all_goals (refine rg_y (yv_assign (kI rfl)) rfl rfl ?_)
       all_goals (first | refine rg_nils [(4, _), (5, _)] ⟨sI rfl, sI rfl, trivial⟩ ?_ | refine rg_nil ?_)))
  all_goals (refine k_ret2 rfl (.tmp rfl) (.tmp rfl) ⟨r2 ?_, hs.drop⟩; unfold ceilM)
  · rw [if_pos (by assumption)]
  · rw [if_neg (by assumption), if_pos (by assumption)]
  · rw [if_neg (by assumption), if_neg (by assumption)]
/-- The binary search for a root. -/
theorem root_g (n : Int) (w : World) (h0 : 0 ≤ n) (h1 : n ≤ 1000000000000) : Gives Try.prog 37 [.int .i64 n] w (.int .i64 (isq n)) := by
  (try unfold Gives); refine calls_enter Try.func37 rfl Try.ntmps37 rfl rfl ?_; have hs := St.refl w
  repeat' (first
    | refine rn_seq ?_
    | refine ks_n ?_
    | refine rn_cond_t rfl ?_
    | refine rn_cond_f rfl ?_
    | refine kb_n ?_
    | refine rn_block ?_
    | refine rn_skip ?_
    | refine rn_ret ?_
    | refine ks_r ?_
    | refine rn_exit ?_
    | refine ks_e ?_
    | refine kb_hit ?_
    | refine kb_miss rfl ?_
    | refine kb_r ?_
    | refine kl_e ?_
    | refine kl_r ?_
    | refine kr_n ?_
    | refine rnds_succ ?_
    | refine kr_e ?_
    | refine kr_r ?_
    | (refine rn_reg 0 ?_
       all_goals (refine rg_y (yv_assign (kI rfl)) rfl rfl ?_)
       all_goals (first | refine rg_nils [(0, _)] ⟨sI rfl, trivial⟩ ?_ | refine rg_nil ?_))
    | (refine rn_reg 1 ?_
       all_goals (refine rg_y (yv_assign (kI rfl)) rfl rfl ?_)
       all_goals (refine rg_y (yv_assign (kI rfl)) rfl rfl ?_)
       all_goals (first | refine rg_nils [(0, _), (3, _), (4, _)] ⟨sI rfl, sI rfl, sI rfl, trivial⟩ ?_ | refine rg_nil ?_))
    | (refine rn_reg 2 ?_
       all_goals (refine rg_y (yv_move (kI rfl)) rfl rfl ?_)
       all_goals (refine rg_y (yv_move (kI rfl)) rfl rfl ?_)
       all_goals (refine rg_y (yv_sub rfl rfl (by omega)) rfl rfl ?_)
       all_goals (first | refine rg_bt (yv_gtr rfl rfl) (by omega) rfl rfl ?_ | refine rg_bf (yv_gtr rfl rfl) (by omega) rfl rfl ?_ | refine rg_b (yv_gtr rfl rfl) rfl rfl (fun hc => ?_) (fun hc => ?_))
       all_goals (first | refine rg_nils [(0, _), (3, _), (4, _), (9, _)] ⟨sI rfl, sI rfl, sI rfl, sB rfl, trivial⟩ ?_ | refine rg_nil ?_))
    | (refine rn_reg 3 ?_
       all_goals (refine rg_y (yv_move (kI rfl)) rfl rfl ?_)
       all_goals (refine rg_y (yv_move (kI rfl)) rfl rfl ?_)
       all_goals (refine rg_y (yv_add rfl rfl (by omega)) rfl rfl ?_)
       all_goals (first | refine rg_y (yv_quo rfl rfl (by omega)) rfl rfl ?_ | refine rg_y (yv_tdiv rfl rfl (by omega) (by omega) (by omega)) rfl rfl ?_)
       all_goals (refine rg_y (yv_assign (kI rfl)) rfl rfl ?_)
       all_goals (first | refine rg_nils [(0, _), (3, _), (4, _), (5, _)] ⟨sI rfl, sI rfl, sI rfl, sI rfl, trivial⟩ ?_ | refine rg_nil ?_))
    | (refine rn_reg 4 ?_
       all_goals (refine rg_y (yv_move (kI rfl)) rfl rfl ?_)
       all_goals (refine rg_y (yv_move (kI rfl)) rfl rfl ?_)
       all_goals (refine rg_y (yv_mul rfl rfl (by omega)) rfl rfl ?_)
       all_goals (refine rg_y (yv_move (kI rfl)) rfl rfl ?_)
       all_goals (first | refine rg_bt (yv_leq rfl rfl) (by omega) rfl rfl ?_ | refine rg_bf (yv_leq rfl rfl) (by omega) rfl rfl ?_ | refine rg_b (yv_leq rfl rfl) rfl rfl (fun hc => ?_) (fun hc => ?_))
       all_goals (first | refine rg_nils [(0, _), (3, _), (4, _), (5, _), (18, _)] ⟨sI rfl, sI rfl, sI rfl, sI rfl, sB rfl, trivial⟩ ?_ | refine rg_nil ?_))
    | (refine rn_reg 5 ?_
       all_goals (refine rg_y (yv_move (kI rfl)) rfl rfl ?_)
       all_goals (refine rg_y (yv_assign (kI rfl)) rfl rfl ?_)
       all_goals (first | refine rg_nils [(0, _), (3, _), (4, _)] ⟨sI rfl, sI rfl, sI rfl, trivial⟩ ?_ | refine rg_nil ?_))
    | (refine rn_reg 6 ?_
       all_goals (refine rg_y (yv_move (kI rfl)) rfl rfl ?_)
       all_goals (refine rg_y (yv_assign (kI rfl)) rfl rfl ?_)
       all_goals (first | refine rg_nils [(0, _), (3, _), (4, _)] ⟨sI rfl, sI rfl, sI rfl, trivial⟩ ?_ | refine rg_nil ?_))
    | (refine rn_reg 7 ?_
       all_goals (refine rg_y (yv_move (kI rfl)) rfl rfl ?_)
       all_goals (refine rg_y (yv_assign (kI rfl)) rfl rfl ?_)
       all_goals (first | refine rg_nils [(2, _)] ⟨sI rfl, trivial⟩ ?_ | refine rg_nil ?_)))
  refine rn_loop (α := Int × Int) (fun x w' => St w w' [] [] ∧ 0 ≤ x.1 ∧ x.1 < x.2 ∧ x.2 ≤ 1000001 ∧ x.1 * x.1 ≤ n ∧ n < x.2 * x.2) (fun x => [(0, .int .i64 n), (3, .int .i64 x.1), (4, .int .i64 x.2)]) (fun x => (x.2 - x.1).toNat) (0, 1000001)
    ⟨hs, by omega, by omega, by omega, by omega, by omega⟩ ⟨rfl, rfl, rfl, trivial⟩ ?_
  clear hs
  rintro ⟨lo, hi⟩ w1 ⟨hs, i0, i1, i2, i3, i4⟩
  dsimp only at i0 i1 i2 i3 i4 ⊢
  have hsq : 0 ≤ (lo + hi) / 2 * ((lo + hi) / 2) ∧ (lo + hi) / 2 * ((lo + hi) / 2) ≤ 1000002000001 := by
    have := sq_le (a := (lo + hi) / 2) (b := 1000001) (by omega) (by omega)
    have := Int.mul_nonneg (a := (lo + hi) / 2) (b := (lo + hi) / 2) (by omega) (by omega)
    omega
  repeat' (first
    | refine rn_seq ?_
    | refine ks_n ?_
    | refine rn_cond_t rfl ?_
    | refine rn_cond_f rfl ?_
    | refine kb_n ?_
    | refine rn_block ?_
    | refine rn_skip ?_
    | refine rn_ret ?_
    | refine ks_r ?_
    | refine rn_exit ?_
    | refine ks_e ?_
    | refine kb_hit ?_
    | refine kb_miss rfl ?_
    | refine kb_r ?_
    | refine kl_e ?_
    | refine kl_r ?_
    | refine kr_n ?_
    | refine rnds_succ ?_
    | refine kr_e ?_
    | refine kr_r ?_
    | (refine rn_reg 0 ?_
       all_goals (refine rg_y (yv_assign (kI rfl)) rfl rfl ?_)
       all_goals (first | refine rg_nils [(0, _)] ⟨sI rfl, trivial⟩ ?_ | refine rg_nil ?_))
    | (refine rn_reg 1 ?_
       all_goals (refine rg_y (yv_assign (kI rfl)) rfl rfl ?_)
       all_goals (refine rg_y (yv_assign (kI rfl)) rfl rfl ?_)
       all_goals (first | refine rg_nils [(0, _), (3, _), (4, _)] ⟨sI rfl, sI rfl, sI rfl, trivial⟩ ?_ | refine rg_nil ?_))
    | (refine rn_reg 2 ?_
       all_goals (refine rg_y (yv_move (kI rfl)) rfl rfl ?_)
       all_goals (refine rg_y (yv_move (kI rfl)) rfl rfl ?_)
       all_goals (refine rg_y (yv_sub rfl rfl (by omega)) rfl rfl ?_)
       all_goals (first | refine rg_bt (yv_gtr rfl rfl) (by omega) rfl rfl ?_ | refine rg_bf (yv_gtr rfl rfl) (by omega) rfl rfl ?_ | refine rg_b (yv_gtr rfl rfl) rfl rfl (fun hc => ?_) (fun hc => ?_))
       all_goals (first | refine rg_nils [(0, _), (3, _), (4, _), (9, _)] ⟨sI rfl, sI rfl, sI rfl, sB rfl, trivial⟩ ?_ | refine rg_nil ?_))
    | (refine rn_reg 3 ?_
       all_goals (refine rg_y (yv_move (kI rfl)) rfl rfl ?_)
       all_goals (refine rg_y (yv_move (kI rfl)) rfl rfl ?_)
       all_goals (refine rg_y (yv_add rfl rfl (by omega)) rfl rfl ?_)
       all_goals (first | refine rg_y (yv_quo rfl rfl (by omega)) rfl rfl ?_ | refine rg_y (yv_tdiv rfl rfl (by omega) (by omega) (by omega)) rfl rfl ?_)
       all_goals (refine rg_y (yv_assign (kI rfl)) rfl rfl ?_)
       all_goals (first | refine rg_nils [(0, _), (3, _), (4, _), (5, _)] ⟨sI rfl, sI rfl, sI rfl, sI rfl, trivial⟩ ?_ | refine rg_nil ?_))
    | (refine rn_reg 4 ?_
       all_goals (refine rg_y (yv_move (kI rfl)) rfl rfl ?_)
       all_goals (refine rg_y (yv_move (kI rfl)) rfl rfl ?_)
       all_goals (refine rg_y (yv_mul rfl rfl (by omega)) rfl rfl ?_)
       all_goals (refine rg_y (yv_move (kI rfl)) rfl rfl ?_)
       all_goals (first | refine rg_bt (yv_leq rfl rfl) (by omega) rfl rfl ?_ | refine rg_bf (yv_leq rfl rfl) (by omega) rfl rfl ?_ | refine rg_b (yv_leq rfl rfl) rfl rfl (fun hc => ?_) (fun hc => ?_))
       all_goals (first | refine rg_nils [(0, _), (3, _), (4, _), (5, _), (18, _)] ⟨sI rfl, sI rfl, sI rfl, sI rfl, sB rfl, trivial⟩ ?_ | refine rg_nil ?_))
    | (refine rn_reg 5 ?_
       all_goals (refine rg_y (yv_move (kI rfl)) rfl rfl ?_)
       all_goals (refine rg_y (yv_assign (kI rfl)) rfl rfl ?_)
       all_goals (first | refine rg_nils [(0, _), (3, _), (4, _)] ⟨sI rfl, sI rfl, sI rfl, trivial⟩ ?_ | refine rg_nil ?_))
    | (refine rn_reg 6 ?_
       all_goals (refine rg_y (yv_move (kI rfl)) rfl rfl ?_)
       all_goals (refine rg_y (yv_assign (kI rfl)) rfl rfl ?_)
       all_goals (first | refine rg_nils [(0, _), (3, _), (4, _)] ⟨sI rfl, sI rfl, sI rfl, trivial⟩ ?_ | refine rg_nil ?_))
    | (refine rn_reg 7 ?_
       all_goals (refine rg_y (yv_move (kI rfl)) rfl rfl ?_)
       all_goals (refine rg_y (yv_assign (kI rfl)) rfl rfl ?_)
       all_goals (first | refine rg_nils [(2, _)] ⟨sI rfl, trivial⟩ ?_ | refine rg_nil ?_)))
  · exact kl_n ((lo + hi) / 2, hi) ⟨hs, by dsimp only; omega, by dsimp only; omega, by dsimp only; omega, by assumption, i4⟩ ⟨rfl, rfl, rfl, trivial⟩ (by dsimp only; omega)
  · exact kl_n (lo, (lo + hi) / 2) ⟨hs, by dsimp only; omega, by dsimp only; omega, by dsimp only; omega, i3, by dsimp only; omega⟩ ⟨rfl, rfl, rfl, trivial⟩ (by dsimp only; omega)
  · refine k_ret1 rfl (.tmp rfl) ⟨ri ?_, hs⟩
    have : hi = lo + 1 := by omega
    subst this
    exact isq_unique i0 i3 i4
end Go.Proofs.Ytbbcpffbdadnoaa
