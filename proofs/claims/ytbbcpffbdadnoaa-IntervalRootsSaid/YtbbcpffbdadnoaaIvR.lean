/-
  Contracts of the reference of layer 1.
-/
import Derived.Test.YtbbcpffbdadnoaaIvA
namespace Go.Proofs.Ytbbcpffbdadnoaa
set_option linter.unusedVariables false
set_option linter.unusedSimpArgs false
set_option maxHeartbeats 2000000
set_option maxRecDepth 10000
open Go.Hy Go.Hy.Iv

theorem RValid_g (a b : Int) (w : World) : Gives Try.prog 42 [ivv a b] w (.bool (decide (Ivd a b))) := by
  (try unfold Gives); refine calls_enter Try.func42 rfl Try.ntmps42 rfl rfl ?_; have hs := St.refl w
  repeat' (first
    | refine rn_seq ?_
    | refine ks_n ?_
    | refine rn_cond_t rfl ?_
    | refine rn_cond_f rfl ?_
    | refine kb_n ?_
    | refine rn_block ?_
    | refine rn_skip ?_
    | refine rn_ret ?_
    | refine ks_r ?_
    | refine rn_exit ?_
    | refine ks_e ?_
    | refine kb_hit ?_
    | refine kb_miss rfl ?_
    | refine kb_r ?_
    | refine kl_e ?_
    | refine kl_r ?_
    | refine kr_n ?_
    | refine rnds_succ ?_
    | refine kr_e ?_
    | refine kr_r ?_
    | (refine rn_reg 0 ?_
       all_goals ((refine rg_box hs (kA rfl) (l2 rfl) rfl rfl ?_; clear hs; intro g w hs))
       all_goals (refine rg_y (yv_assign (kB rfl)) rfl rfl ?_)
       all_goals (first | refine rg_nils [(1, _), (9, _), (10, _), (11, _), (14, _), (15, _), (16, _)] ⟨sP rfl, (by first | exact sE rfl | exact sP rfl), sI rfl, sB rfl, (by first | exact sE rfl | exact sP rfl), sI rfl, sB rfl, trivial⟩ ?_ | refine rg_nil ?_))
    | (refine rn_reg 1 ?_
       all_goals (refine rg_y (yv_fieldAddr rfl) rfl rfl ?_)
       all_goals (first | refine rg_y (yv_load rfl (ld1B (k1 (hs.blkL (i := 0) rfl)) (vI rfl))) rfl rfl ?_ | refine rg_y (yv_load rfl (ld1B (k1 (hs.blkL (i := 1) rfl)) (vI rfl))) rfl rfl ?_ | refine rg_y (yv_load rfl (ld1B (k1 (hs.blkL (i := 2) rfl)) (vI rfl))) rfl rfl ?_ | refine rg_y (yv_load rfl (ld1B (k1 (hs.blkL (i := 3) rfl)) (vI rfl))) rfl rfl ?_)
       all_goals (refine rg_y (yv_fieldAddr rfl) rfl rfl ?_)
       all_goals (first | refine rg_y (yv_load rfl (ld1B (k1 (hs.blkL (i := 0) rfl)) (vI rfl))) rfl rfl ?_ | refine rg_y (yv_load rfl (ld1B (k1 (hs.blkL (i := 1) rfl)) (vI rfl))) rfl rfl ?_ | refine rg_y (yv_load rfl (ld1B (k1 (hs.blkL (i := 2) rfl)) (vI rfl))) rfl rfl ?_ | refine rg_y (yv_load rfl (ld1B (k1 (hs.blkL (i := 3) rfl)) (vI rfl))) rfl rfl ?_)
       all_goals (first | refine rg_bt (yv_leq rfl rfl) (by omega) rfl rfl ?_ | refine rg_bf (yv_leq rfl rfl) (by omega) rfl rfl ?_ | refine rg_b (yv_leq rfl rfl) rfl rfl (fun hc => ?_) (fun hc => ?_))
       all_goals (refine rg_y (yv_move (kB rfl)) rfl rfl ?_)
       all_goals (first | refine rg_skip rfl rfl ?_ | refine rg_y (yv_fieldAddr rfl) rfl rfl ?_)
       all_goals (first | refine rg_skip rfl rfl ?_ | (first | refine rg_y (yv_load rfl (ld1B (k1 (hs.blkL (i := 0) rfl)) (vI rfl))) rfl rfl ?_ | refine rg_y (yv_load rfl (ld1B (k1 (hs.blkL (i := 1) rfl)) (vI rfl))) rfl rfl ?_ | refine rg_y (yv_load rfl (ld1B (k1 (hs.blkL (i := 2) rfl)) (vI rfl))) rfl rfl ?_ | refine rg_y (yv_load rfl (ld1B (k1 (hs.blkL (i := 3) rfl)) (vI rfl))) rfl rfl ?_))
       all_goals (first | refine rg_skip rfl rfl ?_ | (first | refine rg_bt (yv_geq rfl rfl) (by omega) rfl rfl ?_ | refine rg_bf (yv_geq rfl rfl) (by omega) rfl rfl ?_ | refine rg_b (yv_geq rfl rfl) rfl rfl (fun hc => ?_) (fun hc => ?_)))
       all_goals (first | refine rg_y (yv_pick_t rfl (kB rfl)) rfl rfl ?_ | refine rg_y (yv_pick_f rfl (kB rfl)) rfl rfl ?_)
       all_goals (refine rg_y (yv_move (kB rfl)) rfl rfl ?_)
       all_goals (first | refine rg_skip rfl rfl ?_ | refine rg_y (yv_fieldAddr rfl) rfl rfl ?_)
       all_goals (first | refine rg_skip rfl rfl ?_ | (first | refine rg_y (yv_load rfl (ld1B (k1 (hs.blkL (i := 0) rfl)) (vI rfl))) rfl rfl ?_ | refine rg_y (yv_load rfl (ld1B (k1 (hs.blkL (i := 1) rfl)) (vI rfl))) rfl rfl ?_ | refine rg_y (yv_load rfl (ld1B (k1 (hs.blkL (i := 2) rfl)) (vI rfl))) rfl rfl ?_ | refine rg_y (yv_load rfl (ld1B (k1 (hs.blkL (i := 3) rfl)) (vI rfl))) rfl rfl ?_))
       all_goals (first | refine rg_skip rfl rfl ?_ | (first | refine rg_bt (yv_leq rfl rfl) (by omega) rfl rfl ?_ | refine rg_bf (yv_leq rfl rfl) (by omega) rfl rfl ?_ | refine rg_b (yv_leq rfl rfl) rfl rfl (fun hc => ?_) (fun hc => ?_)))
       all_goals (first | refine rg_y (yv_pick_t rfl (kB rfl)) rfl rfl ?_ | refine rg_y (yv_pick_f rfl (kB rfl)) rfl rfl ?_)
       all_goals (refine rg_y (yv_assign (kB rfl)) rfl rfl ?_)
       all_goals (first | refine rg_nils [(2, _)] ⟨sB rfl, trivial⟩ ?_ | refine rg_nil ?_)))
  all_goals (refine k_ret1 rfl (.tmp rfl) ⟨?_, hs.drop⟩; first | exact bt (by omega) | exact bf (by omega))
theorem RContains_g (a b n : Int) (w : World) : Gives Try.prog 43 [ivv a b, .int .i64 n] w (.bool (decide (Ivd a b ∧ a ≤ n ∧ n ≤ b))) := by
  (try unfold Gives); refine calls_enter Try.func43 rfl Try.ntmps43 rfl rfl ?_; have hs := St.refl w
  repeat' (first
    | refine rn_seq ?_
    | refine ks_n ?_
    | refine rn_cond_t rfl ?_
    | refine rn_cond_f rfl ?_
    | refine kb_n ?_
    | refine rn_block ?_
    | refine rn_skip ?_
    | refine rn_ret ?_
    | refine ks_r ?_
    | refine rn_exit ?_
    | refine ks_e ?_
    | refine kb_hit ?_
    | refine kb_miss rfl ?_
    | refine kb_r ?_
    | refine kl_e ?_
    | refine kl_r ?_
    | refine kr_n ?_
    | refine rnds_succ ?_
    | refine kr_e ?_
    | refine kr_r ?_
    | (refine rn_reg 0 ?_
       all_goals ((refine rg_box hs (kA rfl) (l2 rfl) rfl rfl ?_; clear hs; intro g w hs))
       all_goals (refine rg_y (yv_assign (kB rfl)) rfl rfl ?_)
       all_goals (first | refine rg_nils [(1, _), (2, _), (8, _), (9, _), (10, _), (11, _), (14, _), (15, _), (16, _), (17, _)] ⟨sI rfl, sP rfl, (by first | exact sE rfl | exact sP rfl), sI rfl, sI rfl, sB rfl, sI rfl, (by first | exact sE rfl | exact sP rfl), sI rfl, sB rfl, trivial⟩ ?_ | refine rg_nil ?_))
    | (refine rn_reg 1 ?_
       all_goals (first | refine rg_y (yv_load rfl (ldBB (k1 (hs.blkL (i := 0) rfl)) rfl)) rfl rfl ?_ | refine rg_y (yv_load rfl (ldBB (k1 (hs.blkL (i := 1) rfl)) rfl)) rfl rfl ?_ | refine rg_y (yv_load rfl (ldBB (k1 (hs.blkL (i := 2) rfl)) rfl)) rfl rfl ?_ | refine rg_y (yv_load rfl (ldBB (k1 (hs.blkL (i := 3) rfl)) rfl)) rfl rfl ?_ | refine rg_y (yv_load rfl (ldPB (k1 (hs.blkL (i := 0) rfl)) (l2 rfl) rfl)) rfl rfl ?_ | refine rg_y (yv_load rfl (ldPB (k1 (hs.blkL (i := 1) rfl)) (l2 rfl) rfl)) rfl rfl ?_ | refine rg_y (yv_load rfl (ldPB (k1 (hs.blkL (i := 2) rfl)) (l2 rfl) rfl)) rfl rfl ?_ | refine rg_y (yv_load rfl (ldPB (k1 (hs.blkL (i := 3) rfl)) (l2 rfl) rfl)) rfl rfl ?_)
       all_goals (first | (refine rg_callbt (RValid_g _ _ _) hs rfl (by omega) rfl rfl ?_; clear hs; intro w hs) | (refine rg_callbf (RValid_g _ _ _) hs rfl (by omega) rfl rfl ?_; clear hs; intro w hs) | (refine rg_callb (RValid_g _ _ _) hs rfl rfl rfl (fun hc => ?_) (fun hc => ?_) <;> (clear hs; intro w hs)))
       all_goals (refine rg_y (yv_move (kB rfl)) rfl rfl ?_)
       all_goals (first | refine rg_skip rfl rfl ?_ | refine rg_y (yv_fieldAddr rfl) rfl rfl ?_)
       all_goals (first | refine rg_skip rfl rfl ?_ | (first | refine rg_y (yv_load rfl (ld1B (k1 (hs.blkL (i := 0) rfl)) (vI rfl))) rfl rfl ?_ | refine rg_y (yv_load rfl (ld1B (k1 (hs.blkL (i := 1) rfl)) (vI rfl))) rfl rfl ?_ | refine rg_y (yv_load rfl (ld1B (k1 (hs.blkL (i := 2) rfl)) (vI rfl))) rfl rfl ?_ | refine rg_y (yv_load rfl (ld1B (k1 (hs.blkL (i := 3) rfl)) (vI rfl))) rfl rfl ?_))
       all_goals (first | refine rg_skip rfl rfl ?_ | refine rg_y (yv_move (kI rfl)) rfl rfl ?_)
       all_goals (first | refine rg_skip rfl rfl ?_ | (first | refine rg_bt (yv_leq rfl rfl) (by omega) rfl rfl ?_ | refine rg_bf (yv_leq rfl rfl) (by omega) rfl rfl ?_ | refine rg_b (yv_leq rfl rfl) rfl rfl (fun hc => ?_) (fun hc => ?_)))
       all_goals (first | refine rg_y (yv_pick_t rfl (kB rfl)) rfl rfl ?_ | refine rg_y (yv_pick_f rfl (kB rfl)) rfl rfl ?_)
       all_goals (refine rg_y (yv_move (kB rfl)) rfl rfl ?_)
       all_goals (first | refine rg_skip rfl rfl ?_ | refine rg_y (yv_move (kI rfl)) rfl rfl ?_)
       all_goals (first | refine rg_skip rfl rfl ?_ | refine rg_y (yv_fieldAddr rfl) rfl rfl ?_)
       all_goals (first | refine rg_skip rfl rfl ?_ | (first | refine rg_y (yv_load rfl (ld1B (k1 (hs.blkL (i := 0) rfl)) (vI rfl))) rfl rfl ?_ | refine rg_y (yv_load rfl (ld1B (k1 (hs.blkL (i := 1) rfl)) (vI rfl))) rfl rfl ?_ | refine rg_y (yv_load rfl (ld1B (k1 (hs.blkL (i := 2) rfl)) (vI rfl))) rfl rfl ?_ | refine rg_y (yv_load rfl (ld1B (k1 (hs.blkL (i := 3) rfl)) (vI rfl))) rfl rfl ?_))
       all_goals (first | refine rg_skip rfl rfl ?_ | (first | refine rg_bt (yv_leq rfl rfl) (by omega) rfl rfl ?_ | refine rg_bf (yv_leq rfl rfl) (by omega) rfl rfl ?_ | refine rg_b (yv_leq rfl rfl) rfl rfl (fun hc => ?_) (fun hc => ?_)))
       all_goals (first | refine rg_y (yv_pick_t rfl (kB rfl)) rfl rfl ?_ | refine rg_y (yv_pick_f rfl (kB rfl)) rfl rfl ?_)
       all_goals (refine rg_y (yv_assign (kB rfl)) rfl rfl ?_)
       all_goals (first | refine rg_nils [(4, _)] ⟨sB rfl, trivial⟩ ?_ | refine rg_nil ?_)))
  all_goals (refine k_ret1 rfl (.tmp rfl) ⟨?_, hs.drop⟩; first | exact bt (by omega) | exact bf (by omega))
theorem RWithin_g (a b c d : Int) (w : World) : Gives Try.prog 44 [ivv a b, ivv c d] w (.bool (decide (Ivd a b ∧ Ivd c d ∧ c ≤ a ∧ b ≤ d))) := by
  (try unfold Gives); refine calls_enter Try.func44 rfl Try.ntmps44 rfl rfl ?_; have hs := St.refl w
  repeat' (first
    | refine rn_seq ?_
    | refine ks_n ?_
    | refine rn_cond_t rfl ?_
    | refine rn_cond_f rfl ?_
    | refine kb_n ?_
    | refine rn_block ?_
    | refine rn_skip ?_
    | refine rn_ret ?_
    | refine ks_r ?_
    | refine rn_exit ?_
    | refine ks_e ?_
    | refine kb_hit ?_
    | refine kb_miss rfl ?_
    | refine kb_r ?_
    | refine kl_e ?_
    | refine kl_r ?_
    | refine kr_n ?_
    | refine rnds_succ ?_
    | refine kr_e ?_
    | refine kr_r ?_
    | (refine rn_reg 0 ?_
       all_goals ((refine rg_box hs (kA rfl) (l2 rfl) rfl rfl ?_; clear hs; intro g w hs))
       all_goals ((refine rg_box hs (kA rfl) (l2 rfl) rfl rfl ?_; clear hs; intro g w hs))
       all_goals (refine rg_y (yv_assign (kB rfl)) rfl rfl ?_)
       all_goals (first | refine rg_nils [(2, _), (3, _), (8, _), (9, _), (12, _), (13, _), (14, _), (15, _), (16, _), (19, _), (20, _), (21, _), (22, _), (23, _)] ⟨sP rfl, sP rfl, sA rfl, sB rfl, (by first | exact sE rfl | exact sP rfl), sI rfl, (by first | exact sE rfl | exact sP rfl), sI rfl, sB rfl, (by first | exact sE rfl | exact sP rfl), sI rfl, (by first | exact sE rfl | exact sP rfl), sI rfl, sB rfl, trivial⟩ ?_ | refine rg_nil ?_))
    | (refine rn_reg 1 ?_
       all_goals (first | refine rg_y (yv_load rfl (ldBB (k1 (hs.blkL (i := 0) rfl)) rfl)) rfl rfl ?_ | refine rg_y (yv_load rfl (ldBB (k1 (hs.blkL (i := 1) rfl)) rfl)) rfl rfl ?_ | refine rg_y (yv_load rfl (ldBB (k1 (hs.blkL (i := 2) rfl)) rfl)) rfl rfl ?_ | refine rg_y (yv_load rfl (ldBB (k1 (hs.blkL (i := 3) rfl)) rfl)) rfl rfl ?_ | refine rg_y (yv_load rfl (ldPB (k1 (hs.blkL (i := 0) rfl)) (l2 rfl) rfl)) rfl rfl ?_ | refine rg_y (yv_load rfl (ldPB (k1 (hs.blkL (i := 1) rfl)) (l2 rfl) rfl)) rfl rfl ?_ | refine rg_y (yv_load rfl (ldPB (k1 (hs.blkL (i := 2) rfl)) (l2 rfl) rfl)) rfl rfl ?_ | refine rg_y (yv_load rfl (ldPB (k1 (hs.blkL (i := 3) rfl)) (l2 rfl) rfl)) rfl rfl ?_)
       all_goals (first | (refine rg_callbt (RValid_g _ _ _) hs rfl (by omega) rfl rfl ?_; clear hs; intro w hs) | (refine rg_callbf (RValid_g _ _ _) hs rfl (by omega) rfl rfl ?_; clear hs; intro w hs) | (refine rg_callb (RValid_g _ _ _) hs rfl rfl rfl (fun hc => ?_) (fun hc => ?_) <;> (clear hs; intro w hs)))
       all_goals (refine rg_y (yv_move (kB rfl)) rfl rfl ?_)
       all_goals (first | refine rg_skip rfl rfl ?_ | (first | refine rg_y (yv_load rfl (ldBB (k1 (hs.blkL (i := 0) rfl)) rfl)) rfl rfl ?_ | refine rg_y (yv_load rfl (ldBB (k1 (hs.blkL (i := 1) rfl)) rfl)) rfl rfl ?_ | refine rg_y (yv_load rfl (ldBB (k1 (hs.blkL (i := 2) rfl)) rfl)) rfl rfl ?_ | refine rg_y (yv_load rfl (ldBB (k1 (hs.blkL (i := 3) rfl)) rfl)) rfl rfl ?_ | refine rg_y (yv_load rfl (ldPB (k1 (hs.blkL (i := 0) rfl)) (l2 rfl) rfl)) rfl rfl ?_ | refine rg_y (yv_load rfl (ldPB (k1 (hs.blkL (i := 1) rfl)) (l2 rfl) rfl)) rfl rfl ?_ | refine rg_y (yv_load rfl (ldPB (k1 (hs.blkL (i := 2) rfl)) (l2 rfl) rfl)) rfl rfl ?_ | refine rg_y (yv_load rfl (ldPB (k1 (hs.blkL (i := 3) rfl)) (l2 rfl) rfl)) rfl rfl ?_))
       all_goals (first | refine rg_skip rfl rfl ?_ | (first | (refine rg_callbt (RValid_g _ _ _) hs rfl (by omega) rfl rfl ?_; clear hs; intro w hs) | (refine rg_callbf (RValid_g _ _ _) hs rfl (by omega) rfl rfl ?_; clear hs; intro w hs) | (refine rg_callb (RValid_g _ _ _) hs rfl rfl rfl (fun hc => ?_) (fun hc => ?_) <;> (clear hs; intro w hs))))
       all_goals (first | refine rg_y (yv_pick_t rfl (kB rfl)) rfl rfl ?_ | refine rg_y (yv_pick_f rfl (kB rfl)) rfl rfl ?_)
       all_goals (refine rg_y (yv_move (kB rfl)) rfl rfl ?_)
       all_goals (first | refine rg_skip rfl rfl ?_ | refine rg_y (yv_fieldAddr rfl) rfl rfl ?_)
       all_goals (first | refine rg_skip rfl rfl ?_ | (first | refine rg_y (yv_load rfl (ld1B (k1 (hs.blkL (i := 0) rfl)) (vI rfl))) rfl rfl ?_ | refine rg_y (yv_load rfl (ld1B (k1 (hs.blkL (i := 1) rfl)) (vI rfl))) rfl rfl ?_ | refine rg_y (yv_load rfl (ld1B (k1 (hs.blkL (i := 2) rfl)) (vI rfl))) rfl rfl ?_ | refine rg_y (yv_load rfl (ld1B (k1 (hs.blkL (i := 3) rfl)) (vI rfl))) rfl rfl ?_))
       all_goals (first | refine rg_skip rfl rfl ?_ | refine rg_y (yv_fieldAddr rfl) rfl rfl ?_)
       all_goals (first | refine rg_skip rfl rfl ?_ | (first | refine rg_y (yv_load rfl (ld1B (k1 (hs.blkL (i := 0) rfl)) (vI rfl))) rfl rfl ?_ | refine rg_y (yv_load rfl (ld1B (k1 (hs.blkL (i := 1) rfl)) (vI rfl))) rfl rfl ?_ | refine rg_y (yv_load rfl (ld1B (k1 (hs.blkL (i := 2) rfl)) (vI rfl))) rfl rfl ?_ | refine rg_y (yv_load rfl (ld1B (k1 (hs.blkL (i := 3) rfl)) (vI rfl))) rfl rfl ?_))
       all_goals (first | refine rg_skip rfl rfl ?_ | (first | refine rg_bt (yv_leq rfl rfl) (by omega) rfl rfl ?_ | refine rg_bf (yv_leq rfl rfl) (by omega) rfl rfl ?_ | refine rg_b (yv_leq rfl rfl) rfl rfl (fun hc => ?_) (fun hc => ?_)))
       all_goals (first | refine rg_y (yv_pick_t rfl (kB rfl)) rfl rfl ?_ | refine rg_y (yv_pick_f rfl (kB rfl)) rfl rfl ?_)
       all_goals (refine rg_y (yv_move (kB rfl)) rfl rfl ?_)
       all_goals (first | refine rg_skip rfl rfl ?_ | refine rg_y (yv_fieldAddr rfl) rfl rfl ?_)
       all_goals (first | refine rg_skip rfl rfl ?_ | (first | refine rg_y (yv_load rfl (ld1B (k1 (hs.blkL (i := 0) rfl)) (vI rfl))) rfl rfl ?_ | refine rg_y (yv_load rfl (ld1B (k1 (hs.blkL (i := 1) rfl)) (vI rfl))) rfl rfl ?_ | refine rg_y (yv_load rfl (ld1B (k1 (hs.blkL (i := 2) rfl)) (vI rfl))) rfl rfl ?_ | refine rg_y (yv_load rfl (ld1B (k1 (hs.blkL (i := 3) rfl)) (vI rfl))) rfl rfl ?_))
       all_goals (first | refine rg_skip rfl rfl ?_ | refine rg_y (yv_fieldAddr rfl) rfl rfl ?_)
       all_goals (first | refine rg_skip rfl rfl ?_ | (first | refine rg_y (yv_load rfl (ld1B (k1 (hs.blkL (i := 0) rfl)) (vI rfl))) rfl rfl ?_ | refine rg_y (yv_load rfl (ld1B (k1 (hs.blkL (i := 1) rfl)) (vI rfl))) rfl rfl ?_ | refine rg_y (yv_load rfl (ld1B (k1 (hs.blkL (i := 2) rfl)) (vI rfl))) rfl rfl ?_ | refine rg_y (yv_load rfl (ld1B (k1 (hs.blkL (i := 3) rfl)) (vI rfl))) rfl rfl ?_))
       all_goals (first | refine rg_skip rfl rfl ?_ | (first | refine rg_bt (yv_leq rfl rfl) (by omega) rfl rfl ?_ | refine rg_bf (yv_leq rfl rfl) (by omega) rfl rfl ?_ | refine rg_b (yv_leq rfl rfl) rfl rfl (fun hc => ?_) (fun hc => ?_)))
       all_goals (first | refine rg_y (yv_pick_t rfl (kB rfl)) rfl rfl ?_ | refine rg_y (yv_pick_f rfl (kB rfl)) rfl rfl ?_)
       all_goals (refine rg_y (yv_assign (kB rfl)) rfl rfl ?_)
       all_goals (first | refine rg_nils [(4, _)] ⟨sB rfl, trivial⟩ ?_ | refine rg_nil ?_)))
  all_goals (refine k_ret1 rfl (.tmp rfl) ⟨?_, hs.drop⟩; first | exact bt (by omega) | exact bf (by omega))
theorem Rchecked_g (a b : Int) (w : World) (h : a ≤ b) : Gives Try.prog 52 [.int .i64 a, .int .i64 b] w (tv3 (resM a b)) := by
  (try unfold Gives); refine calls_enter Try.func52 rfl Try.ntmps52 rfl rfl ?_; have hs := St.refl w
  repeat' (first
    | refine rn_seq ?_
    | refine ks_n ?_
    | refine rn_cond_t rfl ?_
    | refine rn_cond_f rfl ?_
    | refine kb_n ?_
    | refine rn_block ?_
    | refine rn_skip ?_
    | refine rn_ret ?_
    | refine ks_r ?_
    | refine rn_exit ?_
    | refine ks_e ?_
    | refine kb_hit ?_
    | refine kb_miss rfl ?_
    | refine kb_r ?_
    | refine kl_e ?_
    | refine kl_r ?_
    | refine kr_n ?_
    | refine rnds_succ ?_
    | refine kr_e ?_
    | refine kr_r ?_
    | (refine rn_reg 0 ?_
       all_goals ((refine rg_alloc hs (l2 rfl) rfl rfl ?_; clear hs; intro g w hs))
       all_goals (refine rg_y (yv_assign (kI rfl)) rfl rfl ?_)
       all_goals (first | refine rg_nils [(0, _), (1, _), (4, _), (9, _), (10, _)] ⟨sI rfl, sI rfl, sP rfl, sI rfl, sB rfl, trivial⟩ ?_ | refine rg_nil ?_))
    | (refine rn_reg 1 ?_
       all_goals (refine rg_y (yv_move (kI rfl)) rfl rfl ?_)
       all_goals (first | refine rg_bt (yv_lss rfl rfl) (by omega) rfl rfl ?_ | refine rg_bf (yv_lss rfl rfl) (by omega) rfl rfl ?_ | refine rg_b (yv_lss rfl rfl) rfl rfl (fun hc => ?_) (fun hc => ?_))
       all_goals (refine rg_y (yv_move (kB rfl)) rfl rfl ?_)
       all_goals (first | refine rg_skip rfl rfl ?_ | refine rg_y (yv_move (kI rfl)) rfl rfl ?_)
       all_goals (first | refine rg_skip rfl rfl ?_ | (first | refine rg_bt (yv_gtr rfl rfl) (by omega) rfl rfl ?_ | refine rg_bf (yv_gtr rfl rfl) (by omega) rfl rfl ?_ | refine rg_b (yv_gtr rfl rfl) rfl rfl (fun hc => ?_) (fun hc => ?_)))
       all_goals (first | refine rg_y (yv_pick_t rfl (kB rfl)) rfl rfl ?_ | refine rg_y (yv_pick_f rfl (kB rfl)) rfl rfl ?_)
       all_goals (first | refine rg_nils [(0, _), (1, _), (4, _), (11, _)] ⟨sI rfl, sI rfl, sP rfl, sB rfl, trivial⟩ ?_ | refine rg_nil ?_))
    | (refine rn_reg 2 ?_
       all_goals (refine rg_y (yv_build rfl (o2 rfl)) rfl rfl ?_)
       all_goals (first | (refine rg_store 0 hs rfl rfl (kA rfl) (l2 rfl) rfl rfl rfl rfl ?_; clear hs; intro w hs; simp only [putCells, List.take_succ_cons, List.take_zero, List.take_nil, List.drop_succ_cons, List.drop_zero, List.drop_nil, List.cons_append, List.nil_append, List.append_nil, List.length_cons, List.length_nil, Nat.reduceAdd, Nat.add_zero, Nat.zero_add, List.set_cons_zero, List.set_cons_succ] at hs) | (refine rg_store 1 hs rfl rfl (kA rfl) (l2 rfl) rfl rfl rfl rfl ?_; clear hs; intro w hs; simp only [putCells, List.take_succ_cons, List.take_zero, List.take_nil, List.drop_succ_cons, List.drop_zero, List.drop_nil, List.cons_append, List.nil_append, List.append_nil, List.length_cons, List.length_nil, Nat.reduceAdd, Nat.add_zero, Nat.zero_add, List.set_cons_zero, List.set_cons_succ] at hs) | (refine rg_store 2 hs rfl rfl (kA rfl) (l2 rfl) rfl rfl rfl rfl ?_; clear hs; intro w hs; simp only [putCells, List.take_succ_cons, List.take_zero, List.take_nil, List.drop_succ_cons, List.drop_zero, List.drop_nil, List.cons_append, List.nil_append, List.append_nil, List.length_cons, List.length_nil, Nat.reduceAdd, Nat.add_zero, Nat.zero_add, List.set_cons_zero, List.set_cons_succ] at hs) | (refine rg_store 3 hs rfl rfl (kA rfl) (l2 rfl) rfl rfl rfl rfl ?_; clear hs; intro w hs; simp only [putCells, List.take_succ_cons, List.take_zero, List.take_nil, List.drop_succ_cons, List.drop_zero, List.drop_nil, List.cons_append, List.nil_append, List.append_nil, List.length_cons, List.length_nil, Nat.reduceAdd, Nat.add_zero, Nat.zero_add, List.set_cons_zero, List.set_cons_succ] at hs))
       all_goals (refine rg_y (yv_assign (kI rfl)) rfl rfl ?_)
       all_goals (first | refine rg_nils [(4, _), (5, _)] ⟨sP rfl, sI rfl, trivial⟩ ?_ | refine rg_nil ?_))
    | (refine rn_reg 3 ?_
       all_goals (refine rg_y (yv_move (kI rfl)) rfl rfl ?_)
       all_goals (refine rg_y (yv_move (kI rfl)) rfl rfl ?_)
       all_goals (refine rg_y (yv_build rfl (o2 rfl)) rfl rfl ?_)
       all_goals (first | (refine rg_store 0 hs rfl rfl (kA rfl) (l2 rfl) rfl rfl rfl rfl ?_; clear hs; intro w hs; simp only [putCells, List.take_succ_cons, List.take_zero, List.take_nil, List.drop_succ_cons, List.drop_zero, List.drop_nil, List.cons_append, List.nil_append, List.append_nil, List.length_cons, List.length_nil, Nat.reduceAdd, Nat.add_zero, Nat.zero_add, List.set_cons_zero, List.set_cons_succ] at hs) | (refine rg_store 1 hs rfl rfl (kA rfl) (l2 rfl) rfl rfl rfl rfl ?_; clear hs; intro w hs; simp only [putCells, List.take_succ_cons, List.take_zero, List.take_nil, List.drop_succ_cons, List.drop_zero, List.drop_nil, List.cons_append, List.nil_append, List.append_nil, List.length_cons, List.length_nil, Nat.reduceAdd, Nat.add_zero, Nat.zero_add, List.set_cons_zero, List.set_cons_succ] at hs) | (refine rg_store 2 hs rfl rfl (kA rfl) (l2 rfl) rfl rfl rfl rfl ?_; clear hs; intro w hs; simp only [putCells, List.take_succ_cons, List.take_zero, List.take_nil, List.drop_succ_cons, List.drop_zero, List.drop_nil, List.cons_append, List.nil_append, List.append_nil, List.length_cons, List.length_nil, Nat.reduceAdd, Nat.add_zero, Nat.zero_add, List.set_cons_zero, List.set_cons_succ] at hs) | (refine rg_store 3 hs rfl rfl (kA rfl) (l2 rfl) rfl rfl rfl rfl ?_; clear hs; intro w hs; simp only [putCells, List.take_succ_cons, List.take_zero, List.take_nil, List.drop_succ_cons, List.drop_zero, List.drop_nil, List.cons_append, List.nil_append, List.append_nil, List.length_cons, List.length_nil, Nat.reduceAdd, Nat.add_zero, Nat.zero_add, List.set_cons_zero, List.set_cons_succ] at hs))
       all_goals (refine rg_y (yv_assign (kI rfl)) rfl rfl ?_)
       all_goals (first | refine rg_nils [(4, _), (5, _)] ⟨sP rfl, sI rfl, trivial⟩ ?_ | refine rg_nil ?_)))
  all_goals ((first | refine k_ret2 rfl (.cell rfl (ldBB (hs.blkL (i := 0) rfl) rfl)) (.tmp rfl) ⟨r3 ?_, hs.drop⟩ | refine k_ret2 rfl (.cell rfl (ldBB (hs.blkL (i := 1) rfl) rfl)) (.tmp rfl) ⟨r3 ?_, hs.drop⟩ | refine k_ret2 rfl (.cell rfl (ldBB (hs.blkL (i := 2) rfl) rfl)) (.tmp rfl) ⟨r3 ?_, hs.drop⟩ | refine k_ret2 rfl (.cell rfl (ldBB (hs.blkL (i := 3) rfl) rfl)) (.tmp rfl) ⟨r3 ?_, hs.drop⟩ | refine k_ret2 rfl (.cell rfl (ldBB (hs.blkL (i := 4) rfl) rfl)) (.tmp rfl) ⟨r3 ?_, hs.drop⟩ | refine k_ret2 rfl (.cell rfl (ldBB (hs.blkL (i := 5) rfl) rfl)) (.tmp rfl) ⟨r3 ?_, hs.drop⟩ | refine k_ret2 rfl (.cell rfl (ldBB (hs.blkL (i := 6) rfl) rfl)) (.tmp rfl) ⟨r3 ?_, hs.drop⟩ | refine k_ret2 rfl (.cell rfl (ldBB (hs.blkL (i := 7) rfl) rfl)) (.tmp rfl) ⟨r3 ?_, hs.drop⟩); unfold resM; first | rw [if_pos (by omega)] | rw [if_neg (by omega)])
theorem RAdd_g (a b c d : Int) (w : World) : Gives Try.prog 41 [ivv a b, ivv c d] w (tv3 (addM a b c d)) := by
  (try unfold Gives); refine calls_enter Try.func41 rfl Try.ntmps41 rfl rfl ?_; have hs := St.refl w
  repeat' (first
    | refine rn_seq ?_
    | refine ks_n ?_
    | refine rn_cond_t rfl ?_
    | refine rn_cond_f rfl ?_
    | refine kb_n ?_
    | refine rn_block ?_
    | refine rn_skip ?_
    | refine rn_ret ?_
    | refine ks_r ?_
    | refine rn_exit ?_
    | refine ks_e ?_
    | refine kb_hit ?_
    | refine kb_miss rfl ?_
    | refine kb_r ?_
    | refine kl_e ?_
    | refine kl_r ?_
    | refine kr_n ?_
    | refine rnds_succ ?_
    | refine kr_e ?_
    | refine kr_r ?_
    | (refine rn_reg 0 ?_
       all_goals ((refine rg_box hs (kA rfl) (l2 rfl) rfl rfl ?_; clear hs; intro g w hs))
       all_goals ((refine rg_box hs (kA rfl) (l2 rfl) rfl rfl ?_; clear hs; intro g w hs))
       all_goals ((refine rg_alloc hs (l2 rfl) rfl rfl ?_; clear hs; intro g w hs))
       all_goals (refine rg_y (yv_assign (kI rfl)) rfl rfl ?_)
       all_goals (first | refine rg_nils [(2, _), (3, _), (4, _), (10, _), (11, _), (12, _)] ⟨sP rfl, sP rfl, sP rfl, sA rfl, sB rfl, sB rfl, trivial⟩ ?_ | refine rg_nil ?_))
    | (refine rn_reg 1 ?_
       all_goals (first | refine rg_y (yv_load rfl (ldBB (k1 (hs.blkL (i := 0) rfl)) rfl)) rfl rfl ?_ | refine rg_y (yv_load rfl (ldBB (k1 (hs.blkL (i := 1) rfl)) rfl)) rfl rfl ?_ | refine rg_y (yv_load rfl (ldBB (k1 (hs.blkL (i := 2) rfl)) rfl)) rfl rfl ?_ | refine rg_y (yv_load rfl (ldBB (k1 (hs.blkL (i := 3) rfl)) rfl)) rfl rfl ?_ | refine rg_y (yv_load rfl (ldPB (k1 (hs.blkL (i := 0) rfl)) (l2 rfl) rfl)) rfl rfl ?_ | refine rg_y (yv_load rfl (ldPB (k1 (hs.blkL (i := 1) rfl)) (l2 rfl) rfl)) rfl rfl ?_ | refine rg_y (yv_load rfl (ldPB (k1 (hs.blkL (i := 2) rfl)) (l2 rfl) rfl)) rfl rfl ?_ | refine rg_y (yv_load rfl (ldPB (k1 (hs.blkL (i := 3) rfl)) (l2 rfl) rfl)) rfl rfl ?_)
       all_goals (first | (refine rg_callbt (RValid_g _ _ _) hs rfl (by omega) rfl rfl ?_; clear hs; intro w hs) | (refine rg_callbf (RValid_g _ _ _) hs rfl (by omega) rfl rfl ?_; clear hs; intro w hs) | (refine rg_callb (RValid_g _ _ _) hs rfl rfl rfl (fun hc => ?_) (fun hc => ?_) <;> (clear hs; intro w hs)))
       all_goals (refine rg_y (yv_not rfl) rfl rfl ?_)
       all_goals (refine rg_y (yv_move (kB rfl)) rfl rfl ?_)
       all_goals (first | refine rg_skip rfl rfl ?_ | (first | refine rg_y (yv_load rfl (ldBB (k1 (hs.blkL (i := 0) rfl)) rfl)) rfl rfl ?_ | refine rg_y (yv_load rfl (ldBB (k1 (hs.blkL (i := 1) rfl)) rfl)) rfl rfl ?_ | refine rg_y (yv_load rfl (ldBB (k1 (hs.blkL (i := 2) rfl)) rfl)) rfl rfl ?_ | refine rg_y (yv_load rfl (ldBB (k1 (hs.blkL (i := 3) rfl)) rfl)) rfl rfl ?_ | refine rg_y (yv_load rfl (ldPB (k1 (hs.blkL (i := 0) rfl)) (l2 rfl) rfl)) rfl rfl ?_ | refine rg_y (yv_load rfl (ldPB (k1 (hs.blkL (i := 1) rfl)) (l2 rfl) rfl)) rfl rfl ?_ | refine rg_y (yv_load rfl (ldPB (k1 (hs.blkL (i := 2) rfl)) (l2 rfl) rfl)) rfl rfl ?_ | refine rg_y (yv_load rfl (ldPB (k1 (hs.blkL (i := 3) rfl)) (l2 rfl) rfl)) rfl rfl ?_))
       all_goals (first | refine rg_skip rfl rfl ?_ | (first | (refine rg_callbt (RValid_g _ _ _) hs rfl (by omega) rfl rfl ?_; clear hs; intro w hs) | (refine rg_callbf (RValid_g _ _ _) hs rfl (by omega) rfl rfl ?_; clear hs; intro w hs) | (refine rg_callb (RValid_g _ _ _) hs rfl rfl rfl (fun hc => ?_) (fun hc => ?_) <;> (clear hs; intro w hs))))
       all_goals (first | refine rg_skip rfl rfl ?_ | refine rg_y (yv_not rfl) rfl rfl ?_)
       all_goals (first | refine rg_y (yv_pick_t rfl (kB rfl)) rfl rfl ?_ | refine rg_y (yv_pick_f rfl (kB rfl)) rfl rfl ?_)
       all_goals (first | refine rg_nils [(2, _), (3, _), (4, _), (13, _)] ⟨sP rfl, sP rfl, sP rfl, sB rfl, trivial⟩ ?_ | refine rg_nil ?_))
    | (refine rn_reg 2 ?_
       all_goals (refine rg_y (yv_build rfl (o2 rfl)) rfl rfl ?_)
       all_goals (first | (refine rg_store 0 hs rfl rfl (kA rfl) (l2 rfl) rfl rfl rfl rfl ?_; clear hs; intro w hs; simp only [putCells, List.take_succ_cons, List.take_zero, List.take_nil, List.drop_succ_cons, List.drop_zero, List.drop_nil, List.cons_append, List.nil_append, List.append_nil, List.length_cons, List.length_nil, Nat.reduceAdd, Nat.add_zero, Nat.zero_add, List.set_cons_zero, List.set_cons_succ] at hs) | (refine rg_store 1 hs rfl rfl (kA rfl) (l2 rfl) rfl rfl rfl rfl ?_; clear hs; intro w hs; simp only [putCells, List.take_succ_cons, List.take_zero, List.take_nil, List.drop_succ_cons, List.drop_zero, List.drop_nil, List.cons_append, List.nil_append, List.append_nil, List.length_cons, List.length_nil, Nat.reduceAdd, Nat.add_zero, Nat.zero_add, List.set_cons_zero, List.set_cons_succ] at hs) | (refine rg_store 2 hs rfl rfl (kA rfl) (l2 rfl) rfl rfl rfl rfl ?_; clear hs; intro w hs; simp only [putCells, List.take_succ_cons, List.take_zero, List.take_nil, List.drop_succ_cons, List.drop_zero, List.drop_nil, List.cons_append, List.nil_append, List.append_nil, List.length_cons, List.length_nil, Nat.reduceAdd, Nat.add_zero, Nat.zero_add, List.set_cons_zero, List.set_cons_succ] at hs) | (refine rg_store 3 hs rfl rfl (kA rfl) (l2 rfl) rfl rfl rfl rfl ?_; clear hs; intro w hs; simp only [putCells, List.take_succ_cons, List.take_zero, List.take_nil, List.drop_succ_cons, List.drop_zero, List.drop_nil, List.cons_append, List.nil_append, List.append_nil, List.length_cons, List.length_nil, Nat.reduceAdd, Nat.add_zero, Nat.zero_add, List.set_cons_zero, List.set_cons_succ] at hs))
       all_goals (refine rg_y (yv_assign (kI rfl)) rfl rfl ?_)
       all_goals (first | refine rg_nils [(4, _), (5, _)] ⟨sP rfl, sI rfl, trivial⟩ ?_ | refine rg_nil ?_))
    | (refine rn_reg 3 ?_
       all_goals (refine rg_y (yv_fieldAddr rfl) rfl rfl ?_)
       all_goals (first | refine rg_y (yv_load rfl (ld1B (k1 (hs.blkL (i := 0) rfl)) (vI rfl))) rfl rfl ?_ | refine rg_y (yv_load rfl (ld1B (k1 (hs.blkL (i := 1) rfl)) (vI rfl))) rfl rfl ?_ | refine rg_y (yv_load rfl (ld1B (k1 (hs.blkL (i := 2) rfl)) (vI rfl))) rfl rfl ?_ | refine rg_y (yv_load rfl (ld1B (k1 (hs.blkL (i := 3) rfl)) (vI rfl))) rfl rfl ?_)
       all_goals (refine rg_y (yv_fieldAddr rfl) rfl rfl ?_)
       all_goals (first | refine rg_y (yv_load rfl (ld1B (k1 (hs.blkL (i := 0) rfl)) (vI rfl))) rfl rfl ?_ | refine rg_y (yv_load rfl (ld1B (k1 (hs.blkL (i := 1) rfl)) (vI rfl))) rfl rfl ?_ | refine rg_y (yv_load rfl (ld1B (k1 (hs.blkL (i := 2) rfl)) (vI rfl))) rfl rfl ?_ | refine rg_y (yv_load rfl (ld1B (k1 (hs.blkL (i := 3) rfl)) (vI rfl))) rfl rfl ?_)
       all_goals (refine rg_y (yv_add rfl rfl (by omega)) rfl rfl ?_)
       all_goals (refine rg_y (yv_fieldAddr rfl) rfl rfl ?_)
       all_goals (first | refine rg_y (yv_load rfl (ld1B (k1 (hs.blkL (i := 0) rfl)) (vI rfl))) rfl rfl ?_ | refine rg_y (yv_load rfl (ld1B (k1 (hs.blkL (i := 1) rfl)) (vI rfl))) rfl rfl ?_ | refine rg_y (yv_load rfl (ld1B (k1 (hs.blkL (i := 2) rfl)) (vI rfl))) rfl rfl ?_ | refine rg_y (yv_load rfl (ld1B (k1 (hs.blkL (i := 3) rfl)) (vI rfl))) rfl rfl ?_)
       all_goals (refine rg_y (yv_fieldAddr rfl) rfl rfl ?_)
       all_goals (first | refine rg_y (yv_load rfl (ld1B (k1 (hs.blkL (i := 0) rfl)) (vI rfl))) rfl rfl ?_ | refine rg_y (yv_load rfl (ld1B (k1 (hs.blkL (i := 1) rfl)) (vI rfl))) rfl rfl ?_ | refine rg_y (yv_load rfl (ld1B (k1 (hs.blkL (i := 2) rfl)) (vI rfl))) rfl rfl ?_ | refine rg_y (yv_load rfl (ld1B (k1 (hs.blkL (i := 3) rfl)) (vI rfl))) rfl rfl ?_)
       all_goals (refine rg_y (yv_add rfl rfl (by omega)) rfl rfl ?_)
       all_goals ((refine rg_call0 (Rchecked_g _ _ _ (by omega)) hs rfl rfl rfl ?_; clear hs; intro w hs))
       all_goals (refine rg_y (yv_extract rfl (vA rfl)) rfl rfl ?_)
       all_goals (refine rg_y (yv_extract rfl (vI rfl)) rfl rfl ?_)
       all_goals (first | (refine rg_store 0 hs rfl rfl (kA rfl) (l2 rfl) rfl rfl rfl rfl ?_; clear hs; intro w hs; simp only [putCells, List.take_succ_cons, List.take_zero, List.take_nil, List.drop_succ_cons, List.drop_zero, List.drop_nil, List.cons_append, List.nil_append, List.append_nil, List.length_cons, List.length_nil, Nat.reduceAdd, Nat.add_zero, Nat.zero_add, List.set_cons_zero, List.set_cons_succ] at hs) | (refine rg_store 1 hs rfl rfl (kA rfl) (l2 rfl) rfl rfl rfl rfl ?_; clear hs; intro w hs; simp only [putCells, List.take_succ_cons, List.take_zero, List.take_nil, List.drop_succ_cons, List.drop_zero, List.drop_nil, List.cons_append, List.nil_append, List.append_nil, List.length_cons, List.length_nil, Nat.reduceAdd, Nat.add_zero, Nat.zero_add, List.set_cons_zero, List.set_cons_succ] at hs) | (refine rg_store 2 hs rfl rfl (kA rfl) (l2 rfl) rfl rfl rfl rfl ?_; clear hs; intro w hs; simp only [putCells, List.take_succ_cons, List.take_zero, List.take_nil, List.drop_succ_cons, List.drop_zero, List.drop_nil, List.cons_append, List.nil_append, List.append_nil, List.length_cons, List.length_nil, Nat.reduceAdd, Nat.add_zero, Nat.zero_add, List.set_cons_zero, List.set_cons_succ] at hs) | (refine rg_store 3 hs rfl rfl (kA rfl) (l2 rfl) rfl rfl rfl rfl ?_; clear hs; intro w hs; simp only [putCells, List.take_succ_cons, List.take_zero, List.take_nil, List.drop_succ_cons, List.drop_zero, List.drop_nil, List.cons_append, List.nil_append, List.append_nil, List.length_cons, List.length_nil, Nat.reduceAdd, Nat.add_zero, Nat.zero_add, List.set_cons_zero, List.set_cons_succ] at hs))
       all_goals (refine rg_y (yv_assign (kI rfl)) rfl rfl ?_)
       all_goals (first | refine rg_nils [(4, _), (5, _)] ⟨sP rfl, sI rfl, trivial⟩ ?_ | refine rg_nil ?_)))
  all_goals ((first | refine k_ret2 rfl (.cell rfl (ldBB (hs.blkL (i := 0) rfl) rfl)) (.tmp rfl) ⟨r3 ?_, hs.drop⟩ | refine k_ret2 rfl (.cell rfl (ldBB (hs.blkL (i := 1) rfl) rfl)) (.tmp rfl) ⟨r3 ?_, hs.drop⟩ | refine k_ret2 rfl (.cell rfl (ldBB (hs.blkL (i := 2) rfl) rfl)) (.tmp rfl) ⟨r3 ?_, hs.drop⟩ | refine k_ret2 rfl (.cell rfl (ldBB (hs.blkL (i := 3) rfl) rfl)) (.tmp rfl) ⟨r3 ?_, hs.drop⟩ | refine k_ret2 rfl (.cell rfl (ldBB (hs.blkL (i := 4) rfl) rfl)) (.tmp rfl) ⟨r3 ?_, hs.drop⟩ | refine k_ret2 rfl (.cell rfl (ldBB (hs.blkL (i := 5) rfl) rfl)) (.tmp rfl) ⟨r3 ?_, hs.drop⟩ | refine k_ret2 rfl (.cell rfl (ldBB (hs.blkL (i := 6) rfl) rfl)) (.tmp rfl) ⟨r3 ?_, hs.drop⟩ | refine k_ret2 rfl (.cell rfl (ldBB (hs.blkL (i := 7) rfl) rfl)) (.tmp rfl) ⟨r3 ?_, hs.drop⟩); unfold addM; first | rw [if_pos (by omega)] | rw [if_neg (by omega)])
theorem RSub_g (a b c d : Int) (w : World) : Gives Try.prog 45 [ivv a b, ivv c d] w (tv3 (subM a b c d)) := by
  (try unfold Gives); refine calls_enter Try.func45 rfl Try.ntmps45 rfl rfl ?_; have hs := St.refl w
  repeat' (first
    | refine rn_seq ?_
    | refine ks_n ?_
    | refine rn_cond_t rfl ?_
    | refine rn_cond_f rfl ?_
    | refine kb_n ?_
    | refine rn_block ?_
    | refine rn_skip ?_
    | refine rn_ret ?_
    | refine ks_r ?_
    | refine rn_exit ?_
    | refine ks_e ?_
    | refine kb_hit ?_
    | refine kb_miss rfl ?_
    | refine kb_r ?_
    | refine kl_e ?_
    | refine kl_r ?_
    | refine kr_n ?_
    | refine rnds_succ ?_
    | refine kr_e ?_
    | refine kr_r ?_
    | (refine rn_reg 0 ?_
       all_goals ((refine rg_box hs (kA rfl) (l2 rfl) rfl rfl ?_; clear hs; intro g w hs))
       all_goals ((refine rg_box hs (kA rfl) (l2 rfl) rfl rfl ?_; clear hs; intro g w hs))
       all_goals ((refine rg_alloc hs (l2 rfl) rfl rfl ?_; clear hs; intro g w hs))
       all_goals (refine rg_y (yv_assign (kI rfl)) rfl rfl ?_)
       all_goals (first | refine rg_nils [(2, _), (3, _), (4, _), (10, _), (11, _), (12, _)] ⟨sP rfl, sP rfl, sP rfl, sA rfl, sB rfl, sB rfl, trivial⟩ ?_ | refine rg_nil ?_))
    | (refine rn_reg 1 ?_
       all_goals (first | refine rg_y (yv_load rfl (ldBB (k1 (hs.blkL (i := 0) rfl)) rfl)) rfl rfl ?_ | refine rg_y (yv_load rfl (ldBB (k1 (hs.blkL (i := 1) rfl)) rfl)) rfl rfl ?_ | refine rg_y (yv_load rfl (ldBB (k1 (hs.blkL (i := 2) rfl)) rfl)) rfl rfl ?_ | refine rg_y (yv_load rfl (ldBB (k1 (hs.blkL (i := 3) rfl)) rfl)) rfl rfl ?_ | refine rg_y (yv_load rfl (ldPB (k1 (hs.blkL (i := 0) rfl)) (l2 rfl) rfl)) rfl rfl ?_ | refine rg_y (yv_load rfl (ldPB (k1 (hs.blkL (i := 1) rfl)) (l2 rfl) rfl)) rfl rfl ?_ | refine rg_y (yv_load rfl (ldPB (k1 (hs.blkL (i := 2) rfl)) (l2 rfl) rfl)) rfl rfl ?_ | refine rg_y (yv_load rfl (ldPB (k1 (hs.blkL (i := 3) rfl)) (l2 rfl) rfl)) rfl rfl ?_)
       all_goals (first | (refine rg_callbt (RValid_g _ _ _) hs rfl (by omega) rfl rfl ?_; clear hs; intro w hs) | (refine rg_callbf (RValid_g _ _ _) hs rfl (by omega) rfl rfl ?_; clear hs; intro w hs) | (refine rg_callb (RValid_g _ _ _) hs rfl rfl rfl (fun hc => ?_) (fun hc => ?_) <;> (clear hs; intro w hs)))
       all_goals (refine rg_y (yv_not rfl) rfl rfl ?_)
       all_goals (refine rg_y (yv_move (kB rfl)) rfl rfl ?_)
       all_goals (first | refine rg_skip rfl rfl ?_ | (first | refine rg_y (yv_load rfl (ldBB (k1 (hs.blkL (i := 0) rfl)) rfl)) rfl rfl ?_ | refine rg_y (yv_load rfl (ldBB (k1 (hs.blkL (i := 1) rfl)) rfl)) rfl rfl ?_ | refine rg_y (yv_load rfl (ldBB (k1 (hs.blkL (i := 2) rfl)) rfl)) rfl rfl ?_ | refine rg_y (yv_load rfl (ldBB (k1 (hs.blkL (i := 3) rfl)) rfl)) rfl rfl ?_ | refine rg_y (yv_load rfl (ldPB (k1 (hs.blkL (i := 0) rfl)) (l2 rfl) rfl)) rfl rfl ?_ | refine rg_y (yv_load rfl (ldPB (k1 (hs.blkL (i := 1) rfl)) (l2 rfl) rfl)) rfl rfl ?_ | refine rg_y (yv_load rfl (ldPB (k1 (hs.blkL (i := 2) rfl)) (l2 rfl) rfl)) rfl rfl ?_ | refine rg_y (yv_load rfl (ldPB (k1 (hs.blkL (i := 3) rfl)) (l2 rfl) rfl)) rfl rfl ?_))
       all_goals (first | refine rg_skip rfl rfl ?_ | (first | (refine rg_callbt (RValid_g _ _ _) hs rfl (by omega) rfl rfl ?_; clear hs; intro w hs) | (refine rg_callbf (RValid_g _ _ _) hs rfl (by omega) rfl rfl ?_; clear hs; intro w hs) | (refine rg_callb (RValid_g _ _ _) hs rfl rfl rfl (fun hc => ?_) (fun hc => ?_) <;> (clear hs; intro w hs))))
       all_goals (first | refine rg_skip rfl rfl ?_ | refine rg_y (yv_not rfl) rfl rfl ?_)
       all_goals (first | refine rg_y (yv_pick_t rfl (kB rfl)) rfl rfl ?_ | refine rg_y (yv_pick_f rfl (kB rfl)) rfl rfl ?_)
       all_goals (first | refine rg_nils [(2, _), (3, _), (4, _), (13, _)] ⟨sP rfl, sP rfl, sP rfl, sB rfl, trivial⟩ ?_ | refine rg_nil ?_))
    | (refine rn_reg 2 ?_
       all_goals (refine rg_y (yv_build rfl (o2 rfl)) rfl rfl ?_)
       all_goals (first | (refine rg_store 0 hs rfl rfl (kA rfl) (l2 rfl) rfl rfl rfl rfl ?_; clear hs; intro w hs; simp only [putCells, List.take_succ_cons, List.take_zero, List.take_nil, List.drop_succ_cons, List.drop_zero, List.drop_nil, List.cons_append, List.nil_append, List.append_nil, List.length_cons, List.length_nil, Nat.reduceAdd, Nat.add_zero, Nat.zero_add, List.set_cons_zero, List.set_cons_succ] at hs) | (refine rg_store 1 hs rfl rfl (kA rfl) (l2 rfl) rfl rfl rfl rfl ?_; clear hs; intro w hs; simp only [putCells, List.take_succ_cons, List.take_zero, List.take_nil, List.drop_succ_cons, List.drop_zero, List.drop_nil, List.cons_append, List.nil_append, List.append_nil, List.length_cons, List.length_nil, Nat.reduceAdd, Nat.add_zero, Nat.zero_add, List.set_cons_zero, List.set_cons_succ] at hs) | (refine rg_store 2 hs rfl rfl (kA rfl) (l2 rfl) rfl rfl rfl rfl ?_; clear hs; intro w hs; simp only [putCells, List.take_succ_cons, List.take_zero, List.take_nil, List.drop_succ_cons, List.drop_zero, List.drop_nil, List.cons_append, List.nil_append, List.append_nil, List.length_cons, List.length_nil, Nat.reduceAdd, Nat.add_zero, Nat.zero_add, List.set_cons_zero, List.set_cons_succ] at hs) | (refine rg_store 3 hs rfl rfl (kA rfl) (l2 rfl) rfl rfl rfl rfl ?_; clear hs; intro w hs; simp only [putCells, List.take_succ_cons, List.take_zero, List.take_nil, List.drop_succ_cons, List.drop_zero, List.drop_nil, List.cons_append, List.nil_append, List.append_nil, List.length_cons, List.length_nil, Nat.reduceAdd, Nat.add_zero, Nat.zero_add, List.set_cons_zero, List.set_cons_succ] at hs))
       all_goals (refine rg_y (yv_assign (kI rfl)) rfl rfl ?_)
       all_goals (first | refine rg_nils [(4, _), (5, _)] ⟨sP rfl, sI rfl, trivial⟩ ?_ | refine rg_nil ?_))
    | (refine rn_reg 3 ?_
       all_goals (refine rg_y (yv_fieldAddr rfl) rfl rfl ?_)
       all_goals (first | refine rg_y (yv_load rfl (ld1B (k1 (hs.blkL (i := 0) rfl)) (vI rfl))) rfl rfl ?_ | refine rg_y (yv_load rfl (ld1B (k1 (hs.blkL (i := 1) rfl)) (vI rfl))) rfl rfl ?_ | refine rg_y (yv_load rfl (ld1B (k1 (hs.blkL (i := 2) rfl)) (vI rfl))) rfl rfl ?_ | refine rg_y (yv_load rfl (ld1B (k1 (hs.blkL (i := 3) rfl)) (vI rfl))) rfl rfl ?_)
       all_goals (refine rg_y (yv_fieldAddr rfl) rfl rfl ?_)
       all_goals (first | refine rg_y (yv_load rfl (ld1B (k1 (hs.blkL (i := 0) rfl)) (vI rfl))) rfl rfl ?_ | refine rg_y (yv_load rfl (ld1B (k1 (hs.blkL (i := 1) rfl)) (vI rfl))) rfl rfl ?_ | refine rg_y (yv_load rfl (ld1B (k1 (hs.blkL (i := 2) rfl)) (vI rfl))) rfl rfl ?_ | refine rg_y (yv_load rfl (ld1B (k1 (hs.blkL (i := 3) rfl)) (vI rfl))) rfl rfl ?_)
       all_goals (refine rg_y (yv_sub rfl rfl (by omega)) rfl rfl ?_)
       all_goals (refine rg_y (yv_fieldAddr rfl) rfl rfl ?_)
       all_goals (first | refine rg_y (yv_load rfl (ld1B (k1 (hs.blkL (i := 0) rfl)) (vI rfl))) rfl rfl ?_ | refine rg_y (yv_load rfl (ld1B (k1 (hs.blkL (i := 1) rfl)) (vI rfl))) rfl rfl ?_ | refine rg_y (yv_load rfl (ld1B (k1 (hs.blkL (i := 2) rfl)) (vI rfl))) rfl rfl ?_ | refine rg_y (yv_load rfl (ld1B (k1 (hs.blkL (i := 3) rfl)) (vI rfl))) rfl rfl ?_)
       all_goals (refine rg_y (yv_fieldAddr rfl) rfl rfl ?_)
       all_goals (first | refine rg_y (yv_load rfl (ld1B (k1 (hs.blkL (i := 0) rfl)) (vI rfl))) rfl rfl ?_ | refine rg_y (yv_load rfl (ld1B (k1 (hs.blkL (i := 1) rfl)) (vI rfl))) rfl rfl ?_ | refine rg_y (yv_load rfl (ld1B (k1 (hs.blkL (i := 2) rfl)) (vI rfl))) rfl rfl ?_ | refine rg_y (yv_load rfl (ld1B (k1 (hs.blkL (i := 3) rfl)) (vI rfl))) rfl rfl ?_)
       all_goals (refine rg_y (yv_sub rfl rfl (by omega)) rfl rfl ?_)
       all_goals ((refine rg_call0 (Rchecked_g _ _ _ (by omega)) hs rfl rfl rfl ?_; clear hs; intro w hs))
       all_goals (refine rg_y (yv_extract rfl (vA rfl)) rfl rfl ?_)
       all_goals (refine rg_y (yv_extract rfl (vI rfl)) rfl rfl ?_)
       all_goals (first | (refine rg_store 0 hs rfl rfl (kA rfl) (l2 rfl) rfl rfl rfl rfl ?_; clear hs; intro w hs; simp only [putCells, List.take_succ_cons, List.take_zero, List.take_nil, List.drop_succ_cons, List.drop_zero, List.drop_nil, List.cons_append, List.nil_append, List.append_nil, List.length_cons, List.length_nil, Nat.reduceAdd, Nat.add_zero, Nat.zero_add, List.set_cons_zero, List.set_cons_succ] at hs) | (refine rg_store 1 hs rfl rfl (kA rfl) (l2 rfl) rfl rfl rfl rfl ?_; clear hs; intro w hs; simp only [putCells, List.take_succ_cons, List.take_zero, List.take_nil, List.drop_succ_cons, List.drop_zero, List.drop_nil, List.cons_append, List.nil_append, List.append_nil, List.length_cons, List.length_nil, Nat.reduceAdd, Nat.add_zero, Nat.zero_add, List.set_cons_zero, List.set_cons_succ] at hs) | (refine rg_store 2 hs rfl rfl (kA rfl) (l2 rfl) rfl rfl rfl rfl ?_; clear hs; intro w hs; simp only [putCells, List.take_succ_cons, List.take_zero, List.take_nil, List.drop_succ_cons, List.drop_zero, List.drop_nil, List.cons_append, List.nil_append, List.append_nil, List.length_cons, List.length_nil, Nat.reduceAdd, Nat.add_zero, Nat.zero_add, List.set_cons_zero, List.set_cons_succ] at hs) | (refine rg_store 3 hs rfl rfl (kA rfl) (l2 rfl) rfl rfl rfl rfl ?_; clear hs; intro w hs; simp only [putCells, List.take_succ_cons, List.take_zero, List.take_nil, List.drop_succ_cons, List.drop_zero, List.drop_nil, List.cons_append, List.nil_append, List.append_nil, List.length_cons, List.length_nil, Nat.reduceAdd, Nat.add_zero, Nat.zero_add, List.set_cons_zero, List.set_cons_succ] at hs))
       all_goals (refine rg_y (yv_assign (kI rfl)) rfl rfl ?_)
       all_goals (first | refine rg_nils [(4, _), (5, _)] ⟨sP rfl, sI rfl, trivial⟩ ?_ | refine rg_nil ?_)))
  all_goals ((first | refine k_ret2 rfl (.cell rfl (ldBB (hs.blkL (i := 0) rfl) rfl)) (.tmp rfl) ⟨r3 ?_, hs.drop⟩ | refine k_ret2 rfl (.cell rfl (ldBB (hs.blkL (i := 1) rfl) rfl)) (.tmp rfl) ⟨r3 ?_, hs.drop⟩ | refine k_ret2 rfl (.cell rfl (ldBB (hs.blkL (i := 2) rfl) rfl)) (.tmp rfl) ⟨r3 ?_, hs.drop⟩ | refine k_ret2 rfl (.cell rfl (ldBB (hs.blkL (i := 3) rfl) rfl)) (.tmp rfl) ⟨r3 ?_, hs.drop⟩ | refine k_ret2 rfl (.cell rfl (ldBB (hs.blkL (i := 4) rfl) rfl)) (.tmp rfl) ⟨r3 ?_, hs.drop⟩ | refine k_ret2 rfl (.cell rfl (ldBB (hs.blkL (i := 5) rfl) rfl)) (.tmp rfl) ⟨r3 ?_, hs.drop⟩ | refine k_ret2 rfl (.cell rfl (ldBB (hs.blkL (i := 6) rfl) rfl)) (.tmp rfl) ⟨r3 ?_, hs.drop⟩ | refine k_ret2 rfl (.cell rfl (ldBB (hs.blkL (i := 7) rfl) rfl)) (.tmp rfl) ⟨r3 ?_, hs.drop⟩); unfold subM; first | rw [if_pos (by omega)] | rw [if_neg (by omega)])
theorem Rsize_g (n : Int) (w : World) (h : Inr n) : Gives Try.prog 53 [.int .i64 n] w (.int .i64 (if n < 0 then -n else n)) := by
  (try unfold Gives); refine calls_enter Try.func53 rfl Try.ntmps53 rfl rfl ?_; have hs := St.refl w
  repeat' (first
    | refine rn_seq ?_
    | refine ks_n ?_
    | refine rn_cond_t rfl ?_
    | refine rn_cond_f rfl ?_
    | refine kb_n ?_
    | refine rn_block ?_
    | refine rn_skip ?_
    | refine rn_ret ?_
    | refine ks_r ?_
    | refine rn_exit ?_
    | refine ks_e ?_
    | refine kb_hit ?_
    | refine kb_miss rfl ?_
    | refine kb_r ?_
    | refine kl_e ?_
    | refine kl_r ?_
    | refine kr_n ?_
    | refine rnds_succ ?_
    | refine kr_e ?_
    | refine kr_r ?_
    | (refine rn_reg 0 ?_
       all_goals (refine rg_y (yv_assign (kI rfl)) rfl rfl ?_)
       all_goals (first | refine rg_nils [(0, _)] ⟨sI rfl, trivial⟩ ?_ | refine rg_nil ?_))
    | (refine rn_reg 1 ?_
       all_goals (refine rg_y (yv_move (kI rfl)) rfl rfl ?_)
       all_goals (first | refine rg_bt (yv_lss rfl rfl) (by omega) rfl rfl ?_ | refine rg_bf (yv_lss rfl rfl) (by omega) rfl rfl ?_ | refine rg_b (yv_lss rfl rfl) rfl rfl (fun hc => ?_) (fun hc => ?_))
       all_goals (first | refine rg_nils [(0, _), (4, _)] ⟨sI rfl, sB rfl, trivial⟩ ?_ | refine rg_nil ?_))
    | (refine rn_reg 2 ?_
       all_goals (refine rg_y (yv_move (kI rfl)) rfl rfl ?_)
       all_goals (refine rg_y (yv_neg rfl (by omega)) rfl rfl ?_)
       all_goals (refine rg_y (yv_assign (kI rfl)) rfl rfl ?_)
       all_goals (first | refine rg_nils [(2, _)] ⟨sI rfl, trivial⟩ ?_ | refine rg_nil ?_))
    | (refine rn_reg 3 ?_
       all_goals (refine rg_y (yv_move (kI rfl)) rfl rfl ?_)
       all_goals (refine rg_y (yv_assign (kI rfl)) rfl rfl ?_)
       all_goals (first | refine rg_nils [(2, _)] ⟨sI rfl, trivial⟩ ?_ | refine rg_nil ?_)))
  all_goals (refine k_ret1 rfl (.tmp rfl) ⟨ri ?_, hs.drop⟩; first | rw [if_pos (by omega)] | rw [if_neg (by omega)])
theorem RDown_g (a b : Int) (w : World) (ha : I64 a) (hb : b ≠ 0) : Gives Try.prog 25 [.int .i64 a, .int .i64 b] w (.int .i64 (dnm a b)) := by
  have hq := qw_in a b
  have hm := qw_mid (b := b) ha
  (try unfold Gives); refine calls_enter Try.func25 rfl Try.ntmps25 rfl rfl ?_; have hs := St.refl w
  repeat' (first
    | refine rn_seq ?_
    | refine ks_n ?_
    | refine rn_cond_t rfl ?_
    | refine rn_cond_f rfl ?_
    | refine kb_n ?_
    | refine rn_block ?_
    | refine rn_skip ?_
    | refine rn_ret ?_
    | refine ks_r ?_
    | refine rn_exit ?_
    | refine ks_e ?_
    | refine kb_hit ?_
    | refine kb_miss rfl ?_
    | refine kb_r ?_
    | refine kl_e ?_
    | refine kl_r ?_
    | refine kr_n ?_
    | refine rnds_succ ?_
    | refine kr_e ?_
    | refine kr_r ?_
    | (refine rn_reg 0 ?_
       all_goals (refine rg_y (yv_assign (kI rfl)) rfl rfl ?_)
       all_goals (first | refine rg_nils [(0, _), (1, _), (16, _), (17, _), (18, _), (19, _), (20, _)] ⟨sI rfl, sI rfl, sI rfl, sB rfl, sI rfl, sB rfl, sB rfl, trivial⟩ ?_ | refine rg_nil ?_))
    | (refine rn_draw_st 1 [0, 1, 2, 3, 4, 5, 6, 7] [(0, true), (1, true), (2, true), (3, true), (4, true), (5, true), (6, true), (7, true)] hs (by repeat (first | exact np_ret | refine np_seq ?_ | refine np_blk ?_ | refine np_loop ?_ | refine np_rnd ?_)) (by kernel_rfl) rfl (by kernel_rfl) ?_; clear hs; intro w hs
       all_goals ((refine dr_y rfl (fun w hs => yv_move (kI rfl)) (by first | exact hs | exact hs.tail | exact hs.tail.tail | exact hs.tail.tail.tail) rfl rfl ?_; intro w hg; replace hs := hs.call0 hg; clear hg))
       all_goals ((refine dr_y rfl (fun w hs => yv_move (kI rfl)) (by first | exact hs | exact hs.tail | exact hs.tail.tail | exact hs.tail.tail.tail) rfl rfl ?_; intro w hg; replace hs := hs.call0 hg; clear hg))
       all_goals ((refine dr_y rfl (fun w hs => yv_tdiv_q rfl rfl hb) (by first | exact hs | exact hs.tail | exact hs.tail.tail | exact hs.tail.tail.tail) rfl rfl ?_; intro w hg; replace hs := hs.call0 hg; clear hg))
       all_goals ((refine dr_y rfl (fun w hs => yv_move (kI rfl)) (by first | exact hs | exact hs.tail | exact hs.tail.tail | exact hs.tail.tail.tail) rfl rfl ?_; intro w hg; replace hs := hs.call0 hg; clear hg))
       all_goals ((refine dr_y rfl (fun w hs => yv_move (kI rfl)) (by first | exact hs | exact hs.tail | exact hs.tail.tail | exact hs.tail.tail.tail) rfl rfl ?_; intro w hg; replace hs := hs.call0 hg; clear hg))
       all_goals ((refine dr_y rfl (fun w hs => yv_tmod rfl rfl hb) (by first | exact hs | exact hs.tail | exact hs.tail.tail | exact hs.tail.tail.tail) rfl rfl ?_; intro w hg; replace hs := hs.call0 hg; clear hg))
       all_goals ((refine dr_y rfl (fun w hs => yv_assign (kI rfl)) (by first | exact hs | exact hs.tail | exact hs.tail.tail | exact hs.tail.tail.tail) rfl rfl ?_; intro w hg; replace hs := hs.call0 hg; clear hg))
       all_goals ((refine dr_y rfl (fun w hs => yv_assign (kI rfl)) (by first | exact hs | exact hs.tail | exact hs.tail.tail | exact hs.tail.tail.tail) rfl rfl ?_; intro w hg; replace hs := hs.call0 hg; clear hg))
       all_goals (first | refine dr_nils [(1, _), (5, _), (6, _), (16, _), (17, _), (18, _), (19, _), (20, _)] ⟨sI rfl, sI rfl, sI rfl, sI rfl, sB rfl, sI rfl, sB rfl, sB rfl, trivial⟩ ?_ | refine dr_nil ?_))
    | (refine rn_reg 2 ?_
       all_goals (refine rg_y (yv_move (kI rfl)) rfl rfl ?_)
       all_goals (first | refine rg_bt (yv_neq rfl rfl) (by omega) rfl rfl ?_ | refine rg_bf (yv_neq rfl rfl) (by omega) rfl rfl ?_ | refine rg_b (yv_neq rfl rfl) rfl rfl (fun hc => ?_) (fun hc => ?_))
       all_goals (refine rg_y (yv_move (kB rfl)) rfl rfl ?_)
       all_goals (first | refine rg_skip rfl rfl ?_ | refine rg_y (yv_move (kI rfl)) rfl rfl ?_)
       all_goals (first | refine rg_skip rfl rfl ?_ | (first | refine rg_bt (yv_lss rfl rfl) (by omega) rfl rfl ?_ | refine rg_bf (yv_lss rfl rfl) (by omega) rfl rfl ?_ | refine rg_b (yv_lss rfl rfl) rfl rfl (fun hc => ?_) (fun hc => ?_)))
       all_goals (first | refine rg_skip rfl rfl ?_ | refine rg_y (yv_move (kI rfl)) rfl rfl ?_)
       all_goals (first | refine rg_skip rfl rfl ?_ | (first | refine rg_bt (yv_lss rfl rfl) (by omega) rfl rfl ?_ | refine rg_bf (yv_lss rfl rfl) (by omega) rfl rfl ?_ | refine rg_b (yv_lss rfl rfl) rfl rfl (fun hc => ?_) (fun hc => ?_)))
       all_goals (first | refine rg_skip rfl rfl ?_ | refine rg_y (yv_neqb Try.underlying4 rfl rfl) rfl rfl ?_)
       all_goals (first | refine rg_y (yv_pick_t rfl (kB rfl)) rfl rfl ?_ | refine rg_y (yv_pick_f rfl (kB rfl)) rfl rfl ?_)
       all_goals (first | refine rg_nils [(5, _), (21, _)] ⟨sI rfl, sB rfl, trivial⟩ ?_ | refine rg_nil ?_))
    | (refine rn_reg 3 ?_
       all_goals (refine rg_y (yv_move (kI rfl)) rfl rfl ?_)
       all_goals (refine rg_y (yv_sub rfl rfl (by omega)) rfl rfl ?_)
       all_goals (refine rg_y (yv_assign (kI rfl)) rfl rfl ?_)
       all_goals (first | refine rg_nils [(5, _)] ⟨sI rfl, trivial⟩ ?_ | refine rg_nil ?_))
    | (refine rn_reg 4 ?_
       all_goals (refine rg_y (yv_move (kI rfl)) rfl rfl ?_)
       all_goals (refine rg_y (yv_assign (kI rfl)) rfl rfl ?_)
       all_goals (first | refine rg_nils [(4, _)] ⟨sI rfl, trivial⟩ ?_ | refine rg_nil ?_)))
  all_goals (refine k_ret1 rfl (.tmp rfl) ⟨ri ?_, hs.drop⟩; unfold dnm; first | rw [if_pos (by omega)] | rw [if_neg (by omega)])
theorem RUp_g (a b : Int) (w : World) (ha : I64 a) (hb : b ≠ 0) : Gives Try.prog 26 [.int .i64 a, .int .i64 b] w (.int .i64 (upm a b)) := by
  have hq := qw_in a b
  have hm := qw_mid (b := b) ha
  (try unfold Gives); refine calls_enter Try.func26 rfl Try.ntmps26 rfl rfl ?_; have hs := St.refl w
  repeat' (first
    | refine rn_seq ?_
    | refine ks_n ?_
    | refine rn_cond_t rfl ?_
    | refine rn_cond_f rfl ?_
    | refine kb_n ?_
    | refine rn_block ?_
    | refine rn_skip ?_
    | refine rn_ret ?_
    | refine ks_r ?_
    | refine rn_exit ?_
    | refine ks_e ?_
    | refine kb_hit ?_
    | refine kb_miss rfl ?_
    | refine kb_r ?_
    | refine kl_e ?_
    | refine kl_r ?_
    | refine kr_n ?_
    | refine rnds_succ ?_
    | refine kr_e ?_
    | refine kr_r ?_
    | (refine rn_reg 0 ?_
       all_goals (refine rg_y (yv_assign (kI rfl)) rfl rfl ?_)
       all_goals (first | refine rg_nils [(0, _), (1, _), (16, _), (17, _), (18, _), (19, _), (20, _)] ⟨sI rfl, sI rfl, sI rfl, sB rfl, sI rfl, sB rfl, sB rfl, trivial⟩ ?_ | refine rg_nil ?_))
    | (refine rn_draw_st 1 [0, 1, 2, 3, 4, 5, 6, 7] [(0, true), (1, true), (2, true), (3, true), (4, true), (5, true), (6, true), (7, true)] hs (by repeat (first | exact np_ret | refine np_seq ?_ | refine np_blk ?_ | refine np_loop ?_ | refine np_rnd ?_)) (by kernel_rfl) rfl (by kernel_rfl) ?_; clear hs; intro w hs
       all_goals ((refine dr_y rfl (fun w hs => yv_move (kI rfl)) (by first | exact hs | exact hs.tail | exact hs.tail.tail | exact hs.tail.tail.tail) rfl rfl ?_; intro w hg; replace hs := hs.call0 hg; clear hg))
       all_goals ((refine dr_y rfl (fun w hs => yv_move (kI rfl)) (by first | exact hs | exact hs.tail | exact hs.tail.tail | exact hs.tail.tail.tail) rfl rfl ?_; intro w hg; replace hs := hs.call0 hg; clear hg))
       all_goals ((refine dr_y rfl (fun w hs => yv_tdiv_q rfl rfl hb) (by first | exact hs | exact hs.tail | exact hs.tail.tail | exact hs.tail.tail.tail) rfl rfl ?_; intro w hg; replace hs := hs.call0 hg; clear hg))
       all_goals ((refine dr_y rfl (fun w hs => yv_move (kI rfl)) (by first | exact hs | exact hs.tail | exact hs.tail.tail | exact hs.tail.tail.tail) rfl rfl ?_; intro w hg; replace hs := hs.call0 hg; clear hg))
       all_goals ((refine dr_y rfl (fun w hs => yv_move (kI rfl)) (by first | exact hs | exact hs.tail | exact hs.tail.tail | exact hs.tail.tail.tail) rfl rfl ?_; intro w hg; replace hs := hs.call0 hg; clear hg))
       all_goals ((refine dr_y rfl (fun w hs => yv_tmod rfl rfl hb) (by first | exact hs | exact hs.tail | exact hs.tail.tail | exact hs.tail.tail.tail) rfl rfl ?_; intro w hg; replace hs := hs.call0 hg; clear hg))
       all_goals ((refine dr_y rfl (fun w hs => yv_assign (kI rfl)) (by first | exact hs | exact hs.tail | exact hs.tail.tail | exact hs.tail.tail.tail) rfl rfl ?_; intro w hg; replace hs := hs.call0 hg; clear hg))
       all_goals ((refine dr_y rfl (fun w hs => yv_assign (kI rfl)) (by first | exact hs | exact hs.tail | exact hs.tail.tail | exact hs.tail.tail.tail) rfl rfl ?_; intro w hg; replace hs := hs.call0 hg; clear hg))
       all_goals (first | refine dr_nils [(1, _), (5, _), (6, _), (16, _), (17, _), (18, _), (19, _), (20, _)] ⟨sI rfl, sI rfl, sI rfl, sI rfl, sB rfl, sI rfl, sB rfl, sB rfl, trivial⟩ ?_ | refine dr_nil ?_))
    | (refine rn_reg 2 ?_
       all_goals (refine rg_y (yv_move (kI rfl)) rfl rfl ?_)
       all_goals (first | refine rg_bt (yv_neq rfl rfl) (by omega) rfl rfl ?_ | refine rg_bf (yv_neq rfl rfl) (by omega) rfl rfl ?_ | refine rg_b (yv_neq rfl rfl) rfl rfl (fun hc => ?_) (fun hc => ?_))
       all_goals (refine rg_y (yv_move (kB rfl)) rfl rfl ?_)
       all_goals (first | refine rg_skip rfl rfl ?_ | refine rg_y (yv_move (kI rfl)) rfl rfl ?_)
       all_goals (first | refine rg_skip rfl rfl ?_ | (first | refine rg_bt (yv_lss rfl rfl) (by omega) rfl rfl ?_ | refine rg_bf (yv_lss rfl rfl) (by omega) rfl rfl ?_ | refine rg_b (yv_lss rfl rfl) rfl rfl (fun hc => ?_) (fun hc => ?_)))
       all_goals (first | refine rg_skip rfl rfl ?_ | refine rg_y (yv_move (kI rfl)) rfl rfl ?_)
       all_goals (first | refine rg_skip rfl rfl ?_ | (first | refine rg_bt (yv_lss rfl rfl) (by omega) rfl rfl ?_ | refine rg_bf (yv_lss rfl rfl) (by omega) rfl rfl ?_ | refine rg_b (yv_lss rfl rfl) rfl rfl (fun hc => ?_) (fun hc => ?_)))
       all_goals (first | refine rg_skip rfl rfl ?_ | refine rg_y (yv_eqlb Try.underlying4 rfl rfl) rfl rfl ?_)
       all_goals (first | refine rg_y (yv_pick_t rfl (kB rfl)) rfl rfl ?_ | refine rg_y (yv_pick_f rfl (kB rfl)) rfl rfl ?_)
       all_goals (first | refine rg_nils [(5, _), (21, _)] ⟨sI rfl, sB rfl, trivial⟩ ?_ | refine rg_nil ?_))
    | (refine rn_reg 3 ?_
       all_goals (refine rg_y (yv_move (kI rfl)) rfl rfl ?_)
       all_goals (refine rg_y (yv_add rfl rfl (by omega)) rfl rfl ?_)
       all_goals (refine rg_y (yv_assign (kI rfl)) rfl rfl ?_)
       all_goals (first | refine rg_nils [(5, _)] ⟨sI rfl, trivial⟩ ?_ | refine rg_nil ?_))
    | (refine rn_reg 4 ?_
       all_goals (refine rg_y (yv_move (kI rfl)) rfl rfl ?_)
       all_goals (refine rg_y (yv_assign (kI rfl)) rfl rfl ?_)
       all_goals (first | refine rg_nils [(4, _)] ⟨sI rfl, trivial⟩ ?_ | refine rg_nil ?_)))
  all_goals (refine k_ret1 rfl (.tmp rfl) ⟨ri ?_, hs.drop⟩; unfold upm; first | rw [if_pos (by omega)] | rw [if_neg (by omega)])
theorem RScale_g (a b num den : Int) (w : World) : Gives Try.prog 47 [ivv a b, .int .i64 num, .int .i64 den] w (tv3 (scaleM a b num den)) := by
  by_cases hr : Ivd a b ∧ -1000000 ≤ num ∧ num ≤ 1000000 ∧ -1000000 ≤ den ∧ den ≤ 1000000 ∧ den ≠ 0
  · have hb : ∀ x, -1000000000000 ≤ x ∧ x ≤ 1000000000000 → -1000000000000000000 ≤ x * num ∧ x * num ≤ 1000000000000000000 := fun x hx => mul_bd hx (by omega)
    have ha1 := hb a (by omega)
    have hb1 := hb b (by omega)
    have hd1 := dnm_in (a := a * num) (b := den) (by omega)
    have hd2 := dnm_in (a := b * num) (b := den) (by omega)
    have hu1 := upm_in (a := a * num) (b := den) (by omega)
    have hu2 := upm_in (a := b * num) (b := den) (by omega)
    have hs1 := scale_min (a := a) (b := b) (num := num) (den := den) (by omega) (by omega) (by omega) (by omega)
    clear hb
    (try unfold Gives); refine calls_enter Try.func47 rfl Try.ntmps47 rfl rfl ?_; have hs := St.refl w
    repeat' (first
      | refine rn_seq ?_
      | refine ks_n ?_
      | refine rn_cond_t rfl ?_
      | refine rn_cond_f rfl ?_
      | refine kb_n ?_
      | refine rn_block ?_
      | refine rn_skip ?_
      | refine rn_ret ?_
      | refine ks_r ?_
      | refine rn_exit ?_
      | refine ks_e ?_
      | refine kb_hit ?_
      | refine kb_miss rfl ?_
      | refine kb_r ?_
      | refine kl_e ?_
      | refine kl_r ?_
      | refine kr_n ?_
      | refine rnds_succ ?_
      | refine kr_e ?_
      | refine kr_r ?_
      | (refine rn_reg 0 ?_
         all_goals ((refine rg_box hs (kA rfl) (l2 rfl) rfl rfl ?_; clear hs; intro g w hs))
         all_goals ((refine rg_alloc hs (l2 rfl) rfl rfl ?_; clear hs; intro g w hs))
         all_goals (refine rg_y (yv_assign (kI rfl)) rfl rfl ?_)
         all_goals (first | refine rg_nils [(1, _), (2, _), (3, _), (6, _), (19, _), (20, _), (23, _), (24, _), (27, _), (28, _)] ⟨sI rfl, sI rfl, sP rfl, sP rfl, sI rfl, sB rfl, sI rfl, sB rfl, sI rfl, sB rfl, trivial⟩ ?_ | refine rg_nil ?_))
      | (refine rn_reg 1 ?_
         all_goals (first | refine rg_y (yv_load rfl (ldBB (k1 (hs.blkL (i := 0) rfl)) rfl)) rfl rfl ?_ | refine rg_y (yv_load rfl (ldBB (k1 (hs.blkL (i := 1) rfl)) rfl)) rfl rfl ?_ | refine rg_y (yv_load rfl (ldBB (k1 (hs.blkL (i := 2) rfl)) rfl)) rfl rfl ?_ | refine rg_y (yv_load rfl (ldBB (k1 (hs.blkL (i := 3) rfl)) rfl)) rfl rfl ?_ | refine rg_y (yv_load rfl (ldPB (k1 (hs.blkL (i := 0) rfl)) (l2 rfl) rfl)) rfl rfl ?_ | refine rg_y (yv_load rfl (ldPB (k1 (hs.blkL (i := 1) rfl)) (l2 rfl) rfl)) rfl rfl ?_ | refine rg_y (yv_load rfl (ldPB (k1 (hs.blkL (i := 2) rfl)) (l2 rfl) rfl)) rfl rfl ?_ | refine rg_y (yv_load rfl (ldPB (k1 (hs.blkL (i := 3) rfl)) (l2 rfl) rfl)) rfl rfl ?_)
         all_goals (first | (refine rg_callbt (RValid_g _ _ _) hs rfl (by omega) rfl rfl ?_; clear hs; intro w hs) | (refine rg_callbf (RValid_g _ _ _) hs rfl (by omega) rfl rfl ?_; clear hs; intro w hs) | (refine rg_callb (RValid_g _ _ _) hs rfl rfl rfl (fun hc => ?_) (fun hc => ?_) <;> (clear hs; intro w hs)))
         all_goals (refine rg_y (yv_not rfl) rfl rfl ?_)
         all_goals (refine rg_y (yv_assign (kB rfl)) rfl rfl ?_)
         all_goals (first | refine rg_nils [(1, _), (2, _), (3, _), (6, _), (10, _), (19, _), (20, _), (23, _), (24, _), (27, _), (28, _)] ⟨sI rfl, sI rfl, sP rfl, sP rfl, sB rfl, sI rfl, sB rfl, sI rfl, sB rfl, sI rfl, sB rfl, trivial⟩ ?_ | refine rg_nil ?_))
      | (refine rn_reg 2 ?_
         all_goals (refine rg_y (yv_build rfl (o2 rfl)) rfl rfl ?_)
         all_goals (first | (refine rg_store 0 hs rfl rfl (kA rfl) (l2 rfl) rfl rfl rfl rfl ?_; clear hs; intro w hs; simp only [putCells, List.take_succ_cons, List.take_zero, List.take_nil, List.drop_succ_cons, List.drop_zero, List.drop_nil, List.cons_append, List.nil_append, List.append_nil, List.length_cons, List.length_nil, Nat.reduceAdd, Nat.add_zero, Nat.zero_add, List.set_cons_zero, List.set_cons_succ] at hs) | (refine rg_store 1 hs rfl rfl (kA rfl) (l2 rfl) rfl rfl rfl rfl ?_; clear hs; intro w hs; simp only [putCells, List.take_succ_cons, List.take_zero, List.take_nil, List.drop_succ_cons, List.drop_zero, List.drop_nil, List.cons_append, List.nil_append, List.append_nil, List.length_cons, List.length_nil, Nat.reduceAdd, Nat.add_zero, Nat.zero_add, List.set_cons_zero, List.set_cons_succ] at hs) | (refine rg_store 2 hs rfl rfl (kA rfl) (l2 rfl) rfl rfl rfl rfl ?_; clear hs; intro w hs; simp only [putCells, List.take_succ_cons, List.take_zero, List.take_nil, List.drop_succ_cons, List.drop_zero, List.drop_nil, List.cons_append, List.nil_append, List.append_nil, List.length_cons, List.length_nil, Nat.reduceAdd, Nat.add_zero, Nat.zero_add, List.set_cons_zero, List.set_cons_succ] at hs) | (refine rg_store 3 hs rfl rfl (kA rfl) (l2 rfl) rfl rfl rfl rfl ?_; clear hs; intro w hs; simp only [putCells, List.take_succ_cons, List.take_zero, List.take_nil, List.drop_succ_cons, List.drop_zero, List.drop_nil, List.cons_append, List.nil_append, List.append_nil, List.length_cons, List.length_nil, Nat.reduceAdd, Nat.add_zero, Nat.zero_add, List.set_cons_zero, List.set_cons_succ] at hs))
         all_goals (refine rg_y (yv_assign (kI rfl)) rfl rfl ?_)
         all_goals (first | refine rg_nils [(6, _), (7, _)] ⟨sP rfl, sI rfl, trivial⟩ ?_ | refine rg_nil ?_))
      | (refine rn_reg 3 ?_
         all_goals (refine rg_y (yv_move (kI rfl)) rfl rfl ?_)
         all_goals (first | refine rg_bt (yv_lss rfl rfl) (by omega) rfl rfl ?_ | refine rg_bf (yv_lss rfl rfl) (by omega) rfl rfl ?_ | refine rg_b (yv_lss rfl rfl) rfl rfl (fun hc => ?_) (fun hc => ?_))
         all_goals (refine rg_y (yv_move (kB rfl)) rfl rfl ?_)
         all_goals (first | refine rg_skip rfl rfl ?_ | refine rg_y (yv_move (kI rfl)) rfl rfl ?_)
         all_goals (first | refine rg_skip rfl rfl ?_ | (first | refine rg_bt (yv_gtr rfl rfl) (by omega) rfl rfl ?_ | refine rg_bf (yv_gtr rfl rfl) (by omega) rfl rfl ?_ | refine rg_b (yv_gtr rfl rfl) rfl rfl (fun hc => ?_) (fun hc => ?_)))
         all_goals (first | refine rg_y (yv_pick_t rfl (kB rfl)) rfl rfl ?_ | refine rg_y (yv_pick_f rfl (kB rfl)) rfl rfl ?_)
         all_goals (refine rg_y (yv_move (kB rfl)) rfl rfl ?_)
         all_goals (first | refine rg_skip rfl rfl ?_ | refine rg_y (yv_move (kI rfl)) rfl rfl ?_)
         all_goals (first | refine rg_skip rfl rfl ?_ | (first | refine rg_bt (yv_lss rfl rfl) (by omega) rfl rfl ?_ | refine rg_bf (yv_lss rfl rfl) (by omega) rfl rfl ?_ | refine rg_b (yv_lss rfl rfl) rfl rfl (fun hc => ?_) (fun hc => ?_)))
         all_goals (first | refine rg_y (yv_pick_t rfl (kB rfl)) rfl rfl ?_ | refine rg_y (yv_pick_f rfl (kB rfl)) rfl rfl ?_)
         all_goals (refine rg_y (yv_move (kB rfl)) rfl rfl ?_)
         all_goals (first | refine rg_skip rfl rfl ?_ | refine rg_y (yv_move (kI rfl)) rfl rfl ?_)
         all_goals (first | refine rg_skip rfl rfl ?_ | (first | refine rg_bt (yv_gtr rfl rfl) (by omega) rfl rfl ?_ | refine rg_bf (yv_gtr rfl rfl) (by omega) rfl rfl ?_ | refine rg_b (yv_gtr rfl rfl) rfl rfl (fun hc => ?_) (fun hc => ?_)))
         all_goals (first | refine rg_y (yv_pick_t rfl (kB rfl)) rfl rfl ?_ | refine rg_y (yv_pick_f rfl (kB rfl)) rfl rfl ?_)
         all_goals (refine rg_y (yv_assign (kB rfl)) rfl rfl ?_)
         all_goals (first | refine rg_nils [(1, _), (2, _), (3, _), (6, _), (15, _)] ⟨sI rfl, sI rfl, sP rfl, sP rfl, sB rfl, trivial⟩ ?_ | refine rg_nil ?_))
      | (refine rn_reg 4 ?_
         all_goals (refine rg_y (yv_build rfl (o2 rfl)) rfl rfl ?_)
         all_goals (first | (refine rg_store 0 hs rfl rfl (kA rfl) (l2 rfl) rfl rfl rfl rfl ?_; clear hs; intro w hs; simp only [putCells, List.take_succ_cons, List.take_zero, List.take_nil, List.drop_succ_cons, List.drop_zero, List.drop_nil, List.cons_append, List.nil_append, List.append_nil, List.length_cons, List.length_nil, Nat.reduceAdd, Nat.add_zero, Nat.zero_add, List.set_cons_zero, List.set_cons_succ] at hs) | (refine rg_store 1 hs rfl rfl (kA rfl) (l2 rfl) rfl rfl rfl rfl ?_; clear hs; intro w hs; simp only [putCells, List.take_succ_cons, List.take_zero, List.take_nil, List.drop_succ_cons, List.drop_zero, List.drop_nil, List.cons_append, List.nil_append, List.append_nil, List.length_cons, List.length_nil, Nat.reduceAdd, Nat.add_zero, Nat.zero_add, List.set_cons_zero, List.set_cons_succ] at hs) | (refine rg_store 2 hs rfl rfl (kA rfl) (l2 rfl) rfl rfl rfl rfl ?_; clear hs; intro w hs; simp only [putCells, List.take_succ_cons, List.take_zero, List.take_nil, List.drop_succ_cons, List.drop_zero, List.drop_nil, List.cons_append, List.nil_append, List.append_nil, List.length_cons, List.length_nil, Nat.reduceAdd, Nat.add_zero, Nat.zero_add, List.set_cons_zero, List.set_cons_succ] at hs) | (refine rg_store 3 hs rfl rfl (kA rfl) (l2 rfl) rfl rfl rfl rfl ?_; clear hs; intro w hs; simp only [putCells, List.take_succ_cons, List.take_zero, List.take_nil, List.drop_succ_cons, List.drop_zero, List.drop_nil, List.cons_append, List.nil_append, List.append_nil, List.length_cons, List.length_nil, Nat.reduceAdd, Nat.add_zero, Nat.zero_add, List.set_cons_zero, List.set_cons_succ] at hs))
         all_goals (refine rg_y (yv_assign (kI rfl)) rfl rfl ?_)
         all_goals (first | refine rg_nils [(6, _), (7, _)] ⟨sP rfl, sI rfl, trivial⟩ ?_ | refine rg_nil ?_))
      | (refine rn_reg 5 ?_
         all_goals (refine rg_y (yv_move (kI rfl)) rfl rfl ?_)
         all_goals (first | refine rg_bt (yv_eql rfl rfl) (by omega) rfl rfl ?_ | refine rg_bf (yv_eql rfl rfl) (by omega) rfl rfl ?_ | refine rg_b (yv_eql rfl rfl) rfl rfl (fun hc => ?_) (fun hc => ?_))
         all_goals (refine rg_y (yv_assign (kB rfl)) rfl rfl ?_)
         all_goals (first | refine rg_nils [(1, _), (2, _), (3, _), (6, _), (31, _)] ⟨sI rfl, sI rfl, sP rfl, sP rfl, sB rfl, trivial⟩ ?_ | refine rg_nil ?_))
      | (refine rn_reg 6 ?_
         all_goals (refine rg_y (yv_build rfl (o2 rfl)) rfl rfl ?_)
         all_goals (first | (refine rg_store 0 hs rfl rfl (kA rfl) (l2 rfl) rfl rfl rfl rfl ?_; clear hs; intro w hs; simp only [putCells, List.take_succ_cons, List.take_zero, List.take_nil, List.drop_succ_cons, List.drop_zero, List.drop_nil, List.cons_append, List.nil_append, List.append_nil, List.length_cons, List.length_nil, Nat.reduceAdd, Nat.add_zero, Nat.zero_add, List.set_cons_zero, List.set_cons_succ] at hs) | (refine rg_store 1 hs rfl rfl (kA rfl) (l2 rfl) rfl rfl rfl rfl ?_; clear hs; intro w hs; simp only [putCells, List.take_succ_cons, List.take_zero, List.take_nil, List.drop_succ_cons, List.drop_zero, List.drop_nil, List.cons_append, List.nil_append, List.append_nil, List.length_cons, List.length_nil, Nat.reduceAdd, Nat.add_zero, Nat.zero_add, List.set_cons_zero, List.set_cons_succ] at hs) | (refine rg_store 2 hs rfl rfl (kA rfl) (l2 rfl) rfl rfl rfl rfl ?_; clear hs; intro w hs; simp only [putCells, List.take_succ_cons, List.take_zero, List.take_nil, List.drop_succ_cons, List.drop_zero, List.drop_nil, List.cons_append, List.nil_append, List.append_nil, List.length_cons, List.length_nil, Nat.reduceAdd, Nat.add_zero, Nat.zero_add, List.set_cons_zero, List.set_cons_succ] at hs) | (refine rg_store 3 hs rfl rfl (kA rfl) (l2 rfl) rfl rfl rfl rfl ?_; clear hs; intro w hs; simp only [putCells, List.take_succ_cons, List.take_zero, List.take_nil, List.drop_succ_cons, List.drop_zero, List.drop_nil, List.cons_append, List.nil_append, List.append_nil, List.length_cons, List.length_nil, Nat.reduceAdd, Nat.add_zero, Nat.zero_add, List.set_cons_zero, List.set_cons_succ] at hs))
         all_goals (refine rg_y (yv_assign (kI rfl)) rfl rfl ?_)
         all_goals (first | refine rg_nils [(6, _), (7, _)] ⟨sP rfl, sI rfl, trivial⟩ ?_ | refine rg_nil ?_))
      | (refine rn_draw_st 7 [0, 1, 2, 3, 4, 5, 6, 7, 8, 9] [(0, true), (1, true), (2, true), (3, true), (4, true), (5, true), (6, true), (7, true), (8, true), (9, true)] hs (by repeat (first | exact np_ret | refine np_seq ?_ | refine np_blk ?_ | refine np_loop ?_ | refine np_rnd ?_)) (by kernel_rfl) rfl (by kernel_rfl) ?_; clear hs; intro w hs
         all_goals ((refine dr_y rfl (fun w hs => yv_fieldAddr rfl) (by first | exact hs | exact hs.tail | exact hs.tail.tail | exact hs.tail.tail.tail) rfl rfl ?_; intro w hg; replace hs := hs.call0 hg; clear hg))
         all_goals (first | (refine dr_y rfl (fun w hs => yv_load rfl (ld1B (k1 (hs.blkL (i := 0) rfl)) (vI rfl))) (by first | exact hs | exact hs.tail | exact hs.tail.tail | exact hs.tail.tail.tail) rfl rfl ?_; intro w hg; replace hs := hs.call0 hg; clear hg) | (refine dr_y rfl (fun w hs => yv_load rfl (ld1B (k1 (hs.blkL (i := 1) rfl)) (vI rfl))) (by first | exact hs | exact hs.tail | exact hs.tail.tail | exact hs.tail.tail.tail) rfl rfl ?_; intro w hg; replace hs := hs.call0 hg; clear hg) | (refine dr_y rfl (fun w hs => yv_load rfl (ld1B (k1 (hs.blkL (i := 2) rfl)) (vI rfl))) (by first | exact hs | exact hs.tail | exact hs.tail.tail | exact hs.tail.tail.tail) rfl rfl ?_; intro w hg; replace hs := hs.call0 hg; clear hg) | (refine dr_y rfl (fun w hs => yv_load rfl (ld1B (k1 (hs.blkL (i := 3) rfl)) (vI rfl))) (by first | exact hs | exact hs.tail | exact hs.tail.tail | exact hs.tail.tail.tail) rfl rfl ?_; intro w hg; replace hs := hs.call0 hg; clear hg))
         all_goals ((refine dr_y rfl (fun w hs => yv_move (kI rfl)) (by first | exact hs | exact hs.tail | exact hs.tail.tail | exact hs.tail.tail.tail) rfl rfl ?_; intro w hg; replace hs := hs.call0 hg; clear hg))
         all_goals ((refine dr_y rfl (fun w hs => yv_mul rfl rfl (by omega)) (by first | exact hs | exact hs.tail | exact hs.tail.tail | exact hs.tail.tail.tail) rfl rfl ?_; intro w hg; replace hs := hs.call0 hg; clear hg))
         all_goals ((refine dr_y rfl (fun w hs => yv_fieldAddr rfl) (by first | exact hs | exact hs.tail | exact hs.tail.tail | exact hs.tail.tail.tail) rfl rfl ?_; intro w hg; replace hs := hs.call0 hg; clear hg))
         all_goals (first | (refine dr_y rfl (fun w hs => yv_load rfl (ld1B (k1 (hs.blkL (i := 0) rfl)) (vI rfl))) (by first | exact hs | exact hs.tail | exact hs.tail.tail | exact hs.tail.tail.tail) rfl rfl ?_; intro w hg; replace hs := hs.call0 hg; clear hg) | (refine dr_y rfl (fun w hs => yv_load rfl (ld1B (k1 (hs.blkL (i := 1) rfl)) (vI rfl))) (by first | exact hs | exact hs.tail | exact hs.tail.tail | exact hs.tail.tail.tail) rfl rfl ?_; intro w hg; replace hs := hs.call0 hg; clear hg) | (refine dr_y rfl (fun w hs => yv_load rfl (ld1B (k1 (hs.blkL (i := 2) rfl)) (vI rfl))) (by first | exact hs | exact hs.tail | exact hs.tail.tail | exact hs.tail.tail.tail) rfl rfl ?_; intro w hg; replace hs := hs.call0 hg; clear hg) | (refine dr_y rfl (fun w hs => yv_load rfl (ld1B (k1 (hs.blkL (i := 3) rfl)) (vI rfl))) (by first | exact hs | exact hs.tail | exact hs.tail.tail | exact hs.tail.tail.tail) rfl rfl ?_; intro w hg; replace hs := hs.call0 hg; clear hg))
         all_goals ((refine dr_y rfl (fun w hs => yv_move (kI rfl)) (by first | exact hs | exact hs.tail | exact hs.tail.tail | exact hs.tail.tail.tail) rfl rfl ?_; intro w hg; replace hs := hs.call0 hg; clear hg))
         all_goals ((refine dr_y rfl (fun w hs => yv_mul rfl rfl (by omega)) (by first | exact hs | exact hs.tail | exact hs.tail.tail | exact hs.tail.tail.tail) rfl rfl ?_; intro w hg; replace hs := hs.call0 hg; clear hg))
         all_goals ((refine dr_y rfl (fun w hs => yv_assign (kI rfl)) (by first | exact hs | exact hs.tail | exact hs.tail.tail | exact hs.tail.tail.tail) rfl rfl ?_; intro w hg; replace hs := hs.call0 hg; clear hg))
         all_goals ((refine dr_y rfl (fun w hs => yv_assign (kI rfl)) (by first | exact hs | exact hs.tail | exact hs.tail.tail | exact hs.tail.tail.tail) rfl rfl ?_; intro w hg; replace hs := hs.call0 hg; clear hg))
         all_goals (first | refine dr_nils [(2, _), (6, _), (8, _), (9, _)] ⟨sI rfl, sP rfl, sI rfl, sI rfl, trivial⟩ ?_ | refine dr_nil ?_))
      | (refine rn_reg 8 ?_
         all_goals (refine rg_y (yv_move (kI rfl)) rfl rfl ?_)
         all_goals (refine rg_y (yv_move (kI rfl)) rfl rfl ?_)
         all_goals ((refine rg_call0 (RDown_g _ _ _ (by omega) (by omega)) hs rfl rfl rfl ?_; clear hs; intro w hs))
         all_goals (refine rg_y (yv_move (kI rfl)) rfl rfl ?_)
         all_goals (refine rg_y (yv_move (kI rfl)) rfl rfl ?_)
         all_goals ((refine rg_call0 (RDown_g _ _ _ (by omega) (by omega)) hs rfl rfl rfl ?_; clear hs; intro w hs))
         all_goals (refine rg_y (yv_min rfl rfl) rfl rfl ?_)
         all_goals (refine rg_y (yv_move (kI rfl)) rfl rfl ?_)
         all_goals (refine rg_y (yv_move (kI rfl)) rfl rfl ?_)
         all_goals ((refine rg_call0 (RUp_g _ _ _ (by omega) (by omega)) hs rfl rfl rfl ?_; clear hs; intro w hs))
         all_goals (refine rg_y (yv_move (kI rfl)) rfl rfl ?_)
         all_goals (refine rg_y (yv_move (kI rfl)) rfl rfl ?_)
         all_goals ((refine rg_call0 (RUp_g _ _ _ (by omega) (by omega)) hs rfl rfl rfl ?_; clear hs; intro w hs))
         all_goals (refine rg_y (yv_max rfl rfl) rfl rfl ?_)
         all_goals ((refine rg_call0 (Rchecked_g _ _ _ (by omega)) hs rfl rfl rfl ?_; clear hs; intro w hs))
         all_goals (refine rg_y (yv_extract rfl (vA rfl)) rfl rfl ?_)
         all_goals (refine rg_y (yv_extract rfl (vI rfl)) rfl rfl ?_)
         all_goals (first | (refine rg_store 0 hs rfl rfl (kA rfl) (l2 rfl) rfl rfl rfl rfl ?_; clear hs; intro w hs; simp only [putCells, List.take_succ_cons, List.take_zero, List.take_nil, List.drop_succ_cons, List.drop_zero, List.drop_nil, List.cons_append, List.nil_append, List.append_nil, List.length_cons, List.length_nil, Nat.reduceAdd, Nat.add_zero, Nat.zero_add, List.set_cons_zero, List.set_cons_succ] at hs) | (refine rg_store 1 hs rfl rfl (kA rfl) (l2 rfl) rfl rfl rfl rfl ?_; clear hs; intro w hs; simp only [putCells, List.take_succ_cons, List.take_zero, List.take_nil, List.drop_succ_cons, List.drop_zero, List.drop_nil, List.cons_append, List.nil_append, List.append_nil, List.length_cons, List.length_nil, Nat.reduceAdd, Nat.add_zero, Nat.zero_add, List.set_cons_zero, List.set_cons_succ] at hs) | (refine rg_store 2 hs rfl rfl (kA rfl) (l2 rfl) rfl rfl rfl rfl ?_; clear hs; intro w hs; simp only [putCells, List.take_succ_cons, List.take_zero, List.take_nil, List.drop_succ_cons, List.drop_zero, List.drop_nil, List.cons_append, List.nil_append, List.append_nil, List.length_cons, List.length_nil, Nat.reduceAdd, Nat.add_zero, Nat.zero_add, List.set_cons_zero, List.set_cons_succ] at hs) | (refine rg_store 3 hs rfl rfl (kA rfl) (l2 rfl) rfl rfl rfl rfl ?_; clear hs; intro w hs; simp only [putCells, List.take_succ_cons, List.take_zero, List.take_nil, List.drop_succ_cons, List.drop_zero, List.drop_nil, List.cons_append, List.nil_append, List.append_nil, List.length_cons, List.length_nil, Nat.reduceAdd, Nat.add_zero, Nat.zero_add, List.set_cons_zero, List.set_cons_succ] at hs))
         all_goals (refine rg_y (yv_assign (kI rfl)) rfl rfl ?_)
         all_goals (first | refine rg_nils [(6, _), (7, _)] ⟨sP rfl, sI rfl, trivial⟩ ?_ | refine rg_nil ?_)))
    all_goals ((first | refine k_ret2 rfl (.cell rfl (ldBB (hs.blkL (i := 0) rfl) rfl)) (.tmp rfl) ⟨r3 ?_, hs.drop⟩ | refine k_ret2 rfl (.cell rfl (ldBB (hs.blkL (i := 1) rfl) rfl)) (.tmp rfl) ⟨r3 ?_, hs.drop⟩ | refine k_ret2 rfl (.cell rfl (ldBB (hs.blkL (i := 2) rfl) rfl)) (.tmp rfl) ⟨r3 ?_, hs.drop⟩ | refine k_ret2 rfl (.cell rfl (ldBB (hs.blkL (i := 3) rfl) rfl)) (.tmp rfl) ⟨r3 ?_, hs.drop⟩ | refine k_ret2 rfl (.cell rfl (ldBB (hs.blkL (i := 4) rfl) rfl)) (.tmp rfl) ⟨r3 ?_, hs.drop⟩ | refine k_ret2 rfl (.cell rfl (ldBB (hs.blkL (i := 5) rfl) rfl)) (.tmp rfl) ⟨r3 ?_, hs.drop⟩ | refine k_ret2 rfl (.cell rfl (ldBB (hs.blkL (i := 6) rfl) rfl)) (.tmp rfl) ⟨r3 ?_, hs.drop⟩ | refine k_ret2 rfl (.cell rfl (ldBB (hs.blkL (i := 7) rfl) rfl)) (.tmp rfl) ⟨r3 ?_, hs.drop⟩); unfold scaleM; rw [if_neg (by omega), if_neg (by omega), if_neg (by omega)])
    by_cases hn : num < 0 ∧ 0 ≤ den ∨ 0 ≤ num ∧ den < 0
    · rw [if_pos hn, hs1.1.1 hn, hs1.1.2 hn]
    · rw [if_neg hn, hs1.2.1.1 hn, hs1.2.1.2 hn]
  · (try unfold Gives); refine calls_enter Try.func47 rfl Try.ntmps47 rfl rfl ?_; have hs := St.refl w
    repeat' (first
      | refine rn_seq ?_
      | refine ks_n ?_
      | refine rn_cond_t rfl ?_
      | refine rn_cond_f rfl ?_
      | refine kb_n ?_
      | refine rn_block ?_
      | refine rn_skip ?_
      | refine rn_ret ?_
      | refine ks_r ?_
      | refine rn_exit ?_
      | refine ks_e ?_
      | refine kb_hit ?_
      | refine kb_miss rfl ?_
      | refine kb_r ?_
      | refine kl_e ?_
      | refine kl_r ?_
      | refine kr_n ?_
      | refine rnds_succ ?_
      | refine kr_e ?_
      | refine kr_r ?_
      | (refine rn_reg 0 ?_
         all_goals ((refine rg_box hs (kA rfl) (l2 rfl) rfl rfl ?_; clear hs; intro g w hs))
         all_goals ((refine rg_alloc hs (l2 rfl) rfl rfl ?_; clear hs; intro g w hs))
         all_goals (refine rg_y (yv_assign (kI rfl)) rfl rfl ?_)
         all_goals (first | refine rg_nils [(1, _), (2, _), (3, _), (6, _), (19, _), (20, _), (23, _), (24, _), (27, _), (28, _)] ⟨sI rfl, sI rfl, sP rfl, sP rfl, sI rfl, sB rfl, sI rfl, sB rfl, sI rfl, sB rfl, trivial⟩ ?_ | refine rg_nil ?_))
      | (refine rn_reg 1 ?_
         all_goals (first | refine rg_y (yv_load rfl (ldBB (k1 (hs.blkL (i := 0) rfl)) rfl)) rfl rfl ?_ | refine rg_y (yv_load rfl (ldBB (k1 (hs.blkL (i := 1) rfl)) rfl)) rfl rfl ?_ | refine rg_y (yv_load rfl (ldBB (k1 (hs.blkL (i := 2) rfl)) rfl)) rfl rfl ?_ | refine rg_y (yv_load rfl (ldBB (k1 (hs.blkL (i := 3) rfl)) rfl)) rfl rfl ?_ | refine rg_y (yv_load rfl (ldPB (k1 (hs.blkL (i := 0) rfl)) (l2 rfl) rfl)) rfl rfl ?_ | refine rg_y (yv_load rfl (ldPB (k1 (hs.blkL (i := 1) rfl)) (l2 rfl) rfl)) rfl rfl ?_ | refine rg_y (yv_load rfl (ldPB (k1 (hs.blkL (i := 2) rfl)) (l2 rfl) rfl)) rfl rfl ?_ | refine rg_y (yv_load rfl (ldPB (k1 (hs.blkL (i := 3) rfl)) (l2 rfl) rfl)) rfl rfl ?_)
         all_goals (first | (refine rg_callbt (RValid_g _ _ _) hs rfl (by omega) rfl rfl ?_; clear hs; intro w hs) | (refine rg_callbf (RValid_g _ _ _) hs rfl (by omega) rfl rfl ?_; clear hs; intro w hs) | (refine rg_callb (RValid_g _ _ _) hs rfl rfl rfl (fun hc => ?_) (fun hc => ?_) <;> (clear hs; intro w hs)))
         all_goals (refine rg_y (yv_not rfl) rfl rfl ?_)
         all_goals (refine rg_y (yv_assign (kB rfl)) rfl rfl ?_)
         all_goals (first | refine rg_nils [(1, _), (2, _), (3, _), (6, _), (10, _), (19, _), (20, _), (23, _), (24, _), (27, _), (28, _)] ⟨sI rfl, sI rfl, sP rfl, sP rfl, sB rfl, sI rfl, sB rfl, sI rfl, sB rfl, sI rfl, sB rfl, trivial⟩ ?_ | refine rg_nil ?_))
      | (refine rn_reg 2 ?_
         all_goals (refine rg_y (yv_build rfl (o2 rfl)) rfl rfl ?_)
         all_goals (first | (refine rg_store 0 hs rfl rfl (kA rfl) (l2 rfl) rfl rfl rfl rfl ?_; clear hs; intro w hs; simp only [putCells, List.take_succ_cons, List.take_zero, List.take_nil, List.drop_succ_cons, List.drop_zero, List.drop_nil, List.cons_append, List.nil_append, List.append_nil, List.length_cons, List.length_nil, Nat.reduceAdd, Nat.add_zero, Nat.zero_add, List.set_cons_zero, List.set_cons_succ] at hs) | (refine rg_store 1 hs rfl rfl (kA rfl) (l2 rfl) rfl rfl rfl rfl ?_; clear hs; intro w hs; simp only [putCells, List.take_succ_cons, List.take_zero, List.take_nil, List.drop_succ_cons, List.drop_zero, List.drop_nil, List.cons_append, List.nil_append, List.append_nil, List.length_cons, List.length_nil, Nat.reduceAdd, Nat.add_zero, Nat.zero_add, List.set_cons_zero, List.set_cons_succ] at hs) | (refine rg_store 2 hs rfl rfl (kA rfl) (l2 rfl) rfl rfl rfl rfl ?_; clear hs; intro w hs; simp only [putCells, List.take_succ_cons, List.take_zero, List.take_nil, List.drop_succ_cons, List.drop_zero, List.drop_nil, List.cons_append, List.nil_append, List.append_nil, List.length_cons, List.length_nil, Nat.reduceAdd, Nat.add_zero, Nat.zero_add, List.set_cons_zero, List.set_cons_succ] at hs) | (refine rg_store 3 hs rfl rfl (kA rfl) (l2 rfl) rfl rfl rfl rfl ?_; clear hs; intro w hs; simp only [putCells, List.take_succ_cons, List.take_zero, List.take_nil, List.drop_succ_cons, List.drop_zero, List.drop_nil, List.cons_append, List.nil_append, List.append_nil, List.length_cons, List.length_nil, Nat.reduceAdd, Nat.add_zero, Nat.zero_add, List.set_cons_zero, List.set_cons_succ] at hs))
         all_goals (refine rg_y (yv_assign (kI rfl)) rfl rfl ?_)
         all_goals (first | refine rg_nils [(6, _), (7, _)] ⟨sP rfl, sI rfl, trivial⟩ ?_ | refine rg_nil ?_))
      | (refine rn_reg 3 ?_
         all_goals (refine rg_y (yv_move (kI rfl)) rfl rfl ?_)
         all_goals (first | refine rg_bt (yv_lss rfl rfl) (by omega) rfl rfl ?_ | refine rg_bf (yv_lss rfl rfl) (by omega) rfl rfl ?_ | refine rg_b (yv_lss rfl rfl) rfl rfl (fun hc => ?_) (fun hc => ?_))
         all_goals (refine rg_y (yv_move (kB rfl)) rfl rfl ?_)
         all_goals (first | refine rg_skip rfl rfl ?_ | refine rg_y (yv_move (kI rfl)) rfl rfl ?_)
         all_goals (first | refine rg_skip rfl rfl ?_ | (first | refine rg_bt (yv_gtr rfl rfl) (by omega) rfl rfl ?_ | refine rg_bf (yv_gtr rfl rfl) (by omega) rfl rfl ?_ | refine rg_b (yv_gtr rfl rfl) rfl rfl (fun hc => ?_) (fun hc => ?_)))
         all_goals (first | refine rg_y (yv_pick_t rfl (kB rfl)) rfl rfl ?_ | refine rg_y (yv_pick_f rfl (kB rfl)) rfl rfl ?_)
         all_goals (refine rg_y (yv_move (kB rfl)) rfl rfl ?_)
         all_goals (first | refine rg_skip rfl rfl ?_ | refine rg_y (yv_move (kI rfl)) rfl rfl ?_)
         all_goals (first | refine rg_skip rfl rfl ?_ | (first | refine rg_bt (yv_lss rfl rfl) (by omega) rfl rfl ?_ | refine rg_bf (yv_lss rfl rfl) (by omega) rfl rfl ?_ | refine rg_b (yv_lss rfl rfl) rfl rfl (fun hc => ?_) (fun hc => ?_)))
         all_goals (first | refine rg_y (yv_pick_t rfl (kB rfl)) rfl rfl ?_ | refine rg_y (yv_pick_f rfl (kB rfl)) rfl rfl ?_)
         all_goals (refine rg_y (yv_move (kB rfl)) rfl rfl ?_)
         all_goals (first | refine rg_skip rfl rfl ?_ | refine rg_y (yv_move (kI rfl)) rfl rfl ?_)
         all_goals (first | refine rg_skip rfl rfl ?_ | (first | refine rg_bt (yv_gtr rfl rfl) (by omega) rfl rfl ?_ | refine rg_bf (yv_gtr rfl rfl) (by omega) rfl rfl ?_ | refine rg_b (yv_gtr rfl rfl) rfl rfl (fun hc => ?_) (fun hc => ?_)))
         all_goals (first | refine rg_y (yv_pick_t rfl (kB rfl)) rfl rfl ?_ | refine rg_y (yv_pick_f rfl (kB rfl)) rfl rfl ?_)
         all_goals (refine rg_y (yv_assign (kB rfl)) rfl rfl ?_)
         all_goals (first | refine rg_nils [(1, _), (2, _), (3, _), (6, _), (15, _)] ⟨sI rfl, sI rfl, sP rfl, sP rfl, sB rfl, trivial⟩ ?_ | refine rg_nil ?_))
      | (refine rn_reg 4 ?_
         all_goals (refine rg_y (yv_build rfl (o2 rfl)) rfl rfl ?_)
         all_goals (first | (refine rg_store 0 hs rfl rfl (kA rfl) (l2 rfl) rfl rfl rfl rfl ?_; clear hs; intro w hs; simp only [putCells, List.take_succ_cons, List.take_zero, List.take_nil, List.drop_succ_cons, List.drop_zero, List.drop_nil, List.cons_append, List.nil_append, List.append_nil, List.length_cons, List.length_nil, Nat.reduceAdd, Nat.add_zero, Nat.zero_add, List.set_cons_zero, List.set_cons_succ] at hs) | (refine rg_store 1 hs rfl rfl (kA rfl) (l2 rfl) rfl rfl rfl rfl ?_; clear hs; intro w hs; simp only [putCells, List.take_succ_cons, List.take_zero, List.take_nil, List.drop_succ_cons, List.drop_zero, List.drop_nil, List.cons_append, List.nil_append, List.append_nil, List.length_cons, List.length_nil, Nat.reduceAdd, Nat.add_zero, Nat.zero_add, List.set_cons_zero, List.set_cons_succ] at hs) | (refine rg_store 2 hs rfl rfl (kA rfl) (l2 rfl) rfl rfl rfl rfl ?_; clear hs; intro w hs; simp only [putCells, List.take_succ_cons, List.take_zero, List.take_nil, List.drop_succ_cons, List.drop_zero, List.drop_nil, List.cons_append, List.nil_append, List.append_nil, List.length_cons, List.length_nil, Nat.reduceAdd, Nat.add_zero, Nat.zero_add, List.set_cons_zero, List.set_cons_succ] at hs) | (refine rg_store 3 hs rfl rfl (kA rfl) (l2 rfl) rfl rfl rfl rfl ?_; clear hs; intro w hs; simp only [putCells, List.take_succ_cons, List.take_zero, List.take_nil, List.drop_succ_cons, List.drop_zero, List.drop_nil, List.cons_append, List.nil_append, List.append_nil, List.length_cons, List.length_nil, Nat.reduceAdd, Nat.add_zero, Nat.zero_add, List.set_cons_zero, List.set_cons_succ] at hs))
         all_goals (refine rg_y (yv_assign (kI rfl)) rfl rfl ?_)
         all_goals (first | refine rg_nils [(6, _), (7, _)] ⟨sP rfl, sI rfl, trivial⟩ ?_ | refine rg_nil ?_))
      | (refine rn_reg 5 ?_
         all_goals (refine rg_y (yv_move (kI rfl)) rfl rfl ?_)
         all_goals (first | refine rg_bt (yv_eql rfl rfl) (by omega) rfl rfl ?_ | refine rg_bf (yv_eql rfl rfl) (by omega) rfl rfl ?_ | refine rg_b (yv_eql rfl rfl) rfl rfl (fun hc => ?_) (fun hc => ?_))
         all_goals (refine rg_y (yv_assign (kB rfl)) rfl rfl ?_)
         all_goals (first | refine rg_nils [(1, _), (2, _), (3, _), (6, _), (31, _)] ⟨sI rfl, sI rfl, sP rfl, sP rfl, sB rfl, trivial⟩ ?_ | refine rg_nil ?_))
      | (refine rn_reg 6 ?_
         all_goals (refine rg_y (yv_build rfl (o2 rfl)) rfl rfl ?_)
         all_goals (first | (refine rg_store 0 hs rfl rfl (kA rfl) (l2 rfl) rfl rfl rfl rfl ?_; clear hs; intro w hs; simp only [putCells, List.take_succ_cons, List.take_zero, List.take_nil, List.drop_succ_cons, List.drop_zero, List.drop_nil, List.cons_append, List.nil_append, List.append_nil, List.length_cons, List.length_nil, Nat.reduceAdd, Nat.add_zero, Nat.zero_add, List.set_cons_zero, List.set_cons_succ] at hs) | (refine rg_store 1 hs rfl rfl (kA rfl) (l2 rfl) rfl rfl rfl rfl ?_; clear hs; intro w hs; simp only [putCells, List.take_succ_cons, List.take_zero, List.take_nil, List.drop_succ_cons, List.drop_zero, List.drop_nil, List.cons_append, List.nil_append, List.append_nil, List.length_cons, List.length_nil, Nat.reduceAdd, Nat.add_zero, Nat.zero_add, List.set_cons_zero, List.set_cons_succ] at hs) | (refine rg_store 2 hs rfl rfl (kA rfl) (l2 rfl) rfl rfl rfl rfl ?_; clear hs; intro w hs; simp only [putCells, List.take_succ_cons, List.take_zero, List.take_nil, List.drop_succ_cons, List.drop_zero, List.drop_nil, List.cons_append, List.nil_append, List.append_nil, List.length_cons, List.length_nil, Nat.reduceAdd, Nat.add_zero, Nat.zero_add, List.set_cons_zero, List.set_cons_succ] at hs) | (refine rg_store 3 hs rfl rfl (kA rfl) (l2 rfl) rfl rfl rfl rfl ?_; clear hs; intro w hs; simp only [putCells, List.take_succ_cons, List.take_zero, List.take_nil, List.drop_succ_cons, List.drop_zero, List.drop_nil, List.cons_append, List.nil_append, List.append_nil, List.length_cons, List.length_nil, Nat.reduceAdd, Nat.add_zero, Nat.zero_add, List.set_cons_zero, List.set_cons_succ] at hs))
         all_goals (refine rg_y (yv_assign (kI rfl)) rfl rfl ?_)
         all_goals (first | refine rg_nils [(6, _), (7, _)] ⟨sP rfl, sI rfl, trivial⟩ ?_ | refine rg_nil ?_))
      | exfalso; omega
      | (refine rn_reg 8 ?_
         all_goals (refine rg_y (yv_move (kI rfl)) rfl rfl ?_)
         all_goals (refine rg_y (yv_move (kI rfl)) rfl rfl ?_)
         all_goals (fail)
         all_goals (refine rg_y (yv_move (kI rfl)) rfl rfl ?_)
         all_goals (refine rg_y (yv_move (kI rfl)) rfl rfl ?_)
         all_goals (fail)
         all_goals (refine rg_y (yv_min rfl rfl) rfl rfl ?_)
         all_goals (refine rg_y (yv_move (kI rfl)) rfl rfl ?_)
         all_goals (refine rg_y (yv_move (kI rfl)) rfl rfl ?_)
         all_goals (fail)
         all_goals (refine rg_y (yv_move (kI rfl)) rfl rfl ?_)
         all_goals (refine rg_y (yv_move (kI rfl)) rfl rfl ?_)
         all_goals (fail)
         all_goals (refine rg_y (yv_max rfl rfl) rfl rfl ?_)
         all_goals (fail)
         all_goals (refine rg_y (yv_extract rfl (vA rfl)) rfl rfl ?_)
         all_goals (refine rg_y (yv_extract rfl (vI rfl)) rfl rfl ?_)
         all_goals (first | (refine rg_store 0 hs rfl rfl (kA rfl) (l2 rfl) rfl rfl rfl rfl ?_; clear hs; intro w hs; simp only [putCells, List.take_succ_cons, List.take_zero, List.take_nil, List.drop_succ_cons, List.drop_zero, List.drop_nil, List.cons_append, List.nil_append, List.append_nil, List.length_cons, List.length_nil, Nat.reduceAdd, Nat.add_zero, Nat.zero_add, List.set_cons_zero, List.set_cons_succ] at hs) | (refine rg_store 1 hs rfl rfl (kA rfl) (l2 rfl) rfl rfl rfl rfl ?_; clear hs; intro w hs; simp only [putCells, List.take_succ_cons, List.take_zero, List.take_nil, List.drop_succ_cons, List.drop_zero, List.drop_nil, List.cons_append, List.nil_append, List.append_nil, List.length_cons, List.length_nil, Nat.reduceAdd, Nat.add_zero, Nat.zero_add, List.set_cons_zero, List.set_cons_succ] at hs) | (refine rg_store 2 hs rfl rfl (kA rfl) (l2 rfl) rfl rfl rfl rfl ?_; clear hs; intro w hs; simp only [putCells, List.take_succ_cons, List.take_zero, List.take_nil, List.drop_succ_cons, List.drop_zero, List.drop_nil, List.cons_append, List.nil_append, List.append_nil, List.length_cons, List.length_nil, Nat.reduceAdd, Nat.add_zero, Nat.zero_add, List.set_cons_zero, List.set_cons_succ] at hs) | (refine rg_store 3 hs rfl rfl (kA rfl) (l2 rfl) rfl rfl rfl rfl ?_; clear hs; intro w hs; simp only [putCells, List.take_succ_cons, List.take_zero, List.take_nil, List.drop_succ_cons, List.drop_zero, List.drop_nil, List.cons_append, List.nil_append, List.append_nil, List.length_cons, List.length_nil, Nat.reduceAdd, Nat.add_zero, Nat.zero_add, List.set_cons_zero, List.set_cons_succ] at hs))
         all_goals (refine rg_y (yv_assign (kI rfl)) rfl rfl ?_)
         all_goals (first | refine rg_nils [(6, _), (7, _)] ⟨sP rfl, sI rfl, trivial⟩ ?_ | refine rg_nil ?_)))
    all_goals ((first | refine k_ret2 rfl (.cell rfl (ldBB (hs.blkL (i := 0) rfl) rfl)) (.tmp rfl) ⟨r3 ?_, hs.drop⟩ | refine k_ret2 rfl (.cell rfl (ldBB (hs.blkL (i := 1) rfl) rfl)) (.tmp rfl) ⟨r3 ?_, hs.drop⟩ | refine k_ret2 rfl (.cell rfl (ldBB (hs.blkL (i := 2) rfl) rfl)) (.tmp rfl) ⟨r3 ?_, hs.drop⟩ | refine k_ret2 rfl (.cell rfl (ldBB (hs.blkL (i := 3) rfl) rfl)) (.tmp rfl) ⟨r3 ?_, hs.drop⟩ | refine k_ret2 rfl (.cell rfl (ldBB (hs.blkL (i := 4) rfl) rfl)) (.tmp rfl) ⟨r3 ?_, hs.drop⟩ | refine k_ret2 rfl (.cell rfl (ldBB (hs.blkL (i := 5) rfl) rfl)) (.tmp rfl) ⟨r3 ?_, hs.drop⟩ | refine k_ret2 rfl (.cell rfl (ldBB (hs.blkL (i := 6) rfl) rfl)) (.tmp rfl) ⟨r3 ?_, hs.drop⟩ | refine k_ret2 rfl (.cell rfl (ldBB (hs.blkL (i := 7) rfl) rfl)) (.tmp rfl) ⟨r3 ?_, hs.drop⟩); unfold scaleM)
    all_goals first | (rw [if_pos (by omega)]; done) | rw [if_neg (by omega)]
    all_goals first | (rw [if_pos (by omega)]; done) | rw [if_neg (by omega)]
    all_goals first | (rw [if_pos (by omega)]; done) | rw [if_neg (by omega)]
theorem RMul_g (a b c d : Int) (w : World) : Gives Try.prog 46 [ivv a b, ivv c d] w (tv3 (mulM a b c d)) := by
  by_cases hv : Ivd a b ∧ Ivd c d
  · have ga := fun w => Rsize_g a w (by omega)
    have gb := fun w => Rsize_g b w (by omega)
    have gc := fun w => Rsize_g c w (by omega)
    have gd := fun w => Rsize_g d w (by omega)
    have f1 := mul_test a c
    have f2 := mul_test a d
    have f3 := mul_test b c
    have f4 := mul_test b d
    generalize hxa : (if a < 0 then -a else a) = xa at *
    generalize hxb : (if b < 0 then -b else b) = xb at *
    generalize hxc : (if c < 0 then -c else c) = xc at *
    generalize hxd : (if d < 0 then -d else d) = xd at *
    have hpc : c ≠ 0 → 1 ≤ xc := by rw [← hxc]; split <;> omega
    have hpd : d ≠ 0 → 1 ≤ xd := by rw [← hxd]; split <;> omega
    clear hxa hxb hxc hxd
    (try unfold Gives); refine calls_enter Try.func46 rfl Try.ntmps46 rfl rfl ?_; have hs := St.refl w
    repeat' (first
      | refine rn_rounds 3 ?_
      | refine rn_seq ?_
      | refine ks_n ?_
      | refine rn_cond_t rfl ?_
      | refine rn_cond_f rfl ?_
      | refine kb_n ?_
      | refine rn_block ?_
      | refine rn_skip ?_
      | refine rn_ret ?_
      | refine ks_r ?_
      | refine rn_exit ?_
      | refine ks_e ?_
      | refine kb_hit ?_
      | refine kb_miss rfl ?_
      | refine kb_r ?_
      | refine kl_e ?_
      | refine kl_r ?_
      | refine kr_n ?_
      | refine rnds_succ ?_
      | refine kr_e ?_
      | refine kr_r ?_
      | (refine rn_reg 0 ?_
         all_goals ((refine rg_box hs (kA rfl) (l2 rfl) rfl rfl ?_; clear hs; intro g w hs))
         all_goals ((refine rg_box hs (kA rfl) (l2 rfl) rfl rfl ?_; clear hs; intro g w hs))
         all_goals ((refine rg_alloc hs (l2 rfl) rfl rfl ?_; clear hs; intro g w hs))
         all_goals (refine rg_y (yv_assign (kI rfl)) rfl rfl ?_)
         all_goals (first | refine rg_nils [(2, _), (3, _), (4, _), (16, _), (17, _), (18, _), (44, _), (45, _), (46, _), (47, _), (48, _), (49, _)] ⟨sP rfl, sP rfl, sP rfl, sA rfl, sB rfl, sB rfl, sI rfl, sI rfl, sI rfl, sI rfl, sI rfl, sB rfl, trivial⟩ ?_ | refine rg_nil ?_))
      | (refine rn_reg 1 ?_
         all_goals (first | refine rg_y (yv_load rfl (ldBB (k1 (hs.blkL (i := 0) rfl)) rfl)) rfl rfl ?_ | refine rg_y (yv_load rfl (ldBB (k1 (hs.blkL (i := 1) rfl)) rfl)) rfl rfl ?_ | refine rg_y (yv_load rfl (ldBB (k1 (hs.blkL (i := 2) rfl)) rfl)) rfl rfl ?_ | refine rg_y (yv_load rfl (ldBB (k1 (hs.blkL (i := 3) rfl)) rfl)) rfl rfl ?_ | refine rg_y (yv_load rfl (ldBB (k1 (hs.blkL (i := 4) rfl)) rfl)) rfl rfl ?_ | refine rg_y (yv_load rfl (ldBB (k1 (hs.blkL (i := 5) rfl)) rfl)) rfl rfl ?_ | refine rg_y (yv_load rfl (ldPB (k1 (hs.blkL (i := 0) rfl)) (l2 rfl) rfl)) rfl rfl ?_ | refine rg_y (yv_load rfl (ldPB (k1 (hs.blkL (i := 1) rfl)) (l2 rfl) rfl)) rfl rfl ?_ | refine rg_y (yv_load rfl (ldPB (k1 (hs.blkL (i := 2) rfl)) (l2 rfl) rfl)) rfl rfl ?_ | refine rg_y (yv_load rfl (ldPB (k1 (hs.blkL (i := 3) rfl)) (l2 rfl) rfl)) rfl rfl ?_ | refine rg_y (yv_load rfl (ldPB (k1 (hs.blkL (i := 4) rfl)) (l2 rfl) rfl)) rfl rfl ?_ | refine rg_y (yv_load rfl (ldPB (k1 (hs.blkL (i := 5) rfl)) (l2 rfl) rfl)) rfl rfl ?_)
         all_goals (first | (refine rg_callbt (RValid_g _ _ _) hs rfl (by omega) rfl rfl ?_; clear hs; intro w hs) | (refine rg_callbf (RValid_g _ _ _) hs rfl (by omega) rfl rfl ?_; clear hs; intro w hs) | (refine rg_callb (RValid_g _ _ _) hs rfl rfl rfl (fun hc => ?_) (fun hc => ?_) <;> (clear hs; intro w hs)))
         all_goals (refine rg_y (yv_not rfl) rfl rfl ?_)
         all_goals (refine rg_y (yv_move (kB rfl)) rfl rfl ?_)
         all_goals (first | refine rg_skip rfl rfl ?_ | (first | refine rg_y (yv_load rfl (ldBB (k1 (hs.blkL (i := 0) rfl)) rfl)) rfl rfl ?_ | refine rg_y (yv_load rfl (ldBB (k1 (hs.blkL (i := 1) rfl)) rfl)) rfl rfl ?_ | refine rg_y (yv_load rfl (ldBB (k1 (hs.blkL (i := 2) rfl)) rfl)) rfl rfl ?_ | refine rg_y (yv_load rfl (ldBB (k1 (hs.blkL (i := 3) rfl)) rfl)) rfl rfl ?_ | refine rg_y (yv_load rfl (ldBB (k1 (hs.blkL (i := 4) rfl)) rfl)) rfl rfl ?_ | refine rg_y (yv_load rfl (ldBB (k1 (hs.blkL (i := 5) rfl)) rfl)) rfl rfl ?_ | refine rg_y (yv_load rfl (ldPB (k1 (hs.blkL (i := 0) rfl)) (l2 rfl) rfl)) rfl rfl ?_ | refine rg_y (yv_load rfl (ldPB (k1 (hs.blkL (i := 1) rfl)) (l2 rfl) rfl)) rfl rfl ?_ | refine rg_y (yv_load rfl (ldPB (k1 (hs.blkL (i := 2) rfl)) (l2 rfl) rfl)) rfl rfl ?_ | refine rg_y (yv_load rfl (ldPB (k1 (hs.blkL (i := 3) rfl)) (l2 rfl) rfl)) rfl rfl ?_ | refine rg_y (yv_load rfl (ldPB (k1 (hs.blkL (i := 4) rfl)) (l2 rfl) rfl)) rfl rfl ?_ | refine rg_y (yv_load rfl (ldPB (k1 (hs.blkL (i := 5) rfl)) (l2 rfl) rfl)) rfl rfl ?_))
         all_goals (first | refine rg_skip rfl rfl ?_ | (first | (refine rg_callbt (RValid_g _ _ _) hs rfl (by omega) rfl rfl ?_; clear hs; intro w hs) | (refine rg_callbf (RValid_g _ _ _) hs rfl (by omega) rfl rfl ?_; clear hs; intro w hs) | (refine rg_callb (RValid_g _ _ _) hs rfl rfl rfl (fun hc => ?_) (fun hc => ?_) <;> (clear hs; intro w hs))))
         all_goals (first | refine rg_skip rfl rfl ?_ | refine rg_y (yv_not rfl) rfl rfl ?_)
         all_goals (first | refine rg_y (yv_pick_t rfl (kB rfl)) rfl rfl ?_ | refine rg_y (yv_pick_f rfl (kB rfl)) rfl rfl ?_)
         all_goals (first | refine rg_nils [(2, _), (3, _), (4, _), (19, _), (44, _), (45, _), (46, _), (47, _), (48, _), (49, _)] ⟨sP rfl, sP rfl, sP rfl, sB rfl, sI rfl, sI rfl, sI rfl, sI rfl, sI rfl, sB rfl, trivial⟩ ?_ | refine rg_nil ?_))
      | (refine rn_reg 2 ?_
         all_goals (refine rg_y (yv_build rfl (o2 rfl)) rfl rfl ?_)
         all_goals (first | (refine rg_store 0 hs rfl rfl (kA rfl) (l2 rfl) rfl rfl rfl rfl ?_; clear hs; intro w hs; simp only [putCells, List.take_succ_cons, List.take_zero, List.take_nil, List.drop_succ_cons, List.drop_zero, List.drop_nil, List.cons_append, List.nil_append, List.append_nil, List.length_cons, List.length_nil, Nat.reduceAdd, Nat.add_zero, Nat.zero_add, List.set_cons_zero, List.set_cons_succ] at hs) | (refine rg_store 1 hs rfl rfl (kA rfl) (l2 rfl) rfl rfl rfl rfl ?_; clear hs; intro w hs; simp only [putCells, List.take_succ_cons, List.take_zero, List.take_nil, List.drop_succ_cons, List.drop_zero, List.drop_nil, List.cons_append, List.nil_append, List.append_nil, List.length_cons, List.length_nil, Nat.reduceAdd, Nat.add_zero, Nat.zero_add, List.set_cons_zero, List.set_cons_succ] at hs) | (refine rg_store 2 hs rfl rfl (kA rfl) (l2 rfl) rfl rfl rfl rfl ?_; clear hs; intro w hs; simp only [putCells, List.take_succ_cons, List.take_zero, List.take_nil, List.drop_succ_cons, List.drop_zero, List.drop_nil, List.cons_append, List.nil_append, List.append_nil, List.length_cons, List.length_nil, Nat.reduceAdd, Nat.add_zero, Nat.zero_add, List.set_cons_zero, List.set_cons_succ] at hs) | (refine rg_store 3 hs rfl rfl (kA rfl) (l2 rfl) rfl rfl rfl rfl ?_; clear hs; intro w hs; simp only [putCells, List.take_succ_cons, List.take_zero, List.take_nil, List.drop_succ_cons, List.drop_zero, List.drop_nil, List.cons_append, List.nil_append, List.append_nil, List.length_cons, List.length_nil, Nat.reduceAdd, Nat.add_zero, Nat.zero_add, List.set_cons_zero, List.set_cons_succ] at hs) | (refine rg_store 4 hs rfl rfl (kA rfl) (l2 rfl) rfl rfl rfl rfl ?_; clear hs; intro w hs; simp only [putCells, List.take_succ_cons, List.take_zero, List.take_nil, List.drop_succ_cons, List.drop_zero, List.drop_nil, List.cons_append, List.nil_append, List.append_nil, List.length_cons, List.length_nil, Nat.reduceAdd, Nat.add_zero, Nat.zero_add, List.set_cons_zero, List.set_cons_succ] at hs) | (refine rg_store 5 hs rfl rfl (kA rfl) (l2 rfl) rfl rfl rfl rfl ?_; clear hs; intro w hs; simp only [putCells, List.take_succ_cons, List.take_zero, List.take_nil, List.drop_succ_cons, List.drop_zero, List.drop_nil, List.cons_append, List.nil_append, List.append_nil, List.length_cons, List.length_nil, Nat.reduceAdd, Nat.add_zero, Nat.zero_add, List.set_cons_zero, List.set_cons_succ] at hs))
         all_goals (refine rg_y (yv_assign (kI rfl)) rfl rfl ?_)
         all_goals (first | refine rg_nils [(4, _), (5, _)] ⟨sP rfl, sI rfl, trivial⟩ ?_ | refine rg_nil ?_))
      | (refine rn_reg 3 ?_
         all_goals (refine rg_y (yv_assign (kI rfl)) rfl rfl ?_)
         all_goals (refine rg_y (yv_assign (kI rfl)) rfl rfl ?_)
         all_goals (first | refine rg_nils [(2, _), (3, _), (4, _), (6, _), (7, _), (44, _), (45, _), (46, _), (47, _), (48, _), (49, _)] ⟨sP rfl, sP rfl, sP rfl, sI rfl, sI rfl, sI rfl, sI rfl, sI rfl, sI rfl, sI rfl, sB rfl, trivial⟩ ?_ | refine rg_nil ?_))
      | (refine rn_reg 4 ?_
         all_goals (refine rg_y (yv_fieldAddr rfl) rfl rfl ?_)
         all_goals (first | refine rg_y (yv_load rfl (ld1B (k1 (hs.blkL (i := 0) rfl)) (vI rfl))) rfl rfl ?_ | refine rg_y (yv_load rfl (ld1B (k1 (hs.blkL (i := 1) rfl)) (vI rfl))) rfl rfl ?_ | refine rg_y (yv_load rfl (ld1B (k1 (hs.blkL (i := 2) rfl)) (vI rfl))) rfl rfl ?_ | refine rg_y (yv_load rfl (ld1B (k1 (hs.blkL (i := 3) rfl)) (vI rfl))) rfl rfl ?_ | refine rg_y (yv_load rfl (ld1B (k1 (hs.blkL (i := 4) rfl)) (vI rfl))) rfl rfl ?_ | refine rg_y (yv_load rfl (ld1B (k1 (hs.blkL (i := 5) rfl)) (vI rfl))) rfl rfl ?_)
         all_goals (refine rg_y (yv_fieldAddr rfl) rfl rfl ?_)
         all_goals (first | refine rg_y (yv_load rfl (ld1B (k1 (hs.blkL (i := 0) rfl)) (vI rfl))) rfl rfl ?_ | refine rg_y (yv_load rfl (ld1B (k1 (hs.blkL (i := 1) rfl)) (vI rfl))) rfl rfl ?_ | refine rg_y (yv_load rfl (ld1B (k1 (hs.blkL (i := 2) rfl)) (vI rfl))) rfl rfl ?_ | refine rg_y (yv_load rfl (ld1B (k1 (hs.blkL (i := 3) rfl)) (vI rfl))) rfl rfl ?_ | refine rg_y (yv_load rfl (ld1B (k1 (hs.blkL (i := 4) rfl)) (vI rfl))) rfl rfl ?_ | refine rg_y (yv_load rfl (ld1B (k1 (hs.blkL (i := 5) rfl)) (vI rfl))) rfl rfl ?_)
         all_goals ((refine rg_buildSlice hs rfl (o2 rfl) rfl rfl rfl rfl rfl ?_; clear hs; intro g w hs))
         all_goals (refine rg_y (yv_len rfl) rfl rfl ?_)
         all_goals (refine rg_y (yv_move (kI rfl)) rfl rfl ?_)
         all_goals (first | refine rg_nils [(3, _), (4, _), (6, _), (7, _), (25, _), (26, _), (27, _), (44, _), (45, _), (46, _), (47, _), (48, _), (49, _)] ⟨sP rfl, sP rfl, sI rfl, sI rfl, sS rfl, sI rfl, sI rfl, sI rfl, sI rfl, sI rfl, sI rfl, sI rfl, sB rfl, trivial⟩ ?_ | refine rg_nil ?_))
      | (refine rn_reg 5 ?_
         all_goals (first | refine rg_bt (yv_lss rfl rfl) (by omega) rfl rfl ?_ | refine rg_bf (yv_lss rfl rfl) (by omega) rfl rfl ?_ | refine rg_b (yv_lss rfl rfl) rfl rfl (fun hc => ?_) (fun hc => ?_))
         all_goals (first | refine rg_nils [(3, _), (4, _), (6, _), (7, _), (25, _), (26, _), (27, _), (28, _), (44, _), (45, _), (46, _), (47, _), (48, _), (49, _)] ⟨sP rfl, sP rfl, sI rfl, sI rfl, sS rfl, sI rfl, sI rfl, sT rfl, sI rfl, sI rfl, sI rfl, sI rfl, sI rfl, sB rfl, trivial⟩ ?_ | refine rg_nil ?_))
      | (refine rn_reg 6 ?_
         all_goals (first | refine rg_y (yv_indexAddr rfl rfl hr (by first | rfl | omega) (by omega) (by omega)) rfl rfl ?_ | refine rg_y (yv_indexAddr_blk rfl rfl (by omega)) rfl rfl ?_)
         all_goals (first | refine rg_y (yv_load_ep1 rfl hr (by first | assumption | exact hl) (vI rfl)) rfl rfl ?_ | refine rg_y (yv_load rfl (ld1B (k1 (hs.blkL (i := 0) rfl)) (vI rfl))) rfl rfl ?_ | refine rg_y (yv_load rfl (ld1B (k1 (hs.blkL (i := 1) rfl)) (vI rfl))) rfl rfl ?_ | refine rg_y (yv_load rfl (ld1B (k1 (hs.blkL (i := 2) rfl)) (vI rfl))) rfl rfl ?_ | refine rg_y (yv_load rfl (ld1B (k1 (hs.blkL (i := 3) rfl)) (vI rfl))) rfl rfl ?_ | refine rg_y (yv_load rfl (ld1B (k1 (hs.blkL (i := 4) rfl)) (vI rfl))) rfl rfl ?_ | refine rg_y (yv_load rfl (ld1B (k1 (hs.blkL (i := 5) rfl)) (vI rfl))) rfl rfl ?_)
         all_goals (refine rg_y (yv_assign (kI rfl)) rfl rfl ?_)
         all_goals (first | refine rg_nils [(3, _), (4, _), (6, _), (7, _), (9, _), (25, _), (26, _), (27, _), (44, _), (45, _), (46, _), (47, _), (48, _), (49, _)] ⟨sP rfl, sP rfl, sI rfl, sI rfl, sI rfl, sS rfl, sI rfl, sI rfl, sI rfl, sI rfl, sI rfl, sI rfl, sI rfl, sB rfl, trivial⟩ ?_ | refine rg_nil ?_))
      | (refine rn_reg 7 ?_
         all_goals (refine rg_y (yv_fieldAddr rfl) rfl rfl ?_)
         all_goals (first | refine rg_y (yv_load rfl (ld1B (k1 (hs.blkL (i := 0) rfl)) (vI rfl))) rfl rfl ?_ | refine rg_y (yv_load rfl (ld1B (k1 (hs.blkL (i := 1) rfl)) (vI rfl))) rfl rfl ?_ | refine rg_y (yv_load rfl (ld1B (k1 (hs.blkL (i := 2) rfl)) (vI rfl))) rfl rfl ?_ | refine rg_y (yv_load rfl (ld1B (k1 (hs.blkL (i := 3) rfl)) (vI rfl))) rfl rfl ?_ | refine rg_y (yv_load rfl (ld1B (k1 (hs.blkL (i := 4) rfl)) (vI rfl))) rfl rfl ?_ | refine rg_y (yv_load rfl (ld1B (k1 (hs.blkL (i := 5) rfl)) (vI rfl))) rfl rfl ?_)
         all_goals (refine rg_y (yv_fieldAddr rfl) rfl rfl ?_)
         all_goals (first | refine rg_y (yv_load rfl (ld1B (k1 (hs.blkL (i := 0) rfl)) (vI rfl))) rfl rfl ?_ | refine rg_y (yv_load rfl (ld1B (k1 (hs.blkL (i := 1) rfl)) (vI rfl))) rfl rfl ?_ | refine rg_y (yv_load rfl (ld1B (k1 (hs.blkL (i := 2) rfl)) (vI rfl))) rfl rfl ?_ | refine rg_y (yv_load rfl (ld1B (k1 (hs.blkL (i := 3) rfl)) (vI rfl))) rfl rfl ?_ | refine rg_y (yv_load rfl (ld1B (k1 (hs.blkL (i := 4) rfl)) (vI rfl))) rfl rfl ?_ | refine rg_y (yv_load rfl (ld1B (k1 (hs.blkL (i := 5) rfl)) (vI rfl))) rfl rfl ?_)
         all_goals ((refine rg_buildSlice hs rfl (o2 rfl) rfl rfl rfl rfl rfl ?_; clear hs; intro g w hs))
         all_goals (refine rg_y (yv_len rfl) rfl rfl ?_)
         all_goals (refine rg_y (yv_move (kI rfl)) rfl rfl ?_)
         all_goals (first | refine rg_nils [(3, _), (4, _), (6, _), (7, _), (9, _), (25, _), (26, _), (27, _), (35, _), (36, _), (37, _), (44, _), (45, _), (46, _), (47, _), (48, _), (49, _)] ⟨sP rfl, sP rfl, sI rfl, sI rfl, sI rfl, sS rfl, sI rfl, sI rfl, sS rfl, sI rfl, sI rfl, sI rfl, sI rfl, sI rfl, sI rfl, sI rfl, sB rfl, trivial⟩ ?_ | refine rg_nil ?_))
      | (refine rn_reg 8 ?_
         all_goals (first | refine rg_bt (yv_lss rfl rfl) (by omega) rfl rfl ?_ | refine rg_bf (yv_lss rfl rfl) (by omega) rfl rfl ?_ | refine rg_b (yv_lss rfl rfl) rfl rfl (fun hc => ?_) (fun hc => ?_))
         all_goals (first | refine rg_nils [(3, _), (4, _), (6, _), (7, _), (9, _), (25, _), (26, _), (27, _), (35, _), (36, _), (37, _), (38, _), (44, _), (45, _), (46, _), (47, _), (48, _), (49, _)] ⟨sP rfl, sP rfl, sI rfl, sI rfl, sI rfl, sS rfl, sI rfl, sI rfl, sS rfl, sI rfl, sI rfl, sT rfl, sI rfl, sI rfl, sI rfl, sI rfl, sI rfl, sB rfl, trivial⟩ ?_ | refine rg_nil ?_))
      | (refine rn_reg 9 ?_
         all_goals (first | refine rg_y (yv_indexAddr rfl rfl hr (by first | rfl | omega) (by omega) (by omega)) rfl rfl ?_ | refine rg_y (yv_indexAddr_blk rfl rfl (by omega)) rfl rfl ?_)
         all_goals (first | refine rg_y (yv_load_ep1 rfl hr (by first | assumption | exact hl) (vI rfl)) rfl rfl ?_ | refine rg_y (yv_load rfl (ld1B (k1 (hs.blkL (i := 0) rfl)) (vI rfl))) rfl rfl ?_ | refine rg_y (yv_load rfl (ld1B (k1 (hs.blkL (i := 1) rfl)) (vI rfl))) rfl rfl ?_ | refine rg_y (yv_load rfl (ld1B (k1 (hs.blkL (i := 2) rfl)) (vI rfl))) rfl rfl ?_ | refine rg_y (yv_load rfl (ld1B (k1 (hs.blkL (i := 3) rfl)) (vI rfl))) rfl rfl ?_ | refine rg_y (yv_load rfl (ld1B (k1 (hs.blkL (i := 4) rfl)) (vI rfl))) rfl rfl ?_ | refine rg_y (yv_load rfl (ld1B (k1 (hs.blkL (i := 5) rfl)) (vI rfl))) rfl rfl ?_)
         all_goals (refine rg_y (yv_assign (kI rfl)) rfl rfl ?_)
         all_goals (first | refine rg_nils [(3, _), (4, _), (6, _), (7, _), (9, _), (11, _), (25, _), (26, _), (27, _), (35, _), (36, _), (37, _), (44, _), (45, _), (46, _), (47, _), (48, _), (49, _)] ⟨sP rfl, sP rfl, sI rfl, sI rfl, sI rfl, sI rfl, sS rfl, sI rfl, sI rfl, sS rfl, sI rfl, sI rfl, sI rfl, sI rfl, sI rfl, sI rfl, sI rfl, sB rfl, trivial⟩ ?_ | refine rg_nil ?_))
      | (refine rn_reg 10 ?_
         all_goals (refine rg_y (yv_move (kI rfl)) rfl rfl ?_)
         all_goals (first | refine rg_bt (yv_neq rfl rfl) (by omega) rfl rfl ?_ | refine rg_bf (yv_neq rfl rfl) (by omega) rfl rfl ?_ | refine rg_b (yv_neq rfl rfl) rfl rfl (fun hc => ?_) (fun hc => ?_))
         all_goals (refine rg_y (yv_move (kB rfl)) rfl rfl ?_)
         all_goals (first | refine rg_skip rfl rfl ?_ | refine rg_y (yv_move (kI rfl)) rfl rfl ?_)
         all_goals (first | refine rg_skip rfl rfl ?_ | (first | (refine rg_call0 (ga _) hs rfl rfl rfl ?_; clear hs; intro w hs) | (refine rg_call0 (gb _) hs rfl rfl rfl ?_; clear hs; intro w hs) | (refine rg_call0 (gc _) hs rfl rfl rfl ?_; clear hs; intro w hs) | (refine rg_call0 (gd _) hs rfl rfl rfl ?_; clear hs; intro w hs)))
         all_goals (first | refine rg_skip rfl rfl ?_ | refine rg_y (yv_move (kI rfl)) rfl rfl ?_)
         all_goals (first | refine rg_skip rfl rfl ?_ | (first | (refine rg_call0 (ga _) hs rfl rfl rfl ?_; clear hs; intro w hs) | (refine rg_call0 (gb _) hs rfl rfl rfl ?_; clear hs; intro w hs) | (refine rg_call0 (gc _) hs rfl rfl rfl ?_; clear hs; intro w hs) | (refine rg_call0 (gd _) hs rfl rfl rfl ?_; clear hs; intro w hs)))
         all_goals (first | refine rg_skip rfl rfl ?_ | (first | refine rg_y (yv_quo rfl rfl (by omega)) rfl rfl ?_ | refine rg_y (yv_tdiv rfl rfl (by omega) (by omega) (by omega)) rfl rfl ?_))
         all_goals (first | refine rg_skip rfl rfl ?_ | (first | refine rg_bt (yv_gtr rfl rfl) (by omega) rfl rfl ?_ | refine rg_bf (yv_gtr rfl rfl) (by omega) rfl rfl ?_ | refine rg_b (yv_gtr rfl rfl) rfl rfl (fun hc => ?_) (fun hc => ?_)))
         all_goals (first | refine rg_y (yv_pick_t rfl (kB rfl)) rfl rfl ?_ | refine rg_y (yv_pick_f rfl (kB rfl)) rfl rfl ?_)
         all_goals (first | refine rg_nils [(3, _), (4, _), (6, _), (7, _), (9, _), (11, _), (25, _), (26, _), (27, _), (35, _), (36, _), (37, _), (44, _), (45, _), (46, _), (47, _), (48, _), (49, _), (50, _)] ⟨sP rfl, sP rfl, sI rfl, sI rfl, sI rfl, sI rfl, sS rfl, sI rfl, sI rfl, sS rfl, sI rfl, sI rfl, sI rfl, sI rfl, sI rfl, sI rfl, sI rfl, sB rfl, sB rfl, trivial⟩ ?_ | refine rg_nil ?_))
      | (refine rn_reg 11 ?_
         all_goals (refine rg_y (yv_build rfl (o2 rfl)) rfl rfl ?_)
         all_goals (first | (refine rg_store 0 hs rfl rfl (kA rfl) (l2 rfl) rfl rfl rfl rfl ?_; clear hs; intro w hs; simp only [putCells, List.take_succ_cons, List.take_zero, List.take_nil, List.drop_succ_cons, List.drop_zero, List.drop_nil, List.cons_append, List.nil_append, List.append_nil, List.length_cons, List.length_nil, Nat.reduceAdd, Nat.add_zero, Nat.zero_add, List.set_cons_zero, List.set_cons_succ] at hs) | (refine rg_store 1 hs rfl rfl (kA rfl) (l2 rfl) rfl rfl rfl rfl ?_; clear hs; intro w hs; simp only [putCells, List.take_succ_cons, List.take_zero, List.take_nil, List.drop_succ_cons, List.drop_zero, List.drop_nil, List.cons_append, List.nil_append, List.append_nil, List.length_cons, List.length_nil, Nat.reduceAdd, Nat.add_zero, Nat.zero_add, List.set_cons_zero, List.set_cons_succ] at hs) | (refine rg_store 2 hs rfl rfl (kA rfl) (l2 rfl) rfl rfl rfl rfl ?_; clear hs; intro w hs; simp only [putCells, List.take_succ_cons, List.take_zero, List.take_nil, List.drop_succ_cons, List.drop_zero, List.drop_nil, List.cons_append, List.nil_append, List.append_nil, List.length_cons, List.length_nil, Nat.reduceAdd, Nat.add_zero, Nat.zero_add, List.set_cons_zero, List.set_cons_succ] at hs) | (refine rg_store 3 hs rfl rfl (kA rfl) (l2 rfl) rfl rfl rfl rfl ?_; clear hs; intro w hs; simp only [putCells, List.take_succ_cons, List.take_zero, List.take_nil, List.drop_succ_cons, List.drop_zero, List.drop_nil, List.cons_append, List.nil_append, List.append_nil, List.length_cons, List.length_nil, Nat.reduceAdd, Nat.add_zero, Nat.zero_add, List.set_cons_zero, List.set_cons_succ] at hs) | (refine rg_store 4 hs rfl rfl (kA rfl) (l2 rfl) rfl rfl rfl rfl ?_; clear hs; intro w hs; simp only [putCells, List.take_succ_cons, List.take_zero, List.take_nil, List.drop_succ_cons, List.drop_zero, List.drop_nil, List.cons_append, List.nil_append, List.append_nil, List.length_cons, List.length_nil, Nat.reduceAdd, Nat.add_zero, Nat.zero_add, List.set_cons_zero, List.set_cons_succ] at hs) | (refine rg_store 5 hs rfl rfl (kA rfl) (l2 rfl) rfl rfl rfl rfl ?_; clear hs; intro w hs; simp only [putCells, List.take_succ_cons, List.take_zero, List.take_nil, List.drop_succ_cons, List.drop_zero, List.drop_nil, List.cons_append, List.nil_append, List.append_nil, List.length_cons, List.length_nil, Nat.reduceAdd, Nat.add_zero, Nat.zero_add, List.set_cons_zero, List.set_cons_succ] at hs))
         all_goals (refine rg_y (yv_assign (kI rfl)) rfl rfl ?_)
         all_goals (first | refine rg_nils [(4, _), (5, _)] ⟨sP rfl, sI rfl, trivial⟩ ?_ | refine rg_nil ?_))
      | (refine rn_reg 12 ?_
         all_goals (refine rg_y (yv_move (kI rfl)) rfl rfl ?_)
         all_goals (refine rg_y (yv_move (kI rfl)) rfl rfl ?_)
         all_goals (refine rg_y (yv_move (kI rfl)) rfl rfl ?_)
         all_goals (refine rg_y (yv_mul rfl rfl (by omega)) rfl rfl ?_)
         all_goals (refine rg_y (yv_min rfl rfl) rfl rfl ?_)
         all_goals (refine rg_y (yv_move (kI rfl)) rfl rfl ?_)
         all_goals (refine rg_y (yv_move (kI rfl)) rfl rfl ?_)
         all_goals (refine rg_y (yv_move (kI rfl)) rfl rfl ?_)
         all_goals (refine rg_y (yv_mul rfl rfl (by omega)) rfl rfl ?_)
         all_goals (refine rg_y (yv_max rfl rfl) rfl rfl ?_)
         all_goals (refine rg_y (yv_assign (kI rfl)) rfl rfl ?_)
         all_goals (refine rg_y (yv_assign (kI rfl)) rfl rfl ?_)
         all_goals (first | refine rg_nils [(3, _), (4, _), (6, _), (7, _), (9, _), (25, _), (26, _), (27, _), (35, _), (36, _), (37, _), (44, _), (45, _), (46, _), (47, _), (48, _), (49, _)] ⟨sP rfl, sP rfl, sI rfl, sI rfl, sI rfl, sS rfl, sI rfl, sI rfl, sS rfl, sI rfl, sI rfl, sI rfl, sI rfl, sI rfl, sI rfl, sI rfl, sB rfl, trivial⟩ ?_ | refine rg_nil ?_))
      | (refine rn_reg 13 ?_
         all_goals (refine rg_y (yv_add rfl rfl (by omega)) rfl rfl ?_)
         all_goals (refine rg_y (yv_move (kI rfl)) rfl rfl ?_)
         all_goals (first | refine rg_nils [(3, _), (4, _), (6, _), (7, _), (9, _), (25, _), (26, _), (27, _), (35, _), (36, _), (37, _), (44, _), (45, _), (46, _), (47, _), (48, _), (49, _)] ⟨sP rfl, sP rfl, sI rfl, sI rfl, sI rfl, sS rfl, sI rfl, sI rfl, sS rfl, sI rfl, sI rfl, sI rfl, sI rfl, sI rfl, sI rfl, sI rfl, sB rfl, trivial⟩ ?_ | refine rg_nil ?_))
      | (refine rn_reg 14 ?_
         all_goals (refine rg_y (yv_add rfl rfl (by omega)) rfl rfl ?_)
         all_goals (refine rg_y (yv_move (kI rfl)) rfl rfl ?_)
         all_goals (first | refine rg_nils [(3, _), (4, _), (6, _), (7, _), (25, _), (26, _), (27, _), (44, _), (45, _), (46, _), (47, _), (48, _), (49, _)] ⟨sP rfl, sP rfl, sI rfl, sI rfl, sS rfl, sI rfl, sI rfl, sI rfl, sI rfl, sI rfl, sI rfl, sI rfl, sB rfl, trivial⟩ ?_ | refine rg_nil ?_))
      | (refine rn_reg 15 ?_
         all_goals (refine rg_y (yv_move (kI rfl)) rfl rfl ?_)
         all_goals (refine rg_y (yv_move (kI rfl)) rfl rfl ?_)
         all_goals (refine rg_y (yv_build rfl (o2 rfl)) rfl rfl ?_)
         all_goals (first | (refine rg_store 0 hs rfl rfl (kA rfl) (l2 rfl) rfl rfl rfl rfl ?_; clear hs; intro w hs; simp only [putCells, List.take_succ_cons, List.take_zero, List.take_nil, List.drop_succ_cons, List.drop_zero, List.drop_nil, List.cons_append, List.nil_append, List.append_nil, List.length_cons, List.length_nil, Nat.reduceAdd, Nat.add_zero, Nat.zero_add, List.set_cons_zero, List.set_cons_succ] at hs) | (refine rg_store 1 hs rfl rfl (kA rfl) (l2 rfl) rfl rfl rfl rfl ?_; clear hs; intro w hs; simp only [putCells, List.take_succ_cons, List.take_zero, List.take_nil, List.drop_succ_cons, List.drop_zero, List.drop_nil, List.cons_append, List.nil_append, List.append_nil, List.length_cons, List.length_nil, Nat.reduceAdd, Nat.add_zero, Nat.zero_add, List.set_cons_zero, List.set_cons_succ] at hs) | (refine rg_store 2 hs rfl rfl (kA rfl) (l2 rfl) rfl rfl rfl rfl ?_; clear hs; intro w hs; simp only [putCells, List.take_succ_cons, List.take_zero, List.take_nil, List.drop_succ_cons, List.drop_zero, List.drop_nil, List.cons_append, List.nil_append, List.append_nil, List.length_cons, List.length_nil, Nat.reduceAdd, Nat.add_zero, Nat.zero_add, List.set_cons_zero, List.set_cons_succ] at hs) | (refine rg_store 3 hs rfl rfl (kA rfl) (l2 rfl) rfl rfl rfl rfl ?_; clear hs; intro w hs; simp only [putCells, List.take_succ_cons, List.take_zero, List.take_nil, List.drop_succ_cons, List.drop_zero, List.drop_nil, List.cons_append, List.nil_append, List.append_nil, List.length_cons, List.length_nil, Nat.reduceAdd, Nat.add_zero, Nat.zero_add, List.set_cons_zero, List.set_cons_succ] at hs) | (refine rg_store 4 hs rfl rfl (kA rfl) (l2 rfl) rfl rfl rfl rfl ?_; clear hs; intro w hs; simp only [putCells, List.take_succ_cons, List.take_zero, List.take_nil, List.drop_succ_cons, List.drop_zero, List.drop_nil, List.cons_append, List.nil_append, List.append_nil, List.length_cons, List.length_nil, Nat.reduceAdd, Nat.add_zero, Nat.zero_add, List.set_cons_zero, List.set_cons_succ] at hs) | (refine rg_store 5 hs rfl rfl (kA rfl) (l2 rfl) rfl rfl rfl rfl ?_; clear hs; intro w hs; simp only [putCells, List.take_succ_cons, List.take_zero, List.take_nil, List.drop_succ_cons, List.drop_zero, List.drop_nil, List.cons_append, List.nil_append, List.append_nil, List.length_cons, List.length_nil, Nat.reduceAdd, Nat.add_zero, Nat.zero_add, List.set_cons_zero, List.set_cons_succ] at hs))
         all_goals (refine rg_y (yv_assign (kI rfl)) rfl rfl ?_)
         all_goals (first | refine rg_nils [(4, _), (5, _)] ⟨sP rfl, sI rfl, trivial⟩ ?_ | refine rg_nil ?_)))
    all_goals ((first | refine k_ret2 rfl (.cell rfl (ldBB (hs.blkL (i := 0) rfl) rfl)) (.tmp rfl) ⟨r3 ?_, hs.drop⟩ | refine k_ret2 rfl (.cell rfl (ldBB (hs.blkL (i := 1) rfl) rfl)) (.tmp rfl) ⟨r3 ?_, hs.drop⟩ | refine k_ret2 rfl (.cell rfl (ldBB (hs.blkL (i := 2) rfl) rfl)) (.tmp rfl) ⟨r3 ?_, hs.drop⟩ | refine k_ret2 rfl (.cell rfl (ldBB (hs.blkL (i := 3) rfl) rfl)) (.tmp rfl) ⟨r3 ?_, hs.drop⟩ | refine k_ret2 rfl (.cell rfl (ldBB (hs.blkL (i := 4) rfl) rfl)) (.tmp rfl) ⟨r3 ?_, hs.drop⟩ | refine k_ret2 rfl (.cell rfl (ldBB (hs.blkL (i := 5) rfl) rfl)) (.tmp rfl) ⟨r3 ?_, hs.drop⟩ | refine k_ret2 rfl (.cell rfl (ldBB (hs.blkL (i := 6) rfl) rfl)) (.tmp rfl) ⟨r3 ?_, hs.drop⟩ | refine k_ret2 rfl (.cell rfl (ldBB (hs.blkL (i := 7) rfl) rfl)) (.tmp rfl) ⟨r3 ?_, hs.drop⟩); unfold mulM; rw [if_pos hv]; first | rw [if_neg (by omega)] | rw [if_pos (by omega)])
  · (try unfold Gives); refine calls_enter Try.func46 rfl Try.ntmps46 rfl rfl ?_; have hs := St.refl w
    repeat' (first
      | refine rn_seq ?_
      | refine ks_n ?_
      | refine rn_cond_t rfl ?_
      | refine rn_cond_f rfl ?_
      | refine kb_n ?_
      | refine rn_block ?_
      | refine rn_skip ?_
      | refine rn_ret ?_
      | refine ks_r ?_
      | refine rn_exit ?_
      | refine ks_e ?_
      | refine kb_hit ?_
      | refine kb_miss rfl ?_
      | refine kb_r ?_
      | refine kl_e ?_
      | refine kl_r ?_
      | refine kr_n ?_
      | refine rnds_succ ?_
      | refine kr_e ?_
      | refine kr_r ?_
      | (refine rn_reg 0 ?_
         all_goals ((refine rg_box hs (kA rfl) (l2 rfl) rfl rfl ?_; clear hs; intro g w hs))
         all_goals ((refine rg_box hs (kA rfl) (l2 rfl) rfl rfl ?_; clear hs; intro g w hs))
         all_goals ((refine rg_alloc hs (l2 rfl) rfl rfl ?_; clear hs; intro g w hs))
         all_goals (refine rg_y (yv_assign (kI rfl)) rfl rfl ?_)
         all_goals (first | refine rg_nils [(2, _), (3, _), (4, _), (16, _), (17, _), (18, _), (44, _), (45, _), (46, _), (47, _), (48, _), (49, _)] ⟨sP rfl, sP rfl, sP rfl, sA rfl, sB rfl, sB rfl, sI rfl, sI rfl, sI rfl, sI rfl, sI rfl, sB rfl, trivial⟩ ?_ | refine rg_nil ?_))
      | (refine rn_reg 1 ?_
         all_goals (first | refine rg_y (yv_load rfl (ldBB (k1 (hs.blkL (i := 0) rfl)) rfl)) rfl rfl ?_ | refine rg_y (yv_load rfl (ldBB (k1 (hs.blkL (i := 1) rfl)) rfl)) rfl rfl ?_ | refine rg_y (yv_load rfl (ldBB (k1 (hs.blkL (i := 2) rfl)) rfl)) rfl rfl ?_ | refine rg_y (yv_load rfl (ldBB (k1 (hs.blkL (i := 3) rfl)) rfl)) rfl rfl ?_ | refine rg_y (yv_load rfl (ldPB (k1 (hs.blkL (i := 0) rfl)) (l2 rfl) rfl)) rfl rfl ?_ | refine rg_y (yv_load rfl (ldPB (k1 (hs.blkL (i := 1) rfl)) (l2 rfl) rfl)) rfl rfl ?_ | refine rg_y (yv_load rfl (ldPB (k1 (hs.blkL (i := 2) rfl)) (l2 rfl) rfl)) rfl rfl ?_ | refine rg_y (yv_load rfl (ldPB (k1 (hs.blkL (i := 3) rfl)) (l2 rfl) rfl)) rfl rfl ?_)
         all_goals (first | (refine rg_callbt (RValid_g _ _ _) hs rfl (by omega) rfl rfl ?_; clear hs; intro w hs) | (refine rg_callbf (RValid_g _ _ _) hs rfl (by omega) rfl rfl ?_; clear hs; intro w hs) | (refine rg_callb (RValid_g _ _ _) hs rfl rfl rfl (fun hc => ?_) (fun hc => ?_) <;> (clear hs; intro w hs)))
         all_goals (refine rg_y (yv_not rfl) rfl rfl ?_)
         all_goals (refine rg_y (yv_move (kB rfl)) rfl rfl ?_)
         all_goals (first | refine rg_skip rfl rfl ?_ | (first | refine rg_y (yv_load rfl (ldBB (k1 (hs.blkL (i := 0) rfl)) rfl)) rfl rfl ?_ | refine rg_y (yv_load rfl (ldBB (k1 (hs.blkL (i := 1) rfl)) rfl)) rfl rfl ?_ | refine rg_y (yv_load rfl (ldBB (k1 (hs.blkL (i := 2) rfl)) rfl)) rfl rfl ?_ | refine rg_y (yv_load rfl (ldBB (k1 (hs.blkL (i := 3) rfl)) rfl)) rfl rfl ?_ | refine rg_y (yv_load rfl (ldPB (k1 (hs.blkL (i := 0) rfl)) (l2 rfl) rfl)) rfl rfl ?_ | refine rg_y (yv_load rfl (ldPB (k1 (hs.blkL (i := 1) rfl)) (l2 rfl) rfl)) rfl rfl ?_ | refine rg_y (yv_load rfl (ldPB (k1 (hs.blkL (i := 2) rfl)) (l2 rfl) rfl)) rfl rfl ?_ | refine rg_y (yv_load rfl (ldPB (k1 (hs.blkL (i := 3) rfl)) (l2 rfl) rfl)) rfl rfl ?_))
         all_goals (first | refine rg_skip rfl rfl ?_ | (first | (refine rg_callbt (RValid_g _ _ _) hs rfl (by omega) rfl rfl ?_; clear hs; intro w hs) | (refine rg_callbf (RValid_g _ _ _) hs rfl (by omega) rfl rfl ?_; clear hs; intro w hs) | (refine rg_callb (RValid_g _ _ _) hs rfl rfl rfl (fun hc => ?_) (fun hc => ?_) <;> (clear hs; intro w hs))))
         all_goals (first | refine rg_skip rfl rfl ?_ | refine rg_y (yv_not rfl) rfl rfl ?_)
         all_goals (first | refine rg_y (yv_pick_t rfl (kB rfl)) rfl rfl ?_ | refine rg_y (yv_pick_f rfl (kB rfl)) rfl rfl ?_)
         all_goals (first | refine rg_nils [(2, _), (3, _), (4, _), (19, _), (44, _), (45, _), (46, _), (47, _), (48, _), (49, _)] ⟨sP rfl, sP rfl, sP rfl, sB rfl, sI rfl, sI rfl, sI rfl, sI rfl, sI rfl, sB rfl, trivial⟩ ?_ | refine rg_nil ?_))
      | (refine rn_reg 2 ?_
         all_goals (refine rg_y (yv_build rfl (o2 rfl)) rfl rfl ?_)
         all_goals (first | (refine rg_store 0 hs rfl rfl (kA rfl) (l2 rfl) rfl rfl rfl rfl ?_; clear hs; intro w hs; simp only [putCells, List.take_succ_cons, List.take_zero, List.take_nil, List.drop_succ_cons, List.drop_zero, List.drop_nil, List.cons_append, List.nil_append, List.append_nil, List.length_cons, List.length_nil, Nat.reduceAdd, Nat.add_zero, Nat.zero_add, List.set_cons_zero, List.set_cons_succ] at hs) | (refine rg_store 1 hs rfl rfl (kA rfl) (l2 rfl) rfl rfl rfl rfl ?_; clear hs; intro w hs; simp only [putCells, List.take_succ_cons, List.take_zero, List.take_nil, List.drop_succ_cons, List.drop_zero, List.drop_nil, List.cons_append, List.nil_append, List.append_nil, List.length_cons, List.length_nil, Nat.reduceAdd, Nat.add_zero, Nat.zero_add, List.set_cons_zero, List.set_cons_succ] at hs) | (refine rg_store 2 hs rfl rfl (kA rfl) (l2 rfl) rfl rfl rfl rfl ?_; clear hs; intro w hs; simp only [putCells, List.take_succ_cons, List.take_zero, List.take_nil, List.drop_succ_cons, List.drop_zero, List.drop_nil, List.cons_append, List.nil_append, List.append_nil, List.length_cons, List.length_nil, Nat.reduceAdd, Nat.add_zero, Nat.zero_add, List.set_cons_zero, List.set_cons_succ] at hs) | (refine rg_store 3 hs rfl rfl (kA rfl) (l2 rfl) rfl rfl rfl rfl ?_; clear hs; intro w hs; simp only [putCells, List.take_succ_cons, List.take_zero, List.take_nil, List.drop_succ_cons, List.drop_zero, List.drop_nil, List.cons_append, List.nil_append, List.append_nil, List.length_cons, List.length_nil, Nat.reduceAdd, Nat.add_zero, Nat.zero_add, List.set_cons_zero, List.set_cons_succ] at hs))
         all_goals (refine rg_y (yv_assign (kI rfl)) rfl rfl ?_)
         all_goals (first | refine rg_nils [(4, _), (5, _)] ⟨sP rfl, sI rfl, trivial⟩ ?_ | refine rg_nil ?_))
      | exfalso; omega
      | (refine rn_reg 4 ?_
         all_goals (refine rg_y (yv_fieldAddr rfl) rfl rfl ?_)
         all_goals (first | refine rg_y (yv_load rfl (ld1B (k1 (hs.blkL (i := 0) rfl)) (vI rfl))) rfl rfl ?_ | refine rg_y (yv_load rfl (ld1B (k1 (hs.blkL (i := 1) rfl)) (vI rfl))) rfl rfl ?_ | refine rg_y (yv_load rfl (ld1B (k1 (hs.blkL (i := 2) rfl)) (vI rfl))) rfl rfl ?_ | refine rg_y (yv_load rfl (ld1B (k1 (hs.blkL (i := 3) rfl)) (vI rfl))) rfl rfl ?_)
         all_goals (refine rg_y (yv_fieldAddr rfl) rfl rfl ?_)
         all_goals (first | refine rg_y (yv_load rfl (ld1B (k1 (hs.blkL (i := 0) rfl)) (vI rfl))) rfl rfl ?_ | refine rg_y (yv_load rfl (ld1B (k1 (hs.blkL (i := 1) rfl)) (vI rfl))) rfl rfl ?_ | refine rg_y (yv_load rfl (ld1B (k1 (hs.blkL (i := 2) rfl)) (vI rfl))) rfl rfl ?_ | refine rg_y (yv_load rfl (ld1B (k1 (hs.blkL (i := 3) rfl)) (vI rfl))) rfl rfl ?_)
         all_goals ((refine rg_buildSlice hs rfl (o2 rfl) rfl rfl rfl rfl rfl ?_; clear hs; intro g w hs))
         all_goals (refine rg_y (yv_len rfl) rfl rfl ?_)
         all_goals (refine rg_y (yv_move (kI rfl)) rfl rfl ?_)
         all_goals (first | refine rg_nils [(3, _), (4, _), (6, _), (7, _), (25, _), (26, _), (27, _), (44, _), (45, _), (46, _), (47, _), (48, _), (49, _)] ⟨sP rfl, sP rfl, sI rfl, sI rfl, sS rfl, sI rfl, sI rfl, sI rfl, sI rfl, sI rfl, sI rfl, sI rfl, sB rfl, trivial⟩ ?_ | refine rg_nil ?_))
      | (refine rn_reg 5 ?_
         all_goals (first | refine rg_bt (yv_lss rfl rfl) (by omega) rfl rfl ?_ | refine rg_bf (yv_lss rfl rfl) (by omega) rfl rfl ?_ | refine rg_b (yv_lss rfl rfl) rfl rfl (fun hc => ?_) (fun hc => ?_))
         all_goals (first | refine rg_nils [(3, _), (4, _), (6, _), (7, _), (25, _), (26, _), (27, _), (28, _), (44, _), (45, _), (46, _), (47, _), (48, _), (49, _)] ⟨sP rfl, sP rfl, sI rfl, sI rfl, sS rfl, sI rfl, sI rfl, sT rfl, sI rfl, sI rfl, sI rfl, sI rfl, sI rfl, sB rfl, trivial⟩ ?_ | refine rg_nil ?_))
      | (refine rn_reg 6 ?_
         all_goals (first | refine rg_y (yv_indexAddr rfl rfl hr (by first | rfl | omega) (by omega) (by omega)) rfl rfl ?_ | refine rg_y (yv_indexAddr_blk rfl rfl (by omega)) rfl rfl ?_)
         all_goals (first | refine rg_y (yv_load_ep1 rfl hr (by first | assumption | exact hl) (vI rfl)) rfl rfl ?_ | refine rg_y (yv_load rfl (ld1B (k1 (hs.blkL (i := 0) rfl)) (vI rfl))) rfl rfl ?_ | refine rg_y (yv_load rfl (ld1B (k1 (hs.blkL (i := 1) rfl)) (vI rfl))) rfl rfl ?_ | refine rg_y (yv_load rfl (ld1B (k1 (hs.blkL (i := 2) rfl)) (vI rfl))) rfl rfl ?_ | refine rg_y (yv_load rfl (ld1B (k1 (hs.blkL (i := 3) rfl)) (vI rfl))) rfl rfl ?_)
         all_goals (refine rg_y (yv_assign (kI rfl)) rfl rfl ?_)
         all_goals (first | refine rg_nils [(3, _), (4, _), (6, _), (7, _), (9, _), (25, _), (26, _), (27, _), (44, _), (45, _), (46, _), (47, _), (48, _), (49, _)] ⟨sP rfl, sP rfl, sI rfl, sI rfl, sI rfl, sS rfl, sI rfl, sI rfl, sI rfl, sI rfl, sI rfl, sI rfl, sI rfl, sB rfl, trivial⟩ ?_ | refine rg_nil ?_))
      | (refine rn_reg 7 ?_
         all_goals (refine rg_y (yv_fieldAddr rfl) rfl rfl ?_)
         all_goals (first | refine rg_y (yv_load rfl (ld1B (k1 (hs.blkL (i := 0) rfl)) (vI rfl))) rfl rfl ?_ | refine rg_y (yv_load rfl (ld1B (k1 (hs.blkL (i := 1) rfl)) (vI rfl))) rfl rfl ?_ | refine rg_y (yv_load rfl (ld1B (k1 (hs.blkL (i := 2) rfl)) (vI rfl))) rfl rfl ?_ | refine rg_y (yv_load rfl (ld1B (k1 (hs.blkL (i := 3) rfl)) (vI rfl))) rfl rfl ?_)
         all_goals (refine rg_y (yv_fieldAddr rfl) rfl rfl ?_)
         all_goals (first | refine rg_y (yv_load rfl (ld1B (k1 (hs.blkL (i := 0) rfl)) (vI rfl))) rfl rfl ?_ | refine rg_y (yv_load rfl (ld1B (k1 (hs.blkL (i := 1) rfl)) (vI rfl))) rfl rfl ?_ | refine rg_y (yv_load rfl (ld1B (k1 (hs.blkL (i := 2) rfl)) (vI rfl))) rfl rfl ?_ | refine rg_y (yv_load rfl (ld1B (k1 (hs.blkL (i := 3) rfl)) (vI rfl))) rfl rfl ?_)
         all_goals ((refine rg_buildSlice hs rfl (o2 rfl) rfl rfl rfl rfl rfl ?_; clear hs; intro g w hs))
         all_goals (refine rg_y (yv_len rfl) rfl rfl ?_)
         all_goals (refine rg_y (yv_move (kI rfl)) rfl rfl ?_)
         all_goals (first | refine rg_nils [(3, _), (4, _), (6, _), (7, _), (9, _), (25, _), (26, _), (27, _), (35, _), (36, _), (37, _), (44, _), (45, _), (46, _), (47, _), (48, _), (49, _)] ⟨sP rfl, sP rfl, sI rfl, sI rfl, sI rfl, sS rfl, sI rfl, sI rfl, sS rfl, sI rfl, sI rfl, sI rfl, sI rfl, sI rfl, sI rfl, sI rfl, sB rfl, trivial⟩ ?_ | refine rg_nil ?_))
      | (refine rn_reg 8 ?_
         all_goals (first | refine rg_bt (yv_lss rfl rfl) (by omega) rfl rfl ?_ | refine rg_bf (yv_lss rfl rfl) (by omega) rfl rfl ?_ | refine rg_b (yv_lss rfl rfl) rfl rfl (fun hc => ?_) (fun hc => ?_))
         all_goals (first | refine rg_nils [(3, _), (4, _), (6, _), (7, _), (9, _), (25, _), (26, _), (27, _), (35, _), (36, _), (37, _), (38, _), (44, _), (45, _), (46, _), (47, _), (48, _), (49, _)] ⟨sP rfl, sP rfl, sI rfl, sI rfl, sI rfl, sS rfl, sI rfl, sI rfl, sS rfl, sI rfl, sI rfl, sT rfl, sI rfl, sI rfl, sI rfl, sI rfl, sI rfl, sB rfl, trivial⟩ ?_ | refine rg_nil ?_))
      | (refine rn_reg 9 ?_
         all_goals (first | refine rg_y (yv_indexAddr rfl rfl hr (by first | rfl | omega) (by omega) (by omega)) rfl rfl ?_ | refine rg_y (yv_indexAddr_blk rfl rfl (by omega)) rfl rfl ?_)
         all_goals (first | refine rg_y (yv_load_ep1 rfl hr (by first | assumption | exact hl) (vI rfl)) rfl rfl ?_ | refine rg_y (yv_load rfl (ld1B (k1 (hs.blkL (i := 0) rfl)) (vI rfl))) rfl rfl ?_ | refine rg_y (yv_load rfl (ld1B (k1 (hs.blkL (i := 1) rfl)) (vI rfl))) rfl rfl ?_ | refine rg_y (yv_load rfl (ld1B (k1 (hs.blkL (i := 2) rfl)) (vI rfl))) rfl rfl ?_ | refine rg_y (yv_load rfl (ld1B (k1 (hs.blkL (i := 3) rfl)) (vI rfl))) rfl rfl ?_)
         all_goals (refine rg_y (yv_assign (kI rfl)) rfl rfl ?_)
         all_goals (first | refine rg_nils [(3, _), (4, _), (6, _), (7, _), (9, _), (11, _), (25, _), (26, _), (27, _), (35, _), (36, _), (37, _), (44, _), (45, _), (46, _), (47, _), (48, _), (49, _)] ⟨sP rfl, sP rfl, sI rfl, sI rfl, sI rfl, sI rfl, sS rfl, sI rfl, sI rfl, sS rfl, sI rfl, sI rfl, sI rfl, sI rfl, sI rfl, sI rfl, sI rfl, sB rfl, trivial⟩ ?_ | refine rg_nil ?_))
      | (refine rn_reg 10 ?_
         all_goals (refine rg_y (yv_move (kI rfl)) rfl rfl ?_)
         all_goals (first | refine rg_bt (yv_neq rfl rfl) (by omega) rfl rfl ?_ | refine rg_bf (yv_neq rfl rfl) (by omega) rfl rfl ?_ | refine rg_b (yv_neq rfl rfl) rfl rfl (fun hc => ?_) (fun hc => ?_))
         all_goals (refine rg_y (yv_move (kB rfl)) rfl rfl ?_)
         all_goals (first | refine rg_skip rfl rfl ?_ | refine rg_y (yv_move (kI rfl)) rfl rfl ?_)
         all_goals (first | refine rg_skip rfl rfl ?_ | fail)
         all_goals (first | refine rg_skip rfl rfl ?_ | refine rg_y (yv_move (kI rfl)) rfl rfl ?_)
         all_goals (first | refine rg_skip rfl rfl ?_ | fail)
         all_goals (first | refine rg_skip rfl rfl ?_ | (first | refine rg_y (yv_quo rfl rfl (by omega)) rfl rfl ?_ | refine rg_y (yv_tdiv rfl rfl (by omega) (by omega) (by omega)) rfl rfl ?_))
         all_goals (first | refine rg_skip rfl rfl ?_ | (first | refine rg_bt (yv_gtr rfl rfl) (by omega) rfl rfl ?_ | refine rg_bf (yv_gtr rfl rfl) (by omega) rfl rfl ?_ | refine rg_b (yv_gtr rfl rfl) rfl rfl (fun hc => ?_) (fun hc => ?_)))
         all_goals (first | refine rg_y (yv_pick_t rfl (kB rfl)) rfl rfl ?_ | refine rg_y (yv_pick_f rfl (kB rfl)) rfl rfl ?_)
         all_goals (first | refine rg_nils [(3, _), (4, _), (6, _), (7, _), (9, _), (11, _), (25, _), (26, _), (27, _), (35, _), (36, _), (37, _), (44, _), (45, _), (46, _), (47, _), (48, _), (49, _), (50, _)] ⟨sP rfl, sP rfl, sI rfl, sI rfl, sI rfl, sI rfl, sS rfl, sI rfl, sI rfl, sS rfl, sI rfl, sI rfl, sI rfl, sI rfl, sI rfl, sI rfl, sI rfl, sB rfl, sB rfl, trivial⟩ ?_ | refine rg_nil ?_))
      | (refine rn_reg 11 ?_
         all_goals (refine rg_y (yv_build rfl (o2 rfl)) rfl rfl ?_)
         all_goals (first | (refine rg_store 0 hs rfl rfl (kA rfl) (l2 rfl) rfl rfl rfl rfl ?_; clear hs; intro w hs; simp only [putCells, List.take_succ_cons, List.take_zero, List.take_nil, List.drop_succ_cons, List.drop_zero, List.drop_nil, List.cons_append, List.nil_append, List.append_nil, List.length_cons, List.length_nil, Nat.reduceAdd, Nat.add_zero, Nat.zero_add, List.set_cons_zero, List.set_cons_succ] at hs) | (refine rg_store 1 hs rfl rfl (kA rfl) (l2 rfl) rfl rfl rfl rfl ?_; clear hs; intro w hs; simp only [putCells, List.take_succ_cons, List.take_zero, List.take_nil, List.drop_succ_cons, List.drop_zero, List.drop_nil, List.cons_append, List.nil_append, List.append_nil, List.length_cons, List.length_nil, Nat.reduceAdd, Nat.add_zero, Nat.zero_add, List.set_cons_zero, List.set_cons_succ] at hs) | (refine rg_store 2 hs rfl rfl (kA rfl) (l2 rfl) rfl rfl rfl rfl ?_; clear hs; intro w hs; simp only [putCells, List.take_succ_cons, List.take_zero, List.take_nil, List.drop_succ_cons, List.drop_zero, List.drop_nil, List.cons_append, List.nil_append, List.append_nil, List.length_cons, List.length_nil, Nat.reduceAdd, Nat.add_zero, Nat.zero_add, List.set_cons_zero, List.set_cons_succ] at hs) | (refine rg_store 3 hs rfl rfl (kA rfl) (l2 rfl) rfl rfl rfl rfl ?_; clear hs; intro w hs; simp only [putCells, List.take_succ_cons, List.take_zero, List.take_nil, List.drop_succ_cons, List.drop_zero, List.drop_nil, List.cons_append, List.nil_append, List.append_nil, List.length_cons, List.length_nil, Nat.reduceAdd, Nat.add_zero, Nat.zero_add, List.set_cons_zero, List.set_cons_succ] at hs))
         all_goals (refine rg_y (yv_assign (kI rfl)) rfl rfl ?_)
         all_goals (first | refine rg_nils [(4, _), (5, _)] ⟨sP rfl, sI rfl, trivial⟩ ?_ | refine rg_nil ?_))
      | (refine rn_reg 12 ?_
         all_goals (refine rg_y (yv_move (kI rfl)) rfl rfl ?_)
         all_goals (refine rg_y (yv_move (kI rfl)) rfl rfl ?_)
         all_goals (refine rg_y (yv_move (kI rfl)) rfl rfl ?_)
         all_goals (refine rg_y (yv_mul rfl rfl (by omega)) rfl rfl ?_)
         all_goals (refine rg_y (yv_min rfl rfl) rfl rfl ?_)
         all_goals (refine rg_y (yv_move (kI rfl)) rfl rfl ?_)
         all_goals (refine rg_y (yv_move (kI rfl)) rfl rfl ?_)
         all_goals (refine rg_y (yv_move (kI rfl)) rfl rfl ?_)
         all_goals (refine rg_y (yv_mul rfl rfl (by omega)) rfl rfl ?_)
         all_goals (refine rg_y (yv_max rfl rfl) rfl rfl ?_)
         all_goals (refine rg_y (yv_assign (kI rfl)) rfl rfl ?_)
         all_goals (refine rg_y (yv_assign (kI rfl)) rfl rfl ?_)
         all_goals (first | refine rg_nils [(3, _), (4, _), (6, _), (7, _), (9, _), (25, _), (26, _), (27, _), (35, _), (36, _), (37, _), (44, _), (45, _), (46, _), (47, _), (48, _), (49, _)] ⟨sP rfl, sP rfl, sI rfl, sI rfl, sI rfl, sS rfl, sI rfl, sI rfl, sS rfl, sI rfl, sI rfl, sI rfl, sI rfl, sI rfl, sI rfl, sI rfl, sB rfl, trivial⟩ ?_ | refine rg_nil ?_))
      | (refine rn_reg 13 ?_
         all_goals (refine rg_y (yv_add rfl rfl (by omega)) rfl rfl ?_)
         all_goals (refine rg_y (yv_move (kI rfl)) rfl rfl ?_)
         all_goals (first | refine rg_nils [(3, _), (4, _), (6, _), (7, _), (9, _), (25, _), (26, _), (27, _), (35, _), (36, _), (37, _), (44, _), (45, _), (46, _), (47, _), (48, _), (49, _)] ⟨sP rfl, sP rfl, sI rfl, sI rfl, sI rfl, sS rfl, sI rfl, sI rfl, sS rfl, sI rfl, sI rfl, sI rfl, sI rfl, sI rfl, sI rfl, sI rfl, sB rfl, trivial⟩ ?_ | refine rg_nil ?_))
      | (refine rn_reg 14 ?_
         all_goals (refine rg_y (yv_add rfl rfl (by omega)) rfl rfl ?_)
         all_goals (refine rg_y (yv_move (kI rfl)) rfl rfl ?_)
         all_goals (first | refine rg_nils [(3, _), (4, _), (6, _), (7, _), (25, _), (26, _), (27, _), (44, _), (45, _), (46, _), (47, _), (48, _), (49, _)] ⟨sP rfl, sP rfl, sI rfl, sI rfl, sS rfl, sI rfl, sI rfl, sI rfl, sI rfl, sI rfl, sI rfl, sI rfl, sB rfl, trivial⟩ ?_ | refine rg_nil ?_))
      | (refine rn_reg 15 ?_
         all_goals (refine rg_y (yv_move (kI rfl)) rfl rfl ?_)
         all_goals (refine rg_y (yv_move (kI rfl)) rfl rfl ?_)
         all_goals (refine rg_y (yv_build rfl (o2 rfl)) rfl rfl ?_)
         all_goals (first | (refine rg_store 0 hs rfl rfl (kA rfl) (l2 rfl) rfl rfl rfl rfl ?_; clear hs; intro w hs; simp only [putCells, List.take_succ_cons, List.take_zero, List.take_nil, List.drop_succ_cons, List.drop_zero, List.drop_nil, List.cons_append, List.nil_append, List.append_nil, List.length_cons, List.length_nil, Nat.reduceAdd, Nat.add_zero, Nat.zero_add, List.set_cons_zero, List.set_cons_succ] at hs) | (refine rg_store 1 hs rfl rfl (kA rfl) (l2 rfl) rfl rfl rfl rfl ?_; clear hs; intro w hs; simp only [putCells, List.take_succ_cons, List.take_zero, List.take_nil, List.drop_succ_cons, List.drop_zero, List.drop_nil, List.cons_append, List.nil_append, List.append_nil, List.length_cons, List.length_nil, Nat.reduceAdd, Nat.add_zero, Nat.zero_add, List.set_cons_zero, List.set_cons_succ] at hs) | (refine rg_store 2 hs rfl rfl (kA rfl) (l2 rfl) rfl rfl rfl rfl ?_; clear hs; intro w hs; simp only [putCells, List.take_succ_cons, List.take_zero, List.take_nil, List.drop_succ_cons, List.drop_zero, List.drop_nil, List.cons_append, List.nil_append, List.append_nil, List.length_cons, List.length_nil, Nat.reduceAdd, Nat.add_zero, Nat.zero_add, List.set_cons_zero, List.set_cons_succ] at hs) | (refine rg_store 3 hs rfl rfl (kA rfl) (l2 rfl) rfl rfl rfl rfl ?_; clear hs; intro w hs; simp only [putCells, List.take_succ_cons, List.take_zero, List.take_nil, List.drop_succ_cons, List.drop_zero, List.drop_nil, List.cons_append, List.nil_append, List.append_nil, List.length_cons, List.length_nil, Nat.reduceAdd, Nat.add_zero, Nat.zero_add, List.set_cons_zero, List.set_cons_succ] at hs))
         all_goals (refine rg_y (yv_assign (kI rfl)) rfl rfl ?_)
         all_goals (first | refine rg_nils [(4, _), (5, _)] ⟨sP rfl, sI rfl, trivial⟩ ?_ | refine rg_nil ?_)))
    all_goals ((first | refine k_ret2 rfl (.cell rfl (ldBB (hs.blkL (i := 0) rfl) rfl)) (.tmp rfl) ⟨r3 ?_, hs.drop⟩ | refine k_ret2 rfl (.cell rfl (ldBB (hs.blkL (i := 1) rfl) rfl)) (.tmp rfl) ⟨r3 ?_, hs.drop⟩ | refine k_ret2 rfl (.cell rfl (ldBB (hs.blkL (i := 2) rfl) rfl)) (.tmp rfl) ⟨r3 ?_, hs.drop⟩ | refine k_ret2 rfl (.cell rfl (ldBB (hs.blkL (i := 3) rfl) rfl)) (.tmp rfl) ⟨r3 ?_, hs.drop⟩ | refine k_ret2 rfl (.cell rfl (ldBB (hs.blkL (i := 4) rfl) rfl)) (.tmp rfl) ⟨r3 ?_, hs.drop⟩ | refine k_ret2 rfl (.cell rfl (ldBB (hs.blkL (i := 5) rfl) rfl)) (.tmp rfl) ⟨r3 ?_, hs.drop⟩ | refine k_ret2 rfl (.cell rfl (ldBB (hs.blkL (i := 6) rfl) rfl)) (.tmp rfl) ⟨r3 ?_, hs.drop⟩ | refine k_ret2 rfl (.cell rfl (ldBB (hs.blkL (i := 7) rfl) rfl)) (.tmp rfl) ⟨r3 ?_, hs.drop⟩); unfold mulM; rw [if_neg hv])
/-- The binary search for a root. -/
theorem RRootDown_g (n : Int) (w : World) (h0 : 0 ≤ n) (h1 : n < 1152921504606846976) : Gives Try.prog 54 [.int .i64 n] w (.int .i64 (isq n)) := by
  have hq := isq_spec h0
  have hl := isq_le30 h0 h1
  (try unfold Gives); refine calls_enter Try.func54 rfl Try.ntmps54 rfl rfl ?_; have hs := St.refl w
  repeat' (first
    | refine rn_seq ?_
    | refine ks_n ?_
    | refine rn_cond_t rfl ?_
    | refine rn_cond_f rfl ?_
    | refine kb_n ?_
    | refine rn_block ?_
    | refine rn_skip ?_
    | refine rn_ret ?_
    | refine ks_r ?_
    | refine rn_exit ?_
    | refine ks_e ?_
    | refine kb_hit ?_
    | refine kb_miss rfl ?_
    | refine kb_r ?_
    | refine kl_e ?_
    | refine kl_r ?_
    | refine kr_n ?_
    | refine rnds_succ ?_
    | refine kr_e ?_
    | refine kr_r ?_
    | (refine rn_reg 0 ?_
       all_goals (refine rg_y (yv_assign (kI rfl)) rfl rfl ?_)
       all_goals (first | refine rg_nils [(0, _)] ⟨sI rfl, trivial⟩ ?_ | refine rg_nil ?_))
    | (refine rn_reg 1 ?_
       all_goals (refine rg_y (yv_assign (kI rfl)) rfl rfl ?_)
       all_goals (refine rg_y (yv_assign (kI rfl)) rfl rfl ?_)
       all_goals (first | refine rg_nils [(0, _), (3, _), (4, _)] ⟨sI rfl, sI rfl, sI rfl, trivial⟩ ?_ | refine rg_nil ?_))
    | (refine rn_reg 2 ?_
       all_goals (refine rg_y (yv_move (kI rfl)) rfl rfl ?_)
       all_goals (refine rg_y (yv_move (kI rfl)) rfl rfl ?_)
       all_goals (first | refine rg_bt (yv_lss rfl rfl) (by omega) rfl rfl ?_ | refine rg_bf (yv_lss rfl rfl) (by omega) rfl rfl ?_ | refine rg_b (yv_lss rfl rfl) rfl rfl (fun hc => ?_) (fun hc => ?_))
       all_goals (first | refine rg_nils [(0, _), (3, _), (4, _), (8, _)] ⟨sI rfl, sI rfl, sI rfl, sB rfl, trivial⟩ ?_ | refine rg_nil ?_))
    | (refine rn_reg 3 ?_
       all_goals (refine rg_y (yv_move (kI rfl)) rfl rfl ?_)
       all_goals (refine rg_y (yv_move (kI rfl)) rfl rfl ?_)
       all_goals (refine rg_y (yv_add rfl rfl (by omega)) rfl rfl ?_)
       all_goals (refine rg_y (yv_add rfl rfl (by omega)) rfl rfl ?_)
       all_goals (first | refine rg_y (yv_quo rfl rfl (by omega)) rfl rfl ?_ | refine rg_y (yv_tdiv rfl rfl (by omega) (by omega) (by omega)) rfl rfl ?_)
       all_goals (refine rg_y (yv_assign (kI rfl)) rfl rfl ?_)
       all_goals (first | refine rg_nils [(0, _), (3, _), (4, _), (5, _)] ⟨sI rfl, sI rfl, sI rfl, sI rfl, trivial⟩ ?_ | refine rg_nil ?_))
    | (refine rn_reg 4 ?_
       all_goals (refine rg_y (yv_move (kI rfl)) rfl rfl ?_)
       all_goals (refine rg_y (yv_move (kI rfl)) rfl rfl ?_)
       all_goals (refine rg_y (yv_mul rfl rfl (by omega)) rfl rfl ?_)
       all_goals (refine rg_y (yv_move (kI rfl)) rfl rfl ?_)
       all_goals (first | refine rg_bt (yv_leq rfl rfl) (by omega) rfl rfl ?_ | refine rg_bf (yv_leq rfl rfl) (by omega) rfl rfl ?_ | refine rg_b (yv_leq rfl rfl) rfl rfl (fun hc => ?_) (fun hc => ?_))
       all_goals (first | refine rg_nils [(0, _), (3, _), (4, _), (5, _), (18, _)] ⟨sI rfl, sI rfl, sI rfl, sI rfl, sB rfl, trivial⟩ ?_ | refine rg_nil ?_))
    | (refine rn_reg 5 ?_
       all_goals (refine rg_y (yv_move (kI rfl)) rfl rfl ?_)
       all_goals (refine rg_y (yv_assign (kI rfl)) rfl rfl ?_)
       all_goals (first | refine rg_nils [(0, _), (3, _), (4, _)] ⟨sI rfl, sI rfl, sI rfl, trivial⟩ ?_ | refine rg_nil ?_))
    | (refine rn_reg 6 ?_
       all_goals (refine rg_y (yv_move (kI rfl)) rfl rfl ?_)
       all_goals (refine rg_y (yv_sub rfl rfl (by omega)) rfl rfl ?_)
       all_goals (refine rg_y (yv_assign (kI rfl)) rfl rfl ?_)
       all_goals (first | refine rg_nils [(0, _), (3, _), (4, _)] ⟨sI rfl, sI rfl, sI rfl, trivial⟩ ?_ | refine rg_nil ?_))
    | (refine rn_reg 7 ?_
       all_goals (refine rg_y (yv_move (kI rfl)) rfl rfl ?_)
       all_goals (refine rg_y (yv_assign (kI rfl)) rfl rfl ?_)
       all_goals (first | refine rg_nils [(2, _)] ⟨sI rfl, trivial⟩ ?_ | refine rg_nil ?_)))
  refine rn_loop (α := Int × Int) (fun x w' => St w w' [] [] ∧ 0 ≤ x.1 ∧ x.1 ≤ isq n ∧ isq n ≤ x.2 ∧ x.2 ≤ 1073741824) (fun x => [(0, .int .i64 n), (3, .int .i64 x.1), (4, .int .i64 x.2)]) (fun x => (x.2 - x.1).toNat) (0, 1073741824)
    ⟨hs, by omega, by omega, by omega, by omega⟩ ⟨rfl, rfl, rfl, trivial⟩ ?_
  clear hs
  rintro ⟨lo, hi⟩ w1 ⟨hs, i0, i1, i2, i3⟩
  dsimp only at i0 i1 i2 i3 ⊢
  have hsq : 0 ≤ (lo + hi + 1) / 2 * ((lo + hi + 1) / 2) ∧ (lo + hi + 1) / 2 * ((lo + hi + 1) / 2) ≤ 1152921504606846976 := by
    have := sq_le (a := (lo + hi + 1) / 2) (b := 1073741824) (by omega) (by omega)
    have := Int.mul_nonneg (a := (lo + hi + 1) / 2) (b := (lo + hi + 1) / 2) (by omega) (by omega)
    omega
  have hle : (lo + hi + 1) / 2 * ((lo + hi + 1) / 2) ≤ n → (lo + hi + 1) / 2 ≤ isq n := fun h => by
    rcases Int.lt_or_le (isq n) ((lo + hi + 1) / 2) with hh | hh
    · have := sq_le (a := isq n + 1) (b := (lo + hi + 1) / 2) (by omega) (by omega); omega
    · exact hh
  have hge : n < (lo + hi + 1) / 2 * ((lo + hi + 1) / 2) → isq n ≤ (lo + hi + 1) / 2 - 1 := fun h => by
    rcases Int.lt_or_le (isq n) ((lo + hi + 1) / 2) with hh | hh
    · omega
    · have := sq_le (a := (lo + hi + 1) / 2) (b := isq n) (by omega) hh; omega
  repeat' (first
    | refine rn_seq ?_
    | refine ks_n ?_
    | refine rn_cond_t rfl ?_
    | refine rn_cond_f rfl ?_
    | refine kb_n ?_
    | refine rn_block ?_
    | refine rn_skip ?_
    | refine rn_ret ?_
    | refine ks_r ?_
    | refine rn_exit ?_
    | refine ks_e ?_
    | refine kb_hit ?_
    | refine kb_miss rfl ?_
    | refine kb_r ?_
    | refine kl_e ?_
    | refine kl_r ?_
    | refine kr_n ?_
    | refine rnds_succ ?_
    | refine kr_e ?_
    | refine kr_r ?_
    | (refine rn_reg 0 ?_
       all_goals (refine rg_y (yv_assign (kI rfl)) rfl rfl ?_)
       all_goals (first | refine rg_nils [(0, _)] ⟨sI rfl, trivial⟩ ?_ | refine rg_nil ?_))
    | (refine rn_reg 1 ?_
       all_goals (refine rg_y (yv_assign (kI rfl)) rfl rfl ?_)
       all_goals (refine rg_y (yv_assign (kI rfl)) rfl rfl ?_)
       all_goals (first | refine rg_nils [(0, _), (3, _), (4, _)] ⟨sI rfl, sI rfl, sI rfl, trivial⟩ ?_ | refine rg_nil ?_))
    | (refine rn_reg 2 ?_
       all_goals (refine rg_y (yv_move (kI rfl)) rfl rfl ?_)
       all_goals (refine rg_y (yv_move (kI rfl)) rfl rfl ?_)
       all_goals (first | refine rg_bt (yv_lss rfl rfl) (by omega) rfl rfl ?_ | refine rg_bf (yv_lss rfl rfl) (by omega) rfl rfl ?_ | refine rg_b (yv_lss rfl rfl) rfl rfl (fun hc => ?_) (fun hc => ?_))
       all_goals (first | refine rg_nils [(0, _), (3, _), (4, _), (8, _)] ⟨sI rfl, sI rfl, sI rfl, sB rfl, trivial⟩ ?_ | refine rg_nil ?_))
    | (refine rn_reg 3 ?_
       all_goals (refine rg_y (yv_move (kI rfl)) rfl rfl ?_)
       all_goals (refine rg_y (yv_move (kI rfl)) rfl rfl ?_)
       all_goals (refine rg_y (yv_add rfl rfl (by omega)) rfl rfl ?_)
       all_goals (refine rg_y (yv_add rfl rfl (by omega)) rfl rfl ?_)
       all_goals (first | refine rg_y (yv_quo rfl rfl (by omega)) rfl rfl ?_ | refine rg_y (yv_tdiv rfl rfl (by omega) (by omega) (by omega)) rfl rfl ?_)
       all_goals (refine rg_y (yv_assign (kI rfl)) rfl rfl ?_)
       all_goals (first | refine rg_nils [(0, _), (3, _), (4, _), (5, _)] ⟨sI rfl, sI rfl, sI rfl, sI rfl, trivial⟩ ?_ | refine rg_nil ?_))
    | (refine rn_reg 4 ?_
       all_goals (refine rg_y (yv_move (kI rfl)) rfl rfl ?_)
       all_goals (refine rg_y (yv_move (kI rfl)) rfl rfl ?_)
       all_goals (refine rg_y (yv_mul rfl rfl (by omega)) rfl rfl ?_)
       all_goals (refine rg_y (yv_move (kI rfl)) rfl rfl ?_)
       all_goals (first | refine rg_bt (yv_leq rfl rfl) (by omega) rfl rfl ?_ | refine rg_bf (yv_leq rfl rfl) (by omega) rfl rfl ?_ | refine rg_b (yv_leq rfl rfl) rfl rfl (fun hc => ?_) (fun hc => ?_))
       all_goals (first | refine rg_nils [(0, _), (3, _), (4, _), (5, _), (18, _)] ⟨sI rfl, sI rfl, sI rfl, sI rfl, sB rfl, trivial⟩ ?_ | refine rg_nil ?_))
    | (refine rn_reg 5 ?_
       all_goals (refine rg_y (yv_move (kI rfl)) rfl rfl ?_)
       all_goals (refine rg_y (yv_assign (kI rfl)) rfl rfl ?_)
       all_goals (first | refine rg_nils [(0, _), (3, _), (4, _)] ⟨sI rfl, sI rfl, sI rfl, trivial⟩ ?_ | refine rg_nil ?_))
    | (refine rn_reg 6 ?_
       all_goals (refine rg_y (yv_move (kI rfl)) rfl rfl ?_)
       all_goals (refine rg_y (yv_sub rfl rfl (by omega)) rfl rfl ?_)
       all_goals (refine rg_y (yv_assign (kI rfl)) rfl rfl ?_)
       all_goals (first | refine rg_nils [(0, _), (3, _), (4, _)] ⟨sI rfl, sI rfl, sI rfl, trivial⟩ ?_ | refine rg_nil ?_))
    | (refine rn_reg 7 ?_
       all_goals (refine rg_y (yv_move (kI rfl)) rfl rfl ?_)
       all_goals (refine rg_y (yv_assign (kI rfl)) rfl rfl ?_)
       all_goals (first | refine rg_nils [(2, _)] ⟨sI rfl, trivial⟩ ?_ | refine rg_nil ?_)))
  · exact kl_n ((lo + hi + 1) / 2, hi) ⟨hs, by dsimp only; omega, by dsimp only; exact hle (by assumption), by dsimp only; omega, by dsimp only; omega⟩ ⟨rfl, rfl, rfl, trivial⟩ (by dsimp only; omega)
  · exact kl_n (lo, (lo + hi + 1) / 2 - 1) ⟨hs, by dsimp only; omega, by dsimp only; omega, by dsimp only; exact hge (by omega), by dsimp only; omega⟩ ⟨rfl, rfl, rfl, trivial⟩ (by dsimp only; omega)
  · refine k_ret1 rfl (.tmp rfl) ⟨ri ?_, hs⟩
    omega
theorem RRootUp_g (n : Int) (w : World) (h0 : 0 ≤ n) (h1 : n < 1152921504606846976) : Gives Try.prog 55 [.int .i64 n] w (.int .i64 (isu n)) := by
  have hq := isq_spec h0
  have hl := isq_le30 h0 h1
  have hm : 0 ≤ isq n * isq n := Int.mul_nonneg hq.1 hq.1
  (try unfold Gives); refine calls_enter Try.func55 rfl Try.ntmps55 rfl rfl ?_; have hs := St.refl w
  repeat' (first
    | refine rn_seq ?_
    | refine ks_n ?_
    | refine rn_cond_t rfl ?_
    | refine rn_cond_f rfl ?_
    | refine kb_n ?_
    | refine rn_block ?_
    | refine rn_skip ?_
    | refine rn_ret ?_
    | refine ks_r ?_
    | refine rn_exit ?_
    | refine ks_e ?_
    | refine kb_hit ?_
    | refine kb_miss rfl ?_
    | refine kb_r ?_
    | refine kl_e ?_
    | refine kl_r ?_
    | refine kr_n ?_
    | refine rnds_succ ?_
    | refine kr_e ?_
    | refine kr_r ?_
    | (refine rn_reg 0 ?_
       all_goals (refine rg_y (yv_assign (kI rfl)) rfl rfl ?_)
       all_goals (first | refine rg_nils [(0, _)] ⟨sI rfl, trivial⟩ ?_ | refine rg_nil ?_))
    | (refine rn_reg 1 ?_
       all_goals (refine rg_y (yv_move (kI rfl)) rfl rfl ?_)
       all_goals ((refine rg_call0 (RRootDown_g _ _ (by assumption) (by assumption)) hs rfl rfl rfl ?_; clear hs; intro w hs))
       all_goals (refine rg_y (yv_assign (kI rfl)) rfl rfl ?_)
       all_goals (first | refine rg_nils [(0, _), (3, _)] ⟨sI rfl, sI rfl, trivial⟩ ?_ | refine rg_nil ?_))
    | (refine rn_reg 2 ?_
       all_goals (refine rg_y (yv_move (kI rfl)) rfl rfl ?_)
       all_goals (refine rg_y (yv_move (kI rfl)) rfl rfl ?_)
       all_goals (refine rg_y (yv_mul rfl rfl (by omega)) rfl rfl ?_)
       all_goals (refine rg_y (yv_move (kI rfl)) rfl rfl ?_)
       all_goals (first | refine rg_bt (yv_lss rfl rfl) (by omega) rfl rfl ?_ | refine rg_bf (yv_lss rfl rfl) (by omega) rfl rfl ?_ | refine rg_b (yv_lss rfl rfl) rfl rfl (fun hc => ?_) (fun hc => ?_))
       all_goals (first | refine rg_nils [(3, _), (10, _)] ⟨sI rfl, sB rfl, trivial⟩ ?_ | refine rg_nil ?_))
    | (refine rn_reg 3 ?_
       all_goals (refine rg_y (yv_move (kI rfl)) rfl rfl ?_)
       all_goals (refine rg_y (yv_add rfl rfl (by omega)) rfl rfl ?_)
       all_goals (refine rg_y (yv_assign (kI rfl)) rfl rfl ?_)
       all_goals (first | refine rg_nils [(3, _)] ⟨sI rfl, trivial⟩ ?_ | refine rg_nil ?_))
    | (refine rn_reg 4 ?_
       all_goals (refine rg_y (yv_move (kI rfl)) rfl rfl ?_)
       all_goals (refine rg_y (yv_assign (kI rfl)) rfl rfl ?_)
       all_goals (first | refine rg_nils [(2, _)] ⟨sI rfl, trivial⟩ ?_ | refine rg_nil ?_)))
  all_goals (refine k_ret1 rfl (.tmp rfl) ⟨ri ?_, hs.drop⟩; unfold isu; first | rw [if_pos (by omega)] | rw [if_neg (by omega)])
theorem RRoot_g (a b : Int) (w : World) : Gives Try.prog 48 [ivv a b] w (tv3 (rootM a b)) := by
  by_cases hr : Ivd a b ∧ 0 ≤ a
  · (try unfold Gives); refine calls_enter Try.func48 rfl Try.ntmps48 rfl rfl ?_; have hs := St.refl w
    repeat' (first
      | refine rn_seq ?_
      | refine ks_n ?_
      | refine rn_cond_t rfl ?_
      | refine rn_cond_f rfl ?_
      | refine kb_n ?_
      | refine rn_block ?_
      | refine rn_skip ?_
      | refine rn_ret ?_
      | refine ks_r ?_
      | refine rn_exit ?_
      | refine ks_e ?_
      | refine kb_hit ?_
      | refine kb_miss rfl ?_
      | refine kb_r ?_
      | refine kl_e ?_
      | refine kl_r ?_
      | refine kr_n ?_
      | refine rnds_succ ?_
      | refine kr_e ?_
      | refine kr_r ?_
      | (refine rn_reg 0 ?_
         all_goals ((refine rg_box hs (kA rfl) (l2 rfl) rfl rfl ?_; clear hs; intro g w hs))
         all_goals ((refine rg_alloc hs (l2 rfl) rfl rfl ?_; clear hs; intro g w hs))
         all_goals (refine rg_y (yv_assign (kI rfl)) rfl rfl ?_)
         all_goals (first | refine rg_nils [(1, _), (2, _)] ⟨sP rfl, sP rfl, trivial⟩ ?_ | refine rg_nil ?_))
      | (refine rn_reg 1 ?_
         all_goals (first | refine rg_y (yv_load rfl (ldBB (k1 (hs.blkL (i := 0) rfl)) rfl)) rfl rfl ?_ | refine rg_y (yv_load rfl (ldBB (k1 (hs.blkL (i := 1) rfl)) rfl)) rfl rfl ?_ | refine rg_y (yv_load rfl (ldBB (k1 (hs.blkL (i := 2) rfl)) rfl)) rfl rfl ?_ | refine rg_y (yv_load rfl (ldBB (k1 (hs.blkL (i := 3) rfl)) rfl)) rfl rfl ?_ | refine rg_y (yv_load rfl (ldPB (k1 (hs.blkL (i := 0) rfl)) (l2 rfl) rfl)) rfl rfl ?_ | refine rg_y (yv_load rfl (ldPB (k1 (hs.blkL (i := 1) rfl)) (l2 rfl) rfl)) rfl rfl ?_ | refine rg_y (yv_load rfl (ldPB (k1 (hs.blkL (i := 2) rfl)) (l2 rfl) rfl)) rfl rfl ?_ | refine rg_y (yv_load rfl (ldPB (k1 (hs.blkL (i := 3) rfl)) (l2 rfl) rfl)) rfl rfl ?_)
         all_goals (first | (refine rg_callbt (RValid_g _ _ _) hs rfl (by omega) rfl rfl ?_; clear hs; intro w hs) | (refine rg_callbf (RValid_g _ _ _) hs rfl (by omega) rfl rfl ?_; clear hs; intro w hs) | (refine rg_callb (RValid_g _ _ _) hs rfl rfl rfl (fun hc => ?_) (fun hc => ?_) <;> (clear hs; intro w hs)))
         all_goals (refine rg_y (yv_not rfl) rfl rfl ?_)
         all_goals (first | refine rg_nils [(1, _), (2, _), (6, _)] ⟨sP rfl, sP rfl, sB rfl, trivial⟩ ?_ | refine rg_nil ?_))
      | (refine rn_reg 2 ?_
         all_goals (refine rg_y (yv_build rfl (o2 rfl)) rfl rfl ?_)
         all_goals (first | (refine rg_store 0 hs rfl rfl (kA rfl) (l2 rfl) rfl rfl rfl rfl ?_; clear hs; intro w hs; simp only [putCells, List.take_succ_cons, List.take_zero, List.take_nil, List.drop_succ_cons, List.drop_zero, List.drop_nil, List.cons_append, List.nil_append, List.append_nil, List.length_cons, List.length_nil, Nat.reduceAdd, Nat.add_zero, Nat.zero_add, List.set_cons_zero, List.set_cons_succ] at hs) | (refine rg_store 1 hs rfl rfl (kA rfl) (l2 rfl) rfl rfl rfl rfl ?_; clear hs; intro w hs; simp only [putCells, List.take_succ_cons, List.take_zero, List.take_nil, List.drop_succ_cons, List.drop_zero, List.drop_nil, List.cons_append, List.nil_append, List.append_nil, List.length_cons, List.length_nil, Nat.reduceAdd, Nat.add_zero, Nat.zero_add, List.set_cons_zero, List.set_cons_succ] at hs) | (refine rg_store 2 hs rfl rfl (kA rfl) (l2 rfl) rfl rfl rfl rfl ?_; clear hs; intro w hs; simp only [putCells, List.take_succ_cons, List.take_zero, List.take_nil, List.drop_succ_cons, List.drop_zero, List.drop_nil, List.cons_append, List.nil_append, List.append_nil, List.length_cons, List.length_nil, Nat.reduceAdd, Nat.add_zero, Nat.zero_add, List.set_cons_zero, List.set_cons_succ] at hs) | (refine rg_store 3 hs rfl rfl (kA rfl) (l2 rfl) rfl rfl rfl rfl ?_; clear hs; intro w hs; simp only [putCells, List.take_succ_cons, List.take_zero, List.take_nil, List.drop_succ_cons, List.drop_zero, List.drop_nil, List.cons_append, List.nil_append, List.append_nil, List.length_cons, List.length_nil, Nat.reduceAdd, Nat.add_zero, Nat.zero_add, List.set_cons_zero, List.set_cons_succ] at hs))
         all_goals (refine rg_y (yv_assign (kI rfl)) rfl rfl ?_)
         all_goals (first | refine rg_nils [(2, _), (3, _)] ⟨sP rfl, sI rfl, trivial⟩ ?_ | refine rg_nil ?_))
      | (refine rn_reg 3 ?_
         all_goals (refine rg_y (yv_fieldAddr rfl) rfl rfl ?_)
         all_goals (first | refine rg_y (yv_load rfl (ld1B (k1 (hs.blkL (i := 0) rfl)) (vI rfl))) rfl rfl ?_ | refine rg_y (yv_load rfl (ld1B (k1 (hs.blkL (i := 1) rfl)) (vI rfl))) rfl rfl ?_ | refine rg_y (yv_load rfl (ld1B (k1 (hs.blkL (i := 2) rfl)) (vI rfl))) rfl rfl ?_ | refine rg_y (yv_load rfl (ld1B (k1 (hs.blkL (i := 3) rfl)) (vI rfl))) rfl rfl ?_)
         all_goals (first | refine rg_bt (yv_lss rfl rfl) (by omega) rfl rfl ?_ | refine rg_bf (yv_lss rfl rfl) (by omega) rfl rfl ?_ | refine rg_b (yv_lss rfl rfl) rfl rfl (fun hc => ?_) (fun hc => ?_))
         all_goals (first | refine rg_nils [(1, _), (2, _), (10, _)] ⟨sP rfl, sP rfl, sB rfl, trivial⟩ ?_ | refine rg_nil ?_))
      | (refine rn_reg 4 ?_
         all_goals (refine rg_y (yv_build rfl (o2 rfl)) rfl rfl ?_)
         all_goals (first | (refine rg_store 0 hs rfl rfl (kA rfl) (l2 rfl) rfl rfl rfl rfl ?_; clear hs; intro w hs; simp only [putCells, List.take_succ_cons, List.take_zero, List.take_nil, List.drop_succ_cons, List.drop_zero, List.drop_nil, List.cons_append, List.nil_append, List.append_nil, List.length_cons, List.length_nil, Nat.reduceAdd, Nat.add_zero, Nat.zero_add, List.set_cons_zero, List.set_cons_succ] at hs) | (refine rg_store 1 hs rfl rfl (kA rfl) (l2 rfl) rfl rfl rfl rfl ?_; clear hs; intro w hs; simp only [putCells, List.take_succ_cons, List.take_zero, List.take_nil, List.drop_succ_cons, List.drop_zero, List.drop_nil, List.cons_append, List.nil_append, List.append_nil, List.length_cons, List.length_nil, Nat.reduceAdd, Nat.add_zero, Nat.zero_add, List.set_cons_zero, List.set_cons_succ] at hs) | (refine rg_store 2 hs rfl rfl (kA rfl) (l2 rfl) rfl rfl rfl rfl ?_; clear hs; intro w hs; simp only [putCells, List.take_succ_cons, List.take_zero, List.take_nil, List.drop_succ_cons, List.drop_zero, List.drop_nil, List.cons_append, List.nil_append, List.append_nil, List.length_cons, List.length_nil, Nat.reduceAdd, Nat.add_zero, Nat.zero_add, List.set_cons_zero, List.set_cons_succ] at hs) | (refine rg_store 3 hs rfl rfl (kA rfl) (l2 rfl) rfl rfl rfl rfl ?_; clear hs; intro w hs; simp only [putCells, List.take_succ_cons, List.take_zero, List.take_nil, List.drop_succ_cons, List.drop_zero, List.drop_nil, List.cons_append, List.nil_append, List.append_nil, List.length_cons, List.length_nil, Nat.reduceAdd, Nat.add_zero, Nat.zero_add, List.set_cons_zero, List.set_cons_succ] at hs))
         all_goals (refine rg_y (yv_assign (kI rfl)) rfl rfl ?_)
         all_goals (first | refine rg_nils [(2, _), (3, _)] ⟨sP rfl, sI rfl, trivial⟩ ?_ | refine rg_nil ?_))
      | (refine rn_draw_st 5 [0, 1, 2, 3, 4, 5, 6] [(0, true), (1, true), (2, true), (3, true), (4, true), (5, true), (6, true), (7, false), (8, false)] hs (by repeat (first | exact np_ret | refine np_seq ?_ | refine np_blk ?_ | refine np_loop ?_ | refine np_rnd ?_)) (by kernel_rfl) rfl (by kernel_rfl) ?_; clear hs; intro w hs
         all_goals ((refine dr_y rfl (fun w hs => yv_fieldAddr rfl) (by first | exact hs | exact hs.tail | exact hs.tail.tail | exact hs.tail.tail.tail) rfl rfl ?_; intro w hg; replace hs := hs.call0 hg; clear hg))
         all_goals (first | (refine dr_y rfl (fun w hs => yv_load rfl (ld1B (k1 (hs.blkL (i := 0) rfl)) (vI rfl))) (by first | exact hs | exact hs.tail | exact hs.tail.tail | exact hs.tail.tail.tail) rfl rfl ?_; intro w hg; replace hs := hs.call0 hg; clear hg) | (refine dr_y rfl (fun w hs => yv_load rfl (ld1B (k1 (hs.blkL (i := 1) rfl)) (vI rfl))) (by first | exact hs | exact hs.tail | exact hs.tail.tail | exact hs.tail.tail.tail) rfl rfl ?_; intro w hg; replace hs := hs.call0 hg; clear hg) | (refine dr_y rfl (fun w hs => yv_load rfl (ld1B (k1 (hs.blkL (i := 2) rfl)) (vI rfl))) (by first | exact hs | exact hs.tail | exact hs.tail.tail | exact hs.tail.tail.tail) rfl rfl ?_; intro w hg; replace hs := hs.call0 hg; clear hg) | (refine dr_y rfl (fun w hs => yv_load rfl (ld1B (k1 (hs.blkL (i := 3) rfl)) (vI rfl))) (by first | exact hs | exact hs.tail | exact hs.tail.tail | exact hs.tail.tail.tail) rfl rfl ?_; intro w hg; replace hs := hs.call0 hg; clear hg))
         all_goals ((refine dr_call0 rfl (fun w hs => (RRootDown_g _ _ (by omega) (by omega))) rfl (by first | exact hs | exact hs.tail | exact hs.tail.tail | exact hs.tail.tail.tail) rfl rfl ?_; intro w hg; replace hs := hs.call0 hg; clear hg))
         all_goals ((refine dr_y rfl (fun w hs => yv_fieldAddr rfl) (by first | exact hs | exact hs.tail | exact hs.tail.tail | exact hs.tail.tail.tail) rfl rfl ?_; intro w hg; replace hs := hs.call0 hg; clear hg))
         all_goals (first | (refine dr_y rfl (fun w hs => yv_load rfl (ld1B (k1 (hs.blkL (i := 0) rfl)) (vI rfl))) (by first | exact hs | exact hs.tail | exact hs.tail.tail | exact hs.tail.tail.tail) rfl rfl ?_; intro w hg; replace hs := hs.call0 hg; clear hg) | (refine dr_y rfl (fun w hs => yv_load rfl (ld1B (k1 (hs.blkL (i := 1) rfl)) (vI rfl))) (by first | exact hs | exact hs.tail | exact hs.tail.tail | exact hs.tail.tail.tail) rfl rfl ?_; intro w hg; replace hs := hs.call0 hg; clear hg) | (refine dr_y rfl (fun w hs => yv_load rfl (ld1B (k1 (hs.blkL (i := 2) rfl)) (vI rfl))) (by first | exact hs | exact hs.tail | exact hs.tail.tail | exact hs.tail.tail.tail) rfl rfl ?_; intro w hg; replace hs := hs.call0 hg; clear hg) | (refine dr_y rfl (fun w hs => yv_load rfl (ld1B (k1 (hs.blkL (i := 3) rfl)) (vI rfl))) (by first | exact hs | exact hs.tail | exact hs.tail.tail | exact hs.tail.tail.tail) rfl rfl ?_; intro w hg; replace hs := hs.call0 hg; clear hg))
         all_goals ((refine dr_call0 rfl (fun w hs => (RRootUp_g _ _ (by omega) (by omega))) rfl (by first | exact hs | exact hs.tail | exact hs.tail.tail | exact hs.tail.tail.tail) rfl rfl ?_; intro w hg; replace hs := hs.call0 hg; clear hg))
         all_goals ((refine dr_y rfl (fun w hs => yv_build rfl (o2 rfl)) (by first | exact hs | exact hs.tail | exact hs.tail.tail | exact hs.tail.tail.tail) rfl rfl ?_; intro w hg; replace hs := hs.call0 hg; clear hg))
         all_goals refine dr_h (i := 7) rfl ?_
         all_goals (first | (refine rg_store 0 hs rfl rfl (kA rfl) (l2 rfl) rfl rfl rfl rfl ?_; clear hs; intro w hs; simp only [putCells, List.take_succ_cons, List.take_zero, List.take_nil, List.drop_succ_cons, List.drop_zero, List.drop_nil, List.cons_append, List.nil_append, List.append_nil, List.length_cons, List.length_nil, Nat.reduceAdd, Nat.add_zero, Nat.zero_add, List.set_cons_zero, List.set_cons_succ] at hs) | (refine rg_store 1 hs rfl rfl (kA rfl) (l2 rfl) rfl rfl rfl rfl ?_; clear hs; intro w hs; simp only [putCells, List.take_succ_cons, List.take_zero, List.take_nil, List.drop_succ_cons, List.drop_zero, List.drop_nil, List.cons_append, List.nil_append, List.append_nil, List.length_cons, List.length_nil, Nat.reduceAdd, Nat.add_zero, Nat.zero_add, List.set_cons_zero, List.set_cons_succ] at hs) | (refine rg_store 2 hs rfl rfl (kA rfl) (l2 rfl) rfl rfl rfl rfl ?_; clear hs; intro w hs; simp only [putCells, List.take_succ_cons, List.take_zero, List.take_nil, List.drop_succ_cons, List.drop_zero, List.drop_nil, List.cons_append, List.nil_append, List.append_nil, List.length_cons, List.length_nil, Nat.reduceAdd, Nat.add_zero, Nat.zero_add, List.set_cons_zero, List.set_cons_succ] at hs) | (refine rg_store 3 hs rfl rfl (kA rfl) (l2 rfl) rfl rfl rfl rfl ?_; clear hs; intro w hs; simp only [putCells, List.take_succ_cons, List.take_zero, List.take_nil, List.drop_succ_cons, List.drop_zero, List.drop_nil, List.cons_append, List.nil_append, List.append_nil, List.length_cons, List.length_nil, Nat.reduceAdd, Nat.add_zero, Nat.zero_add, List.set_cons_zero, List.set_cons_succ] at hs))
         all_goals refine rg_nil ?_
         all_goals (refine kd_last rfl ?_; intro w hg; replace hs := hs.call0 hg; clear hg)
         all_goals refine dr_h (i := 8) rfl ?_
         all_goals (refine rg_y (yv_assign (kI rfl)) rfl rfl ?_)
         all_goals refine rg_nil ?_
         all_goals (refine kd_last rfl ?_; intro w hg; replace hs := hs.call0 hg; clear hg)
         all_goals (first | refine dr_nils [(2, _), (3, _)] ⟨sP rfl, sI rfl, trivial⟩ ?_ | refine dr_nil ?_)))
    all_goals ((first | refine k_ret2 rfl (.cell rfl (ldBB (hs.blkL (i := 0) rfl) rfl)) (.tmp rfl) ⟨r3 ?_, hs.drop⟩ | refine k_ret2 rfl (.cell rfl (ldBB (hs.blkL (i := 1) rfl) rfl)) (.tmp rfl) ⟨r3 ?_, hs.drop⟩ | refine k_ret2 rfl (.cell rfl (ldBB (hs.blkL (i := 2) rfl) rfl)) (.tmp rfl) ⟨r3 ?_, hs.drop⟩ | refine k_ret2 rfl (.cell rfl (ldBB (hs.blkL (i := 3) rfl) rfl)) (.tmp rfl) ⟨r3 ?_, hs.drop⟩ | refine k_ret2 rfl (.cell rfl (ldBB (hs.blkL (i := 4) rfl) rfl)) (.tmp rfl) ⟨r3 ?_, hs.drop⟩ | refine k_ret2 rfl (.cell rfl (ldBB (hs.blkL (i := 5) rfl) rfl)) (.tmp rfl) ⟨r3 ?_, hs.drop⟩ | refine k_ret2 rfl (.cell rfl (ldBB (hs.blkL (i := 6) rfl) rfl)) (.tmp rfl) ⟨r3 ?_, hs.drop⟩ | refine k_ret2 rfl (.cell rfl (ldBB (hs.blkL (i := 7) rfl) rfl)) (.tmp rfl) ⟨r3 ?_, hs.drop⟩); unfold rootM; rw [if_neg (by omega), if_neg (by omega)])
  · (try unfold Gives); refine calls_enter Try.func48 rfl Try.ntmps48 rfl rfl ?_; have hs := St.refl w
    repeat' (first
      | refine rn_seq ?_
      | refine ks_n ?_
      | refine rn_cond_t rfl ?_
      | refine rn_cond_f rfl ?_
      | refine kb_n ?_
      | refine rn_block ?_
      | refine rn_skip ?_
      | refine rn_ret ?_
      | refine ks_r ?_
      | refine rn_exit ?_
      | refine ks_e ?_
      | refine kb_hit ?_
      | refine kb_miss rfl ?_
      | refine kb_r ?_
      | refine kl_e ?_
      | refine kl_r ?_
      | refine kr_n ?_
      | refine rnds_succ ?_
      | refine kr_e ?_
      | refine kr_r ?_
      | (refine rn_reg 0 ?_
         all_goals ((refine rg_box hs (kA rfl) (l2 rfl) rfl rfl ?_; clear hs; intro g w hs))
         all_goals ((refine rg_alloc hs (l2 rfl) rfl rfl ?_; clear hs; intro g w hs))
         all_goals (refine rg_y (yv_assign (kI rfl)) rfl rfl ?_)
         all_goals (first | refine rg_nils [(1, _), (2, _)] ⟨sP rfl, sP rfl, trivial⟩ ?_ | refine rg_nil ?_))
      | (refine rn_reg 1 ?_
         all_goals (first | refine rg_y (yv_load rfl (ldBB (k1 (hs.blkL (i := 0) rfl)) rfl)) rfl rfl ?_ | refine rg_y (yv_load rfl (ldBB (k1 (hs.blkL (i := 1) rfl)) rfl)) rfl rfl ?_ | refine rg_y (yv_load rfl (ldBB (k1 (hs.blkL (i := 2) rfl)) rfl)) rfl rfl ?_ | refine rg_y (yv_load rfl (ldBB (k1 (hs.blkL (i := 3) rfl)) rfl)) rfl rfl ?_ | refine rg_y (yv_load rfl (ldPB (k1 (hs.blkL (i := 0) rfl)) (l2 rfl) rfl)) rfl rfl ?_ | refine rg_y (yv_load rfl (ldPB (k1 (hs.blkL (i := 1) rfl)) (l2 rfl) rfl)) rfl rfl ?_ | refine rg_y (yv_load rfl (ldPB (k1 (hs.blkL (i := 2) rfl)) (l2 rfl) rfl)) rfl rfl ?_ | refine rg_y (yv_load rfl (ldPB (k1 (hs.blkL (i := 3) rfl)) (l2 rfl) rfl)) rfl rfl ?_)
         all_goals (first | (refine rg_callbt (RValid_g _ _ _) hs rfl (by omega) rfl rfl ?_; clear hs; intro w hs) | (refine rg_callbf (RValid_g _ _ _) hs rfl (by omega) rfl rfl ?_; clear hs; intro w hs) | (refine rg_callb (RValid_g _ _ _) hs rfl rfl rfl (fun hc => ?_) (fun hc => ?_) <;> (clear hs; intro w hs)))
         all_goals (refine rg_y (yv_not rfl) rfl rfl ?_)
         all_goals (first | refine rg_nils [(1, _), (2, _), (6, _)] ⟨sP rfl, sP rfl, sB rfl, trivial⟩ ?_ | refine rg_nil ?_))
      | (refine rn_reg 2 ?_
         all_goals (refine rg_y (yv_build rfl (o2 rfl)) rfl rfl ?_)
         all_goals (first | (refine rg_store 0 hs rfl rfl (kA rfl) (l2 rfl) rfl rfl rfl rfl ?_; clear hs; intro w hs; simp only [putCells, List.take_succ_cons, List.take_zero, List.take_nil, List.drop_succ_cons, List.drop_zero, List.drop_nil, List.cons_append, List.nil_append, List.append_nil, List.length_cons, List.length_nil, Nat.reduceAdd, Nat.add_zero, Nat.zero_add, List.set_cons_zero, List.set_cons_succ] at hs) | (refine rg_store 1 hs rfl rfl (kA rfl) (l2 rfl) rfl rfl rfl rfl ?_; clear hs; intro w hs; simp only [putCells, List.take_succ_cons, List.take_zero, List.take_nil, List.drop_succ_cons, List.drop_zero, List.drop_nil, List.cons_append, List.nil_append, List.append_nil, List.length_cons, List.length_nil, Nat.reduceAdd, Nat.add_zero, Nat.zero_add, List.set_cons_zero, List.set_cons_succ] at hs) | (refine rg_store 2 hs rfl rfl (kA rfl) (l2 rfl) rfl rfl rfl rfl ?_; clear hs; intro w hs; simp only [putCells, List.take_succ_cons, List.take_zero, List.take_nil, List.drop_succ_cons, List.drop_zero, List.drop_nil, List.cons_append, List.nil_append, List.append_nil, List.length_cons, List.length_nil, Nat.reduceAdd, Nat.add_zero, Nat.zero_add, List.set_cons_zero, List.set_cons_succ] at hs) | (refine rg_store 3 hs rfl rfl (kA rfl) (l2 rfl) rfl rfl rfl rfl ?_; clear hs; intro w hs; simp only [putCells, List.take_succ_cons, List.take_zero, List.take_nil, List.drop_succ_cons, List.drop_zero, List.drop_nil, List.cons_append, List.nil_append, List.append_nil, List.length_cons, List.length_nil, Nat.reduceAdd, Nat.add_zero, Nat.zero_add, List.set_cons_zero, List.set_cons_succ] at hs))
         all_goals (refine rg_y (yv_assign (kI rfl)) rfl rfl ?_)
         all_goals (first | refine rg_nils [(2, _), (3, _)] ⟨sP rfl, sI rfl, trivial⟩ ?_ | refine rg_nil ?_))
      | (refine rn_reg 3 ?_
         all_goals (refine rg_y (yv_fieldAddr rfl) rfl rfl ?_)
         all_goals (first | refine rg_y (yv_load rfl (ld1B (k1 (hs.blkL (i := 0) rfl)) (vI rfl))) rfl rfl ?_ | refine rg_y (yv_load rfl (ld1B (k1 (hs.blkL (i := 1) rfl)) (vI rfl))) rfl rfl ?_ | refine rg_y (yv_load rfl (ld1B (k1 (hs.blkL (i := 2) rfl)) (vI rfl))) rfl rfl ?_ | refine rg_y (yv_load rfl (ld1B (k1 (hs.blkL (i := 3) rfl)) (vI rfl))) rfl rfl ?_)
         all_goals (first | refine rg_bt (yv_lss rfl rfl) (by omega) rfl rfl ?_ | refine rg_bf (yv_lss rfl rfl) (by omega) rfl rfl ?_ | refine rg_b (yv_lss rfl rfl) rfl rfl (fun hc => ?_) (fun hc => ?_))
         all_goals (first | refine rg_nils [(1, _), (2, _), (10, _)] ⟨sP rfl, sP rfl, sB rfl, trivial⟩ ?_ | refine rg_nil ?_))
      | (refine rn_reg 4 ?_
         all_goals (refine rg_y (yv_build rfl (o2 rfl)) rfl rfl ?_)
         all_goals (first | (refine rg_store 0 hs rfl rfl (kA rfl) (l2 rfl) rfl rfl rfl rfl ?_; clear hs; intro w hs; simp only [putCells, List.take_succ_cons, List.take_zero, List.take_nil, List.drop_succ_cons, List.drop_zero, List.drop_nil, List.cons_append, List.nil_append, List.append_nil, List.length_cons, List.length_nil, Nat.reduceAdd, Nat.add_zero, Nat.zero_add, List.set_cons_zero, List.set_cons_succ] at hs) | (refine rg_store 1 hs rfl rfl (kA rfl) (l2 rfl) rfl rfl rfl rfl ?_; clear hs; intro w hs; simp only [putCells, List.take_succ_cons, List.take_zero, List.take_nil, List.drop_succ_cons, List.drop_zero, List.drop_nil, List.cons_append, List.nil_append, List.append_nil, List.length_cons, List.length_nil, Nat.reduceAdd, Nat.add_zero, Nat.zero_add, List.set_cons_zero, List.set_cons_succ] at hs) | (refine rg_store 2 hs rfl rfl (kA rfl) (l2 rfl) rfl rfl rfl rfl ?_; clear hs; intro w hs; simp only [putCells, List.take_succ_cons, List.take_zero, List.take_nil, List.drop_succ_cons, List.drop_zero, List.drop_nil, List.cons_append, List.nil_append, List.append_nil, List.length_cons, List.length_nil, Nat.reduceAdd, Nat.add_zero, Nat.zero_add, List.set_cons_zero, List.set_cons_succ] at hs) | (refine rg_store 3 hs rfl rfl (kA rfl) (l2 rfl) rfl rfl rfl rfl ?_; clear hs; intro w hs; simp only [putCells, List.take_succ_cons, List.take_zero, List.take_nil, List.drop_succ_cons, List.drop_zero, List.drop_nil, List.cons_append, List.nil_append, List.append_nil, List.length_cons, List.length_nil, Nat.reduceAdd, Nat.add_zero, Nat.zero_add, List.set_cons_zero, List.set_cons_succ] at hs))
         all_goals (refine rg_y (yv_assign (kI rfl)) rfl rfl ?_)
         all_goals (first | refine rg_nils [(2, _), (3, _)] ⟨sP rfl, sI rfl, trivial⟩ ?_ | refine rg_nil ?_))
      | exfalso; omega)
    all_goals ((first | refine k_ret2 rfl (.cell rfl (ldBB (hs.blkL (i := 0) rfl) rfl)) (.tmp rfl) ⟨r3 ?_, hs.drop⟩ | refine k_ret2 rfl (.cell rfl (ldBB (hs.blkL (i := 1) rfl) rfl)) (.tmp rfl) ⟨r3 ?_, hs.drop⟩ | refine k_ret2 rfl (.cell rfl (ldBB (hs.blkL (i := 2) rfl) rfl)) (.tmp rfl) ⟨r3 ?_, hs.drop⟩ | refine k_ret2 rfl (.cell rfl (ldBB (hs.blkL (i := 3) rfl) rfl)) (.tmp rfl) ⟨r3 ?_, hs.drop⟩ | refine k_ret2 rfl (.cell rfl (ldBB (hs.blkL (i := 4) rfl) rfl)) (.tmp rfl) ⟨r3 ?_, hs.drop⟩ | refine k_ret2 rfl (.cell rfl (ldBB (hs.blkL (i := 5) rfl) rfl)) (.tmp rfl) ⟨r3 ?_, hs.drop⟩ | refine k_ret2 rfl (.cell rfl (ldBB (hs.blkL (i := 6) rfl) rfl)) (.tmp rfl) ⟨r3 ?_, hs.drop⟩ | refine k_ret2 rfl (.cell rfl (ldBB (hs.blkL (i := 7) rfl) rfl)) (.tmp rfl) ⟨r3 ?_, hs.drop⟩); unfold rootM)
    all_goals first | (rw [if_pos (by omega)]; done) | rw [if_neg (by omega), if_pos (by omega)]
theorem RHull_g (a b c d : Int) (w : World) : Gives Try.prog 49 [ivv a b, ivv c d] w (tv3 (hullM a b c d)) := by
  (try unfold Gives); refine calls_enter Try.func49 rfl Try.ntmps49 rfl rfl ?_; have hs := St.refl w
  repeat' (first
    | refine rn_seq ?_
    | refine ks_n ?_
    | refine rn_cond_t rfl ?_
    | refine rn_cond_f rfl ?_
    | refine kb_n ?_
    | refine rn_block ?_
    | refine rn_skip ?_
    | refine rn_ret ?_
    | refine ks_r ?_
    | refine rn_exit ?_
    | refine ks_e ?_
    | refine kb_hit ?_
    | refine kb_miss rfl ?_
    | refine kb_r ?_
    | refine kl_e ?_
    | refine kl_r ?_
    | refine kr_n ?_
    | refine rnds_succ ?_
    | refine kr_e ?_
    | refine kr_r ?_
    | (refine rn_reg 0 ?_
       all_goals ((refine rg_box hs (kA rfl) (l2 rfl) rfl rfl ?_; clear hs; intro g w hs))
       all_goals ((refine rg_box hs (kA rfl) (l2 rfl) rfl rfl ?_; clear hs; intro g w hs))
       all_goals ((refine rg_alloc hs (l2 rfl) rfl rfl ?_; clear hs; intro g w hs))
       all_goals (refine rg_y (yv_assign (kI rfl)) rfl rfl ?_)
       all_goals (first | refine rg_nils [(2, _), (3, _), (4, _), (10, _), (11, _), (12, _)] ⟨sP rfl, sP rfl, sP rfl, sA rfl, sB rfl, sB rfl, trivial⟩ ?_ | refine rg_nil ?_))
    | (refine rn_reg 1 ?_
       all_goals (first | refine rg_y (yv_load rfl (ldBB (k1 (hs.blkL (i := 0) rfl)) rfl)) rfl rfl ?_ | refine rg_y (yv_load rfl (ldBB (k1 (hs.blkL (i := 1) rfl)) rfl)) rfl rfl ?_ | refine rg_y (yv_load rfl (ldBB (k1 (hs.blkL (i := 2) rfl)) rfl)) rfl rfl ?_ | refine rg_y (yv_load rfl (ldBB (k1 (hs.blkL (i := 3) rfl)) rfl)) rfl rfl ?_ | refine rg_y (yv_load rfl (ldPB (k1 (hs.blkL (i := 0) rfl)) (l2 rfl) rfl)) rfl rfl ?_ | refine rg_y (yv_load rfl (ldPB (k1 (hs.blkL (i := 1) rfl)) (l2 rfl) rfl)) rfl rfl ?_ | refine rg_y (yv_load rfl (ldPB (k1 (hs.blkL (i := 2) rfl)) (l2 rfl) rfl)) rfl rfl ?_ | refine rg_y (yv_load rfl (ldPB (k1 (hs.blkL (i := 3) rfl)) (l2 rfl) rfl)) rfl rfl ?_)
       all_goals (first | (refine rg_callbt (RValid_g _ _ _) hs rfl (by omega) rfl rfl ?_; clear hs; intro w hs) | (refine rg_callbf (RValid_g _ _ _) hs rfl (by omega) rfl rfl ?_; clear hs; intro w hs) | (refine rg_callb (RValid_g _ _ _) hs rfl rfl rfl (fun hc => ?_) (fun hc => ?_) <;> (clear hs; intro w hs)))
       all_goals (refine rg_y (yv_not rfl) rfl rfl ?_)
       all_goals (refine rg_y (yv_move (kB rfl)) rfl rfl ?_)
       all_goals (first | refine rg_skip rfl rfl ?_ | (first | refine rg_y (yv_load rfl (ldBB (k1 (hs.blkL (i := 0) rfl)) rfl)) rfl rfl ?_ | refine rg_y (yv_load rfl (ldBB (k1 (hs.blkL (i := 1) rfl)) rfl)) rfl rfl ?_ | refine rg_y (yv_load rfl (ldBB (k1 (hs.blkL (i := 2) rfl)) rfl)) rfl rfl ?_ | refine rg_y (yv_load rfl (ldBB (k1 (hs.blkL (i := 3) rfl)) rfl)) rfl rfl ?_ | refine rg_y (yv_load rfl (ldPB (k1 (hs.blkL (i := 0) rfl)) (l2 rfl) rfl)) rfl rfl ?_ | refine rg_y (yv_load rfl (ldPB (k1 (hs.blkL (i := 1) rfl)) (l2 rfl) rfl)) rfl rfl ?_ | refine rg_y (yv_load rfl (ldPB (k1 (hs.blkL (i := 2) rfl)) (l2 rfl) rfl)) rfl rfl ?_ | refine rg_y (yv_load rfl (ldPB (k1 (hs.blkL (i := 3) rfl)) (l2 rfl) rfl)) rfl rfl ?_))
       all_goals (first | refine rg_skip rfl rfl ?_ | (first | (refine rg_callbt (RValid_g _ _ _) hs rfl (by omega) rfl rfl ?_; clear hs; intro w hs) | (refine rg_callbf (RValid_g _ _ _) hs rfl (by omega) rfl rfl ?_; clear hs; intro w hs) | (refine rg_callb (RValid_g _ _ _) hs rfl rfl rfl (fun hc => ?_) (fun hc => ?_) <;> (clear hs; intro w hs))))
       all_goals (first | refine rg_skip rfl rfl ?_ | refine rg_y (yv_not rfl) rfl rfl ?_)
       all_goals (first | refine rg_y (yv_pick_t rfl (kB rfl)) rfl rfl ?_ | refine rg_y (yv_pick_f rfl (kB rfl)) rfl rfl ?_)
       all_goals (first | refine rg_nils [(2, _), (3, _), (4, _), (13, _)] ⟨sP rfl, sP rfl, sP rfl, sB rfl, trivial⟩ ?_ | refine rg_nil ?_))
    | (refine rn_reg 2 ?_
       all_goals (refine rg_y (yv_build rfl (o2 rfl)) rfl rfl ?_)
       all_goals (first | (refine rg_store 0 hs rfl rfl (kA rfl) (l2 rfl) rfl rfl rfl rfl ?_; clear hs; intro w hs; simp only [putCells, List.take_succ_cons, List.take_zero, List.take_nil, List.drop_succ_cons, List.drop_zero, List.drop_nil, List.cons_append, List.nil_append, List.append_nil, List.length_cons, List.length_nil, Nat.reduceAdd, Nat.add_zero, Nat.zero_add, List.set_cons_zero, List.set_cons_succ] at hs) | (refine rg_store 1 hs rfl rfl (kA rfl) (l2 rfl) rfl rfl rfl rfl ?_; clear hs; intro w hs; simp only [putCells, List.take_succ_cons, List.take_zero, List.take_nil, List.drop_succ_cons, List.drop_zero, List.drop_nil, List.cons_append, List.nil_append, List.append_nil, List.length_cons, List.length_nil, Nat.reduceAdd, Nat.add_zero, Nat.zero_add, List.set_cons_zero, List.set_cons_succ] at hs) | (refine rg_store 2 hs rfl rfl (kA rfl) (l2 rfl) rfl rfl rfl rfl ?_; clear hs; intro w hs; simp only [putCells, List.take_succ_cons, List.take_zero, List.take_nil, List.drop_succ_cons, List.drop_zero, List.drop_nil, List.cons_append, List.nil_append, List.append_nil, List.length_cons, List.length_nil, Nat.reduceAdd, Nat.add_zero, Nat.zero_add, List.set_cons_zero, List.set_cons_succ] at hs) | (refine rg_store 3 hs rfl rfl (kA rfl) (l2 rfl) rfl rfl rfl rfl ?_; clear hs; intro w hs; simp only [putCells, List.take_succ_cons, List.take_zero, List.take_nil, List.drop_succ_cons, List.drop_zero, List.drop_nil, List.cons_append, List.nil_append, List.append_nil, List.length_cons, List.length_nil, Nat.reduceAdd, Nat.add_zero, Nat.zero_add, List.set_cons_zero, List.set_cons_succ] at hs))
       all_goals (refine rg_y (yv_assign (kI rfl)) rfl rfl ?_)
       all_goals (first | refine rg_nils [(4, _), (5, _)] ⟨sP rfl, sI rfl, trivial⟩ ?_ | refine rg_nil ?_))
    | (refine rn_reg 3 ?_
       all_goals (refine rg_y (yv_fieldAddr rfl) rfl rfl ?_)
       all_goals (first | refine rg_y (yv_load rfl (ld1B (k1 (hs.blkL (i := 0) rfl)) (vI rfl))) rfl rfl ?_ | refine rg_y (yv_load rfl (ld1B (k1 (hs.blkL (i := 1) rfl)) (vI rfl))) rfl rfl ?_ | refine rg_y (yv_load rfl (ld1B (k1 (hs.blkL (i := 2) rfl)) (vI rfl))) rfl rfl ?_ | refine rg_y (yv_load rfl (ld1B (k1 (hs.blkL (i := 3) rfl)) (vI rfl))) rfl rfl ?_)
       all_goals (refine rg_y (yv_fieldAddr rfl) rfl rfl ?_)
       all_goals (first | refine rg_y (yv_load rfl (ld1B (k1 (hs.blkL (i := 0) rfl)) (vI rfl))) rfl rfl ?_ | refine rg_y (yv_load rfl (ld1B (k1 (hs.blkL (i := 1) rfl)) (vI rfl))) rfl rfl ?_ | refine rg_y (yv_load rfl (ld1B (k1 (hs.blkL (i := 2) rfl)) (vI rfl))) rfl rfl ?_ | refine rg_y (yv_load rfl (ld1B (k1 (hs.blkL (i := 3) rfl)) (vI rfl))) rfl rfl ?_)
       all_goals (refine rg_y (yv_min rfl rfl) rfl rfl ?_)
       all_goals (refine rg_y (yv_fieldAddr rfl) rfl rfl ?_)
       all_goals (first | refine rg_y (yv_load rfl (ld1B (k1 (hs.blkL (i := 0) rfl)) (vI rfl))) rfl rfl ?_ | refine rg_y (yv_load rfl (ld1B (k1 (hs.blkL (i := 1) rfl)) (vI rfl))) rfl rfl ?_ | refine rg_y (yv_load rfl (ld1B (k1 (hs.blkL (i := 2) rfl)) (vI rfl))) rfl rfl ?_ | refine rg_y (yv_load rfl (ld1B (k1 (hs.blkL (i := 3) rfl)) (vI rfl))) rfl rfl ?_)
       all_goals (refine rg_y (yv_fieldAddr rfl) rfl rfl ?_)
       all_goals (first | refine rg_y (yv_load rfl (ld1B (k1 (hs.blkL (i := 0) rfl)) (vI rfl))) rfl rfl ?_ | refine rg_y (yv_load rfl (ld1B (k1 (hs.blkL (i := 1) rfl)) (vI rfl))) rfl rfl ?_ | refine rg_y (yv_load rfl (ld1B (k1 (hs.blkL (i := 2) rfl)) (vI rfl))) rfl rfl ?_ | refine rg_y (yv_load rfl (ld1B (k1 (hs.blkL (i := 3) rfl)) (vI rfl))) rfl rfl ?_)
       all_goals (refine rg_y (yv_max rfl rfl) rfl rfl ?_)
       all_goals (refine rg_y (yv_build rfl (o2 rfl)) rfl rfl ?_)
       all_goals (first | (refine rg_store 0 hs rfl rfl (kA rfl) (l2 rfl) rfl rfl rfl rfl ?_; clear hs; intro w hs; simp only [putCells, List.take_succ_cons, List.take_zero, List.take_nil, List.drop_succ_cons, List.drop_zero, List.drop_nil, List.cons_append, List.nil_append, List.append_nil, List.length_cons, List.length_nil, Nat.reduceAdd, Nat.add_zero, Nat.zero_add, List.set_cons_zero, List.set_cons_succ] at hs) | (refine rg_store 1 hs rfl rfl (kA rfl) (l2 rfl) rfl rfl rfl rfl ?_; clear hs; intro w hs; simp only [putCells, List.take_succ_cons, List.take_zero, List.take_nil, List.drop_succ_cons, List.drop_zero, List.drop_nil, List.cons_append, List.nil_append, List.append_nil, List.length_cons, List.length_nil, Nat.reduceAdd, Nat.add_zero, Nat.zero_add, List.set_cons_zero, List.set_cons_succ] at hs) | (refine rg_store 2 hs rfl rfl (kA rfl) (l2 rfl) rfl rfl rfl rfl ?_; clear hs; intro w hs; simp only [putCells, List.take_succ_cons, List.take_zero, List.take_nil, List.drop_succ_cons, List.drop_zero, List.drop_nil, List.cons_append, List.nil_append, List.append_nil, List.length_cons, List.length_nil, Nat.reduceAdd, Nat.add_zero, Nat.zero_add, List.set_cons_zero, List.set_cons_succ] at hs) | (refine rg_store 3 hs rfl rfl (kA rfl) (l2 rfl) rfl rfl rfl rfl ?_; clear hs; intro w hs; simp only [putCells, List.take_succ_cons, List.take_zero, List.take_nil, List.drop_succ_cons, List.drop_zero, List.drop_nil, List.cons_append, List.nil_append, List.append_nil, List.length_cons, List.length_nil, Nat.reduceAdd, Nat.add_zero, Nat.zero_add, List.set_cons_zero, List.set_cons_succ] at hs))
       all_goals (refine rg_y (yv_assign (kI rfl)) rfl rfl ?_)
       all_goals (first | refine rg_nils [(4, _), (5, _)] ⟨sP rfl, sI rfl, trivial⟩ ?_ | refine rg_nil ?_)))
  all_goals ((first | refine k_ret2 rfl (.cell rfl (ldBB (hs.blkL (i := 0) rfl) rfl)) (.tmp rfl) ⟨r3 ?_, hs.drop⟩ | refine k_ret2 rfl (.cell rfl (ldBB (hs.blkL (i := 1) rfl) rfl)) (.tmp rfl) ⟨r3 ?_, hs.drop⟩ | refine k_ret2 rfl (.cell rfl (ldBB (hs.blkL (i := 2) rfl) rfl)) (.tmp rfl) ⟨r3 ?_, hs.drop⟩ | refine k_ret2 rfl (.cell rfl (ldBB (hs.blkL (i := 3) rfl) rfl)) (.tmp rfl) ⟨r3 ?_, hs.drop⟩ | refine k_ret2 rfl (.cell rfl (ldBB (hs.blkL (i := 4) rfl) rfl)) (.tmp rfl) ⟨r3 ?_, hs.drop⟩ | refine k_ret2 rfl (.cell rfl (ldBB (hs.blkL (i := 5) rfl) rfl)) (.tmp rfl) ⟨r3 ?_, hs.drop⟩ | refine k_ret2 rfl (.cell rfl (ldBB (hs.blkL (i := 6) rfl) rfl)) (.tmp rfl) ⟨r3 ?_, hs.drop⟩ | refine k_ret2 rfl (.cell rfl (ldBB (hs.blkL (i := 7) rfl) rfl)) (.tmp rfl) ⟨r3 ?_, hs.drop⟩); unfold hullM; first | rw [if_pos (by omega)] | rw [if_neg (by omega)])
theorem RMeet_g (a b c d : Int) (w : World) : Gives Try.prog 50 [ivv a b, ivv c d] w (tv3 (meetM a b c d)) := by
  (try unfold Gives); refine calls_enter Try.func50 rfl Try.ntmps50 rfl rfl ?_; have hs := St.refl w
  repeat' (first
    | refine rn_seq ?_
    | refine ks_n ?_
    | refine rn_cond_t rfl ?_
    | refine rn_cond_f rfl ?_
    | refine kb_n ?_
    | refine rn_block ?_
    | refine rn_skip ?_
    | refine rn_ret ?_
    | refine ks_r ?_
    | refine rn_exit ?_
    | refine ks_e ?_
    | refine kb_hit ?_
    | refine kb_miss rfl ?_
    | refine kb_r ?_
    | refine kl_e ?_
    | refine kl_r ?_
    | refine kr_n ?_
    | refine rnds_succ ?_
    | refine kr_e ?_
    | refine kr_r ?_
    | (refine rn_reg 0 ?_
       all_goals ((refine rg_box hs (kA rfl) (l2 rfl) rfl rfl ?_; clear hs; intro g w hs))
       all_goals ((refine rg_box hs (kA rfl) (l2 rfl) rfl rfl ?_; clear hs; intro g w hs))
       all_goals ((refine rg_alloc hs (l2 rfl) rfl rfl ?_; clear hs; intro g w hs))
       all_goals (refine rg_y (yv_assign (kI rfl)) rfl rfl ?_)
       all_goals (first | refine rg_nils [(2, _), (3, _), (4, _), (11, _), (12, _), (13, _)] ⟨sP rfl, sP rfl, sP rfl, sA rfl, sB rfl, sB rfl, trivial⟩ ?_ | refine rg_nil ?_))
    | (refine rn_reg 1 ?_
       all_goals (first | refine rg_y (yv_load rfl (ldBB (k1 (hs.blkL (i := 0) rfl)) rfl)) rfl rfl ?_ | refine rg_y (yv_load rfl (ldBB (k1 (hs.blkL (i := 1) rfl)) rfl)) rfl rfl ?_ | refine rg_y (yv_load rfl (ldBB (k1 (hs.blkL (i := 2) rfl)) rfl)) rfl rfl ?_ | refine rg_y (yv_load rfl (ldBB (k1 (hs.blkL (i := 3) rfl)) rfl)) rfl rfl ?_ | refine rg_y (yv_load rfl (ldPB (k1 (hs.blkL (i := 0) rfl)) (l2 rfl) rfl)) rfl rfl ?_ | refine rg_y (yv_load rfl (ldPB (k1 (hs.blkL (i := 1) rfl)) (l2 rfl) rfl)) rfl rfl ?_ | refine rg_y (yv_load rfl (ldPB (k1 (hs.blkL (i := 2) rfl)) (l2 rfl) rfl)) rfl rfl ?_ | refine rg_y (yv_load rfl (ldPB (k1 (hs.blkL (i := 3) rfl)) (l2 rfl) rfl)) rfl rfl ?_)
       all_goals (first | (refine rg_callbt (RValid_g _ _ _) hs rfl (by omega) rfl rfl ?_; clear hs; intro w hs) | (refine rg_callbf (RValid_g _ _ _) hs rfl (by omega) rfl rfl ?_; clear hs; intro w hs) | (refine rg_callb (RValid_g _ _ _) hs rfl rfl rfl (fun hc => ?_) (fun hc => ?_) <;> (clear hs; intro w hs)))
       all_goals (refine rg_y (yv_not rfl) rfl rfl ?_)
       all_goals (refine rg_y (yv_move (kB rfl)) rfl rfl ?_)
       all_goals (first | refine rg_skip rfl rfl ?_ | (first | refine rg_y (yv_load rfl (ldBB (k1 (hs.blkL (i := 0) rfl)) rfl)) rfl rfl ?_ | refine rg_y (yv_load rfl (ldBB (k1 (hs.blkL (i := 1) rfl)) rfl)) rfl rfl ?_ | refine rg_y (yv_load rfl (ldBB (k1 (hs.blkL (i := 2) rfl)) rfl)) rfl rfl ?_ | refine rg_y (yv_load rfl (ldBB (k1 (hs.blkL (i := 3) rfl)) rfl)) rfl rfl ?_ | refine rg_y (yv_load rfl (ldPB (k1 (hs.blkL (i := 0) rfl)) (l2 rfl) rfl)) rfl rfl ?_ | refine rg_y (yv_load rfl (ldPB (k1 (hs.blkL (i := 1) rfl)) (l2 rfl) rfl)) rfl rfl ?_ | refine rg_y (yv_load rfl (ldPB (k1 (hs.blkL (i := 2) rfl)) (l2 rfl) rfl)) rfl rfl ?_ | refine rg_y (yv_load rfl (ldPB (k1 (hs.blkL (i := 3) rfl)) (l2 rfl) rfl)) rfl rfl ?_))
       all_goals (first | refine rg_skip rfl rfl ?_ | (first | (refine rg_callbt (RValid_g _ _ _) hs rfl (by omega) rfl rfl ?_; clear hs; intro w hs) | (refine rg_callbf (RValid_g _ _ _) hs rfl (by omega) rfl rfl ?_; clear hs; intro w hs) | (refine rg_callb (RValid_g _ _ _) hs rfl rfl rfl (fun hc => ?_) (fun hc => ?_) <;> (clear hs; intro w hs))))
       all_goals (first | refine rg_skip rfl rfl ?_ | refine rg_y (yv_not rfl) rfl rfl ?_)
       all_goals (first | refine rg_y (yv_pick_t rfl (kB rfl)) rfl rfl ?_ | refine rg_y (yv_pick_f rfl (kB rfl)) rfl rfl ?_)
       all_goals (first | refine rg_nils [(2, _), (3, _), (4, _), (14, _)] ⟨sP rfl, sP rfl, sP rfl, sB rfl, trivial⟩ ?_ | refine rg_nil ?_))
    | (refine rn_reg 2 ?_
       all_goals (refine rg_y (yv_build rfl (o2 rfl)) rfl rfl ?_)
       all_goals (first | (refine rg_store 0 hs rfl rfl (kA rfl) (l2 rfl) rfl rfl rfl rfl ?_; clear hs; intro w hs; simp only [putCells, List.take_succ_cons, List.take_zero, List.take_nil, List.drop_succ_cons, List.drop_zero, List.drop_nil, List.cons_append, List.nil_append, List.append_nil, List.length_cons, List.length_nil, Nat.reduceAdd, Nat.add_zero, Nat.zero_add, List.set_cons_zero, List.set_cons_succ] at hs) | (refine rg_store 1 hs rfl rfl (kA rfl) (l2 rfl) rfl rfl rfl rfl ?_; clear hs; intro w hs; simp only [putCells, List.take_succ_cons, List.take_zero, List.take_nil, List.drop_succ_cons, List.drop_zero, List.drop_nil, List.cons_append, List.nil_append, List.append_nil, List.length_cons, List.length_nil, Nat.reduceAdd, Nat.add_zero, Nat.zero_add, List.set_cons_zero, List.set_cons_succ] at hs) | (refine rg_store 2 hs rfl rfl (kA rfl) (l2 rfl) rfl rfl rfl rfl ?_; clear hs; intro w hs; simp only [putCells, List.take_succ_cons, List.take_zero, List.take_nil, List.drop_succ_cons, List.drop_zero, List.drop_nil, List.cons_append, List.nil_append, List.append_nil, List.length_cons, List.length_nil, Nat.reduceAdd, Nat.add_zero, Nat.zero_add, List.set_cons_zero, List.set_cons_succ] at hs) | (refine rg_store 3 hs rfl rfl (kA rfl) (l2 rfl) rfl rfl rfl rfl ?_; clear hs; intro w hs; simp only [putCells, List.take_succ_cons, List.take_zero, List.take_nil, List.drop_succ_cons, List.drop_zero, List.drop_nil, List.cons_append, List.nil_append, List.append_nil, List.length_cons, List.length_nil, Nat.reduceAdd, Nat.add_zero, Nat.zero_add, List.set_cons_zero, List.set_cons_succ] at hs))
       all_goals (refine rg_y (yv_assign (kI rfl)) rfl rfl ?_)
       all_goals (first | refine rg_nils [(4, _), (5, _)] ⟨sP rfl, sI rfl, trivial⟩ ?_ | refine rg_nil ?_))
    | (refine rn_reg 3 ?_
       all_goals (refine rg_y (yv_fieldAddr rfl) rfl rfl ?_)
       all_goals (first | refine rg_y (yv_load rfl (ld1B (k1 (hs.blkL (i := 0) rfl)) (vI rfl))) rfl rfl ?_ | refine rg_y (yv_load rfl (ld1B (k1 (hs.blkL (i := 1) rfl)) (vI rfl))) rfl rfl ?_ | refine rg_y (yv_load rfl (ld1B (k1 (hs.blkL (i := 2) rfl)) (vI rfl))) rfl rfl ?_ | refine rg_y (yv_load rfl (ld1B (k1 (hs.blkL (i := 3) rfl)) (vI rfl))) rfl rfl ?_)
       all_goals (refine rg_y (yv_fieldAddr rfl) rfl rfl ?_)
       all_goals (first | refine rg_y (yv_load rfl (ld1B (k1 (hs.blkL (i := 0) rfl)) (vI rfl))) rfl rfl ?_ | refine rg_y (yv_load rfl (ld1B (k1 (hs.blkL (i := 1) rfl)) (vI rfl))) rfl rfl ?_ | refine rg_y (yv_load rfl (ld1B (k1 (hs.blkL (i := 2) rfl)) (vI rfl))) rfl rfl ?_ | refine rg_y (yv_load rfl (ld1B (k1 (hs.blkL (i := 3) rfl)) (vI rfl))) rfl rfl ?_)
       all_goals (refine rg_y (yv_max rfl rfl) rfl rfl ?_)
       all_goals (refine rg_y (yv_fieldAddr rfl) rfl rfl ?_)
       all_goals (first | refine rg_y (yv_load rfl (ld1B (k1 (hs.blkL (i := 0) rfl)) (vI rfl))) rfl rfl ?_ | refine rg_y (yv_load rfl (ld1B (k1 (hs.blkL (i := 1) rfl)) (vI rfl))) rfl rfl ?_ | refine rg_y (yv_load rfl (ld1B (k1 (hs.blkL (i := 2) rfl)) (vI rfl))) rfl rfl ?_ | refine rg_y (yv_load rfl (ld1B (k1 (hs.blkL (i := 3) rfl)) (vI rfl))) rfl rfl ?_)
       all_goals (refine rg_y (yv_fieldAddr rfl) rfl rfl ?_)
       all_goals (first | refine rg_y (yv_load rfl (ld1B (k1 (hs.blkL (i := 0) rfl)) (vI rfl))) rfl rfl ?_ | refine rg_y (yv_load rfl (ld1B (k1 (hs.blkL (i := 1) rfl)) (vI rfl))) rfl rfl ?_ | refine rg_y (yv_load rfl (ld1B (k1 (hs.blkL (i := 2) rfl)) (vI rfl))) rfl rfl ?_ | refine rg_y (yv_load rfl (ld1B (k1 (hs.blkL (i := 3) rfl)) (vI rfl))) rfl rfl ?_)
       all_goals (refine rg_y (yv_min rfl rfl) rfl rfl ?_)
       all_goals (refine rg_y (yv_build rfl (o2 rfl)) rfl rfl ?_)
       all_goals ((refine rg_alloc hs (l2 rfl) rfl rfl ?_; clear hs; intro g w hs))
       all_goals (first | (refine rg_store 0 hs rfl rfl (kA rfl) (l2 rfl) rfl rfl rfl rfl ?_; clear hs; intro w hs; simp only [putCells, List.take_succ_cons, List.take_zero, List.take_nil, List.drop_succ_cons, List.drop_zero, List.drop_nil, List.cons_append, List.nil_append, List.append_nil, List.length_cons, List.length_nil, Nat.reduceAdd, Nat.add_zero, Nat.zero_add, List.set_cons_zero, List.set_cons_succ] at hs) | (refine rg_store 1 hs rfl rfl (kA rfl) (l2 rfl) rfl rfl rfl rfl ?_; clear hs; intro w hs; simp only [putCells, List.take_succ_cons, List.take_zero, List.take_nil, List.drop_succ_cons, List.drop_zero, List.drop_nil, List.cons_append, List.nil_append, List.append_nil, List.length_cons, List.length_nil, Nat.reduceAdd, Nat.add_zero, Nat.zero_add, List.set_cons_zero, List.set_cons_succ] at hs) | (refine rg_store 2 hs rfl rfl (kA rfl) (l2 rfl) rfl rfl rfl rfl ?_; clear hs; intro w hs; simp only [putCells, List.take_succ_cons, List.take_zero, List.take_nil, List.drop_succ_cons, List.drop_zero, List.drop_nil, List.cons_append, List.nil_append, List.append_nil, List.length_cons, List.length_nil, Nat.reduceAdd, Nat.add_zero, Nat.zero_add, List.set_cons_zero, List.set_cons_succ] at hs) | (refine rg_store 3 hs rfl rfl (kA rfl) (l2 rfl) rfl rfl rfl rfl ?_; clear hs; intro w hs; simp only [putCells, List.take_succ_cons, List.take_zero, List.take_nil, List.drop_succ_cons, List.drop_zero, List.drop_nil, List.cons_append, List.nil_append, List.append_nil, List.length_cons, List.length_nil, Nat.reduceAdd, Nat.add_zero, Nat.zero_add, List.set_cons_zero, List.set_cons_succ] at hs))
       all_goals (first | refine rg_nils [(4, _), (6, _)] ⟨sP rfl, sP rfl, trivial⟩ ?_ | refine rg_nil ?_))
    | (refine rn_reg 4 ?_
       all_goals (refine rg_y (yv_fieldAddr rfl) rfl rfl ?_)
       all_goals (first | refine rg_y (yv_load rfl (ld1B (k1 (hs.blkL (i := 0) rfl)) (vI rfl))) rfl rfl ?_ | refine rg_y (yv_load rfl (ld1B (k1 (hs.blkL (i := 1) rfl)) (vI rfl))) rfl rfl ?_ | refine rg_y (yv_load rfl (ld1B (k1 (hs.blkL (i := 2) rfl)) (vI rfl))) rfl rfl ?_ | refine rg_y (yv_load rfl (ld1B (k1 (hs.blkL (i := 3) rfl)) (vI rfl))) rfl rfl ?_)
       all_goals (refine rg_y (yv_fieldAddr rfl) rfl rfl ?_)
       all_goals (first | refine rg_y (yv_load rfl (ld1B (k1 (hs.blkL (i := 0) rfl)) (vI rfl))) rfl rfl ?_ | refine rg_y (yv_load rfl (ld1B (k1 (hs.blkL (i := 1) rfl)) (vI rfl))) rfl rfl ?_ | refine rg_y (yv_load rfl (ld1B (k1 (hs.blkL (i := 2) rfl)) (vI rfl))) rfl rfl ?_ | refine rg_y (yv_load rfl (ld1B (k1 (hs.blkL (i := 3) rfl)) (vI rfl))) rfl rfl ?_)
       all_goals (first | refine rg_bt (yv_gtr rfl rfl) (by omega) rfl rfl ?_ | refine rg_bf (yv_gtr rfl rfl) (by omega) rfl rfl ?_ | refine rg_b (yv_gtr rfl rfl) rfl rfl (fun hc => ?_) (fun hc => ?_))
       all_goals (first | refine rg_nils [(4, _), (6, _), (31, _)] ⟨sP rfl, sP rfl, sB rfl, trivial⟩ ?_ | refine rg_nil ?_))
    | (refine rn_reg 5 ?_
       all_goals (refine rg_y (yv_build rfl (o2 rfl)) rfl rfl ?_)
       all_goals (first | (refine rg_store 0 hs rfl rfl (kA rfl) (l2 rfl) rfl rfl rfl rfl ?_; clear hs; intro w hs; simp only [putCells, List.take_succ_cons, List.take_zero, List.take_nil, List.drop_succ_cons, List.drop_zero, List.drop_nil, List.cons_append, List.nil_append, List.append_nil, List.length_cons, List.length_nil, Nat.reduceAdd, Nat.add_zero, Nat.zero_add, List.set_cons_zero, List.set_cons_succ] at hs) | (refine rg_store 1 hs rfl rfl (kA rfl) (l2 rfl) rfl rfl rfl rfl ?_; clear hs; intro w hs; simp only [putCells, List.take_succ_cons, List.take_zero, List.take_nil, List.drop_succ_cons, List.drop_zero, List.drop_nil, List.cons_append, List.nil_append, List.append_nil, List.length_cons, List.length_nil, Nat.reduceAdd, Nat.add_zero, Nat.zero_add, List.set_cons_zero, List.set_cons_succ] at hs) | (refine rg_store 2 hs rfl rfl (kA rfl) (l2 rfl) rfl rfl rfl rfl ?_; clear hs; intro w hs; simp only [putCells, List.take_succ_cons, List.take_zero, List.take_nil, List.drop_succ_cons, List.drop_zero, List.drop_nil, List.cons_append, List.nil_append, List.append_nil, List.length_cons, List.length_nil, Nat.reduceAdd, Nat.add_zero, Nat.zero_add, List.set_cons_zero, List.set_cons_succ] at hs) | (refine rg_store 3 hs rfl rfl (kA rfl) (l2 rfl) rfl rfl rfl rfl ?_; clear hs; intro w hs; simp only [putCells, List.take_succ_cons, List.take_zero, List.take_nil, List.drop_succ_cons, List.drop_zero, List.drop_nil, List.cons_append, List.nil_append, List.append_nil, List.length_cons, List.length_nil, Nat.reduceAdd, Nat.add_zero, Nat.zero_add, List.set_cons_zero, List.set_cons_succ] at hs))
       all_goals (refine rg_y (yv_assign (kI rfl)) rfl rfl ?_)
       all_goals (first | refine rg_nils [(4, _), (5, _)] ⟨sP rfl, sI rfl, trivial⟩ ?_ | refine rg_nil ?_))
    | (refine rn_reg 6 ?_
       all_goals (first | refine rg_y (yv_load rfl (ldBB (k1 (hs.blkL (i := 0) rfl)) rfl)) rfl rfl ?_ | refine rg_y (yv_load rfl (ldBB (k1 (hs.blkL (i := 1) rfl)) rfl)) rfl rfl ?_ | refine rg_y (yv_load rfl (ldBB (k1 (hs.blkL (i := 2) rfl)) rfl)) rfl rfl ?_ | refine rg_y (yv_load rfl (ldBB (k1 (hs.blkL (i := 3) rfl)) rfl)) rfl rfl ?_ | refine rg_y (yv_load rfl (ldPB (k1 (hs.blkL (i := 0) rfl)) (l2 rfl) rfl)) rfl rfl ?_ | refine rg_y (yv_load rfl (ldPB (k1 (hs.blkL (i := 1) rfl)) (l2 rfl) rfl)) rfl rfl ?_ | refine rg_y (yv_load rfl (ldPB (k1 (hs.blkL (i := 2) rfl)) (l2 rfl) rfl)) rfl rfl ?_ | refine rg_y (yv_load rfl (ldPB (k1 (hs.blkL (i := 3) rfl)) (l2 rfl) rfl)) rfl rfl ?_)
       all_goals (first | (refine rg_store 0 hs rfl rfl (kA rfl) (l2 rfl) rfl rfl rfl rfl ?_; clear hs; intro w hs; simp only [putCells, List.take_succ_cons, List.take_zero, List.take_nil, List.drop_succ_cons, List.drop_zero, List.drop_nil, List.cons_append, List.nil_append, List.append_nil, List.length_cons, List.length_nil, Nat.reduceAdd, Nat.add_zero, Nat.zero_add, List.set_cons_zero, List.set_cons_succ] at hs) | (refine rg_store 1 hs rfl rfl (kA rfl) (l2 rfl) rfl rfl rfl rfl ?_; clear hs; intro w hs; simp only [putCells, List.take_succ_cons, List.take_zero, List.take_nil, List.drop_succ_cons, List.drop_zero, List.drop_nil, List.cons_append, List.nil_append, List.append_nil, List.length_cons, List.length_nil, Nat.reduceAdd, Nat.add_zero, Nat.zero_add, List.set_cons_zero, List.set_cons_succ] at hs) | (refine rg_store 2 hs rfl rfl (kA rfl) (l2 rfl) rfl rfl rfl rfl ?_; clear hs; intro w hs; simp only [putCells, List.take_succ_cons, List.take_zero, List.take_nil, List.drop_succ_cons, List.drop_zero, List.drop_nil, List.cons_append, List.nil_append, List.append_nil, List.length_cons, List.length_nil, Nat.reduceAdd, Nat.add_zero, Nat.zero_add, List.set_cons_zero, List.set_cons_succ] at hs) | (refine rg_store 3 hs rfl rfl (kA rfl) (l2 rfl) rfl rfl rfl rfl ?_; clear hs; intro w hs; simp only [putCells, List.take_succ_cons, List.take_zero, List.take_nil, List.drop_succ_cons, List.drop_zero, List.drop_nil, List.cons_append, List.nil_append, List.append_nil, List.length_cons, List.length_nil, Nat.reduceAdd, Nat.add_zero, Nat.zero_add, List.set_cons_zero, List.set_cons_succ] at hs))
       all_goals (refine rg_y (yv_assign (kI rfl)) rfl rfl ?_)
       all_goals (first | refine rg_nils [(4, _), (5, _)] ⟨sP rfl, sI rfl, trivial⟩ ?_ | refine rg_nil ?_)))
  all_goals ((first | refine k_ret2 rfl (.cell rfl (ldBB (hs.blkL (i := 0) rfl) rfl)) (.tmp rfl) ⟨r3 ?_, hs.drop⟩ | refine k_ret2 rfl (.cell rfl (ldBB (hs.blkL (i := 1) rfl) rfl)) (.tmp rfl) ⟨r3 ?_, hs.drop⟩ | refine k_ret2 rfl (.cell rfl (ldBB (hs.blkL (i := 2) rfl) rfl)) (.tmp rfl) ⟨r3 ?_, hs.drop⟩ | refine k_ret2 rfl (.cell rfl (ldBB (hs.blkL (i := 3) rfl) rfl)) (.tmp rfl) ⟨r3 ?_, hs.drop⟩ | refine k_ret2 rfl (.cell rfl (ldBB (hs.blkL (i := 4) rfl) rfl)) (.tmp rfl) ⟨r3 ?_, hs.drop⟩ | refine k_ret2 rfl (.cell rfl (ldBB (hs.blkL (i := 5) rfl) rfl)) (.tmp rfl) ⟨r3 ?_, hs.drop⟩ | refine k_ret2 rfl (.cell rfl (ldBB (hs.blkL (i := 6) rfl) rfl)) (.tmp rfl) ⟨r3 ?_, hs.drop⟩ | refine k_ret2 rfl (.cell rfl (ldBB (hs.blkL (i := 7) rfl) rfl)) (.tmp rfl) ⟨r3 ?_, hs.drop⟩); unfold meetM)
  all_goals first | rw [if_pos (by omega), if_pos (by omega)] | rw [if_pos (by omega), if_neg (by omega)] | rw [if_neg (by omega)]
theorem Rbounded_g (n : Int) (w : World) : Gives Try.prog 35 [.int .i64 n] w (tv2 (if Inr n then (n, 0) else (0, 4))) := by
  (try unfold Gives); refine calls_enter Try.func35 rfl Try.ntmps35 rfl rfl ?_; have hs := St.refl w
  repeat' (first
    | refine rn_seq ?_
    | refine ks_n ?_
    | refine rn_cond_t rfl ?_
    | refine rn_cond_f rfl ?_
    | refine kb_n ?_
    | refine rn_block ?_
    | refine rn_skip ?_
    | refine rn_ret ?_
    | refine ks_r ?_
    | refine rn_exit ?_
    | refine ks_e ?_
    | refine kb_hit ?_
    | refine kb_miss rfl ?_
    | refine kb_r ?_
    | refine kl_e ?_
    | refine kl_r ?_
    | refine kr_n ?_
    | refine rnds_succ ?_
    | refine kr_e ?_
    | refine kr_r ?_
    | (refine rn_reg 0 ?_
       all_goals (refine rg_y (yv_assign (kI rfl)) rfl rfl ?_)
       all_goals (refine rg_y (yv_assign (kI rfl)) rfl rfl ?_)
       all_goals (first | refine rg_nils [(0, _), (7, _), (8, _)] ⟨sI rfl, sI rfl, sB rfl, trivial⟩ ?_ | refine rg_nil ?_))
    | (refine rn_reg 1 ?_
       all_goals (refine rg_y (yv_move (kI rfl)) rfl rfl ?_)
       all_goals (first | refine rg_bt (yv_lss rfl rfl) (by omega) rfl rfl ?_ | refine rg_bf (yv_lss rfl rfl) (by omega) rfl rfl ?_ | refine rg_b (yv_lss rfl rfl) rfl rfl (fun hc => ?_) (fun hc => ?_))
       all_goals (refine rg_y (yv_move (kB rfl)) rfl rfl ?_)
       all_goals (first | refine rg_skip rfl rfl ?_ | refine rg_y (yv_move (kI rfl)) rfl rfl ?_)
       all_goals (first | refine rg_skip rfl rfl ?_ | (first | refine rg_bt (yv_gtr rfl rfl) (by omega) rfl rfl ?_ | refine rg_bf (yv_gtr rfl rfl) (by omega) rfl rfl ?_ | refine rg_b (yv_gtr rfl rfl) rfl rfl (fun hc => ?_) (fun hc => ?_)))
       all_goals (first | refine rg_y (yv_pick_t rfl (kB rfl)) rfl rfl ?_ | refine rg_y (yv_pick_f rfl (kB rfl)) rfl rfl ?_)
       all_goals (first | refine rg_nils [(0, _), (9, _)] ⟨sI rfl, sB rfl, trivial⟩ ?_ | refine rg_nil ?_))
    | (refine rn_reg 2 ?_
       all_goals (refine rg_y (yv_assign (kI rfl)) rfl rfl ?_)
       all_goals (refine rg_y (yv_assign (kI rfl)) rfl rfl ?_)
       all_goals (first | refine rg_nils [(2, _), (3, _)] ⟨sI rfl, sI rfl, trivial⟩ ?_ | refine rg_nil ?_))
    | (refine rn_reg 3 ?_
       all_goals (refine rg_y (yv_move (kI rfl)) rfl rfl ?_)
       all_goals (refine rg_y (yv_assign (kI rfl)) rfl rfl ?_)
       all_goals (refine rg_y (yv_assign (kI rfl)) rfl rfl ?_)
       all_goals (first | refine rg_nils [(2, _), (3, _)] ⟨sI rfl, sI rfl, trivial⟩ ?_ | refine rg_nil ?_)))
  all_goals (refine k_ret2 rfl (.tmp rfl) (.tmp rfl) ⟨r2 ?_, hs.drop⟩; first | rw [if_pos (by omega)] | rw [if_neg (by omega)])
theorem RFloor_g (a b : Int) (w : World) (ha : I64 a) : Gives Try.prog 12 [.int .i64 a, .int .i64 b] w (tv2 (floorM a b)) := by
  (try unfold Gives); refine calls_enter Try.func12 rfl Try.ntmps12 rfl rfl ?_; have hs := St.refl w
  repeat' (first
    | refine rn_seq ?_
    | refine ks_n ?_
    | refine rn_cond_t rfl ?_
    | refine rn_cond_f rfl ?_
    | refine kb_n ?_
    | refine rn_block ?_
    | refine rn_skip ?_
    | refine rn_ret ?_
    | refine ks_r ?_
    | refine rn_exit ?_
    | refine ks_e ?_
    | refine kb_hit ?_
    | refine kb_miss rfl ?_
    | refine kb_r ?_
    | refine kl_e ?_
    | refine kl_r ?_
    | refine kr_n ?_
    | refine rnds_succ ?_
    | refine kr_e ?_
    | refine kr_r ?_
    | (refine rn_reg 0 ?_
       all_goals (refine rg_y (yv_assign (kI rfl)) rfl rfl ?_)
       all_goals (refine rg_y (yv_assign (kI rfl)) rfl rfl ?_)
       all_goals (first | refine rg_nils [(0, _), (1, _), (11, _), (12, _)] ⟨sI rfl, sI rfl, sI rfl, sB rfl, trivial⟩ ?_ | refine rg_nil ?_))
    | (refine rn_reg 1 ?_
       all_goals (refine rg_y (yv_move (kI rfl)) rfl rfl ?_)
       all_goals (first | refine rg_bt (yv_eql rfl rfl) (by omega) rfl rfl ?_ | refine rg_bf (yv_eql rfl rfl) (by omega) rfl rfl ?_ | refine rg_b (yv_eql rfl rfl) rfl rfl (fun hc => ?_) (fun hc => ?_))
       all_goals (first | refine rg_nils [(0, _), (1, _), (7, _), (11, _), (12, _)] ⟨sI rfl, sI rfl, sB rfl, sI rfl, sB rfl, trivial⟩ ?_ | refine rg_nil ?_))
    | (refine rn_reg 2 ?_
       all_goals (refine rg_y (yv_assign (kI rfl)) rfl rfl ?_)
       all_goals (refine rg_y (yv_assign (kI rfl)) rfl rfl ?_)
       all_goals (first | refine rg_nils [(4, _), (5, _)] ⟨sI rfl, sI rfl, trivial⟩ ?_ | refine rg_nil ?_))
    | (refine rn_reg 3 ?_
       all_goals (refine rg_y (yv_move (kI rfl)) rfl rfl ?_)
       all_goals (first | refine rg_bt (yv_eql rfl rfl) (by omega) rfl rfl ?_ | refine rg_bf (yv_eql rfl rfl) (by omega) rfl rfl ?_ | refine rg_b (yv_eql rfl rfl) rfl rfl (fun hc => ?_) (fun hc => ?_))
       all_goals (refine rg_y (yv_move (kB rfl)) rfl rfl ?_)
       all_goals (first | refine rg_skip rfl rfl ?_ | refine rg_y (yv_move (kI rfl)) rfl rfl ?_)
       all_goals (first | refine rg_skip rfl rfl ?_ | (first | refine rg_bt (yv_lss rfl rfl) (by omega) rfl rfl ?_ | refine rg_bf (yv_lss rfl rfl) (by omega) rfl rfl ?_ | refine rg_b (yv_lss rfl rfl) rfl rfl (fun hc => ?_) (fun hc => ?_)))
       all_goals (first | refine rg_y (yv_pick_t rfl (kB rfl)) rfl rfl ?_ | refine rg_y (yv_pick_f rfl (kB rfl)) rfl rfl ?_)
       all_goals (first | refine rg_nils [(0, _), (1, _), (13, _)] ⟨sI rfl, sI rfl, sB rfl, trivial⟩ ?_ | refine rg_nil ?_))
    | (refine rn_reg 4 ?_
       all_goals (refine rg_y (yv_assign (kI rfl)) rfl rfl ?_)
       all_goals (refine rg_y (yv_assign (kI rfl)) rfl rfl ?_)
       all_goals (first | refine rg_nils [(4, _), (5, _)] ⟨sI rfl, sI rfl, trivial⟩ ?_ | refine rg_nil ?_))
    | (refine rn_reg 5 ?_
       all_goals (refine rg_y (yv_move (kI rfl)) rfl rfl ?_)
       all_goals (refine rg_y (yv_move (kI rfl)) rfl rfl ?_)
       all_goals ((refine rg_call0 (RDown_g _ _ _ (by assumption) (by omega)) hs rfl rfl rfl ?_; clear hs; intro w hs))
       all_goals ((refine rg_call0 (Rbounded_g _ _) hs rfl rfl rfl ?_; clear hs; intro w hs))
       all_goals (refine rg_y (yv_extract rfl (vI rfl)) rfl rfl ?_)
       all_goals (refine rg_y (yv_extract rfl (vI rfl)) rfl rfl ?_)
       all_goals (refine rg_y (yv_assign (kI rfl)) rfl rfl ?_)
       all_goals (refine rg_y (yv_assign (kI rfl)) rfl rfl ?_)
       all_goals (first | refine rg_nils [(4, _), (5, _)] ⟨sI rfl, sI rfl, trivial⟩ ?_ | refine rg_nil ?_)))
  all_goals (refine k_ret2 rfl (.tmp rfl) (.tmp rfl) ⟨r2 ?_, hs.drop⟩; unfold floorM)
  all_goals first | (rw [if_pos (by omega)]; done) | rw [if_neg (by omega)]
  rw [if_neg (dnm_m1 ha (by omega) (by omega)).1]
theorem RCeil_g (a b : Int) (w : World) (ha : I64 a) : Gives Try.prog 13 [.int .i64 a, .int .i64 b] w (tv2 (ceilM a b)) := by
  (try unfold Gives); refine calls_enter Try.func13 rfl Try.ntmps13 rfl rfl ?_; have hs := St.refl w
  repeat' (first
    | refine rn_seq ?_
    | refine ks_n ?_
    | refine rn_cond_t rfl ?_
    | refine rn_cond_f rfl ?_
    | refine kb_n ?_
    | refine rn_block ?_
    | refine rn_skip ?_
    | refine rn_ret ?_
    | refine ks_r ?_
    | refine rn_exit ?_
    | refine ks_e ?_
    | refine kb_hit ?_
    | refine kb_miss rfl ?_
    | refine kb_r ?_
    | refine kl_e ?_
    | refine kl_r ?_
    | refine kr_n ?_
    | refine rnds_succ ?_
    | refine kr_e ?_
    | refine kr_r ?_
    | (refine rn_reg 0 ?_
       all_goals (refine rg_y (yv_assign (kI rfl)) rfl rfl ?_)
       all_goals (refine rg_y (yv_assign (kI rfl)) rfl rfl ?_)
       all_goals (first | refine rg_nils [(0, _), (1, _), (11, _), (12, _)] ⟨sI rfl, sI rfl, sI rfl, sB rfl, trivial⟩ ?_ | refine rg_nil ?_))
    | (refine rn_reg 1 ?_
       all_goals (refine rg_y (yv_move (kI rfl)) rfl rfl ?_)
       all_goals (first | refine rg_bt (yv_eql rfl rfl) (by omega) rfl rfl ?_ | refine rg_bf (yv_eql rfl rfl) (by omega) rfl rfl ?_ | refine rg_b (yv_eql rfl rfl) rfl rfl (fun hc => ?_) (fun hc => ?_))
       all_goals (first | refine rg_nils [(0, _), (1, _), (7, _), (11, _), (12, _)] ⟨sI rfl, sI rfl, sB rfl, sI rfl, sB rfl, trivial⟩ ?_ | refine rg_nil ?_))
    | (refine rn_reg 2 ?_
       all_goals (refine rg_y (yv_assign (kI rfl)) rfl rfl ?_)
       all_goals (refine rg_y (yv_assign (kI rfl)) rfl rfl ?_)
       all_goals (first | refine rg_nils [(4, _), (5, _)] ⟨sI rfl, sI rfl, trivial⟩ ?_ | refine rg_nil ?_))
    | (refine rn_reg 3 ?_
       all_goals (refine rg_y (yv_move (kI rfl)) rfl rfl ?_)
       all_goals (first | refine rg_bt (yv_eql rfl rfl) (by omega) rfl rfl ?_ | refine rg_bf (yv_eql rfl rfl) (by omega) rfl rfl ?_ | refine rg_b (yv_eql rfl rfl) rfl rfl (fun hc => ?_) (fun hc => ?_))
       all_goals (refine rg_y (yv_move (kB rfl)) rfl rfl ?_)
       all_goals (first | refine rg_skip rfl rfl ?_ | refine rg_y (yv_move (kI rfl)) rfl rfl ?_)
       all_goals (first | refine rg_skip rfl rfl ?_ | (first | refine rg_bt (yv_lss rfl rfl) (by omega) rfl rfl ?_ | refine rg_bf (yv_lss rfl rfl) (by omega) rfl rfl ?_ | refine rg_b (yv_lss rfl rfl) rfl rfl (fun hc => ?_) (fun hc => ?_)))
       all_goals (first | refine rg_y (yv_pick_t rfl (kB rfl)) rfl rfl ?_ | refine rg_y (yv_pick_f rfl (kB rfl)) rfl rfl ?_)
       all_goals (first | refine rg_nils [(0, _), (1, _), (13, _)] ⟨sI rfl, sI rfl, sB rfl, trivial⟩ ?_ | refine rg_nil ?_))
    | (refine rn_reg 4 ?_
       all_goals (refine rg_y (yv_assign (kI rfl)) rfl rfl ?_)
       all_goals (refine rg_y (yv_assign (kI rfl)) rfl rfl ?_)
       all_goals (first | refine rg_nils [(4, _), (5, _)] ⟨sI rfl, sI rfl, trivial⟩ ?_ | refine rg_nil ?_))
    | (refine rn_reg 5 ?_
       all_goals (refine rg_y (yv_move (kI rfl)) rfl rfl ?_)
       all_goals (refine rg_y (yv_move (kI rfl)) rfl rfl ?_)
       all_goals ((refine rg_call0 (RUp_g _ _ _ (by assumption) (by omega)) hs rfl rfl rfl ?_; clear hs; intro w hs))
       all_goals ((refine rg_call0 (Rbounded_g _ _) hs rfl rfl rfl ?_; clear hs; intro w hs))
       all_goals (refine rg_y (yv_extract rfl (vI rfl)) rfl rfl ?_)
       all_goals (refine rg_y (yv_extract rfl (vI rfl)) rfl rfl ?_)
       all_goals (refine rg_y (yv_assign (kI rfl)) rfl rfl ?_)
       all_goals (refine rg_y (yv_assign (kI rfl)) rfl rfl ?_)
       all_goals (first | refine rg_nils [(4, _), (5, _)] ⟨sI rfl, sI rfl, trivial⟩ ?_ | refine rg_nil ?_)))
  all_goals (refine k_ret2 rfl (.tmp rfl) (.tmp rfl) ⟨r2 ?_, hs.drop⟩; unfold ceilM)
  all_goals first | (rw [if_pos (by omega)]; done) | rw [if_neg (by omega)]
  rw [if_neg (dnm_m1 ha (by omega) (by omega)).2]
end Go.Proofs.Ytbbcpffbdadnoaa
