/-
  Contracts of package interval: the functions on intervals.
-/
import Derived.Test.YtbbcpffbdadnoaaIvA
namespace Go.Proofs.Ytbbcpffbdadnoaa
set_option linter.unusedVariables false
set_option linter.unusedSimpArgs false
set_option maxHeartbeats 2000000
set_option maxRecDepth 10000
open Go.Hy Go.Hy.Iv

theorem Contains_g (lo hi n : Int) (w : World) : Gives Try.prog 22 [ivv lo hi, .int .i64 n] w (.bool (decide (Ivd lo hi ∧ lo ≤ n ∧ n ≤ hi))) := by
  (try unfold Gives); refine calls_enter Try.func22 rfl Try.ntmps22 rfl rfl ?_; have hs := St.refl w
  repeat' (first
    | refine rn_seq ?_
    | refine ks_n ?_
    | refine rn_cond_t rfl ?_
    | refine rn_cond_f rfl ?_
    | refine kb_n ?_
    | refine rn_block ?_
    | refine rn_skip ?_
    | refine rn_ret ?_
    | refine ks_r ?_
    | refine rn_exit ?_
    | refine ks_e ?_
    | refine kb_hit ?_
    | refine kb_miss rfl ?_
    | refine kb_r ?_
    | refine kl_e ?_
    | refine kl_r ?_
    | refine kr_n ?_
    | refine rnds_succ ?_
    | refine kr_e ?_
    | refine kr_r ?_
    | (refine rn_reg 0 ?_
       all_goals ((refine rg_box hs (kA rfl) (l2 rfl) rfl rfl ?_; clear hs; intro g w hs))
       all_goals (refine rg_y (yv_assign (kB rfl)) rfl rfl ?_)
       all_goals (first | refine rg_nils [(1, _), (2, _), (8, _), (9, _), (10, _), (11, _), (14, _), (15, _), (16, _), (17, _)] ⟨sI rfl, sP rfl, sI rfl, (by first | exact sE rfl | exact sP rfl), sI rfl, sB rfl, sI rfl, (by first | exact sE rfl | exact sP rfl), sI rfl, sB rfl, trivial⟩ ?_ | refine rg_nil ?_))
    | (refine rn_reg 1 ?_
       all_goals (first | refine rg_y (yv_load rfl (ldBB (k1 (hs.blkL (i := 0) rfl)) rfl)) rfl rfl ?_ | refine rg_y (yv_load rfl (ldBB (k1 (hs.blkL (i := 1) rfl)) rfl)) rfl rfl ?_ | refine rg_y (yv_load rfl (ldBB (k1 (hs.blkL (i := 2) rfl)) rfl)) rfl rfl ?_ | refine rg_y (yv_load rfl (ldBB (k1 (hs.blkL (i := 3) rfl)) rfl)) rfl rfl ?_ | refine rg_y (yv_load rfl (ldPB (k1 (hs.blkL (i := 0) rfl)) (l2 rfl) rfl)) rfl rfl ?_ | refine rg_y (yv_load rfl (ldPB (k1 (hs.blkL (i := 1) rfl)) (l2 rfl) rfl)) rfl rfl ?_ | refine rg_y (yv_load rfl (ldPB (k1 (hs.blkL (i := 2) rfl)) (l2 rfl) rfl)) rfl rfl ?_ | refine rg_y (yv_load rfl (ldPB (k1 (hs.blkL (i := 3) rfl)) (l2 rfl) rfl)) rfl rfl ?_)
       all_goals (first | (refine rg_callbt (Valid_g _ _ _) hs rfl (by omega) rfl rfl ?_; clear hs; intro w hs) | (refine rg_callbf (Valid_g _ _ _) hs rfl (by omega) rfl rfl ?_; clear hs; intro w hs) | (refine rg_callb (Valid_g _ _ _) hs rfl rfl rfl (fun hc => ?_) (fun hc => ?_) <;> (clear hs; intro w hs)))
       all_goals (refine rg_y (yv_move (kB rfl)) rfl rfl ?_)
       all_goals (first | refine rg_skip rfl rfl ?_ | refine rg_y (yv_move (kI rfl)) rfl rfl ?_)
       all_goals (first | refine rg_skip rfl rfl ?_ | refine rg_y (yv_fieldAddr rfl) rfl rfl ?_)
       all_goals (first | refine rg_skip rfl rfl ?_ | (first | refine rg_y (yv_load rfl (ld1B (k1 (hs.blkL (i := 0) rfl)) (vI rfl))) rfl rfl ?_ | refine rg_y (yv_load rfl (ld1B (k1 (hs.blkL (i := 1) rfl)) (vI rfl))) rfl rfl ?_ | refine rg_y (yv_load rfl (ld1B (k1 (hs.blkL (i := 2) rfl)) (vI rfl))) rfl rfl ?_ | refine rg_y (yv_load rfl (ld1B (k1 (hs.blkL (i := 3) rfl)) (vI rfl))) rfl rfl ?_))
       all_goals (first | refine rg_skip rfl rfl ?_ | (first | refine rg_bt (yv_geq rfl rfl) (by omega) rfl rfl ?_ | refine rg_bf (yv_geq rfl rfl) (by omega) rfl rfl ?_ | refine rg_b (yv_geq rfl rfl) rfl rfl (fun hc => ?_) (fun hc => ?_)))
       all_goals (first | refine rg_y (yv_pick_t rfl (kB rfl)) rfl rfl ?_ | refine rg_y (yv_pick_f rfl (kB rfl)) rfl rfl ?_)
       all_goals (refine rg_y (yv_move (kB rfl)) rfl rfl ?_)
       all_goals (first | refine rg_skip rfl rfl ?_ | refine rg_y (yv_move (kI rfl)) rfl rfl ?_)
       all_goals (first | refine rg_skip rfl rfl ?_ | refine rg_y (yv_fieldAddr rfl) rfl rfl ?_)
       all_goals (first | refine rg_skip rfl rfl ?_ | (first | refine rg_y (yv_load rfl (ld1B (k1 (hs.blkL (i := 0) rfl)) (vI rfl))) rfl rfl ?_ | refine rg_y (yv_load rfl (ld1B (k1 (hs.blkL (i := 1) rfl)) (vI rfl))) rfl rfl ?_ | refine rg_y (yv_load rfl (ld1B (k1 (hs.blkL (i := 2) rfl)) (vI rfl))) rfl rfl ?_ | refine rg_y (yv_load rfl (ld1B (k1 (hs.blkL (i := 3) rfl)) (vI rfl))) rfl rfl ?_))
       all_goals (first | refine rg_skip rfl rfl ?_ | (first | refine rg_bt (yv_leq rfl rfl) (by omega) rfl rfl ?_ | refine rg_bf (yv_leq rfl rfl) (by omega) rfl rfl ?_ | refine rg_b (yv_leq rfl rfl) rfl rfl (fun hc => ?_) (fun hc => ?_)))
       all_goals (first | refine rg_y (yv_pick_t rfl (kB rfl)) rfl rfl ?_ | refine rg_y (yv_pick_f rfl (kB rfl)) rfl rfl ?_)
       all_goals (refine rg_y (yv_assign (kB rfl)) rfl rfl ?_)
       all_goals (first | refine rg_nils [(4, _)] ⟨sB rfl, trivial⟩ ?_ | refine rg_nil ?_)))
  all_goals (refine k_ret1 rfl (.tmp rfl) ⟨?_, hs.drop⟩; first | exact bt (by omega) | exact bf (by omega))
theorem Within_g (a b c d : Int) (w : World) : Gives Try.prog 27 [ivv a b, ivv c d] w (.bool (decide (Ivd a b ∧ Ivd c d ∧ c ≤ a ∧ b ≤ d))) := by
  (try unfold Gives); refine calls_enter Try.func27 rfl Try.ntmps27 rfl rfl ?_; have hs := St.refl w
  repeat' (first
    | refine rn_seq ?_
    | refine ks_n ?_
    | refine rn_cond_t rfl ?_
    | refine rn_cond_f rfl ?_
    | refine kb_n ?_
    | refine rn_block ?_
    | refine rn_skip ?_
    | refine rn_ret ?_
    | refine ks_r ?_
    | refine rn_exit ?_
    | refine ks_e ?_
    | refine kb_hit ?_
    | refine kb_miss rfl ?_
    | refine kb_r ?_
    | refine kl_e ?_
    | refine kl_r ?_
    | refine kr_n ?_
    | refine rnds_succ ?_
    | refine kr_e ?_
    | refine kr_r ?_
    | (refine rn_reg 0 ?_
       all_goals ((refine rg_box hs (kA rfl) (l2 rfl) rfl rfl ?_; clear hs; intro g w hs))
       all_goals ((refine rg_box hs (kA rfl) (l2 rfl) rfl rfl ?_; clear hs; intro g w hs))
       all_goals (refine rg_y (yv_assign (kB rfl)) rfl rfl ?_)
       all_goals (first | refine rg_nils [(2, _), (3, _), (8, _), (9, _), (12, _), (13, _), (14, _), (15, _), (16, _), (19, _), (20, _), (21, _), (22, _), (23, _)] ⟨sP rfl, sP rfl, sA rfl, sB rfl, (by first | exact sE rfl | exact sP rfl), sI rfl, (by first | exact sE rfl | exact sP rfl), sI rfl, sB rfl, (by first | exact sE rfl | exact sP rfl), sI rfl, (by first | exact sE rfl | exact sP rfl), sI rfl, sB rfl, trivial⟩ ?_ | refine rg_nil ?_))
    | (refine rn_reg 1 ?_
       all_goals (first | refine rg_y (yv_load rfl (ldBB (k1 (hs.blkL (i := 0) rfl)) rfl)) rfl rfl ?_ | refine rg_y (yv_load rfl (ldBB (k1 (hs.blkL (i := 1) rfl)) rfl)) rfl rfl ?_ | refine rg_y (yv_load rfl (ldBB (k1 (hs.blkL (i := 2) rfl)) rfl)) rfl rfl ?_ | refine rg_y (yv_load rfl (ldBB (k1 (hs.blkL (i := 3) rfl)) rfl)) rfl rfl ?_ | refine rg_y (yv_load rfl (ldPB (k1 (hs.blkL (i := 0) rfl)) (l2 rfl) rfl)) rfl rfl ?_ | refine rg_y (yv_load rfl (ldPB (k1 (hs.blkL (i := 1) rfl)) (l2 rfl) rfl)) rfl rfl ?_ | refine rg_y (yv_load rfl (ldPB (k1 (hs.blkL (i := 2) rfl)) (l2 rfl) rfl)) rfl rfl ?_ | refine rg_y (yv_load rfl (ldPB (k1 (hs.blkL (i := 3) rfl)) (l2 rfl) rfl)) rfl rfl ?_)
       all_goals (first | (refine rg_callbt (Valid_g _ _ _) hs rfl (by omega) rfl rfl ?_; clear hs; intro w hs) | (refine rg_callbf (Valid_g _ _ _) hs rfl (by omega) rfl rfl ?_; clear hs; intro w hs) | (refine rg_callb (Valid_g _ _ _) hs rfl rfl rfl (fun hc => ?_) (fun hc => ?_) <;> (clear hs; intro w hs)))
       all_goals (refine rg_y (yv_move (kB rfl)) rfl rfl ?_)
       all_goals (first | refine rg_skip rfl rfl ?_ | (first | refine rg_y (yv_load rfl (ldBB (k1 (hs.blkL (i := 0) rfl)) rfl)) rfl rfl ?_ | refine rg_y (yv_load rfl (ldBB (k1 (hs.blkL (i := 1) rfl)) rfl)) rfl rfl ?_ | refine rg_y (yv_load rfl (ldBB (k1 (hs.blkL (i := 2) rfl)) rfl)) rfl rfl ?_ | refine rg_y (yv_load rfl (ldBB (k1 (hs.blkL (i := 3) rfl)) rfl)) rfl rfl ?_ | refine rg_y (yv_load rfl (ldPB (k1 (hs.blkL (i := 0) rfl)) (l2 rfl) rfl)) rfl rfl ?_ | refine rg_y (yv_load rfl (ldPB (k1 (hs.blkL (i := 1) rfl)) (l2 rfl) rfl)) rfl rfl ?_ | refine rg_y (yv_load rfl (ldPB (k1 (hs.blkL (i := 2) rfl)) (l2 rfl) rfl)) rfl rfl ?_ | refine rg_y (yv_load rfl (ldPB (k1 (hs.blkL (i := 3) rfl)) (l2 rfl) rfl)) rfl rfl ?_))
       all_goals (first | refine rg_skip rfl rfl ?_ | (first | (refine rg_callbt (Valid_g _ _ _) hs rfl (by omega) rfl rfl ?_; clear hs; intro w hs) | (refine rg_callbf (Valid_g _ _ _) hs rfl (by omega) rfl rfl ?_; clear hs; intro w hs) | (refine rg_callb (Valid_g _ _ _) hs rfl rfl rfl (fun hc => ?_) (fun hc => ?_) <;> (clear hs; intro w hs))))
       all_goals (first | refine rg_y (yv_pick_t rfl (kB rfl)) rfl rfl ?_ | refine rg_y (yv_pick_f rfl (kB rfl)) rfl rfl ?_)
       all_goals (refine rg_y (yv_move (kB rfl)) rfl rfl ?_)
       all_goals (first | refine rg_skip rfl rfl ?_ | refine rg_y (yv_fieldAddr rfl) rfl rfl ?_)
       all_goals (first | refine rg_skip rfl rfl ?_ | (first | refine rg_y (yv_load rfl (ld1B (k1 (hs.blkL (i := 0) rfl)) (vI rfl))) rfl rfl ?_ | refine rg_y (yv_load rfl (ld1B (k1 (hs.blkL (i := 1) rfl)) (vI rfl))) rfl rfl ?_ | refine rg_y (yv_load rfl (ld1B (k1 (hs.blkL (i := 2) rfl)) (vI rfl))) rfl rfl ?_ | refine rg_y (yv_load rfl (ld1B (k1 (hs.blkL (i := 3) rfl)) (vI rfl))) rfl rfl ?_))
       all_goals (first | refine rg_skip rfl rfl ?_ | refine rg_y (yv_fieldAddr rfl) rfl rfl ?_)
       all_goals (first | refine rg_skip rfl rfl ?_ | (first | refine rg_y (yv_load rfl (ld1B (k1 (hs.blkL (i := 0) rfl)) (vI rfl))) rfl rfl ?_ | refine rg_y (yv_load rfl (ld1B (k1 (hs.blkL (i := 1) rfl)) (vI rfl))) rfl rfl ?_ | refine rg_y (yv_load rfl (ld1B (k1 (hs.blkL (i := 2) rfl)) (vI rfl))) rfl rfl ?_ | refine rg_y (yv_load rfl (ld1B (k1 (hs.blkL (i := 3) rfl)) (vI rfl))) rfl rfl ?_))
       all_goals (first | refine rg_skip rfl rfl ?_ | (first | refine rg_bt (yv_geq rfl rfl) (by omega) rfl rfl ?_ | refine rg_bf (yv_geq rfl rfl) (by omega) rfl rfl ?_ | refine rg_b (yv_geq rfl rfl) rfl rfl (fun hc => ?_) (fun hc => ?_)))
       all_goals (first | refine rg_y (yv_pick_t rfl (kB rfl)) rfl rfl ?_ | refine rg_y (yv_pick_f rfl (kB rfl)) rfl rfl ?_)
       all_goals (refine rg_y (yv_move (kB rfl)) rfl rfl ?_)
       all_goals (first | refine rg_skip rfl rfl ?_ | refine rg_y (yv_fieldAddr rfl) rfl rfl ?_)
       all_goals (first | refine rg_skip rfl rfl ?_ | (first | refine rg_y (yv_load rfl (ld1B (k1 (hs.blkL (i := 0) rfl)) (vI rfl))) rfl rfl ?_ | refine rg_y (yv_load rfl (ld1B (k1 (hs.blkL (i := 1) rfl)) (vI rfl))) rfl rfl ?_ | refine rg_y (yv_load rfl (ld1B (k1 (hs.blkL (i := 2) rfl)) (vI rfl))) rfl rfl ?_ | refine rg_y (yv_load rfl (ld1B (k1 (hs.blkL (i := 3) rfl)) (vI rfl))) rfl rfl ?_))
       all_goals (first | refine rg_skip rfl rfl ?_ | refine rg_y (yv_fieldAddr rfl) rfl rfl ?_)
       all_goals (first | refine rg_skip rfl rfl ?_ | (first | refine rg_y (yv_load rfl (ld1B (k1 (hs.blkL (i := 0) rfl)) (vI rfl))) rfl rfl ?_ | refine rg_y (yv_load rfl (ld1B (k1 (hs.blkL (i := 1) rfl)) (vI rfl))) rfl rfl ?_ | refine rg_y (yv_load rfl (ld1B (k1 (hs.blkL (i := 2) rfl)) (vI rfl))) rfl rfl ?_ | refine rg_y (yv_load rfl (ld1B (k1 (hs.blkL (i := 3) rfl)) (vI rfl))) rfl rfl ?_))
       all_goals (first | refine rg_skip rfl rfl ?_ | (first | refine rg_bt (yv_leq rfl rfl) (by omega) rfl rfl ?_ | refine rg_bf (yv_leq rfl rfl) (by omega) rfl rfl ?_ | refine rg_b (yv_leq rfl rfl) rfl rfl (fun hc => ?_) (fun hc => ?_)))
       all_goals (first | refine rg_y (yv_pick_t rfl (kB rfl)) rfl rfl ?_ | refine rg_y (yv_pick_f rfl (kB rfl)) rfl rfl ?_)
       all_goals (refine rg_y (yv_assign (kB rfl)) rfl rfl ?_)
       all_goals (first | refine rg_nils [(4, _)] ⟨sB rfl, trivial⟩ ?_ | refine rg_nil ?_)))
  all_goals (refine k_ret1 rfl (.tmp rfl) ⟨?_, hs.drop⟩; first | exact bt (by omega) | exact bf (by omega))
theorem result_g (lo hi : Int) (w : World) : Gives Try.prog 39 [.int .i64 lo, .int .i64 hi] w (tv3 (resM lo hi)) := by
  (try unfold Gives); refine calls_enter Try.func39 rfl Try.ntmps39 rfl rfl ?_; have hs := St.refl w
  repeat' (first
    | refine rn_seq ?_
    | refine ks_n ?_
    | refine rn_cond_t rfl ?_
    | refine rn_cond_f rfl ?_
    | refine kb_n ?_
    | refine rn_block ?_
    | refine rn_skip ?_
    | refine rn_ret ?_
    | refine ks_r ?_
    | refine rn_exit ?_
    | refine ks_e ?_
    | refine kb_hit ?_
    | refine kb_miss rfl ?_
    | refine kb_r ?_
    | refine kl_e ?_
    | refine kl_r ?_
    | refine kr_n ?_
    | refine rnds_succ ?_
    | refine kr_e ?_
    | refine kr_r ?_
    | (refine rn_reg 0 ?_
       all_goals ((refine rg_alloc hs (l2 rfl) rfl rfl ?_; clear hs; intro g w hs))
       all_goals (refine rg_y (yv_assign (kI rfl)) rfl rfl ?_)
       all_goals (first | refine rg_nils [(0, _), (1, _), (4, _), (10, _), (11, _), (12, _)] ⟨sI rfl, sI rfl, sP rfl, sI rfl, sB rfl, sB rfl, trivial⟩ ?_ | refine rg_nil ?_))
    | (refine rn_reg 1 ?_
       all_goals (refine rg_y (yv_move (kI rfl)) rfl rfl ?_)
       all_goals (first | (refine rg_callbt (inside_g _ _) hs rfl (by omega) rfl rfl ?_; clear hs; intro w hs) | (refine rg_callbf (inside_g _ _) hs rfl (by omega) rfl rfl ?_; clear hs; intro w hs) | (refine rg_callb (inside_g _ _) hs rfl rfl rfl (fun hc => ?_) (fun hc => ?_) <;> (clear hs; intro w hs)))
       all_goals (refine rg_y (yv_not rfl) rfl rfl ?_)
       all_goals (refine rg_y (yv_move (kB rfl)) rfl rfl ?_)
       all_goals (first | refine rg_skip rfl rfl ?_ | refine rg_y (yv_move (kI rfl)) rfl rfl ?_)
       all_goals (first | refine rg_skip rfl rfl ?_ | (first | (refine rg_callbt (inside_g _ _) hs rfl (by omega) rfl rfl ?_; clear hs; intro w hs) | (refine rg_callbf (inside_g _ _) hs rfl (by omega) rfl rfl ?_; clear hs; intro w hs) | (refine rg_callb (inside_g _ _) hs rfl rfl rfl (fun hc => ?_) (fun hc => ?_) <;> (clear hs; intro w hs))))
       all_goals (first | refine rg_skip rfl rfl ?_ | refine rg_y (yv_not rfl) rfl rfl ?_)
       all_goals (first | refine rg_y (yv_pick_t rfl (kB rfl)) rfl rfl ?_ | refine rg_y (yv_pick_f rfl (kB rfl)) rfl rfl ?_)
       all_goals (first | refine rg_nils [(0, _), (1, _), (4, _), (13, _)] ⟨sI rfl, sI rfl, sP rfl, sB rfl, trivial⟩ ?_ | refine rg_nil ?_))
    | (refine rn_reg 2 ?_
       all_goals (refine rg_y (yv_build rfl (o2 rfl)) rfl rfl ?_)
       all_goals (first | (refine rg_store 0 hs rfl rfl (kA rfl) (l2 rfl) rfl rfl rfl rfl ?_; clear hs; intro w hs; simp only [putCells, List.take_succ_cons, List.take_zero, List.take_nil, List.drop_succ_cons, List.drop_zero, List.drop_nil, List.cons_append, List.nil_append, List.append_nil, List.length_cons, List.length_nil, Nat.reduceAdd, Nat.add_zero, Nat.zero_add, List.set_cons_zero, List.set_cons_succ] at hs) | (refine rg_store 1 hs rfl rfl (kA rfl) (l2 rfl) rfl rfl rfl rfl ?_; clear hs; intro w hs; simp only [putCells, List.take_succ_cons, List.take_zero, List.take_nil, List.drop_succ_cons, List.drop_zero, List.drop_nil, List.cons_append, List.nil_append, List.append_nil, List.length_cons, List.length_nil, Nat.reduceAdd, Nat.add_zero, Nat.zero_add, List.set_cons_zero, List.set_cons_succ] at hs) | (refine rg_store 2 hs rfl rfl (kA rfl) (l2 rfl) rfl rfl rfl rfl ?_; clear hs; intro w hs; simp only [putCells, List.take_succ_cons, List.take_zero, List.take_nil, List.drop_succ_cons, List.drop_zero, List.drop_nil, List.cons_append, List.nil_append, List.append_nil, List.length_cons, List.length_nil, Nat.reduceAdd, Nat.add_zero, Nat.zero_add, List.set_cons_zero, List.set_cons_succ] at hs) | (refine rg_store 3 hs rfl rfl (kA rfl) (l2 rfl) rfl rfl rfl rfl ?_; clear hs; intro w hs; simp only [putCells, List.take_succ_cons, List.take_zero, List.take_nil, List.drop_succ_cons, List.drop_zero, List.drop_nil, List.cons_append, List.nil_append, List.append_nil, List.length_cons, List.length_nil, Nat.reduceAdd, Nat.add_zero, Nat.zero_add, List.set_cons_zero, List.set_cons_succ] at hs))
       all_goals (refine rg_y (yv_assign (kI rfl)) rfl rfl ?_)
       all_goals (first | refine rg_nils [(4, _), (5, _)] ⟨sP rfl, sI rfl, trivial⟩ ?_ | refine rg_nil ?_))
    | (refine rn_reg 3 ?_
       all_goals (refine rg_y (yv_move (kI rfl)) rfl rfl ?_)
       all_goals (refine rg_y (yv_move (kI rfl)) rfl rfl ?_)
       all_goals (refine rg_y (yv_build rfl (o2 rfl)) rfl rfl ?_)
       all_goals (first | (refine rg_store 0 hs rfl rfl (kA rfl) (l2 rfl) rfl rfl rfl rfl ?_; clear hs; intro w hs; simp only [putCells, List.take_succ_cons, List.take_zero, List.take_nil, List.drop_succ_cons, List.drop_zero, List.drop_nil, List.cons_append, List.nil_append, List.append_nil, List.length_cons, List.length_nil, Nat.reduceAdd, Nat.add_zero, Nat.zero_add, List.set_cons_zero, List.set_cons_succ] at hs) | (refine rg_store 1 hs rfl rfl (kA rfl) (l2 rfl) rfl rfl rfl rfl ?_; clear hs; intro w hs; simp only [putCells, List.take_succ_cons, List.take_zero, List.take_nil, List.drop_succ_cons, List.drop_zero, List.drop_nil, List.cons_append, List.nil_append, List.append_nil, List.length_cons, List.length_nil, Nat.reduceAdd, Nat.add_zero, Nat.zero_add, List.set_cons_zero, List.set_cons_succ] at hs) | (refine rg_store 2 hs rfl rfl (kA rfl) (l2 rfl) rfl rfl rfl rfl ?_; clear hs; intro w hs; simp only [putCells, List.take_succ_cons, List.take_zero, List.take_nil, List.drop_succ_cons, List.drop_zero, List.drop_nil, List.cons_append, List.nil_append, List.append_nil, List.length_cons, List.length_nil, Nat.reduceAdd, Nat.add_zero, Nat.zero_add, List.set_cons_zero, List.set_cons_succ] at hs) | (refine rg_store 3 hs rfl rfl (kA rfl) (l2 rfl) rfl rfl rfl rfl ?_; clear hs; intro w hs; simp only [putCells, List.take_succ_cons, List.take_zero, List.take_nil, List.drop_succ_cons, List.drop_zero, List.drop_nil, List.cons_append, List.nil_append, List.append_nil, List.length_cons, List.length_nil, Nat.reduceAdd, Nat.add_zero, Nat.zero_add, List.set_cons_zero, List.set_cons_succ] at hs))
       all_goals (refine rg_y (yv_assign (kI rfl)) rfl rfl ?_)
       all_goals (first | refine rg_nils [(4, _), (5, _)] ⟨sP rfl, sI rfl, trivial⟩ ?_ | refine rg_nil ?_)))
  all_goals (refine k_ret2 rfl (.cell rfl (ldBB (hs.blkL (i := 0) rfl) rfl)) (.tmp rfl) ⟨r3 ?_, hs.drop⟩; unfold resM; first | rw [if_pos (by omega)] | rw [if_neg (by omega)])
theorem Add_g (a b c d : Int) (w : World) : Gives Try.prog 18 [ivv a b, ivv c d] w (tv3 (addM a b c d)) := by
  (try unfold Gives); refine calls_enter Try.func18 rfl Try.ntmps18 rfl rfl ?_; have hs := St.refl w
  repeat' (first
    | refine rn_seq ?_
    | refine ks_n ?_
    | refine rn_cond_t rfl ?_
    | refine rn_cond_f rfl ?_
    | refine kb_n ?_
    | refine rn_block ?_
    | refine rn_skip ?_
    | refine rn_ret ?_
    | refine ks_r ?_
    | refine rn_exit ?_
    | refine ks_e ?_
    | refine kb_hit ?_
    | refine kb_miss rfl ?_
    | refine kb_r ?_
    | refine kl_e ?_
    | refine kl_r ?_
    | refine kr_n ?_
    | refine rnds_succ ?_
    | refine kr_e ?_
    | refine kr_r ?_
    | (refine rn_reg 0 ?_
       all_goals ((refine rg_box hs (kA rfl) (l2 rfl) rfl rfl ?_; clear hs; intro g w hs))
       all_goals ((refine rg_box hs (kA rfl) (l2 rfl) rfl rfl ?_; clear hs; intro g w hs))
       all_goals ((refine rg_alloc hs (l2 rfl) rfl rfl ?_; clear hs; intro g w hs))
       all_goals (refine rg_y (yv_assign (kI rfl)) rfl rfl ?_)
       all_goals (first | refine rg_nils [(2, _), (3, _), (4, _), (10, _), (11, _), (12, _)] ⟨sP rfl, sP rfl, sP rfl, sA rfl, sB rfl, sB rfl, trivial⟩ ?_ | refine rg_nil ?_))
    | (refine rn_reg 1 ?_
       all_goals (first | refine rg_y (yv_load rfl (ldBB (k1 (hs.blkL (i := 0) rfl)) rfl)) rfl rfl ?_ | refine rg_y (yv_load rfl (ldBB (k1 (hs.blkL (i := 1) rfl)) rfl)) rfl rfl ?_ | refine rg_y (yv_load rfl (ldBB (k1 (hs.blkL (i := 2) rfl)) rfl)) rfl rfl ?_ | refine rg_y (yv_load rfl (ldBB (k1 (hs.blkL (i := 3) rfl)) rfl)) rfl rfl ?_ | refine rg_y (yv_load rfl (ldPB (k1 (hs.blkL (i := 0) rfl)) (l2 rfl) rfl)) rfl rfl ?_ | refine rg_y (yv_load rfl (ldPB (k1 (hs.blkL (i := 1) rfl)) (l2 rfl) rfl)) rfl rfl ?_ | refine rg_y (yv_load rfl (ldPB (k1 (hs.blkL (i := 2) rfl)) (l2 rfl) rfl)) rfl rfl ?_ | refine rg_y (yv_load rfl (ldPB (k1 (hs.blkL (i := 3) rfl)) (l2 rfl) rfl)) rfl rfl ?_)
       all_goals (first | (refine rg_callbt (Valid_g _ _ _) hs rfl (by omega) rfl rfl ?_; clear hs; intro w hs) | (refine rg_callbf (Valid_g _ _ _) hs rfl (by omega) rfl rfl ?_; clear hs; intro w hs) | (refine rg_callb (Valid_g _ _ _) hs rfl rfl rfl (fun hc => ?_) (fun hc => ?_) <;> (clear hs; intro w hs)))
       all_goals (refine rg_y (yv_not rfl) rfl rfl ?_)
       all_goals (refine rg_y (yv_move (kB rfl)) rfl rfl ?_)
       all_goals (first | refine rg_skip rfl rfl ?_ | (first | refine rg_y (yv_load rfl (ldBB (k1 (hs.blkL (i := 0) rfl)) rfl)) rfl rfl ?_ | refine rg_y (yv_load rfl (ldBB (k1 (hs.blkL (i := 1) rfl)) rfl)) rfl rfl ?_ | refine rg_y (yv_load rfl (ldBB (k1 (hs.blkL (i := 2) rfl)) rfl)) rfl rfl ?_ | refine rg_y (yv_load rfl (ldBB (k1 (hs.blkL (i := 3) rfl)) rfl)) rfl rfl ?_ | refine rg_y (yv_load rfl (ldPB (k1 (hs.blkL (i := 0) rfl)) (l2 rfl) rfl)) rfl rfl ?_ | refine rg_y (yv_load rfl (ldPB (k1 (hs.blkL (i := 1) rfl)) (l2 rfl) rfl)) rfl rfl ?_ | refine rg_y (yv_load rfl (ldPB (k1 (hs.blkL (i := 2) rfl)) (l2 rfl) rfl)) rfl rfl ?_ | refine rg_y (yv_load rfl (ldPB (k1 (hs.blkL (i := 3) rfl)) (l2 rfl) rfl)) rfl rfl ?_))
       all_goals (first | refine rg_skip rfl rfl ?_ | (first | (refine rg_callbt (Valid_g _ _ _) hs rfl (by omega) rfl rfl ?_; clear hs; intro w hs) | (refine rg_callbf (Valid_g _ _ _) hs rfl (by omega) rfl rfl ?_; clear hs; intro w hs) | (refine rg_callb (Valid_g _ _ _) hs rfl rfl rfl (fun hc => ?_) (fun hc => ?_) <;> (clear hs; intro w hs))))
       all_goals (first | refine rg_skip rfl rfl ?_ | refine rg_y (yv_not rfl) rfl rfl ?_)
       all_goals (first | refine rg_y (yv_pick_t rfl (kB rfl)) rfl rfl ?_ | refine rg_y (yv_pick_f rfl (kB rfl)) rfl rfl ?_)
       all_goals (first | refine rg_nils [(2, _), (3, _), (4, _), (13, _)] ⟨sP rfl, sP rfl, sP rfl, sB rfl, trivial⟩ ?_ | refine rg_nil ?_))
    | (refine rn_reg 2 ?_
       all_goals (refine rg_y (yv_build rfl (o2 rfl)) rfl rfl ?_)
       all_goals (first | (refine rg_store 0 hs rfl rfl (kA rfl) (l2 rfl) rfl rfl rfl rfl ?_; clear hs; intro w hs; simp only [putCells, List.take_succ_cons, List.take_zero, List.take_nil, List.drop_succ_cons, List.drop_zero, List.drop_nil, List.cons_append, List.nil_append, List.append_nil, List.length_cons, List.length_nil, Nat.reduceAdd, Nat.add_zero, Nat.zero_add, List.set_cons_zero, List.set_cons_succ] at hs) | (refine rg_store 1 hs rfl rfl (kA rfl) (l2 rfl) rfl rfl rfl rfl ?_; clear hs; intro w hs; simp only [putCells, List.take_succ_cons, List.take_zero, List.take_nil, List.drop_succ_cons, List.drop_zero, List.drop_nil, List.cons_append, List.nil_append, List.append_nil, List.length_cons, List.length_nil, Nat.reduceAdd, Nat.add_zero, Nat.zero_add, List.set_cons_zero, List.set_cons_succ] at hs) | (refine rg_store 2 hs rfl rfl (kA rfl) (l2 rfl) rfl rfl rfl rfl ?_; clear hs; intro w hs; simp only [putCells, List.take_succ_cons, List.take_zero, List.take_nil, List.drop_succ_cons, List.drop_zero, List.drop_nil, List.cons_append, List.nil_append, List.append_nil, List.length_cons, List.length_nil, Nat.reduceAdd, Nat.add_zero, Nat.zero_add, List.set_cons_zero, List.set_cons_succ] at hs) | (refine rg_store 3 hs rfl rfl (kA rfl) (l2 rfl) rfl rfl rfl rfl ?_; clear hs; intro w hs; simp only [putCells, List.take_succ_cons, List.take_zero, List.take_nil, List.drop_succ_cons, List.drop_zero, List.drop_nil, List.cons_append, List.nil_append, List.append_nil, List.length_cons, List.length_nil, Nat.reduceAdd, Nat.add_zero, Nat.zero_add, List.set_cons_zero, List.set_cons_succ] at hs))
       all_goals (refine rg_y (yv_assign (kI rfl)) rfl rfl ?_)
       all_goals (first | refine rg_nils [(4, _), (5, _)] ⟨sP rfl, sI rfl, trivial⟩ ?_ | refine rg_nil ?_))
    | (refine rn_reg 3 ?_
       all_goals (refine rg_y (yv_fieldAddr rfl) rfl rfl ?_)
       all_goals (first | refine rg_y (yv_load rfl (ld1B (k1 (hs.blkL (i := 0) rfl)) (vI rfl))) rfl rfl ?_ | refine rg_y (yv_load rfl (ld1B (k1 (hs.blkL (i := 1) rfl)) (vI rfl))) rfl rfl ?_ | refine rg_y (yv_load rfl (ld1B (k1 (hs.blkL (i := 2) rfl)) (vI rfl))) rfl rfl ?_ | refine rg_y (yv_load rfl (ld1B (k1 (hs.blkL (i := 3) rfl)) (vI rfl))) rfl rfl ?_)
       all_goals (refine rg_y (yv_fieldAddr rfl) rfl rfl ?_)
       all_goals (first | refine rg_y (yv_load rfl (ld1B (k1 (hs.blkL (i := 0) rfl)) (vI rfl))) rfl rfl ?_ | refine rg_y (yv_load rfl (ld1B (k1 (hs.blkL (i := 1) rfl)) (vI rfl))) rfl rfl ?_ | refine rg_y (yv_load rfl (ld1B (k1 (hs.blkL (i := 2) rfl)) (vI rfl))) rfl rfl ?_ | refine rg_y (yv_load rfl (ld1B (k1 (hs.blkL (i := 3) rfl)) (vI rfl))) rfl rfl ?_)
       all_goals (refine rg_y (yv_add rfl rfl (by omega)) rfl rfl ?_)
       all_goals (refine rg_y (yv_fieldAddr rfl) rfl rfl ?_)
       all_goals (first | refine rg_y (yv_load rfl (ld1B (k1 (hs.blkL (i := 0) rfl)) (vI rfl))) rfl rfl ?_ | refine rg_y (yv_load rfl (ld1B (k1 (hs.blkL (i := 1) rfl)) (vI rfl))) rfl rfl ?_ | refine rg_y (yv_load rfl (ld1B (k1 (hs.blkL (i := 2) rfl)) (vI rfl))) rfl rfl ?_ | refine rg_y (yv_load rfl (ld1B (k1 (hs.blkL (i := 3) rfl)) (vI rfl))) rfl rfl ?_)
       all_goals (refine rg_y (yv_fieldAddr rfl) rfl rfl ?_)
       all_goals (first | refine rg_y (yv_load rfl (ld1B (k1 (hs.blkL (i := 0) rfl)) (vI rfl))) rfl rfl ?_ | refine rg_y (yv_load rfl (ld1B (k1 (hs.blkL (i := 1) rfl)) (vI rfl))) rfl rfl ?_ | refine rg_y (yv_load rfl (ld1B (k1 (hs.blkL (i := 2) rfl)) (vI rfl))) rfl rfl ?_ | refine rg_y (yv_load rfl (ld1B (k1 (hs.blkL (i := 3) rfl)) (vI rfl))) rfl rfl ?_)
       all_goals (refine rg_y (yv_add rfl rfl (by omega)) rfl rfl ?_)
       all_goals ((refine rg_call0 (result_g _ _ _) hs rfl rfl rfl ?_; clear hs; intro w hs))
       all_goals (refine rg_y (yv_extract rfl (vA rfl)) rfl rfl ?_)
       all_goals (refine rg_y (yv_extract rfl (vI rfl)) rfl rfl ?_)
       all_goals (first | (refine rg_store 0 hs rfl rfl (kA rfl) (l2 rfl) rfl rfl rfl rfl ?_; clear hs; intro w hs; simp only [putCells, List.take_succ_cons, List.take_zero, List.take_nil, List.drop_succ_cons, List.drop_zero, List.drop_nil, List.cons_append, List.nil_append, List.append_nil, List.length_cons, List.length_nil, Nat.reduceAdd, Nat.add_zero, Nat.zero_add, List.set_cons_zero, List.set_cons_succ] at hs) | (refine rg_store 1 hs rfl rfl (kA rfl) (l2 rfl) rfl rfl rfl rfl ?_; clear hs; intro w hs; simp only [putCells, List.take_succ_cons, List.take_zero, List.take_nil, List.drop_succ_cons, List.drop_zero, List.drop_nil, List.cons_append, List.nil_append, List.append_nil, List.length_cons, List.length_nil, Nat.reduceAdd, Nat.add_zero, Nat.zero_add, List.set_cons_zero, List.set_cons_succ] at hs) | (refine rg_store 2 hs rfl rfl (kA rfl) (l2 rfl) rfl rfl rfl rfl ?_; clear hs; intro w hs; simp only [putCells, List.take_succ_cons, List.take_zero, List.take_nil, List.drop_succ_cons, List.drop_zero, List.drop_nil, List.cons_append, List.nil_append, List.append_nil, List.length_cons, List.length_nil, Nat.reduceAdd, Nat.add_zero, Nat.zero_add, List.set_cons_zero, List.set_cons_succ] at hs) | (refine rg_store 3 hs rfl rfl (kA rfl) (l2 rfl) rfl rfl rfl rfl ?_; clear hs; intro w hs; simp only [putCells, List.take_succ_cons, List.take_zero, List.take_nil, List.drop_succ_cons, List.drop_zero, List.drop_nil, List.cons_append, List.nil_append, List.append_nil, List.length_cons, List.length_nil, Nat.reduceAdd, Nat.add_zero, Nat.zero_add, List.set_cons_zero, List.set_cons_succ] at hs))
       all_goals (refine rg_y (yv_assign (kI rfl)) rfl rfl ?_)
       all_goals (first | refine rg_nils [(4, _), (5, _)] ⟨sP rfl, sI rfl, trivial⟩ ?_ | refine rg_nil ?_)))
  all_goals (refine k_ret2 rfl (.cell rfl (ldBB (hs.blkL (i := 0) rfl) rfl)) (.tmp rfl) ⟨r3 ?_, hs.drop⟩; unfold addM; first | rw [if_pos (by omega)] | rw [if_neg (by omega)])
theorem Sub_g (a b c d : Int) (w : World) : Gives Try.prog 19 [ivv a b, ivv c d] w (tv3 (subM a b c d)) := by
  (try unfold Gives); refine calls_enter Try.func19 rfl Try.ntmps19 rfl rfl ?_; have hs := St.refl w
  repeat' (first
    | refine rn_seq ?_
    | refine ks_n ?_
    | refine rn_cond_t rfl ?_
    | refine rn_cond_f rfl ?_
    | refine kb_n ?_
    | refine rn_block ?_
    | refine rn_skip ?_
    | refine rn_ret ?_
    | refine ks_r ?_
    | refine rn_exit ?_
    | refine ks_e ?_
    | refine kb_hit ?_
    | refine kb_miss rfl ?_
    | refine kb_r ?_
    | refine kl_e ?_
    | refine kl_r ?_
    | refine kr_n ?_
    | refine rnds_succ ?_
    | refine kr_e ?_
    | refine kr_r ?_
    | (refine rn_reg 0 ?_
       all_goals ((refine rg_box hs (kA rfl) (l2 rfl) rfl rfl ?_; clear hs; intro g w hs))
       all_goals ((refine rg_box hs (kA rfl) (l2 rfl) rfl rfl ?_; clear hs; intro g w hs))
       all_goals ((refine rg_alloc hs (l2 rfl) rfl rfl ?_; clear hs; intro g w hs))
       all_goals (refine rg_y (yv_assign (kI rfl)) rfl rfl ?_)
       all_goals (first | refine rg_nils [(2, _), (3, _), (4, _), (10, _), (11, _), (12, _)] ⟨sP rfl, sP rfl, sP rfl, sA rfl, sB rfl, sB rfl, trivial⟩ ?_ | refine rg_nil ?_))
    | (refine rn_reg 1 ?_
       all_goals (first | refine rg_y (yv_load rfl (ldBB (k1 (hs.blkL (i := 0) rfl)) rfl)) rfl rfl ?_ | refine rg_y (yv_load rfl (ldBB (k1 (hs.blkL (i := 1) rfl)) rfl)) rfl rfl ?_ | refine rg_y (yv_load rfl (ldBB (k1 (hs.blkL (i := 2) rfl)) rfl)) rfl rfl ?_ | refine rg_y (yv_load rfl (ldBB (k1 (hs.blkL (i := 3) rfl)) rfl)) rfl rfl ?_ | refine rg_y (yv_load rfl (ldPB (k1 (hs.blkL (i := 0) rfl)) (l2 rfl) rfl)) rfl rfl ?_ | refine rg_y (yv_load rfl (ldPB (k1 (hs.blkL (i := 1) rfl)) (l2 rfl) rfl)) rfl rfl ?_ | refine rg_y (yv_load rfl (ldPB (k1 (hs.blkL (i := 2) rfl)) (l2 rfl) rfl)) rfl rfl ?_ | refine rg_y (yv_load rfl (ldPB (k1 (hs.blkL (i := 3) rfl)) (l2 rfl) rfl)) rfl rfl ?_)
       all_goals (first | (refine rg_callbt (Valid_g _ _ _) hs rfl (by omega) rfl rfl ?_; clear hs; intro w hs) | (refine rg_callbf (Valid_g _ _ _) hs rfl (by omega) rfl rfl ?_; clear hs; intro w hs) | (refine rg_callb (Valid_g _ _ _) hs rfl rfl rfl (fun hc => ?_) (fun hc => ?_) <;> (clear hs; intro w hs)))
       all_goals (refine rg_y (yv_not rfl) rfl rfl ?_)
       all_goals (refine rg_y (yv_move (kB rfl)) rfl rfl ?_)
       all_goals (first | refine rg_skip rfl rfl ?_ | (first | refine rg_y (yv_load rfl (ldBB (k1 (hs.blkL (i := 0) rfl)) rfl)) rfl rfl ?_ | refine rg_y (yv_load rfl (ldBB (k1 (hs.blkL (i := 1) rfl)) rfl)) rfl rfl ?_ | refine rg_y (yv_load rfl (ldBB (k1 (hs.blkL (i := 2) rfl)) rfl)) rfl rfl ?_ | refine rg_y (yv_load rfl (ldBB (k1 (hs.blkL (i := 3) rfl)) rfl)) rfl rfl ?_ | refine rg_y (yv_load rfl (ldPB (k1 (hs.blkL (i := 0) rfl)) (l2 rfl) rfl)) rfl rfl ?_ | refine rg_y (yv_load rfl (ldPB (k1 (hs.blkL (i := 1) rfl)) (l2 rfl) rfl)) rfl rfl ?_ | refine rg_y (yv_load rfl (ldPB (k1 (hs.blkL (i := 2) rfl)) (l2 rfl) rfl)) rfl rfl ?_ | refine rg_y (yv_load rfl (ldPB (k1 (hs.blkL (i := 3) rfl)) (l2 rfl) rfl)) rfl rfl ?_))
       all_goals (first | refine rg_skip rfl rfl ?_ | (first | (refine rg_callbt (Valid_g _ _ _) hs rfl (by omega) rfl rfl ?_; clear hs; intro w hs) | (refine rg_callbf (Valid_g _ _ _) hs rfl (by omega) rfl rfl ?_; clear hs; intro w hs) | (refine rg_callb (Valid_g _ _ _) hs rfl rfl rfl (fun hc => ?_) (fun hc => ?_) <;> (clear hs; intro w hs))))
       all_goals (first | refine rg_skip rfl rfl ?_ | refine rg_y (yv_not rfl) rfl rfl ?_)
       all_goals (first | refine rg_y (yv_pick_t rfl (kB rfl)) rfl rfl ?_ | refine rg_y (yv_pick_f rfl (kB rfl)) rfl rfl ?_)
       all_goals (first | refine rg_nils [(2, _), (3, _), (4, _), (13, _)] ⟨sP rfl, sP rfl, sP rfl, sB rfl, trivial⟩ ?_ | refine rg_nil ?_))
    | (refine rn_reg 2 ?_
       all_goals (refine rg_y (yv_build rfl (o2 rfl)) rfl rfl ?_)
       all_goals (first | (refine rg_store 0 hs rfl rfl (kA rfl) (l2 rfl) rfl rfl rfl rfl ?_; clear hs; intro w hs; simp only [putCells, List.take_succ_cons, List.take_zero, List.take_nil, List.drop_succ_cons, List.drop_zero, List.drop_nil, List.cons_append, List.nil_append, List.append_nil, List.length_cons, List.length_nil, Nat.reduceAdd, Nat.add_zero, Nat.zero_add, List.set_cons_zero, List.set_cons_succ] at hs) | (refine rg_store 1 hs rfl rfl (kA rfl) (l2 rfl) rfl rfl rfl rfl ?_; clear hs; intro w hs; simp only [putCells, List.take_succ_cons, List.take_zero, List.take_nil, List.drop_succ_cons, List.drop_zero, List.drop_nil, List.cons_append, List.nil_append, List.append_nil, List.length_cons, List.length_nil, Nat.reduceAdd, Nat.add_zero, Nat.zero_add, List.set_cons_zero, List.set_cons_succ] at hs) | (refine rg_store 2 hs rfl rfl (kA rfl) (l2 rfl) rfl rfl rfl rfl ?_; clear hs; intro w hs; simp only [putCells, List.take_succ_cons, List.take_zero, List.take_nil, List.drop_succ_cons, List.drop_zero, List.drop_nil, List.cons_append, List.nil_append, List.append_nil, List.length_cons, List.length_nil, Nat.reduceAdd, Nat.add_zero, Nat.zero_add, List.set_cons_zero, List.set_cons_succ] at hs) | (refine rg_store 3 hs rfl rfl (kA rfl) (l2 rfl) rfl rfl rfl rfl ?_; clear hs; intro w hs; simp only [putCells, List.take_succ_cons, List.take_zero, List.take_nil, List.drop_succ_cons, List.drop_zero, List.drop_nil, List.cons_append, List.nil_append, List.append_nil, List.length_cons, List.length_nil, Nat.reduceAdd, Nat.add_zero, Nat.zero_add, List.set_cons_zero, List.set_cons_succ] at hs))
       all_goals (refine rg_y (yv_assign (kI rfl)) rfl rfl ?_)
       all_goals (first | refine rg_nils [(4, _), (5, _)] ⟨sP rfl, sI rfl, trivial⟩ ?_ | refine rg_nil ?_))
    | (refine rn_reg 3 ?_
       all_goals (refine rg_y (yv_fieldAddr rfl) rfl rfl ?_)
       all_goals (first | refine rg_y (yv_load rfl (ld1B (k1 (hs.blkL (i := 0) rfl)) (vI rfl))) rfl rfl ?_ | refine rg_y (yv_load rfl (ld1B (k1 (hs.blkL (i := 1) rfl)) (vI rfl))) rfl rfl ?_ | refine rg_y (yv_load rfl (ld1B (k1 (hs.blkL (i := 2) rfl)) (vI rfl))) rfl rfl ?_ | refine rg_y (yv_load rfl (ld1B (k1 (hs.blkL (i := 3) rfl)) (vI rfl))) rfl rfl ?_)
       all_goals (refine rg_y (yv_fieldAddr rfl) rfl rfl ?_)
       all_goals (first | refine rg_y (yv_load rfl (ld1B (k1 (hs.blkL (i := 0) rfl)) (vI rfl))) rfl rfl ?_ | refine rg_y (yv_load rfl (ld1B (k1 (hs.blkL (i := 1) rfl)) (vI rfl))) rfl rfl ?_ | refine rg_y (yv_load rfl (ld1B (k1 (hs.blkL (i := 2) rfl)) (vI rfl))) rfl rfl ?_ | refine rg_y (yv_load rfl (ld1B (k1 (hs.blkL (i := 3) rfl)) (vI rfl))) rfl rfl ?_)
       all_goals (refine rg_y (yv_sub rfl rfl (by omega)) rfl rfl ?_)
       all_goals (refine rg_y (yv_fieldAddr rfl) rfl rfl ?_)
       all_goals (first | refine rg_y (yv_load rfl (ld1B (k1 (hs.blkL (i := 0) rfl)) (vI rfl))) rfl rfl ?_ | refine rg_y (yv_load rfl (ld1B (k1 (hs.blkL (i := 1) rfl)) (vI rfl))) rfl rfl ?_ | refine rg_y (yv_load rfl (ld1B (k1 (hs.blkL (i := 2) rfl)) (vI rfl))) rfl rfl ?_ | refine rg_y (yv_load rfl (ld1B (k1 (hs.blkL (i := 3) rfl)) (vI rfl))) rfl rfl ?_)
       all_goals (refine rg_y (yv_fieldAddr rfl) rfl rfl ?_)
       all_goals (first | refine rg_y (yv_load rfl (ld1B (k1 (hs.blkL (i := 0) rfl)) (vI rfl))) rfl rfl ?_ | refine rg_y (yv_load rfl (ld1B (k1 (hs.blkL (i := 1) rfl)) (vI rfl))) rfl rfl ?_ | refine rg_y (yv_load rfl (ld1B (k1 (hs.blkL (i := 2) rfl)) (vI rfl))) rfl rfl ?_ | refine rg_y (yv_load rfl (ld1B (k1 (hs.blkL (i := 3) rfl)) (vI rfl))) rfl rfl ?_)
       all_goals (refine rg_y (yv_sub rfl rfl (by omega)) rfl rfl ?_)
       all_goals ((refine rg_call0 (result_g _ _ _) hs rfl rfl rfl ?_; clear hs; intro w hs))
       all_goals (refine rg_y (yv_extract rfl (vA rfl)) rfl rfl ?_)
       all_goals (refine rg_y (yv_extract rfl (vI rfl)) rfl rfl ?_)
       all_goals (first | (refine rg_store 0 hs rfl rfl (kA rfl) (l2 rfl) rfl rfl rfl rfl ?_; clear hs; intro w hs; simp only [putCells, List.take_succ_cons, List.take_zero, List.take_nil, List.drop_succ_cons, List.drop_zero, List.drop_nil, List.cons_append, List.nil_append, List.append_nil, List.length_cons, List.length_nil, Nat.reduceAdd, Nat.add_zero, Nat.zero_add, List.set_cons_zero, List.set_cons_succ] at hs) | (refine rg_store 1 hs rfl rfl (kA rfl) (l2 rfl) rfl rfl rfl rfl ?_; clear hs; intro w hs; simp only [putCells, List.take_succ_cons, List.take_zero, List.take_nil, List.drop_succ_cons, List.drop_zero, List.drop_nil, List.cons_append, List.nil_append, List.append_nil, List.length_cons, List.length_nil, Nat.reduceAdd, Nat.add_zero, Nat.zero_add, List.set_cons_zero, List.set_cons_succ] at hs) | (refine rg_store 2 hs rfl rfl (kA rfl) (l2 rfl) rfl rfl rfl rfl ?_; clear hs; intro w hs; simp only [putCells, List.take_succ_cons, List.take_zero, List.take_nil, List.drop_succ_cons, List.drop_zero, List.drop_nil, List.cons_append, List.nil_append, List.append_nil, List.length_cons, List.length_nil, Nat.reduceAdd, Nat.add_zero, Nat.zero_add, List.set_cons_zero, List.set_cons_succ] at hs) | (refine rg_store 3 hs rfl rfl (kA rfl) (l2 rfl) rfl rfl rfl rfl ?_; clear hs; intro w hs; simp only [putCells, List.take_succ_cons, List.take_zero, List.take_nil, List.drop_succ_cons, List.drop_zero, List.drop_nil, List.cons_append, List.nil_append, List.append_nil, List.length_cons, List.length_nil, Nat.reduceAdd, Nat.add_zero, Nat.zero_add, List.set_cons_zero, List.set_cons_succ] at hs))
       all_goals (refine rg_y (yv_assign (kI rfl)) rfl rfl ?_)
       all_goals (first | refine rg_nils [(4, _), (5, _)] ⟨sP rfl, sI rfl, trivial⟩ ?_ | refine rg_nil ?_)))
  all_goals (refine k_ret2 rfl (.cell rfl (ldBB (hs.blkL (i := 0) rfl) rfl)) (.tmp rfl) ⟨r3 ?_, hs.drop⟩; unfold subM; first | rw [if_pos (by omega)] | rw [if_neg (by omega)])
theorem abs_g (n : Int) (w : World) (h : Inr n) : Gives Try.prog 51 [.int .i64 n] w (.int .i64 (if n < 0 then -n else n)) := by
  (try unfold Gives); refine calls_enter Try.func51 rfl Try.ntmps51 rfl rfl ?_; have hs := St.refl w
  repeat' (first
    | refine rn_seq ?_
    | refine ks_n ?_
    | refine rn_cond_t rfl ?_
    | refine rn_cond_f rfl ?_
    | refine kb_n ?_
    | refine rn_block ?_
    | refine rn_skip ?_
    | refine rn_ret ?_
    | refine ks_r ?_
    | refine rn_exit ?_
    | refine ks_e ?_
    | refine kb_hit ?_
    | refine kb_miss rfl ?_
    | refine kb_r ?_
    | refine kl_e ?_
    | refine kl_r ?_
    | refine kr_n ?_
    | refine rnds_succ ?_
    | refine kr_e ?_
    | refine kr_r ?_
    | (refine rn_reg 0 ?_
       all_goals (refine rg_y (yv_assign (kI rfl)) rfl rfl ?_)
       all_goals (first | refine rg_nils [(0, _)] ⟨sI rfl, trivial⟩ ?_ | refine rg_nil ?_))
    | (refine rn_reg 1 ?_
       all_goals (refine rg_y (yv_move (kI rfl)) rfl rfl ?_)
       all_goals (first | refine rg_bt (yv_lss rfl rfl) (by omega) rfl rfl ?_ | refine rg_bf (yv_lss rfl rfl) (by omega) rfl rfl ?_ | refine rg_b (yv_lss rfl rfl) rfl rfl (fun hc => ?_) (fun hc => ?_))
       all_goals (first | refine rg_nils [(0, _), (4, _)] ⟨sI rfl, sB rfl, trivial⟩ ?_ | refine rg_nil ?_))
    | (refine rn_reg 2 ?_
       all_goals (refine rg_y (yv_move (kI rfl)) rfl rfl ?_)
       all_goals (refine rg_y (yv_neg rfl (by omega)) rfl rfl ?_)
       all_goals (refine rg_y (yv_assign (kI rfl)) rfl rfl ?_)
       all_goals (first | refine rg_nils [(2, _)] ⟨sI rfl, trivial⟩ ?_ | refine rg_nil ?_))
    | (refine rn_reg 3 ?_
       all_goals (refine rg_y (yv_move (kI rfl)) rfl rfl ?_)
       all_goals (refine rg_y (yv_assign (kI rfl)) rfl rfl ?_)
       all_goals (first | refine rg_nils [(2, _)] ⟨sI rfl, trivial⟩ ?_ | refine rg_nil ?_)))
  all_goals (refine k_ret1 rfl (.tmp rfl) ⟨ri ?_, hs.drop⟩; first | rw [if_pos (by omega)] | rw [if_neg (by omega)])
/-- The product, and whether it is in range. -/
theorem product_g (a b : Int) (w : World) (ha : Inr a) (hb : Inr b) : Gives Try.prog 40 [.int .i64 a, .int .i64 b] w (.tuple #[.int .i64 (prodM a b), .bool (decide (Inr (a * b)))]) := by
  have hm := abs_mul a b
  have ht := prod_test (a := if a < 0 then -a else a) (b := if b < 0 then -b else b)
  generalize hx : (if a < 0 then -a else a) = x at *
  generalize hy : (if b < 0 then -b else b) = y at *
  have x0 : 0 ≤ x ∧ x ≤ 1000000000000 ∧ (a ≠ 0 → 1 ≤ x) := by rw [← hx]; split <;> omega
  have y0 : 0 ≤ y ∧ y ≤ 1000000000000 := by rw [← hy]; split <;> omega
  have hga := fun w => abs_g a w ha
  have hgb := fun w => abs_g b w hb
  rw [hx] at hga
  rw [hy] at hgb
  have hz : a = 0 → a * b = 0 := by rintro rfl; simp
  clear hx hy
  (try unfold Gives); refine calls_enter Try.func40 rfl Try.ntmps40 rfl rfl ?_; have hs := St.refl w
  repeat' (first
    | refine rn_seq ?_
    | refine ks_n ?_
    | refine rn_cond_t rfl ?_
    | refine rn_cond_f rfl ?_
    | refine kb_n ?_
    | refine rn_block ?_
    | refine rn_skip ?_
    | refine rn_ret ?_
    | refine ks_r ?_
    | refine rn_exit ?_
    | refine ks_e ?_
    | refine kb_hit ?_
    | refine kb_miss rfl ?_
    | refine kb_r ?_
    | refine kl_e ?_
    | refine kl_r ?_
    | refine kr_n ?_
    | refine rnds_succ ?_
    | refine kr_e ?_
    | refine kr_r ?_
    | (refine rn_reg 0 ?_
       all_goals (refine rg_y (yv_assign (kI rfl)) rfl rfl ?_)
       all_goals (refine rg_y (yv_assign (kB rfl)) rfl rfl ?_)
       all_goals (first | refine rg_nils [(0, _), (1, _), (9, _), (10, _), (11, _), (12, _), (13, _), (14, _)] ⟨sI rfl, sI rfl, sI rfl, sI rfl, sI rfl, sI rfl, sI rfl, sB rfl, trivial⟩ ?_ | refine rg_nil ?_))
    | (refine rn_reg 1 ?_
       all_goals (refine rg_y (yv_move (kI rfl)) rfl rfl ?_)
       all_goals (first | refine rg_bt (yv_neq rfl rfl) (by omega) rfl rfl ?_ | refine rg_bf (yv_neq rfl rfl) (by omega) rfl rfl ?_ | refine rg_b (yv_neq rfl rfl) rfl rfl (fun hc => ?_) (fun hc => ?_))
       all_goals (refine rg_y (yv_move (kB rfl)) rfl rfl ?_)
       all_goals (first | refine rg_skip rfl rfl ?_ | refine rg_y (yv_move (kI rfl)) rfl rfl ?_)
       all_goals (first | refine rg_skip rfl rfl ?_ | (first | (refine rg_call0 (hgb _) hs rfl rfl rfl ?_; clear hs; intro w hs) | (refine rg_call0 (hga _) hs rfl rfl rfl ?_; clear hs; intro w hs)))
       all_goals (first | refine rg_skip rfl rfl ?_ | refine rg_y (yv_move (kI rfl)) rfl rfl ?_)
       all_goals (first | refine rg_skip rfl rfl ?_ | (first | (refine rg_call0 (hgb _) hs rfl rfl rfl ?_; clear hs; intro w hs) | (refine rg_call0 (hga _) hs rfl rfl rfl ?_; clear hs; intro w hs)))
       all_goals (first | refine rg_skip rfl rfl ?_ | refine rg_y (yv_quo rfl rfl (by have := x0.2.2 (by assumption); omega)) rfl rfl ?_)
       all_goals (first | refine rg_skip rfl rfl ?_ | (first | refine rg_bt (yv_gtr rfl rfl) (by omega) rfl rfl ?_ | refine rg_bf (yv_gtr rfl rfl) (by omega) rfl rfl ?_ | refine rg_b (yv_gtr rfl rfl) rfl rfl (fun hc => ?_) (fun hc => ?_)))
       all_goals (first | refine rg_y (yv_pick_t rfl (kB rfl)) rfl rfl ?_ | refine rg_y (yv_pick_f rfl (kB rfl)) rfl rfl ?_)
       all_goals (first | refine rg_nils [(0, _), (1, _), (15, _)] ⟨sI rfl, sI rfl, sB rfl, trivial⟩ ?_ | refine rg_nil ?_))
    | (refine rn_reg 2 ?_
       all_goals (refine rg_y (yv_assign (kI rfl)) rfl rfl ?_)
       all_goals (refine rg_y (yv_assign (kB rfl)) rfl rfl ?_)
       all_goals (first | refine rg_nils [(4, _), (5, _)] ⟨sI rfl, sB rfl, trivial⟩ ?_ | refine rg_nil ?_))
    | (refine rn_reg 3 ?_
       all_goals (refine rg_y (yv_move (kI rfl)) rfl rfl ?_)
       all_goals (refine rg_y (yv_move (kI rfl)) rfl rfl ?_)
       all_goals (refine rg_y (yv_mul rfl rfl (by have := x0.2.2; have := fun q => (ht q y0.1); omega)) rfl rfl ?_)
       all_goals (refine rg_y (yv_assign (kI rfl)) rfl rfl ?_)
       all_goals (refine rg_y (yv_assign (kB rfl)) rfl rfl ?_)
       all_goals (first | refine rg_nils [(4, _), (5, _)] ⟨sI rfl, sB rfl, trivial⟩ ?_ | refine rg_nil ?_)))
  · refine k_ret2 rfl (.tmp rfl) (.tmp rfl) ⟨?_, hs.drop⟩
    have := (ht (x0.2.2 (by assumption)) y0.1).1 (by assumption)
    have h : ¬ Inr (a * b) := by omega
    rw [decide_eq_false h, prodM, if_neg h]
  · refine k_ret2 rfl (.tmp rfl) (.tmp rfl) ⟨?_, hs.drop⟩
    have h : Inr (a * b) := by have := x0.2.2; have := fun q => (ht q y0.1); omega
    rw [decide_eq_true h, prodM, if_pos h]
  · refine k_ret2 rfl (.tmp rfl) (.tmp rfl) ⟨?_, hs.drop⟩
    have h : Inr (a * b) := by have := hz (by omega); omega
    rw [decide_eq_true h, prodM, if_pos h]
theorem Mul_g (a b c d : Int) (w : World) : Gives Try.prog 20 [ivv a b, ivv c d] w (tv3 (mulM a b c d)) := by
  (try unfold Gives); refine calls_enter Try.func20 rfl Try.ntmps20 rfl rfl ?_; have hs := St.refl w
  repeat' (first
    | refine rn_rounds 3 ?_
    | refine rn_seq ?_
    | refine ks_n ?_
    | refine rn_cond_t rfl ?_
    | refine rn_cond_f rfl ?_
    | refine kb_n ?_
    | refine rn_block ?_
    | refine rn_skip ?_
    | refine rn_ret ?_
    | refine ks_r ?_
    | refine rn_exit ?_
    | refine ks_e ?_
    | refine kb_hit ?_
    | refine kb_miss rfl ?_
    | refine kb_r ?_
    | refine kl_e ?_
    | refine kl_r ?_
    | refine kr_n ?_
    | refine rnds_succ ?_
    | refine kr_e ?_
    | refine kr_r ?_
    | (refine rn_reg 0 ?_
       all_goals ((refine rg_box hs (kA rfl) (l2 rfl) rfl rfl ?_; clear hs; intro g w hs))
       all_goals ((refine rg_box hs (kA rfl) (l2 rfl) rfl rfl ?_; clear hs; intro g w hs))
       all_goals ((refine rg_alloc hs (l2 rfl) rfl rfl ?_; clear hs; intro g w hs))
       all_goals (refine rg_y (yv_assign (kI rfl)) rfl rfl ?_)
       all_goals (first | refine rg_nils [(2, _), (3, _), (4, _), (17, _), (18, _), (19, _)] ⟨sP rfl, sP rfl, sP rfl, sA rfl, sB rfl, sB rfl, trivial⟩ ?_ | refine rg_nil ?_))
    | (refine rn_reg 1 ?_
       all_goals (first | refine rg_y (yv_load rfl (ldBB (k1 (hs.blkL (i := 0) rfl)) rfl)) rfl rfl ?_ | refine rg_y (yv_load rfl (ldBB (k1 (hs.blkL (i := 1) rfl)) rfl)) rfl rfl ?_ | refine rg_y (yv_load rfl (ldBB (k1 (hs.blkL (i := 2) rfl)) rfl)) rfl rfl ?_ | refine rg_y (yv_load rfl (ldBB (k1 (hs.blkL (i := 3) rfl)) rfl)) rfl rfl ?_ | refine rg_y (yv_load rfl (ldPB (k1 (hs.blkL (i := 0) rfl)) (l2 rfl) rfl)) rfl rfl ?_ | refine rg_y (yv_load rfl (ldPB (k1 (hs.blkL (i := 1) rfl)) (l2 rfl) rfl)) rfl rfl ?_ | refine rg_y (yv_load rfl (ldPB (k1 (hs.blkL (i := 2) rfl)) (l2 rfl) rfl)) rfl rfl ?_ | refine rg_y (yv_load rfl (ldPB (k1 (hs.blkL (i := 3) rfl)) (l2 rfl) rfl)) rfl rfl ?_)
       all_goals (first | (refine rg_callbt (Valid_g _ _ _) hs rfl (by omega) rfl rfl ?_; clear hs; intro w hs) | (refine rg_callbf (Valid_g _ _ _) hs rfl (by omega) rfl rfl ?_; clear hs; intro w hs) | (refine rg_callb (Valid_g _ _ _) hs rfl rfl rfl (fun hc => ?_) (fun hc => ?_) <;> (clear hs; intro w hs)))
       all_goals (refine rg_y (yv_not rfl) rfl rfl ?_)
       all_goals (refine rg_y (yv_move (kB rfl)) rfl rfl ?_)
       all_goals (first | refine rg_skip rfl rfl ?_ | (first | refine rg_y (yv_load rfl (ldBB (k1 (hs.blkL (i := 0) rfl)) rfl)) rfl rfl ?_ | refine rg_y (yv_load rfl (ldBB (k1 (hs.blkL (i := 1) rfl)) rfl)) rfl rfl ?_ | refine rg_y (yv_load rfl (ldBB (k1 (hs.blkL (i := 2) rfl)) rfl)) rfl rfl ?_ | refine rg_y (yv_load rfl (ldBB (k1 (hs.blkL (i := 3) rfl)) rfl)) rfl rfl ?_ | refine rg_y (yv_load rfl (ldPB (k1 (hs.blkL (i := 0) rfl)) (l2 rfl) rfl)) rfl rfl ?_ | refine rg_y (yv_load rfl (ldPB (k1 (hs.blkL (i := 1) rfl)) (l2 rfl) rfl)) rfl rfl ?_ | refine rg_y (yv_load rfl (ldPB (k1 (hs.blkL (i := 2) rfl)) (l2 rfl) rfl)) rfl rfl ?_ | refine rg_y (yv_load rfl (ldPB (k1 (hs.blkL (i := 3) rfl)) (l2 rfl) rfl)) rfl rfl ?_))
       all_goals (first | refine rg_skip rfl rfl ?_ | (first | (refine rg_callbt (Valid_g _ _ _) hs rfl (by omega) rfl rfl ?_; clear hs; intro w hs) | (refine rg_callbf (Valid_g _ _ _) hs rfl (by omega) rfl rfl ?_; clear hs; intro w hs) | (refine rg_callb (Valid_g _ _ _) hs rfl rfl rfl (fun hc => ?_) (fun hc => ?_) <;> (clear hs; intro w hs))))
       all_goals (first | refine rg_skip rfl rfl ?_ | refine rg_y (yv_not rfl) rfl rfl ?_)
       all_goals (first | refine rg_y (yv_pick_t rfl (kB rfl)) rfl rfl ?_ | refine rg_y (yv_pick_f rfl (kB rfl)) rfl rfl ?_)
       all_goals (first | refine rg_nils [(2, _), (3, _), (4, _), (20, _)] ⟨sP rfl, sP rfl, sP rfl, sB rfl, trivial⟩ ?_ | refine rg_nil ?_))
    | (refine rn_reg 2 ?_
       all_goals (refine rg_y (yv_build rfl (o2 rfl)) rfl rfl ?_)
       all_goals (first | (refine rg_store 0 hs rfl rfl (kA rfl) (l2 rfl) rfl rfl rfl rfl ?_; clear hs; intro w hs; simp only [putCells, List.take_succ_cons, List.take_zero, List.take_nil, List.drop_succ_cons, List.drop_zero, List.drop_nil, List.cons_append, List.nil_append, List.append_nil, List.length_cons, List.length_nil, Nat.reduceAdd, Nat.add_zero, Nat.zero_add, List.set_cons_zero, List.set_cons_succ] at hs) | (refine rg_store 1 hs rfl rfl (kA rfl) (l2 rfl) rfl rfl rfl rfl ?_; clear hs; intro w hs; simp only [putCells, List.take_succ_cons, List.take_zero, List.take_nil, List.drop_succ_cons, List.drop_zero, List.drop_nil, List.cons_append, List.nil_append, List.append_nil, List.length_cons, List.length_nil, Nat.reduceAdd, Nat.add_zero, Nat.zero_add, List.set_cons_zero, List.set_cons_succ] at hs) | (refine rg_store 2 hs rfl rfl (kA rfl) (l2 rfl) rfl rfl rfl rfl ?_; clear hs; intro w hs; simp only [putCells, List.take_succ_cons, List.take_zero, List.take_nil, List.drop_succ_cons, List.drop_zero, List.drop_nil, List.cons_append, List.nil_append, List.append_nil, List.length_cons, List.length_nil, Nat.reduceAdd, Nat.add_zero, Nat.zero_add, List.set_cons_zero, List.set_cons_succ] at hs) | (refine rg_store 3 hs rfl rfl (kA rfl) (l2 rfl) rfl rfl rfl rfl ?_; clear hs; intro w hs; simp only [putCells, List.take_succ_cons, List.take_zero, List.take_nil, List.drop_succ_cons, List.drop_zero, List.drop_nil, List.cons_append, List.nil_append, List.append_nil, List.length_cons, List.length_nil, Nat.reduceAdd, Nat.add_zero, Nat.zero_add, List.set_cons_zero, List.set_cons_succ] at hs))
       all_goals (refine rg_y (yv_assign (kI rfl)) rfl rfl ?_)
       all_goals (first | refine rg_nils [(4, _), (5, _)] ⟨sP rfl, sI rfl, trivial⟩ ?_ | refine rg_nil ?_))
    | (refine rn_reg 3 ?_
       all_goals (refine rg_y (yv_build rfl (o2 rfl)) rfl rfl ?_)
       all_goals ((refine rg_alloc hs (l2 rfl) rfl rfl ?_; clear hs; intro g w hs))
       all_goals (first | (refine rg_store 0 hs rfl rfl (kA rfl) (l2 rfl) rfl rfl rfl rfl ?_; clear hs; intro w hs; simp only [putCells, List.take_succ_cons, List.take_zero, List.take_nil, List.drop_succ_cons, List.drop_zero, List.drop_nil, List.cons_append, List.nil_append, List.append_nil, List.length_cons, List.length_nil, Nat.reduceAdd, Nat.add_zero, Nat.zero_add, List.set_cons_zero, List.set_cons_succ] at hs) | (refine rg_store 1 hs rfl rfl (kA rfl) (l2 rfl) rfl rfl rfl rfl ?_; clear hs; intro w hs; simp only [putCells, List.take_succ_cons, List.take_zero, List.take_nil, List.drop_succ_cons, List.drop_zero, List.drop_nil, List.cons_append, List.nil_append, List.append_nil, List.length_cons, List.length_nil, Nat.reduceAdd, Nat.add_zero, Nat.zero_add, List.set_cons_zero, List.set_cons_succ] at hs) | (refine rg_store 2 hs rfl rfl (kA rfl) (l2 rfl) rfl rfl rfl rfl ?_; clear hs; intro w hs; simp only [putCells, List.take_succ_cons, List.take_zero, List.take_nil, List.drop_succ_cons, List.drop_zero, List.drop_nil, List.cons_append, List.nil_append, List.append_nil, List.length_cons, List.length_nil, Nat.reduceAdd, Nat.add_zero, Nat.zero_add, List.set_cons_zero, List.set_cons_succ] at hs) | (refine rg_store 3 hs rfl rfl (kA rfl) (l2 rfl) rfl rfl rfl rfl ?_; clear hs; intro w hs; simp only [putCells, List.take_succ_cons, List.take_zero, List.take_nil, List.drop_succ_cons, List.drop_zero, List.drop_nil, List.cons_append, List.nil_append, List.append_nil, List.length_cons, List.length_nil, Nat.reduceAdd, Nat.add_zero, Nat.zero_add, List.set_cons_zero, List.set_cons_succ] at hs))
       all_goals (first | refine rg_nils [(2, _), (3, _), (4, _), (6, _)] ⟨sP rfl, sP rfl, sP rfl, sP rfl, trivial⟩ ?_ | refine rg_nil ?_))
    | (refine rn_reg 4 ?_
       all_goals (refine rg_y (yv_fieldAddr rfl) rfl rfl ?_)
       all_goals (first | refine rg_y (yv_load rfl (ld1B (k1 (hs.blkL (i := 0) rfl)) (vI rfl))) rfl rfl ?_ | refine rg_y (yv_load rfl (ld1B (k1 (hs.blkL (i := 1) rfl)) (vI rfl))) rfl rfl ?_ | refine rg_y (yv_load rfl (ld1B (k1 (hs.blkL (i := 2) rfl)) (vI rfl))) rfl rfl ?_ | refine rg_y (yv_load rfl (ld1B (k1 (hs.blkL (i := 3) rfl)) (vI rfl))) rfl rfl ?_)
       all_goals (refine rg_y (yv_fieldAddr rfl) rfl rfl ?_)
       all_goals (first | refine rg_y (yv_load rfl (ld1B (k1 (hs.blkL (i := 0) rfl)) (vI rfl))) rfl rfl ?_ | refine rg_y (yv_load rfl (ld1B (k1 (hs.blkL (i := 1) rfl)) (vI rfl))) rfl rfl ?_ | refine rg_y (yv_load rfl (ld1B (k1 (hs.blkL (i := 2) rfl)) (vI rfl))) rfl rfl ?_ | refine rg_y (yv_load rfl (ld1B (k1 (hs.blkL (i := 3) rfl)) (vI rfl))) rfl rfl ?_)
       all_goals (refine rg_y (yv_buildA rfl (o2 rfl)) rfl rfl ?_)
       all_goals (refine rg_y (yv_move (kI rfl)) rfl rfl ?_)
       all_goals (first | refine rg_nils [(3, _), (4, _), (6, _), (27, _), (28, _)] ⟨sP rfl, sP rfl, sP rfl, sA rfl, sI rfl, trivial⟩ ?_ | refine rg_nil ?_))
    | (refine rn_reg 5 ?_
       all_goals (first | refine rg_bt (yv_lss rfl rfl) (by omega) rfl rfl ?_ | refine rg_bf (yv_lss rfl rfl) (by omega) rfl rfl ?_ | refine rg_b (yv_lss rfl rfl) rfl rfl (fun hc => ?_) (fun hc => ?_))
       all_goals (first | refine rg_nils [(3, _), (4, _), (6, _), (27, _), (28, _), (29, _)] ⟨sP rfl, sP rfl, sP rfl, sA rfl, sI rfl, sT rfl, trivial⟩ ?_ | refine rg_nil ?_))
    | (refine rn_reg 6 ?_
       all_goals (refine rg_y (yv_indexA rfl rfl (by omega) (vI rfl)) rfl rfl ?_)
       all_goals (refine rg_y (yv_assign (kI rfl)) rfl rfl ?_)
       all_goals (first | refine rg_nils [(3, _), (4, _), (6, _), (8, _), (27, _), (28, _)] ⟨sP rfl, sP rfl, sP rfl, sI rfl, sA rfl, sI rfl, trivial⟩ ?_ | refine rg_nil ?_))
    | (refine rn_reg 7 ?_
       all_goals (refine rg_y (yv_fieldAddr rfl) rfl rfl ?_)
       all_goals (first | refine rg_y (yv_load rfl (ld1B (k1 (hs.blkL (i := 0) rfl)) (vI rfl))) rfl rfl ?_ | refine rg_y (yv_load rfl (ld1B (k1 (hs.blkL (i := 1) rfl)) (vI rfl))) rfl rfl ?_ | refine rg_y (yv_load rfl (ld1B (k1 (hs.blkL (i := 2) rfl)) (vI rfl))) rfl rfl ?_ | refine rg_y (yv_load rfl (ld1B (k1 (hs.blkL (i := 3) rfl)) (vI rfl))) rfl rfl ?_)
       all_goals (refine rg_y (yv_fieldAddr rfl) rfl rfl ?_)
       all_goals (first | refine rg_y (yv_load rfl (ld1B (k1 (hs.blkL (i := 0) rfl)) (vI rfl))) rfl rfl ?_ | refine rg_y (yv_load rfl (ld1B (k1 (hs.blkL (i := 1) rfl)) (vI rfl))) rfl rfl ?_ | refine rg_y (yv_load rfl (ld1B (k1 (hs.blkL (i := 2) rfl)) (vI rfl))) rfl rfl ?_ | refine rg_y (yv_load rfl (ld1B (k1 (hs.blkL (i := 3) rfl)) (vI rfl))) rfl rfl ?_)
       all_goals (refine rg_y (yv_buildA rfl (o2 rfl)) rfl rfl ?_)
       all_goals (refine rg_y (yv_move (kI rfl)) rfl rfl ?_)
       all_goals (first | refine rg_nils [(3, _), (4, _), (6, _), (8, _), (27, _), (28, _), (35, _), (36, _)] ⟨sP rfl, sP rfl, sP rfl, sI rfl, sA rfl, sI rfl, sA rfl, sI rfl, trivial⟩ ?_ | refine rg_nil ?_))
    | (refine rn_reg 8 ?_
       all_goals (first | refine rg_bt (yv_lss rfl rfl) (by omega) rfl rfl ?_ | refine rg_bf (yv_lss rfl rfl) (by omega) rfl rfl ?_ | refine rg_b (yv_lss rfl rfl) rfl rfl (fun hc => ?_) (fun hc => ?_))
       all_goals (first | refine rg_nils [(3, _), (4, _), (6, _), (8, _), (27, _), (28, _), (35, _), (36, _), (37, _)] ⟨sP rfl, sP rfl, sP rfl, sI rfl, sA rfl, sI rfl, sA rfl, sI rfl, sT rfl, trivial⟩ ?_ | refine rg_nil ?_))
    | (refine rn_reg 9 ?_
       all_goals (refine rg_y (yv_indexA rfl rfl (by omega) (vI rfl)) rfl rfl ?_)
       all_goals (refine rg_y (yv_assign (kI rfl)) rfl rfl ?_)
       all_goals (first | refine rg_nils [(3, _), (4, _), (6, _), (8, _), (10, _), (27, _), (28, _), (35, _), (36, _)] ⟨sP rfl, sP rfl, sP rfl, sI rfl, sI rfl, sA rfl, sI rfl, sA rfl, sI rfl, trivial⟩ ?_ | refine rg_nil ?_))
    | (refine rn_reg 10 ?_
       all_goals (refine rg_y (yv_move (kI rfl)) rfl rfl ?_)
       all_goals (refine rg_y (yv_move (kI rfl)) rfl rfl ?_)
       all_goals ((refine rg_call0 (product_g _ _ _ (by omega) (by omega)) hs rfl rfl rfl ?_; clear hs; intro w hs))
       all_goals (refine rg_y (yv_move (kT rfl)) rfl rfl ?_)
       all_goals (refine rg_y (yv_extract rfl (vI rfl)) rfl rfl ?_)
       all_goals (refine rg_b (yv_extract rfl rfl) rfl rfl (fun hc => ?_) (fun hc => ?_))
       all_goals (refine rg_y (yv_assign (kI rfl)) rfl rfl ?_)
       all_goals (refine rg_y (yv_assign (kB rfl)) rfl rfl ?_)
       all_goals (first | refine rg_nils [(3, _), (4, _), (6, _), (8, _), (11, _), (12, _), (27, _), (28, _), (35, _), (36, _)] ⟨sP rfl, sP rfl, sP rfl, sI rfl, sI rfl, sB rfl, sA rfl, sI rfl, sA rfl, sI rfl, trivial⟩ ?_ | refine rg_nil ?_))
    | (refine rn_reg 11 ?_
       all_goals (refine rg_y (yv_move (kB rfl)) rfl rfl ?_)
       all_goals (refine rg_y (yv_not rfl) rfl rfl ?_)
       all_goals (first | refine rg_nils [(3, _), (4, _), (6, _), (8, _), (11, _), (27, _), (28, _), (35, _), (36, _), (46, _)] ⟨sP rfl, sP rfl, sP rfl, sI rfl, sI rfl, sA rfl, sI rfl, sA rfl, sI rfl, sB rfl, trivial⟩ ?_ | refine rg_nil ?_))
    | (refine rn_reg 12 ?_
       all_goals (refine rg_y (yv_build rfl (o2 rfl)) rfl rfl ?_)
       all_goals (first | (refine rg_store 0 hs rfl rfl (kA rfl) (l2 rfl) rfl rfl rfl rfl ?_; clear hs; intro w hs; simp only [putCells, List.take_succ_cons, List.take_zero, List.take_nil, List.drop_succ_cons, List.drop_zero, List.drop_nil, List.cons_append, List.nil_append, List.append_nil, List.length_cons, List.length_nil, Nat.reduceAdd, Nat.add_zero, Nat.zero_add, List.set_cons_zero, List.set_cons_succ] at hs) | (refine rg_store 1 hs rfl rfl (kA rfl) (l2 rfl) rfl rfl rfl rfl ?_; clear hs; intro w hs; simp only [putCells, List.take_succ_cons, List.take_zero, List.take_nil, List.drop_succ_cons, List.drop_zero, List.drop_nil, List.cons_append, List.nil_append, List.append_nil, List.length_cons, List.length_nil, Nat.reduceAdd, Nat.add_zero, Nat.zero_add, List.set_cons_zero, List.set_cons_succ] at hs) | (refine rg_store 2 hs rfl rfl (kA rfl) (l2 rfl) rfl rfl rfl rfl ?_; clear hs; intro w hs; simp only [putCells, List.take_succ_cons, List.take_zero, List.take_nil, List.drop_succ_cons, List.drop_zero, List.drop_nil, List.cons_append, List.nil_append, List.append_nil, List.length_cons, List.length_nil, Nat.reduceAdd, Nat.add_zero, Nat.zero_add, List.set_cons_zero, List.set_cons_succ] at hs) | (refine rg_store 3 hs rfl rfl (kA rfl) (l2 rfl) rfl rfl rfl rfl ?_; clear hs; intro w hs; simp only [putCells, List.take_succ_cons, List.take_zero, List.take_nil, List.drop_succ_cons, List.drop_zero, List.drop_nil, List.cons_append, List.nil_append, List.append_nil, List.length_cons, List.length_nil, Nat.reduceAdd, Nat.add_zero, Nat.zero_add, List.set_cons_zero, List.set_cons_succ] at hs))
       all_goals (refine rg_y (yv_assign (kI rfl)) rfl rfl ?_)
       all_goals (first | refine rg_nils [(4, _), (5, _)] ⟨sP rfl, sI rfl, trivial⟩ ?_ | refine rg_nil ?_))
    | (refine rn_reg 13 ?_
       all_goals (refine rg_y (yv_fieldAddr rfl) rfl rfl ?_)
       all_goals (first | refine rg_y (yv_load rfl (ld1B (k1 (hs.blkL (i := 0) rfl)) (vI rfl))) rfl rfl ?_ | refine rg_y (yv_load rfl (ld1B (k1 (hs.blkL (i := 1) rfl)) (vI rfl))) rfl rfl ?_ | refine rg_y (yv_load rfl (ld1B (k1 (hs.blkL (i := 2) rfl)) (vI rfl))) rfl rfl ?_ | refine rg_y (yv_load rfl (ld1B (k1 (hs.blkL (i := 3) rfl)) (vI rfl))) rfl rfl ?_)
       all_goals (refine rg_y (yv_move (kI rfl)) rfl rfl ?_)
       all_goals (refine rg_y (yv_min rfl rfl) rfl rfl ?_)
       all_goals (refine rg_y (yv_fieldAddr rfl) rfl rfl ?_)
       all_goals (first | refine rg_y (yv_load rfl (ld1B (k1 (hs.blkL (i := 0) rfl)) (vI rfl))) rfl rfl ?_ | refine rg_y (yv_load rfl (ld1B (k1 (hs.blkL (i := 1) rfl)) (vI rfl))) rfl rfl ?_ | refine rg_y (yv_load rfl (ld1B (k1 (hs.blkL (i := 2) rfl)) (vI rfl))) rfl rfl ?_ | refine rg_y (yv_load rfl (ld1B (k1 (hs.blkL (i := 3) rfl)) (vI rfl))) rfl rfl ?_)
       all_goals (refine rg_y (yv_move (kI rfl)) rfl rfl ?_)
       all_goals (refine rg_y (yv_max rfl rfl) rfl rfl ?_)
       all_goals (refine rg_y (yv_fieldAddr rfl) rfl rfl ?_)
       all_goals (first | (refine rg_store 0 hs rfl rfl (kI rfl) (l1 rfl) rfl rfl rfl rfl ?_; clear hs; intro w hs; simp only [putCells, List.take_succ_cons, List.take_zero, List.take_nil, List.drop_succ_cons, List.drop_zero, List.drop_nil, List.cons_append, List.nil_append, List.append_nil, List.length_cons, List.length_nil, Nat.reduceAdd, Nat.add_zero, Nat.zero_add, List.set_cons_zero, List.set_cons_succ] at hs) | (refine rg_store 1 hs rfl rfl (kI rfl) (l1 rfl) rfl rfl rfl rfl ?_; clear hs; intro w hs; simp only [putCells, List.take_succ_cons, List.take_zero, List.take_nil, List.drop_succ_cons, List.drop_zero, List.drop_nil, List.cons_append, List.nil_append, List.append_nil, List.length_cons, List.length_nil, Nat.reduceAdd, Nat.add_zero, Nat.zero_add, List.set_cons_zero, List.set_cons_succ] at hs) | (refine rg_store 2 hs rfl rfl (kI rfl) (l1 rfl) rfl rfl rfl rfl ?_; clear hs; intro w hs; simp only [putCells, List.take_succ_cons, List.take_zero, List.take_nil, List.drop_succ_cons, List.drop_zero, List.drop_nil, List.cons_append, List.nil_append, List.append_nil, List.length_cons, List.length_nil, Nat.reduceAdd, Nat.add_zero, Nat.zero_add, List.set_cons_zero, List.set_cons_succ] at hs) | (refine rg_store 3 hs rfl rfl (kI rfl) (l1 rfl) rfl rfl rfl rfl ?_; clear hs; intro w hs; simp only [putCells, List.take_succ_cons, List.take_zero, List.take_nil, List.drop_succ_cons, List.drop_zero, List.drop_nil, List.cons_append, List.nil_append, List.append_nil, List.length_cons, List.length_nil, Nat.reduceAdd, Nat.add_zero, Nat.zero_add, List.set_cons_zero, List.set_cons_succ] at hs))
       all_goals (refine rg_y (yv_fieldAddr rfl) rfl rfl ?_)
       all_goals (first | (refine rg_store 0 hs rfl rfl (kI rfl) (l1 rfl) rfl rfl rfl rfl ?_; clear hs; intro w hs; simp only [putCells, List.take_succ_cons, List.take_zero, List.take_nil, List.drop_succ_cons, List.drop_zero, List.drop_nil, List.cons_append, List.nil_append, List.append_nil, List.length_cons, List.length_nil, Nat.reduceAdd, Nat.add_zero, Nat.zero_add, List.set_cons_zero, List.set_cons_succ] at hs) | (refine rg_store 1 hs rfl rfl (kI rfl) (l1 rfl) rfl rfl rfl rfl ?_; clear hs; intro w hs; simp only [putCells, List.take_succ_cons, List.take_zero, List.take_nil, List.drop_succ_cons, List.drop_zero, List.drop_nil, List.cons_append, List.nil_append, List.append_nil, List.length_cons, List.length_nil, Nat.reduceAdd, Nat.add_zero, Nat.zero_add, List.set_cons_zero, List.set_cons_succ] at hs) | (refine rg_store 2 hs rfl rfl (kI rfl) (l1 rfl) rfl rfl rfl rfl ?_; clear hs; intro w hs; simp only [putCells, List.take_succ_cons, List.take_zero, List.take_nil, List.drop_succ_cons, List.drop_zero, List.drop_nil, List.cons_append, List.nil_append, List.append_nil, List.length_cons, List.length_nil, Nat.reduceAdd, Nat.add_zero, Nat.zero_add, List.set_cons_zero, List.set_cons_succ] at hs) | (refine rg_store 3 hs rfl rfl (kI rfl) (l1 rfl) rfl rfl rfl rfl ?_; clear hs; intro w hs; simp only [putCells, List.take_succ_cons, List.take_zero, List.take_nil, List.drop_succ_cons, List.drop_zero, List.drop_nil, List.cons_append, List.nil_append, List.append_nil, List.length_cons, List.length_nil, Nat.reduceAdd, Nat.add_zero, Nat.zero_add, List.set_cons_zero, List.set_cons_succ] at hs))
       all_goals (first | refine rg_nils [(3, _), (4, _), (6, _), (8, _), (27, _), (28, _), (35, _), (36, _)] ⟨sP rfl, sP rfl, sP rfl, sI rfl, sA rfl, sI rfl, sA rfl, sI rfl, trivial⟩ ?_ | refine rg_nil ?_))
    | (refine rn_reg 14 ?_
       all_goals (refine rg_y (yv_add rfl rfl (by omega)) rfl rfl ?_)
       all_goals (refine rg_y (yv_move (kI rfl)) rfl rfl ?_)
       all_goals (first | refine rg_nils [(3, _), (4, _), (6, _), (8, _), (27, _), (28, _), (35, _), (36, _)] ⟨sP rfl, sP rfl, sP rfl, sI rfl, sA rfl, sI rfl, sA rfl, sI rfl, trivial⟩ ?_ | refine rg_nil ?_))
    | (refine rn_reg 15 ?_
       all_goals (refine rg_y (yv_add rfl rfl (by omega)) rfl rfl ?_)
       all_goals (refine rg_y (yv_move (kI rfl)) rfl rfl ?_)
       all_goals (first | refine rg_nils [(3, _), (4, _), (6, _), (27, _), (28, _)] ⟨sP rfl, sP rfl, sP rfl, sA rfl, sI rfl, trivial⟩ ?_ | refine rg_nil ?_))
    | (refine rn_reg 16 ?_
       all_goals (first | refine rg_y (yv_load rfl (ldBB (k1 (hs.blkL (i := 0) rfl)) rfl)) rfl rfl ?_ | refine rg_y (yv_load rfl (ldBB (k1 (hs.blkL (i := 1) rfl)) rfl)) rfl rfl ?_ | refine rg_y (yv_load rfl (ldBB (k1 (hs.blkL (i := 2) rfl)) rfl)) rfl rfl ?_ | refine rg_y (yv_load rfl (ldBB (k1 (hs.blkL (i := 3) rfl)) rfl)) rfl rfl ?_ | refine rg_y (yv_load rfl (ldPB (k1 (hs.blkL (i := 0) rfl)) (l2 rfl) rfl)) rfl rfl ?_ | refine rg_y (yv_load rfl (ldPB (k1 (hs.blkL (i := 1) rfl)) (l2 rfl) rfl)) rfl rfl ?_ | refine rg_y (yv_load rfl (ldPB (k1 (hs.blkL (i := 2) rfl)) (l2 rfl) rfl)) rfl rfl ?_ | refine rg_y (yv_load rfl (ldPB (k1 (hs.blkL (i := 3) rfl)) (l2 rfl) rfl)) rfl rfl ?_)
       all_goals (first | (refine rg_store 0 hs rfl rfl (kA rfl) (l2 rfl) rfl rfl rfl rfl ?_; clear hs; intro w hs; simp only [putCells, List.take_succ_cons, List.take_zero, List.take_nil, List.drop_succ_cons, List.drop_zero, List.drop_nil, List.cons_append, List.nil_append, List.append_nil, List.length_cons, List.length_nil, Nat.reduceAdd, Nat.add_zero, Nat.zero_add, List.set_cons_zero, List.set_cons_succ] at hs) | (refine rg_store 1 hs rfl rfl (kA rfl) (l2 rfl) rfl rfl rfl rfl ?_; clear hs; intro w hs; simp only [putCells, List.take_succ_cons, List.take_zero, List.take_nil, List.drop_succ_cons, List.drop_zero, List.drop_nil, List.cons_append, List.nil_append, List.append_nil, List.length_cons, List.length_nil, Nat.reduceAdd, Nat.add_zero, Nat.zero_add, List.set_cons_zero, List.set_cons_succ] at hs) | (refine rg_store 2 hs rfl rfl (kA rfl) (l2 rfl) rfl rfl rfl rfl ?_; clear hs; intro w hs; simp only [putCells, List.take_succ_cons, List.take_zero, List.take_nil, List.drop_succ_cons, List.drop_zero, List.drop_nil, List.cons_append, List.nil_append, List.append_nil, List.length_cons, List.length_nil, Nat.reduceAdd, Nat.add_zero, Nat.zero_add, List.set_cons_zero, List.set_cons_succ] at hs) | (refine rg_store 3 hs rfl rfl (kA rfl) (l2 rfl) rfl rfl rfl rfl ?_; clear hs; intro w hs; simp only [putCells, List.take_succ_cons, List.take_zero, List.take_nil, List.drop_succ_cons, List.drop_zero, List.drop_nil, List.cons_append, List.nil_append, List.append_nil, List.length_cons, List.length_nil, Nat.reduceAdd, Nat.add_zero, Nat.zero_add, List.set_cons_zero, List.set_cons_succ] at hs))
       all_goals (refine rg_y (yv_assign (kI rfl)) rfl rfl ?_)
       all_goals (first | refine rg_nils [(4, _), (5, _)] ⟨sP rfl, sI rfl, trivial⟩ ?_ | refine rg_nil ?_)))
  · (first | refine k_ret2 rfl (.cell rfl (ldBB (hs.blkL (i := 0) rfl) rfl)) (.tmp rfl) ⟨r3 ?_, hs.drop⟩ | refine k_ret2 rfl (.cell rfl (ldBB (hs.blkL (i := 1) rfl) rfl)) (.tmp rfl) ⟨r3 ?_, hs.drop⟩ | refine k_ret2 rfl (.cell rfl (ldBB (hs.blkL (i := 2) rfl) rfl)) (.tmp rfl) ⟨r3 ?_, hs.drop⟩ | refine k_ret2 rfl (.cell rfl (ldBB (hs.blkL (i := 3) rfl) rfl)) (.tmp rfl) ⟨r3 ?_, hs.drop⟩ | refine k_ret2 rfl (.cell rfl (ldBB (hs.blkL (i := 4) rfl) rfl)) (.tmp rfl) ⟨r3 ?_, hs.drop⟩ | refine k_ret2 rfl (.cell rfl (ldBB (hs.blkL (i := 5) rfl) rfl)) (.tmp rfl) ⟨r3 ?_, hs.drop⟩ | refine k_ret2 rfl (.cell rfl (ldBB (hs.blkL (i := 6) rfl) rfl)) (.tmp rfl) ⟨r3 ?_, hs.drop⟩ | refine k_ret2 rfl (.cell rfl (ldBB (hs.blkL (i := 7) rfl) rfl)) (.tmp rfl) ⟨r3 ?_, hs.drop⟩)
    have h : Inr (a * c) ∧ Inr (a * d) ∧ Inr (b * c) ∧ Inr (b * d) := ⟨by assumption, by assumption, by assumption, by assumption⟩
    simp only [mulM, prodM]
    rw [if_pos (by constructor <;> assumption), if_pos h, if_pos h.1, if_pos h.2.1, if_pos h.2.2.1, if_pos h.2.2.2]
  all_goals ((first | refine k_ret2 rfl (.cell rfl (ldBB (hs.blkL (i := 0) rfl) rfl)) (.tmp rfl) ⟨r3 ?_, hs.drop⟩ | refine k_ret2 rfl (.cell rfl (ldBB (hs.blkL (i := 1) rfl) rfl)) (.tmp rfl) ⟨r3 ?_, hs.drop⟩ | refine k_ret2 rfl (.cell rfl (ldBB (hs.blkL (i := 2) rfl) rfl)) (.tmp rfl) ⟨r3 ?_, hs.drop⟩ | refine k_ret2 rfl (.cell rfl (ldBB (hs.blkL (i := 3) rfl) rfl)) (.tmp rfl) ⟨r3 ?_, hs.drop⟩ | refine k_ret2 rfl (.cell rfl (ldBB (hs.blkL (i := 4) rfl) rfl)) (.tmp rfl) ⟨r3 ?_, hs.drop⟩ | refine k_ret2 rfl (.cell rfl (ldBB (hs.blkL (i := 5) rfl) rfl)) (.tmp rfl) ⟨r3 ?_, hs.drop⟩ | refine k_ret2 rfl (.cell rfl (ldBB (hs.blkL (i := 6) rfl) rfl)) (.tmp rfl) ⟨r3 ?_, hs.drop⟩ | refine k_ret2 rfl (.cell rfl (ldBB (hs.blkL (i := 7) rfl) rfl)) (.tmp rfl) ⟨r3 ?_, hs.drop⟩); unfold mulM)
  all_goals first | rw [if_neg (by omega)] | rw [if_pos (by omega), if_neg (by omega)]
theorem Scale_g (a b num den : Int) (w : World) : Gives Try.prog 24 [ivv a b, .int .i64 num, .int .i64 den] w (tv3 (scaleM a b num den)) := by
  by_cases hr : Ivd a b ∧ -1000000 ≤ num ∧ num ≤ 1000000
  · have hb : ∀ x, -1000000000000 ≤ x ∧ x ≤ 1000000000000 → -1000000000000000000 ≤ x * num ∧ x * num ≤ 1000000000000000000 := fun x hx => mul_bd hx hr.2
    have ha1 := hb a (by omega)
    have hb1 := hb b (by omega)
    have hd1 := dnm_in (a := a * num) (b := den) (by omega)
    have hd2 := dnm_in (a := b * num) (b := den) (by omega)
    have hu1 := upm_in (a := a * num) (b := den) (by omega)
    have hu2 := upm_in (a := b * num) (b := den) (by omega)
    clear hb
    (try unfold Gives); refine calls_enter Try.func24 rfl Try.ntmps24 rfl rfl ?_; have hs := St.refl w
    repeat' (first
      | refine rn_seq ?_
      | refine ks_n ?_
      | refine rn_cond_t rfl ?_
      | refine rn_cond_f rfl ?_
      | refine kb_n ?_
      | refine rn_block ?_
      | refine rn_skip ?_
      | refine rn_ret ?_
      | refine ks_r ?_
      | refine rn_exit ?_
      | refine ks_e ?_
      | refine kb_hit ?_
      | refine kb_miss rfl ?_
      | refine kb_r ?_
      | refine kl_e ?_
      | refine kl_r ?_
      | refine kr_n ?_
      | refine rnds_succ ?_
      | refine kr_e ?_
      | refine kr_r ?_
      | (refine rn_reg 0 ?_
         all_goals ((refine rg_box hs (kA rfl) (l2 rfl) rfl rfl ?_; clear hs; intro g w hs))
         all_goals ((refine rg_alloc hs (l2 rfl) rfl rfl ?_; clear hs; intro g w hs))
         all_goals (refine rg_y (yv_assign (kI rfl)) rfl rfl ?_)
         all_goals (first | refine rg_nils [(1, _), (2, _), (3, _), (6, _), (19, _), (20, _), (23, _), (24, _), (27, _), (28, _)] ⟨sI rfl, sI rfl, sP rfl, sP rfl, sI rfl, sB rfl, sI rfl, sB rfl, sI rfl, sB rfl, trivial⟩ ?_ | refine rg_nil ?_))
      | (refine rn_reg 1 ?_
         all_goals (first | refine rg_y (yv_load rfl (ldBB (k1 (hs.blkL (i := 0) rfl)) rfl)) rfl rfl ?_ | refine rg_y (yv_load rfl (ldBB (k1 (hs.blkL (i := 1) rfl)) rfl)) rfl rfl ?_ | refine rg_y (yv_load rfl (ldBB (k1 (hs.blkL (i := 2) rfl)) rfl)) rfl rfl ?_ | refine rg_y (yv_load rfl (ldBB (k1 (hs.blkL (i := 3) rfl)) rfl)) rfl rfl ?_ | refine rg_y (yv_load rfl (ldPB (k1 (hs.blkL (i := 0) rfl)) (l2 rfl) rfl)) rfl rfl ?_ | refine rg_y (yv_load rfl (ldPB (k1 (hs.blkL (i := 1) rfl)) (l2 rfl) rfl)) rfl rfl ?_ | refine rg_y (yv_load rfl (ldPB (k1 (hs.blkL (i := 2) rfl)) (l2 rfl) rfl)) rfl rfl ?_ | refine rg_y (yv_load rfl (ldPB (k1 (hs.blkL (i := 3) rfl)) (l2 rfl) rfl)) rfl rfl ?_)
         all_goals (first | (refine rg_callbt (Valid_g _ _ _) hs rfl (by omega) rfl rfl ?_; clear hs; intro w hs) | (refine rg_callbf (Valid_g _ _ _) hs rfl (by omega) rfl rfl ?_; clear hs; intro w hs) | (refine rg_callb (Valid_g _ _ _) hs rfl rfl rfl (fun hc => ?_) (fun hc => ?_) <;> (clear hs; intro w hs)))
         all_goals (refine rg_y (yv_not rfl) rfl rfl ?_)
         all_goals (refine rg_y (yv_assign (kB rfl)) rfl rfl ?_)
         all_goals (first | refine rg_nils [(1, _), (2, _), (3, _), (6, _), (10, _), (19, _), (20, _), (23, _), (24, _), (27, _), (28, _)] ⟨sI rfl, sI rfl, sP rfl, sP rfl, sB rfl, sI rfl, sB rfl, sI rfl, sB rfl, sI rfl, sB rfl, trivial⟩ ?_ | refine rg_nil ?_))
      | (refine rn_reg 2 ?_
         all_goals (refine rg_y (yv_build rfl (o2 rfl)) rfl rfl ?_)
         all_goals (first | (refine rg_store 0 hs rfl rfl (kA rfl) (l2 rfl) rfl rfl rfl rfl ?_; clear hs; intro w hs; simp only [putCells, List.take_succ_cons, List.take_zero, List.take_nil, List.drop_succ_cons, List.drop_zero, List.drop_nil, List.cons_append, List.nil_append, List.append_nil, List.length_cons, List.length_nil, Nat.reduceAdd, Nat.add_zero, Nat.zero_add, List.set_cons_zero, List.set_cons_succ] at hs) | (refine rg_store 1 hs rfl rfl (kA rfl) (l2 rfl) rfl rfl rfl rfl ?_; clear hs; intro w hs; simp only [putCells, List.take_succ_cons, List.take_zero, List.take_nil, List.drop_succ_cons, List.drop_zero, List.drop_nil, List.cons_append, List.nil_append, List.append_nil, List.length_cons, List.length_nil, Nat.reduceAdd, Nat.add_zero, Nat.zero_add, List.set_cons_zero, List.set_cons_succ] at hs) | (refine rg_store 2 hs rfl rfl (kA rfl) (l2 rfl) rfl rfl rfl rfl ?_; clear hs; intro w hs; simp only [putCells, List.take_succ_cons, List.take_zero, List.take_nil, List.drop_succ_cons, List.drop_zero, List.drop_nil, List.cons_append, List.nil_append, List.append_nil, List.length_cons, List.length_nil, Nat.reduceAdd, Nat.add_zero, Nat.zero_add, List.set_cons_zero, List.set_cons_succ] at hs) | (refine rg_store 3 hs rfl rfl (kA rfl) (l2 rfl) rfl rfl rfl rfl ?_; clear hs; intro w hs; simp only [putCells, List.take_succ_cons, List.take_zero, List.take_nil, List.drop_succ_cons, List.drop_zero, List.drop_nil, List.cons_append, List.nil_append, List.append_nil, List.length_cons, List.length_nil, Nat.reduceAdd, Nat.add_zero, Nat.zero_add, List.set_cons_zero, List.set_cons_succ] at hs))
         all_goals (refine rg_y (yv_assign (kI rfl)) rfl rfl ?_)
         all_goals (first | refine rg_nils [(6, _), (7, _)] ⟨sP rfl, sI rfl, trivial⟩ ?_ | refine rg_nil ?_))
      | (refine rn_reg 3 ?_
         all_goals (refine rg_y (yv_move (kI rfl)) rfl rfl ?_)
         all_goals (first | refine rg_bt (yv_lss rfl rfl) (by omega) rfl rfl ?_ | refine rg_bf (yv_lss rfl rfl) (by omega) rfl rfl ?_ | refine rg_b (yv_lss rfl rfl) rfl rfl (fun hc => ?_) (fun hc => ?_))
         all_goals (refine rg_y (yv_move (kB rfl)) rfl rfl ?_)
         all_goals (first | refine rg_skip rfl rfl ?_ | refine rg_y (yv_move (kI rfl)) rfl rfl ?_)
         all_goals (first | refine rg_skip rfl rfl ?_ | (first | refine rg_bt (yv_gtr rfl rfl) (by omega) rfl rfl ?_ | refine rg_bf (yv_gtr rfl rfl) (by omega) rfl rfl ?_ | refine rg_b (yv_gtr rfl rfl) rfl rfl (fun hc => ?_) (fun hc => ?_)))
         all_goals (first | refine rg_y (yv_pick_t rfl (kB rfl)) rfl rfl ?_ | refine rg_y (yv_pick_f rfl (kB rfl)) rfl rfl ?_)
         all_goals (refine rg_y (yv_move (kB rfl)) rfl rfl ?_)
         all_goals (first | refine rg_skip rfl rfl ?_ | refine rg_y (yv_move (kI rfl)) rfl rfl ?_)
         all_goals (first | refine rg_skip rfl rfl ?_ | (first | refine rg_bt (yv_lss rfl rfl) (by omega) rfl rfl ?_ | refine rg_bf (yv_lss rfl rfl) (by omega) rfl rfl ?_ | refine rg_b (yv_lss rfl rfl) rfl rfl (fun hc => ?_) (fun hc => ?_)))
         all_goals (first | refine rg_y (yv_pick_t rfl (kB rfl)) rfl rfl ?_ | refine rg_y (yv_pick_f rfl (kB rfl)) rfl rfl ?_)
         all_goals (refine rg_y (yv_move (kB rfl)) rfl rfl ?_)
         all_goals (first | refine rg_skip rfl rfl ?_ | refine rg_y (yv_move (kI rfl)) rfl rfl ?_)
         all_goals (first | refine rg_skip rfl rfl ?_ | (first | refine rg_bt (yv_gtr rfl rfl) (by omega) rfl rfl ?_ | refine rg_bf (yv_gtr rfl rfl) (by omega) rfl rfl ?_ | refine rg_b (yv_gtr rfl rfl) rfl rfl (fun hc => ?_) (fun hc => ?_)))
         all_goals (first | refine rg_y (yv_pick_t rfl (kB rfl)) rfl rfl ?_ | refine rg_y (yv_pick_f rfl (kB rfl)) rfl rfl ?_)
         all_goals (refine rg_y (yv_assign (kB rfl)) rfl rfl ?_)
         all_goals (first | refine rg_nils [(1, _), (2, _), (3, _), (6, _), (15, _)] ⟨sI rfl, sI rfl, sP rfl, sP rfl, sB rfl, trivial⟩ ?_ | refine rg_nil ?_))
      | (refine rn_reg 4 ?_
         all_goals (refine rg_y (yv_build rfl (o2 rfl)) rfl rfl ?_)
         all_goals (first | (refine rg_store 0 hs rfl rfl (kA rfl) (l2 rfl) rfl rfl rfl rfl ?_; clear hs; intro w hs; simp only [putCells, List.take_succ_cons, List.take_zero, List.take_nil, List.drop_succ_cons, List.drop_zero, List.drop_nil, List.cons_append, List.nil_append, List.append_nil, List.length_cons, List.length_nil, Nat.reduceAdd, Nat.add_zero, Nat.zero_add, List.set_cons_zero, List.set_cons_succ] at hs) | (refine rg_store 1 hs rfl rfl (kA rfl) (l2 rfl) rfl rfl rfl rfl ?_; clear hs; intro w hs; simp only [putCells, List.take_succ_cons, List.take_zero, List.take_nil, List.drop_succ_cons, List.drop_zero, List.drop_nil, List.cons_append, List.nil_append, List.append_nil, List.length_cons, List.length_nil, Nat.reduceAdd, Nat.add_zero, Nat.zero_add, List.set_cons_zero, List.set_cons_succ] at hs) | (refine rg_store 2 hs rfl rfl (kA rfl) (l2 rfl) rfl rfl rfl rfl ?_; clear hs; intro w hs; simp only [putCells, List.take_succ_cons, List.take_zero, List.take_nil, List.drop_succ_cons, List.drop_zero, List.drop_nil, List.cons_append, List.nil_append, List.append_nil, List.length_cons, List.length_nil, Nat.reduceAdd, Nat.add_zero, Nat.zero_add, List.set_cons_zero, List.set_cons_succ] at hs) | (refine rg_store 3 hs rfl rfl (kA rfl) (l2 rfl) rfl rfl rfl rfl ?_; clear hs; intro w hs; simp only [putCells, List.take_succ_cons, List.take_zero, List.take_nil, List.drop_succ_cons, List.drop_zero, List.drop_nil, List.cons_append, List.nil_append, List.append_nil, List.length_cons, List.length_nil, Nat.reduceAdd, Nat.add_zero, Nat.zero_add, List.set_cons_zero, List.set_cons_succ] at hs))
         all_goals (refine rg_y (yv_assign (kI rfl)) rfl rfl ?_)
         all_goals (first | refine rg_nils [(6, _), (7, _)] ⟨sP rfl, sI rfl, trivial⟩ ?_ | refine rg_nil ?_))
      | (refine rn_reg 5 ?_
         all_goals (refine rg_y (yv_move (kI rfl)) rfl rfl ?_)
         all_goals (first | refine rg_bt (yv_eql rfl rfl) (by omega) rfl rfl ?_ | refine rg_bf (yv_eql rfl rfl) (by omega) rfl rfl ?_ | refine rg_b (yv_eql rfl rfl) rfl rfl (fun hc => ?_) (fun hc => ?_))
         all_goals (refine rg_y (yv_assign (kB rfl)) rfl rfl ?_)
         all_goals (first | refine rg_nils [(1, _), (2, _), (3, _), (6, _), (31, _)] ⟨sI rfl, sI rfl, sP rfl, sP rfl, sB rfl, trivial⟩ ?_ | refine rg_nil ?_))
      | (refine rn_reg 6 ?_
         all_goals (refine rg_y (yv_build rfl (o2 rfl)) rfl rfl ?_)
         all_goals (first | (refine rg_store 0 hs rfl rfl (kA rfl) (l2 rfl) rfl rfl rfl rfl ?_; clear hs; intro w hs; simp only [putCells, List.take_succ_cons, List.take_zero, List.take_nil, List.drop_succ_cons, List.drop_zero, List.drop_nil, List.cons_append, List.nil_append, List.append_nil, List.length_cons, List.length_nil, Nat.reduceAdd, Nat.add_zero, Nat.zero_add, List.set_cons_zero, List.set_cons_succ] at hs) | (refine rg_store 1 hs rfl rfl (kA rfl) (l2 rfl) rfl rfl rfl rfl ?_; clear hs; intro w hs; simp only [putCells, List.take_succ_cons, List.take_zero, List.take_nil, List.drop_succ_cons, List.drop_zero, List.drop_nil, List.cons_append, List.nil_append, List.append_nil, List.length_cons, List.length_nil, Nat.reduceAdd, Nat.add_zero, Nat.zero_add, List.set_cons_zero, List.set_cons_succ] at hs) | (refine rg_store 2 hs rfl rfl (kA rfl) (l2 rfl) rfl rfl rfl rfl ?_; clear hs; intro w hs; simp only [putCells, List.take_succ_cons, List.take_zero, List.take_nil, List.drop_succ_cons, List.drop_zero, List.drop_nil, List.cons_append, List.nil_append, List.append_nil, List.length_cons, List.length_nil, Nat.reduceAdd, Nat.add_zero, Nat.zero_add, List.set_cons_zero, List.set_cons_succ] at hs) | (refine rg_store 3 hs rfl rfl (kA rfl) (l2 rfl) rfl rfl rfl rfl ?_; clear hs; intro w hs; simp only [putCells, List.take_succ_cons, List.take_zero, List.take_nil, List.drop_succ_cons, List.drop_zero, List.drop_nil, List.cons_append, List.nil_append, List.append_nil, List.length_cons, List.length_nil, Nat.reduceAdd, Nat.add_zero, Nat.zero_add, List.set_cons_zero, List.set_cons_succ] at hs))
         all_goals (refine rg_y (yv_assign (kI rfl)) rfl rfl ?_)
         all_goals (first | refine rg_nils [(6, _), (7, _)] ⟨sP rfl, sI rfl, trivial⟩ ?_ | refine rg_nil ?_))
      | (refine rn_draw_st 7 [0, 1, 2, 3, 4, 5, 6, 7, 8, 9] [(0, true), (1, true), (2, true), (3, true), (4, true), (5, true), (6, true), (7, true), (8, true), (9, true)] hs (by repeat (first | exact np_ret | refine np_seq ?_ | refine np_blk ?_ | refine np_loop ?_ | refine np_rnd ?_)) (by kernel_rfl) rfl (by kernel_rfl) ?_; clear hs; intro w hs
         all_goals ((refine dr_y rfl (fun w hs => yv_fieldAddr rfl) (by first | exact hs | exact hs.tail | exact hs.tail.tail | exact hs.tail.tail.tail) rfl rfl ?_; intro w hg; replace hs := hs.call0 hg; clear hg))
         all_goals (first | (refine dr_y rfl (fun w hs => yv_load rfl (ld1B (k1 (hs.blkL (i := 0) rfl)) (vI rfl))) (by first | exact hs | exact hs.tail | exact hs.tail.tail | exact hs.tail.tail.tail) rfl rfl ?_; intro w hg; replace hs := hs.call0 hg; clear hg) | (refine dr_y rfl (fun w hs => yv_load rfl (ld1B (k1 (hs.blkL (i := 1) rfl)) (vI rfl))) (by first | exact hs | exact hs.tail | exact hs.tail.tail | exact hs.tail.tail.tail) rfl rfl ?_; intro w hg; replace hs := hs.call0 hg; clear hg) | (refine dr_y rfl (fun w hs => yv_load rfl (ld1B (k1 (hs.blkL (i := 2) rfl)) (vI rfl))) (by first | exact hs | exact hs.tail | exact hs.tail.tail | exact hs.tail.tail.tail) rfl rfl ?_; intro w hg; replace hs := hs.call0 hg; clear hg) | (refine dr_y rfl (fun w hs => yv_load rfl (ld1B (k1 (hs.blkL (i := 3) rfl)) (vI rfl))) (by first | exact hs | exact hs.tail | exact hs.tail.tail | exact hs.tail.tail.tail) rfl rfl ?_; intro w hg; replace hs := hs.call0 hg; clear hg))
         all_goals ((refine dr_y rfl (fun w hs => yv_move (kI rfl)) (by first | exact hs | exact hs.tail | exact hs.tail.tail | exact hs.tail.tail.tail) rfl rfl ?_; intro w hg; replace hs := hs.call0 hg; clear hg))
         all_goals ((refine dr_y rfl (fun w hs => yv_mul rfl rfl (by omega)) (by first | exact hs | exact hs.tail | exact hs.tail.tail | exact hs.tail.tail.tail) rfl rfl ?_; intro w hg; replace hs := hs.call0 hg; clear hg))
         all_goals ((refine dr_y rfl (fun w hs => yv_fieldAddr rfl) (by first | exact hs | exact hs.tail | exact hs.tail.tail | exact hs.tail.tail.tail) rfl rfl ?_; intro w hg; replace hs := hs.call0 hg; clear hg))
         all_goals (first | (refine dr_y rfl (fun w hs => yv_load rfl (ld1B (k1 (hs.blkL (i := 0) rfl)) (vI rfl))) (by first | exact hs | exact hs.tail | exact hs.tail.tail | exact hs.tail.tail.tail) rfl rfl ?_; intro w hg; replace hs := hs.call0 hg; clear hg) | (refine dr_y rfl (fun w hs => yv_load rfl (ld1B (k1 (hs.blkL (i := 1) rfl)) (vI rfl))) (by first | exact hs | exact hs.tail | exact hs.tail.tail | exact hs.tail.tail.tail) rfl rfl ?_; intro w hg; replace hs := hs.call0 hg; clear hg) | (refine dr_y rfl (fun w hs => yv_load rfl (ld1B (k1 (hs.blkL (i := 2) rfl)) (vI rfl))) (by first | exact hs | exact hs.tail | exact hs.tail.tail | exact hs.tail.tail.tail) rfl rfl ?_; intro w hg; replace hs := hs.call0 hg; clear hg) | (refine dr_y rfl (fun w hs => yv_load rfl (ld1B (k1 (hs.blkL (i := 3) rfl)) (vI rfl))) (by first | exact hs | exact hs.tail | exact hs.tail.tail | exact hs.tail.tail.tail) rfl rfl ?_; intro w hg; replace hs := hs.call0 hg; clear hg))
         all_goals ((refine dr_y rfl (fun w hs => yv_move (kI rfl)) (by first | exact hs | exact hs.tail | exact hs.tail.tail | exact hs.tail.tail.tail) rfl rfl ?_; intro w hg; replace hs := hs.call0 hg; clear hg))
         all_goals ((refine dr_y rfl (fun w hs => yv_mul rfl rfl (by omega)) (by first | exact hs | exact hs.tail | exact hs.tail.tail | exact hs.tail.tail.tail) rfl rfl ?_; intro w hg; replace hs := hs.call0 hg; clear hg))
         all_goals ((refine dr_y rfl (fun w hs => yv_assign (kI rfl)) (by first | exact hs | exact hs.tail | exact hs.tail.tail | exact hs.tail.tail.tail) rfl rfl ?_; intro w hg; replace hs := hs.call0 hg; clear hg))
         all_goals ((refine dr_y rfl (fun w hs => yv_assign (kI rfl)) (by first | exact hs | exact hs.tail | exact hs.tail.tail | exact hs.tail.tail.tail) rfl rfl ?_; intro w hg; replace hs := hs.call0 hg; clear hg))
         all_goals (first | refine dr_nils [(1, _), (2, _), (6, _), (8, _), (9, _)] ⟨sI rfl, sI rfl, sP rfl, sI rfl, sI rfl, trivial⟩ ?_ | refine dr_nil ?_))
      | (refine rn_reg 8 ?_
         all_goals (refine rg_y (yv_move (kI rfl)) rfl rfl ?_)
         all_goals (first | refine rg_bt (yv_lss rfl rfl) (by omega) rfl rfl ?_ | refine rg_bf (yv_lss rfl rfl) (by omega) rfl rfl ?_ | refine rg_b (yv_lss rfl rfl) rfl rfl (fun hc => ?_) (fun hc => ?_))
         all_goals (refine rg_y (yv_move (kI rfl)) rfl rfl ?_)
         all_goals (first | refine rg_bt (yv_lss rfl rfl) (by omega) rfl rfl ?_ | refine rg_bf (yv_lss rfl rfl) (by omega) rfl rfl ?_ | refine rg_b (yv_lss rfl rfl) rfl rfl (fun hc => ?_) (fun hc => ?_))
         all_goals (refine rg_y (yv_neqb Try.underlying4 rfl rfl) rfl rfl ?_)
         all_goals (first | refine rg_nils [(2, _), (6, _), (8, _), (9, _), (47, _)] ⟨sI rfl, sP rfl, sI rfl, sI rfl, sB rfl, trivial⟩ ?_ | refine rg_nil ?_))
      | (refine rn_reg 9 ?_
         all_goals (refine rg_y (yv_move (kI rfl)) rfl rfl ?_)
         all_goals (refine rg_y (yv_move (kI rfl)) rfl rfl ?_)
         all_goals (refine rg_y (yv_assign (kI rfl)) rfl rfl ?_)
         all_goals (refine rg_y (yv_assign (kI rfl)) rfl rfl ?_)
         all_goals (first | refine rg_nils [(2, _), (6, _), (8, _), (9, _)] ⟨sI rfl, sP rfl, sI rfl, sI rfl, trivial⟩ ?_ | refine rg_nil ?_))
      | (refine rn_reg 10 ?_
         all_goals (refine rg_y (yv_move (kI rfl)) rfl rfl ?_)
         all_goals (refine rg_y (yv_move (kI rfl)) rfl rfl ?_)
         all_goals ((refine rg_call0 (down_g _ _ _ (by omega) (by omega)) hs rfl rfl rfl ?_; clear hs; intro w hs))
         all_goals (refine rg_y (yv_move (kI rfl)) rfl rfl ?_)
         all_goals (refine rg_y (yv_move (kI rfl)) rfl rfl ?_)
         all_goals ((refine rg_call0 (up_g _ _ _ (by omega) (by omega)) hs rfl rfl rfl ?_; clear hs; intro w hs))
         all_goals ((refine rg_call0 (result_g _ _ _) hs rfl rfl rfl ?_; clear hs; intro w hs))
         all_goals (refine rg_y (yv_extract rfl (vA rfl)) rfl rfl ?_)
         all_goals (refine rg_y (yv_extract rfl (vI rfl)) rfl rfl ?_)
         all_goals (first | (refine rg_store 0 hs rfl rfl (kA rfl) (l2 rfl) rfl rfl rfl rfl ?_; clear hs; intro w hs; simp only [putCells, List.take_succ_cons, List.take_zero, List.take_nil, List.drop_succ_cons, List.drop_zero, List.drop_nil, List.cons_append, List.nil_append, List.append_nil, List.length_cons, List.length_nil, Nat.reduceAdd, Nat.add_zero, Nat.zero_add, List.set_cons_zero, List.set_cons_succ] at hs) | (refine rg_store 1 hs rfl rfl (kA rfl) (l2 rfl) rfl rfl rfl rfl ?_; clear hs; intro w hs; simp only [putCells, List.take_succ_cons, List.take_zero, List.take_nil, List.drop_succ_cons, List.drop_zero, List.drop_nil, List.cons_append, List.nil_append, List.append_nil, List.length_cons, List.length_nil, Nat.reduceAdd, Nat.add_zero, Nat.zero_add, List.set_cons_zero, List.set_cons_succ] at hs) | (refine rg_store 2 hs rfl rfl (kA rfl) (l2 rfl) rfl rfl rfl rfl ?_; clear hs; intro w hs; simp only [putCells, List.take_succ_cons, List.take_zero, List.take_nil, List.drop_succ_cons, List.drop_zero, List.drop_nil, List.cons_append, List.nil_append, List.append_nil, List.length_cons, List.length_nil, Nat.reduceAdd, Nat.add_zero, Nat.zero_add, List.set_cons_zero, List.set_cons_succ] at hs) | (refine rg_store 3 hs rfl rfl (kA rfl) (l2 rfl) rfl rfl rfl rfl ?_; clear hs; intro w hs; simp only [putCells, List.take_succ_cons, List.take_zero, List.take_nil, List.drop_succ_cons, List.drop_zero, List.drop_nil, List.cons_append, List.nil_append, List.append_nil, List.length_cons, List.length_nil, Nat.reduceAdd, Nat.add_zero, Nat.zero_add, List.set_cons_zero, List.set_cons_succ] at hs))
         all_goals (refine rg_y (yv_assign (kI rfl)) rfl rfl ?_)
         all_goals (first | refine rg_nils [(6, _), (7, _)] ⟨sP rfl, sI rfl, trivial⟩ ?_ | refine rg_nil ?_)))
    all_goals ((first | refine k_ret2 rfl (.cell rfl (ldBB (hs.blkL (i := 0) rfl) rfl)) (.tmp rfl) ⟨r3 ?_, hs.drop⟩ | refine k_ret2 rfl (.cell rfl (ldBB (hs.blkL (i := 1) rfl) rfl)) (.tmp rfl) ⟨r3 ?_, hs.drop⟩ | refine k_ret2 rfl (.cell rfl (ldBB (hs.blkL (i := 2) rfl) rfl)) (.tmp rfl) ⟨r3 ?_, hs.drop⟩ | refine k_ret2 rfl (.cell rfl (ldBB (hs.blkL (i := 3) rfl) rfl)) (.tmp rfl) ⟨r3 ?_, hs.drop⟩ | refine k_ret2 rfl (.cell rfl (ldBB (hs.blkL (i := 4) rfl) rfl)) (.tmp rfl) ⟨r3 ?_, hs.drop⟩ | refine k_ret2 rfl (.cell rfl (ldBB (hs.blkL (i := 5) rfl) rfl)) (.tmp rfl) ⟨r3 ?_, hs.drop⟩ | refine k_ret2 rfl (.cell rfl (ldBB (hs.blkL (i := 6) rfl) rfl)) (.tmp rfl) ⟨r3 ?_, hs.drop⟩ | refine k_ret2 rfl (.cell rfl (ldBB (hs.blkL (i := 7) rfl) rfl)) (.tmp rfl) ⟨r3 ?_, hs.drop⟩); unfold scaleM; rw [if_neg (by omega)])
    all_goals first | (rw [if_pos (by omega)]; done) | rw [if_neg (by omega)]
    all_goals first | (rw [if_pos (by omega)]; done) | rw [if_neg (by omega)]
    all_goals first | (rw [if_pos (by omega)]; done) | rw [if_neg (by omega)]
  · (try unfold Gives); refine calls_enter Try.func24 rfl Try.ntmps24 rfl rfl ?_; have hs := St.refl w
    repeat' (first
      | refine rn_seq ?_
      | refine ks_n ?_
      | refine rn_cond_t rfl ?_
      | refine rn_cond_f rfl ?_
      | refine kb_n ?_
      | refine rn_block ?_
      | refine rn_skip ?_
      | refine rn_ret ?_
      | refine ks_r ?_
      | refine rn_exit ?_
      | refine ks_e ?_
      | refine kb_hit ?_
      | refine kb_miss rfl ?_
      | refine kb_r ?_
      | refine kl_e ?_
      | refine kl_r ?_
      | refine kr_n ?_
      | refine rnds_succ ?_
      | refine kr_e ?_
      | refine kr_r ?_
      | (refine rn_reg 0 ?_
         all_goals ((refine rg_box hs (kA rfl) (l2 rfl) rfl rfl ?_; clear hs; intro g w hs))
         all_goals ((refine rg_alloc hs (l2 rfl) rfl rfl ?_; clear hs; intro g w hs))
         all_goals (refine rg_y (yv_assign (kI rfl)) rfl rfl ?_)
         all_goals (first | refine rg_nils [(1, _), (2, _), (3, _), (6, _), (19, _), (20, _), (23, _), (24, _), (27, _), (28, _)] ⟨sI rfl, sI rfl, sP rfl, sP rfl, sI rfl, sB rfl, sI rfl, sB rfl, sI rfl, sB rfl, trivial⟩ ?_ | refine rg_nil ?_))
      | (refine rn_reg 1 ?_
         all_goals (first | refine rg_y (yv_load rfl (ldBB (k1 (hs.blkL (i := 0) rfl)) rfl)) rfl rfl ?_ | refine rg_y (yv_load rfl (ldBB (k1 (hs.blkL (i := 1) rfl)) rfl)) rfl rfl ?_ | refine rg_y (yv_load rfl (ldBB (k1 (hs.blkL (i := 2) rfl)) rfl)) rfl rfl ?_ | refine rg_y (yv_load rfl (ldBB (k1 (hs.blkL (i := 3) rfl)) rfl)) rfl rfl ?_ | refine rg_y (yv_load rfl (ldPB (k1 (hs.blkL (i := 0) rfl)) (l2 rfl) rfl)) rfl rfl ?_ | refine rg_y (yv_load rfl (ldPB (k1 (hs.blkL (i := 1) rfl)) (l2 rfl) rfl)) rfl rfl ?_ | refine rg_y (yv_load rfl (ldPB (k1 (hs.blkL (i := 2) rfl)) (l2 rfl) rfl)) rfl rfl ?_ | refine rg_y (yv_load rfl (ldPB (k1 (hs.blkL (i := 3) rfl)) (l2 rfl) rfl)) rfl rfl ?_)
         all_goals (first | (refine rg_callbt (Valid_g _ _ _) hs rfl (by omega) rfl rfl ?_; clear hs; intro w hs) | (refine rg_callbf (Valid_g _ _ _) hs rfl (by omega) rfl rfl ?_; clear hs; intro w hs) | (refine rg_callb (Valid_g _ _ _) hs rfl rfl rfl (fun hc => ?_) (fun hc => ?_) <;> (clear hs; intro w hs)))
         all_goals (refine rg_y (yv_not rfl) rfl rfl ?_)
         all_goals (refine rg_y (yv_assign (kB rfl)) rfl rfl ?_)
         all_goals (first | refine rg_nils [(1, _), (2, _), (3, _), (6, _), (10, _), (19, _), (20, _), (23, _), (24, _), (27, _), (28, _)] ⟨sI rfl, sI rfl, sP rfl, sP rfl, sB rfl, sI rfl, sB rfl, sI rfl, sB rfl, sI rfl, sB rfl, trivial⟩ ?_ | refine rg_nil ?_))
      | (refine rn_reg 2 ?_
         all_goals (refine rg_y (yv_build rfl (o2 rfl)) rfl rfl ?_)
         all_goals (first | (refine rg_store 0 hs rfl rfl (kA rfl) (l2 rfl) rfl rfl rfl rfl ?_; clear hs; intro w hs; simp only [putCells, List.take_succ_cons, List.take_zero, List.take_nil, List.drop_succ_cons, List.drop_zero, List.drop_nil, List.cons_append, List.nil_append, List.append_nil, List.length_cons, List.length_nil, Nat.reduceAdd, Nat.add_zero, Nat.zero_add, List.set_cons_zero, List.set_cons_succ] at hs) | (refine rg_store 1 hs rfl rfl (kA rfl) (l2 rfl) rfl rfl rfl rfl ?_; clear hs; intro w hs; simp only [putCells, List.take_succ_cons, List.take_zero, List.take_nil, List.drop_succ_cons, List.drop_zero, List.drop_nil, List.cons_append, List.nil_append, List.append_nil, List.length_cons, List.length_nil, Nat.reduceAdd, Nat.add_zero, Nat.zero_add, List.set_cons_zero, List.set_cons_succ] at hs) | (refine rg_store 2 hs rfl rfl (kA rfl) (l2 rfl) rfl rfl rfl rfl ?_; clear hs; intro w hs; simp only [putCells, List.take_succ_cons, List.take_zero, List.take_nil, List.drop_succ_cons, List.drop_zero, List.drop_nil, List.cons_append, List.nil_append, List.append_nil, List.length_cons, List.length_nil, Nat.reduceAdd, Nat.add_zero, Nat.zero_add, List.set_cons_zero, List.set_cons_succ] at hs) | (refine rg_store 3 hs rfl rfl (kA rfl) (l2 rfl) rfl rfl rfl rfl ?_; clear hs; intro w hs; simp only [putCells, List.take_succ_cons, List.take_zero, List.take_nil, List.drop_succ_cons, List.drop_zero, List.drop_nil, List.cons_append, List.nil_append, List.append_nil, List.length_cons, List.length_nil, Nat.reduceAdd, Nat.add_zero, Nat.zero_add, List.set_cons_zero, List.set_cons_succ] at hs))
         all_goals (refine rg_y (yv_assign (kI rfl)) rfl rfl ?_)
         all_goals (first | refine rg_nils [(6, _), (7, _)] ⟨sP rfl, sI rfl, trivial⟩ ?_ | refine rg_nil ?_))
      | (refine rn_reg 3 ?_
         all_goals (refine rg_y (yv_move (kI rfl)) rfl rfl ?_)
         all_goals (first | refine rg_bt (yv_lss rfl rfl) (by omega) rfl rfl ?_ | refine rg_bf (yv_lss rfl rfl) (by omega) rfl rfl ?_ | refine rg_b (yv_lss rfl rfl) rfl rfl (fun hc => ?_) (fun hc => ?_))
         all_goals (refine rg_y (yv_move (kB rfl)) rfl rfl ?_)
         all_goals (first | refine rg_skip rfl rfl ?_ | refine rg_y (yv_move (kI rfl)) rfl rfl ?_)
         all_goals (first | refine rg_skip rfl rfl ?_ | (first | refine rg_bt (yv_gtr rfl rfl) (by omega) rfl rfl ?_ | refine rg_bf (yv_gtr rfl rfl) (by omega) rfl rfl ?_ | refine rg_b (yv_gtr rfl rfl) rfl rfl (fun hc => ?_) (fun hc => ?_)))
         all_goals (first | refine rg_y (yv_pick_t rfl (kB rfl)) rfl rfl ?_ | refine rg_y (yv_pick_f rfl (kB rfl)) rfl rfl ?_)
         all_goals (refine rg_y (yv_move (kB rfl)) rfl rfl ?_)
         all_goals (first | refine rg_skip rfl rfl ?_ | refine rg_y (yv_move (kI rfl)) rfl rfl ?_)
         all_goals (first | refine rg_skip rfl rfl ?_ | (first | refine rg_bt (yv_lss rfl rfl) (by omega) rfl rfl ?_ | refine rg_bf (yv_lss rfl rfl) (by omega) rfl rfl ?_ | refine rg_b (yv_lss rfl rfl) rfl rfl (fun hc => ?_) (fun hc => ?_)))
         all_goals (first | refine rg_y (yv_pick_t rfl (kB rfl)) rfl rfl ?_ | refine rg_y (yv_pick_f rfl (kB rfl)) rfl rfl ?_)
         all_goals (refine rg_y (yv_move (kB rfl)) rfl rfl ?_)
         all_goals (first | refine rg_skip rfl rfl ?_ | refine rg_y (yv_move (kI rfl)) rfl rfl ?_)
         all_goals (first | refine rg_skip rfl rfl ?_ | (first | refine rg_bt (yv_gtr rfl rfl) (by omega) rfl rfl ?_ | refine rg_bf (yv_gtr rfl rfl) (by omega) rfl rfl ?_ | refine rg_b (yv_gtr rfl rfl) rfl rfl (fun hc => ?_) (fun hc => ?_)))
         all_goals (first | refine rg_y (yv_pick_t rfl (kB rfl)) rfl rfl ?_ | refine rg_y (yv_pick_f rfl (kB rfl)) rfl rfl ?_)
         all_goals (refine rg_y (yv_assign (kB rfl)) rfl rfl ?_)
         all_goals (first | refine rg_nils [(1, _), (2, _), (3, _), (6, _), (15, _)] ⟨sI rfl, sI rfl, sP rfl, sP rfl, sB rfl, trivial⟩ ?_ | refine rg_nil ?_))
      | (refine rn_reg 4 ?_
         all_goals (refine rg_y (yv_build rfl (o2 rfl)) rfl rfl ?_)
         all_goals (first | (refine rg_store 0 hs rfl rfl (kA rfl) (l2 rfl) rfl rfl rfl rfl ?_; clear hs; intro w hs; simp only [putCells, List.take_succ_cons, List.take_zero, List.take_nil, List.drop_succ_cons, List.drop_zero, List.drop_nil, List.cons_append, List.nil_append, List.append_nil, List.length_cons, List.length_nil, Nat.reduceAdd, Nat.add_zero, Nat.zero_add, List.set_cons_zero, List.set_cons_succ] at hs) | (refine rg_store 1 hs rfl rfl (kA rfl) (l2 rfl) rfl rfl rfl rfl ?_; clear hs; intro w hs; simp only [putCells, List.take_succ_cons, List.take_zero, List.take_nil, List.drop_succ_cons, List.drop_zero, List.drop_nil, List.cons_append, List.nil_append, List.append_nil, List.length_cons, List.length_nil, Nat.reduceAdd, Nat.add_zero, Nat.zero_add, List.set_cons_zero, List.set_cons_succ] at hs) | (refine rg_store 2 hs rfl rfl (kA rfl) (l2 rfl) rfl rfl rfl rfl ?_; clear hs; intro w hs; simp only [putCells, List.take_succ_cons, List.take_zero, List.take_nil, List.drop_succ_cons, List.drop_zero, List.drop_nil, List.cons_append, List.nil_append, List.append_nil, List.length_cons, List.length_nil, Nat.reduceAdd, Nat.add_zero, Nat.zero_add, List.set_cons_zero, List.set_cons_succ] at hs) | (refine rg_store 3 hs rfl rfl (kA rfl) (l2 rfl) rfl rfl rfl rfl ?_; clear hs; intro w hs; simp only [putCells, List.take_succ_cons, List.take_zero, List.take_nil, List.drop_succ_cons, List.drop_zero, List.drop_nil, List.cons_append, List.nil_append, List.append_nil, List.length_cons, List.length_nil, Nat.reduceAdd, Nat.add_zero, Nat.zero_add, List.set_cons_zero, List.set_cons_succ] at hs))
         all_goals (refine rg_y (yv_assign (kI rfl)) rfl rfl ?_)
         all_goals (first | refine rg_nils [(6, _), (7, _)] ⟨sP rfl, sI rfl, trivial⟩ ?_ | refine rg_nil ?_))
      | (refine rn_reg 5 ?_
         all_goals (refine rg_y (yv_move (kI rfl)) rfl rfl ?_)
         all_goals (first | refine rg_bt (yv_eql rfl rfl) (by omega) rfl rfl ?_ | refine rg_bf (yv_eql rfl rfl) (by omega) rfl rfl ?_ | refine rg_b (yv_eql rfl rfl) rfl rfl (fun hc => ?_) (fun hc => ?_))
         all_goals (refine rg_y (yv_assign (kB rfl)) rfl rfl ?_)
         all_goals (first | refine rg_nils [(1, _), (2, _), (3, _), (6, _), (31, _)] ⟨sI rfl, sI rfl, sP rfl, sP rfl, sB rfl, trivial⟩ ?_ | refine rg_nil ?_))
      | (refine rn_reg 6 ?_
         all_goals (refine rg_y (yv_build rfl (o2 rfl)) rfl rfl ?_)
         all_goals (first | (refine rg_store 0 hs rfl rfl (kA rfl) (l2 rfl) rfl rfl rfl rfl ?_; clear hs; intro w hs; simp only [putCells, List.take_succ_cons, List.take_zero, List.take_nil, List.drop_succ_cons, List.drop_zero, List.drop_nil, List.cons_append, List.nil_append, List.append_nil, List.length_cons, List.length_nil, Nat.reduceAdd, Nat.add_zero, Nat.zero_add, List.set_cons_zero, List.set_cons_succ] at hs) | (refine rg_store 1 hs rfl rfl (kA rfl) (l2 rfl) rfl rfl rfl rfl ?_; clear hs; intro w hs; simp only [putCells, List.take_succ_cons, List.take_zero, List.take_nil, List.drop_succ_cons, List.drop_zero, List.drop_nil, List.cons_append, List.nil_append, List.append_nil, List.length_cons, List.length_nil, Nat.reduceAdd, Nat.add_zero, Nat.zero_add, List.set_cons_zero, List.set_cons_succ] at hs) | (refine rg_store 2 hs rfl rfl (kA rfl) (l2 rfl) rfl rfl rfl rfl ?_; clear hs; intro w hs; simp only [putCells, List.take_succ_cons, List.take_zero, List.take_nil, List.drop_succ_cons, List.drop_zero, List.drop_nil, List.cons_append, List.nil_append, List.append_nil, List.length_cons, List.length_nil, Nat.reduceAdd, Nat.add_zero, Nat.zero_add, List.set_cons_zero, List.set_cons_succ] at hs) | (refine rg_store 3 hs rfl rfl (kA rfl) (l2 rfl) rfl rfl rfl rfl ?_; clear hs; intro w hs; simp only [putCells, List.take_succ_cons, List.take_zero, List.take_nil, List.drop_succ_cons, List.drop_zero, List.drop_nil, List.cons_append, List.nil_append, List.append_nil, List.length_cons, List.length_nil, Nat.reduceAdd, Nat.add_zero, Nat.zero_add, List.set_cons_zero, List.set_cons_succ] at hs))
         all_goals (refine rg_y (yv_assign (kI rfl)) rfl rfl ?_)
         all_goals (first | refine rg_nils [(6, _), (7, _)] ⟨sP rfl, sI rfl, trivial⟩ ?_ | refine rg_nil ?_))
      | exfalso; omega
      | (refine rn_reg 8 ?_
         all_goals (refine rg_y (yv_move (kI rfl)) rfl rfl ?_)
         all_goals (first | refine rg_bt (yv_lss rfl rfl) (by omega) rfl rfl ?_ | refine rg_bf (yv_lss rfl rfl) (by omega) rfl rfl ?_ | refine rg_b (yv_lss rfl rfl) rfl rfl (fun hc => ?_) (fun hc => ?_))
         all_goals (refine rg_y (yv_move (kI rfl)) rfl rfl ?_)
         all_goals (first | refine rg_bt (yv_lss rfl rfl) (by omega) rfl rfl ?_ | refine rg_bf (yv_lss rfl rfl) (by omega) rfl rfl ?_ | refine rg_b (yv_lss rfl rfl) rfl rfl (fun hc => ?_) (fun hc => ?_))
         all_goals (refine rg_y (yv_neqb Try.underlying4 rfl rfl) rfl rfl ?_)
         all_goals (first | refine rg_nils [(2, _), (6, _), (8, _), (9, _), (47, _)] ⟨sI rfl, sP rfl, sI rfl, sI rfl, sB rfl, trivial⟩ ?_ | refine rg_nil ?_))
      | (refine rn_reg 9 ?_
         all_goals (refine rg_y (yv_move (kI rfl)) rfl rfl ?_)
         all_goals (refine rg_y (yv_move (kI rfl)) rfl rfl ?_)
         all_goals (refine rg_y (yv_assign (kI rfl)) rfl rfl ?_)
         all_goals (refine rg_y (yv_assign (kI rfl)) rfl rfl ?_)
         all_goals (first | refine rg_nils [(2, _), (6, _), (8, _), (9, _)] ⟨sI rfl, sP rfl, sI rfl, sI rfl, trivial⟩ ?_ | refine rg_nil ?_))
      | (refine rn_reg 10 ?_
         all_goals (refine rg_y (yv_move (kI rfl)) rfl rfl ?_)
         all_goals (refine rg_y (yv_move (kI rfl)) rfl rfl ?_)
         all_goals (fail)
         all_goals (refine rg_y (yv_move (kI rfl)) rfl rfl ?_)
         all_goals (refine rg_y (yv_move (kI rfl)) rfl rfl ?_)
         all_goals (fail)
         all_goals (fail)
         all_goals (refine rg_y (yv_extract rfl (vA rfl)) rfl rfl ?_)
         all_goals (refine rg_y (yv_extract rfl (vI rfl)) rfl rfl ?_)
         all_goals (first | (refine rg_store 0 hs rfl rfl (kA rfl) (l2 rfl) rfl rfl rfl rfl ?_; clear hs; intro w hs; simp only [putCells, List.take_succ_cons, List.take_zero, List.take_nil, List.drop_succ_cons, List.drop_zero, List.drop_nil, List.cons_append, List.nil_append, List.append_nil, List.length_cons, List.length_nil, Nat.reduceAdd, Nat.add_zero, Nat.zero_add, List.set_cons_zero, List.set_cons_succ] at hs) | (refine rg_store 1 hs rfl rfl (kA rfl) (l2 rfl) rfl rfl rfl rfl ?_; clear hs; intro w hs; simp only [putCells, List.take_succ_cons, List.take_zero, List.take_nil, List.drop_succ_cons, List.drop_zero, List.drop_nil, List.cons_append, List.nil_append, List.append_nil, List.length_cons, List.length_nil, Nat.reduceAdd, Nat.add_zero, Nat.zero_add, List.set_cons_zero, List.set_cons_succ] at hs) | (refine rg_store 2 hs rfl rfl (kA rfl) (l2 rfl) rfl rfl rfl rfl ?_; clear hs; intro w hs; simp only [putCells, List.take_succ_cons, List.take_zero, List.take_nil, List.drop_succ_cons, List.drop_zero, List.drop_nil, List.cons_append, List.nil_append, List.append_nil, List.length_cons, List.length_nil, Nat.reduceAdd, Nat.add_zero, Nat.zero_add, List.set_cons_zero, List.set_cons_succ] at hs) | (refine rg_store 3 hs rfl rfl (kA rfl) (l2 rfl) rfl rfl rfl rfl ?_; clear hs; intro w hs; simp only [putCells, List.take_succ_cons, List.take_zero, List.take_nil, List.drop_succ_cons, List.drop_zero, List.drop_nil, List.cons_append, List.nil_append, List.append_nil, List.length_cons, List.length_nil, Nat.reduceAdd, Nat.add_zero, Nat.zero_add, List.set_cons_zero, List.set_cons_succ] at hs))
         all_goals (refine rg_y (yv_assign (kI rfl)) rfl rfl ?_)
         all_goals (first | refine rg_nils [(6, _), (7, _)] ⟨sP rfl, sI rfl, trivial⟩ ?_ | refine rg_nil ?_)))
    all_goals ((first | refine k_ret2 rfl (.cell rfl (ldBB (hs.blkL (i := 0) rfl) rfl)) (.tmp rfl) ⟨r3 ?_, hs.drop⟩ | refine k_ret2 rfl (.cell rfl (ldBB (hs.blkL (i := 1) rfl) rfl)) (.tmp rfl) ⟨r3 ?_, hs.drop⟩ | refine k_ret2 rfl (.cell rfl (ldBB (hs.blkL (i := 2) rfl) rfl)) (.tmp rfl) ⟨r3 ?_, hs.drop⟩ | refine k_ret2 rfl (.cell rfl (ldBB (hs.blkL (i := 3) rfl) rfl)) (.tmp rfl) ⟨r3 ?_, hs.drop⟩ | refine k_ret2 rfl (.cell rfl (ldBB (hs.blkL (i := 4) rfl) rfl)) (.tmp rfl) ⟨r3 ?_, hs.drop⟩ | refine k_ret2 rfl (.cell rfl (ldBB (hs.blkL (i := 5) rfl) rfl)) (.tmp rfl) ⟨r3 ?_, hs.drop⟩ | refine k_ret2 rfl (.cell rfl (ldBB (hs.blkL (i := 6) rfl) rfl)) (.tmp rfl) ⟨r3 ?_, hs.drop⟩ | refine k_ret2 rfl (.cell rfl (ldBB (hs.blkL (i := 7) rfl) rfl)) (.tmp rfl) ⟨r3 ?_, hs.drop⟩); unfold scaleM)
    all_goals first | (rw [if_pos (by omega)]; done) | rw [if_neg (by omega)]
    all_goals first | (rw [if_pos (by omega)]; done) | rw [if_neg (by omega)]
    all_goals first | (rw [if_pos (by omega)]; done) | rw [if_neg (by omega)]
theorem Root_g (a b : Int) (w : World) : Gives Try.prog 15 [ivv a b] w (tv3 (rootM a b)) := by
  by_cases hr : Ivd a b ∧ 0 ≤ a
  · have hq := isq_spec (n := b) (by omega)
    have hl := isq_le (n := b) (by omega) (by omega)
    have hm : 0 ≤ isq b * isq b := Int.mul_nonneg hq.1 hq.1
    (try unfold Gives); refine calls_enter Try.func15 rfl Try.ntmps15 rfl rfl ?_; have hs := St.refl w
    repeat' (first
      | refine rn_seq ?_
      | refine ks_n ?_
      | refine rn_cond_t rfl ?_
      | refine rn_cond_f rfl ?_
      | refine kb_n ?_
      | refine rn_block ?_
      | refine rn_skip ?_
      | refine rn_ret ?_
      | refine ks_r ?_
      | refine rn_exit ?_
      | refine ks_e ?_
      | refine kb_hit ?_
      | refine kb_miss rfl ?_
      | refine kb_r ?_
      | refine kl_e ?_
      | refine kl_r ?_
      | refine kr_n ?_
      | refine rnds_succ ?_
      | refine kr_e ?_
      | refine kr_r ?_
      | (refine rn_reg 0 ?_
         all_goals ((refine rg_box hs (kA rfl) (l2 rfl) rfl rfl ?_; clear hs; intro g w hs))
         all_goals ((refine rg_alloc hs (l2 rfl) rfl rfl ?_; clear hs; intro g w hs))
         all_goals (refine rg_y (yv_assign (kI rfl)) rfl rfl ?_)
         all_goals (first | refine rg_nils [(1, _), (2, _)] ⟨sP rfl, sP rfl, trivial⟩ ?_ | refine rg_nil ?_))
      | (refine rn_reg 1 ?_
         all_goals (first | refine rg_y (yv_load rfl (ldBB (k1 (hs.blkL (i := 0) rfl)) rfl)) rfl rfl ?_ | refine rg_y (yv_load rfl (ldBB (k1 (hs.blkL (i := 1) rfl)) rfl)) rfl rfl ?_ | refine rg_y (yv_load rfl (ldBB (k1 (hs.blkL (i := 2) rfl)) rfl)) rfl rfl ?_ | refine rg_y (yv_load rfl (ldBB (k1 (hs.blkL (i := 3) rfl)) rfl)) rfl rfl ?_ | refine rg_y (yv_load rfl (ldPB (k1 (hs.blkL (i := 0) rfl)) (l2 rfl) rfl)) rfl rfl ?_ | refine rg_y (yv_load rfl (ldPB (k1 (hs.blkL (i := 1) rfl)) (l2 rfl) rfl)) rfl rfl ?_ | refine rg_y (yv_load rfl (ldPB (k1 (hs.blkL (i := 2) rfl)) (l2 rfl) rfl)) rfl rfl ?_ | refine rg_y (yv_load rfl (ldPB (k1 (hs.blkL (i := 3) rfl)) (l2 rfl) rfl)) rfl rfl ?_)
         all_goals (first | (refine rg_callbt (Valid_g _ _ _) hs rfl (by omega) rfl rfl ?_; clear hs; intro w hs) | (refine rg_callbf (Valid_g _ _ _) hs rfl (by omega) rfl rfl ?_; clear hs; intro w hs) | (refine rg_callb (Valid_g _ _ _) hs rfl rfl rfl (fun hc => ?_) (fun hc => ?_) <;> (clear hs; intro w hs)))
         all_goals (refine rg_y (yv_not rfl) rfl rfl ?_)
         all_goals (first | refine rg_nils [(1, _), (2, _), (7, _)] ⟨sP rfl, sP rfl, sB rfl, trivial⟩ ?_ | refine rg_nil ?_))
      | (refine rn_reg 2 ?_
         all_goals (refine rg_y (yv_build rfl (o2 rfl)) rfl rfl ?_)
         all_goals (first | (refine rg_store 0 hs rfl rfl (kA rfl) (l2 rfl) rfl rfl rfl rfl ?_; clear hs; intro w hs; simp only [putCells, List.take_succ_cons, List.take_zero, List.take_nil, List.drop_succ_cons, List.drop_zero, List.drop_nil, List.cons_append, List.nil_append, List.append_nil, List.length_cons, List.length_nil, Nat.reduceAdd, Nat.add_zero, Nat.zero_add, List.set_cons_zero, List.set_cons_succ] at hs) | (refine rg_store 1 hs rfl rfl (kA rfl) (l2 rfl) rfl rfl rfl rfl ?_; clear hs; intro w hs; simp only [putCells, List.take_succ_cons, List.take_zero, List.take_nil, List.drop_succ_cons, List.drop_zero, List.drop_nil, List.cons_append, List.nil_append, List.append_nil, List.length_cons, List.length_nil, Nat.reduceAdd, Nat.add_zero, Nat.zero_add, List.set_cons_zero, List.set_cons_succ] at hs) | (refine rg_store 2 hs rfl rfl (kA rfl) (l2 rfl) rfl rfl rfl rfl ?_; clear hs; intro w hs; simp only [putCells, List.take_succ_cons, List.take_zero, List.take_nil, List.drop_succ_cons, List.drop_zero, List.drop_nil, List.cons_append, List.nil_append, List.append_nil, List.length_cons, List.length_nil, Nat.reduceAdd, Nat.add_zero, Nat.zero_add, List.set_cons_zero, List.set_cons_succ] at hs) | (refine rg_store 3 hs rfl rfl (kA rfl) (l2 rfl) rfl rfl rfl rfl ?_; clear hs; intro w hs; simp only [putCells, List.take_succ_cons, List.take_zero, List.take_nil, List.drop_succ_cons, List.drop_zero, List.drop_nil, List.cons_append, List.nil_append, List.append_nil, List.length_cons, List.length_nil, Nat.reduceAdd, Nat.add_zero, Nat.zero_add, List.set_cons_zero, List.set_cons_succ] at hs))
         all_goals (refine rg_y (yv_assign (kI rfl)) rfl rfl ?_)
         all_goals (first | refine rg_nils [(2, _), (3, _)] ⟨sP rfl, sI rfl, trivial⟩ ?_ | refine rg_nil ?_))
      | (refine rn_reg 3 ?_
         all_goals (refine rg_y (yv_fieldAddr rfl) rfl rfl ?_)
         all_goals (first | refine rg_y (yv_load rfl (ld1B (k1 (hs.blkL (i := 0) rfl)) (vI rfl))) rfl rfl ?_ | refine rg_y (yv_load rfl (ld1B (k1 (hs.blkL (i := 1) rfl)) (vI rfl))) rfl rfl ?_ | refine rg_y (yv_load rfl (ld1B (k1 (hs.blkL (i := 2) rfl)) (vI rfl))) rfl rfl ?_ | refine rg_y (yv_load rfl (ld1B (k1 (hs.blkL (i := 3) rfl)) (vI rfl))) rfl rfl ?_)
         all_goals (first | refine rg_bt (yv_lss rfl rfl) (by omega) rfl rfl ?_ | refine rg_bf (yv_lss rfl rfl) (by omega) rfl rfl ?_ | refine rg_b (yv_lss rfl rfl) rfl rfl (fun hc => ?_) (fun hc => ?_))
         all_goals (first | refine rg_nils [(1, _), (2, _), (11, _)] ⟨sP rfl, sP rfl, sB rfl, trivial⟩ ?_ | refine rg_nil ?_))
      | (refine rn_reg 4 ?_
         all_goals (refine rg_y (yv_build rfl (o2 rfl)) rfl rfl ?_)
         all_goals (first | (refine rg_store 0 hs rfl rfl (kA rfl) (l2 rfl) rfl rfl rfl rfl ?_; clear hs; intro w hs; simp only [putCells, List.take_succ_cons, List.take_zero, List.take_nil, List.drop_succ_cons, List.drop_zero, List.drop_nil, List.cons_append, List.nil_append, List.append_nil, List.length_cons, List.length_nil, Nat.reduceAdd, Nat.add_zero, Nat.zero_add, List.set_cons_zero, List.set_cons_succ] at hs) | (refine rg_store 1 hs rfl rfl (kA rfl) (l2 rfl) rfl rfl rfl rfl ?_; clear hs; intro w hs; simp only [putCells, List.take_succ_cons, List.take_zero, List.take_nil, List.drop_succ_cons, List.drop_zero, List.drop_nil, List.cons_append, List.nil_append, List.append_nil, List.length_cons, List.length_nil, Nat.reduceAdd, Nat.add_zero, Nat.zero_add, List.set_cons_zero, List.set_cons_succ] at hs) | (refine rg_store 2 hs rfl rfl (kA rfl) (l2 rfl) rfl rfl rfl rfl ?_; clear hs; intro w hs; simp only [putCells, List.take_succ_cons, List.take_zero, List.take_nil, List.drop_succ_cons, List.drop_zero, List.drop_nil, List.cons_append, List.nil_append, List.append_nil, List.length_cons, List.length_nil, Nat.reduceAdd, Nat.add_zero, Nat.zero_add, List.set_cons_zero, List.set_cons_succ] at hs) | (refine rg_store 3 hs rfl rfl (kA rfl) (l2 rfl) rfl rfl rfl rfl ?_; clear hs; intro w hs; simp only [putCells, List.take_succ_cons, List.take_zero, List.take_nil, List.drop_succ_cons, List.drop_zero, List.drop_nil, List.cons_append, List.nil_append, List.append_nil, List.length_cons, List.length_nil, Nat.reduceAdd, Nat.add_zero, Nat.zero_add, List.set_cons_zero, List.set_cons_succ] at hs))
         all_goals (refine rg_y (yv_assign (kI rfl)) rfl rfl ?_)
         all_goals (first | refine rg_nils [(2, _), (3, _)] ⟨sP rfl, sI rfl, trivial⟩ ?_ | refine rg_nil ?_))
      | (refine rn_reg 5 ?_
         all_goals (refine rg_y (yv_fieldAddr rfl) rfl rfl ?_)
         all_goals (first | refine rg_y (yv_load rfl (ld1B (k1 (hs.blkL (i := 0) rfl)) (vI rfl))) rfl rfl ?_ | refine rg_y (yv_load rfl (ld1B (k1 (hs.blkL (i := 1) rfl)) (vI rfl))) rfl rfl ?_ | refine rg_y (yv_load rfl (ld1B (k1 (hs.blkL (i := 2) rfl)) (vI rfl))) rfl rfl ?_ | refine rg_y (yv_load rfl (ld1B (k1 (hs.blkL (i := 3) rfl)) (vI rfl))) rfl rfl ?_)
         all_goals ((refine rg_call0 (root_g _ _ (by omega) (by omega)) hs rfl rfl rfl ?_; clear hs; intro w hs))
         all_goals (refine rg_y (yv_assign (kI rfl)) rfl rfl ?_)
         all_goals (first | refine rg_nils [(1, _), (2, _), (4, _)] ⟨sP rfl, sP rfl, sI rfl, trivial⟩ ?_ | refine rg_nil ?_))
      | (refine rn_reg 6 ?_
         all_goals (refine rg_y (yv_move (kI rfl)) rfl rfl ?_)
         all_goals (refine rg_y (yv_move (kI rfl)) rfl rfl ?_)
         all_goals (refine rg_y (yv_mul rfl rfl (by omega)) rfl rfl ?_)
         all_goals (refine rg_y (yv_fieldAddr rfl) rfl rfl ?_)
         all_goals (first | refine rg_y (yv_load rfl (ld1B (k1 (hs.blkL (i := 0) rfl)) (vI rfl))) rfl rfl ?_ | refine rg_y (yv_load rfl (ld1B (k1 (hs.blkL (i := 1) rfl)) (vI rfl))) rfl rfl ?_ | refine rg_y (yv_load rfl (ld1B (k1 (hs.blkL (i := 2) rfl)) (vI rfl))) rfl rfl ?_ | refine rg_y (yv_load rfl (ld1B (k1 (hs.blkL (i := 3) rfl)) (vI rfl))) rfl rfl ?_)
         all_goals (first | refine rg_bt (yv_lss rfl rfl) (by omega) rfl rfl ?_ | refine rg_bf (yv_lss rfl rfl) (by omega) rfl rfl ?_ | refine rg_b (yv_lss rfl rfl) rfl rfl (fun hc => ?_) (fun hc => ?_))
         all_goals (first | refine rg_nils [(1, _), (2, _), (4, _), (21, _)] ⟨sP rfl, sP rfl, sI rfl, sB rfl, trivial⟩ ?_ | refine rg_nil ?_))
      | (refine rn_reg 7 ?_
         all_goals (refine rg_y (yv_move (kI rfl)) rfl rfl ?_)
         all_goals (refine rg_y (yv_add rfl rfl (by omega)) rfl rfl ?_)
         all_goals (refine rg_y (yv_assign (kI rfl)) rfl rfl ?_)
         all_goals (first | refine rg_nils [(1, _), (2, _), (4, _)] ⟨sP rfl, sP rfl, sI rfl, trivial⟩ ?_ | refine rg_nil ?_))
      | (refine rn_reg 8 ?_
         all_goals (refine rg_y (yv_fieldAddr rfl) rfl rfl ?_)
         all_goals (first | refine rg_y (yv_load rfl (ld1B (k1 (hs.blkL (i := 0) rfl)) (vI rfl))) rfl rfl ?_ | refine rg_y (yv_load rfl (ld1B (k1 (hs.blkL (i := 1) rfl)) (vI rfl))) rfl rfl ?_ | refine rg_y (yv_load rfl (ld1B (k1 (hs.blkL (i := 2) rfl)) (vI rfl))) rfl rfl ?_ | refine rg_y (yv_load rfl (ld1B (k1 (hs.blkL (i := 3) rfl)) (vI rfl))) rfl rfl ?_)
         all_goals ((refine rg_call0 (root_g _ _ (by omega) (by omega)) hs rfl rfl rfl ?_; clear hs; intro w hs))
         all_goals (refine rg_y (yv_move (kI rfl)) rfl rfl ?_)
         all_goals (refine rg_y (yv_build rfl (o2 rfl)) rfl rfl ?_)
         all_goals (first | (refine rg_store 0 hs rfl rfl (kA rfl) (l2 rfl) rfl rfl rfl rfl ?_; clear hs; intro w hs; simp only [putCells, List.take_succ_cons, List.take_zero, List.take_nil, List.drop_succ_cons, List.drop_zero, List.drop_nil, List.cons_append, List.nil_append, List.append_nil, List.length_cons, List.length_nil, Nat.reduceAdd, Nat.add_zero, Nat.zero_add, List.set_cons_zero, List.set_cons_succ] at hs) | (refine rg_store 1 hs rfl rfl (kA rfl) (l2 rfl) rfl rfl rfl rfl ?_; clear hs; intro w hs; simp only [putCells, List.take_succ_cons, List.take_zero, List.take_nil, List.drop_succ_cons, List.drop_zero, List.drop_nil, List.cons_append, List.nil_append, List.append_nil, List.length_cons, List.length_nil, Nat.reduceAdd, Nat.add_zero, Nat.zero_add, List.set_cons_zero, List.set_cons_succ] at hs) | (refine rg_store 2 hs rfl rfl (kA rfl) (l2 rfl) rfl rfl rfl rfl ?_; clear hs; intro w hs; simp only [putCells, List.take_succ_cons, List.take_zero, List.take_nil, List.drop_succ_cons, List.drop_zero, List.drop_nil, List.cons_append, List.nil_append, List.append_nil, List.length_cons, List.length_nil, Nat.reduceAdd, Nat.add_zero, Nat.zero_add, List.set_cons_zero, List.set_cons_succ] at hs) | (refine rg_store 3 hs rfl rfl (kA rfl) (l2 rfl) rfl rfl rfl rfl ?_; clear hs; intro w hs; simp only [putCells, List.take_succ_cons, List.take_zero, List.take_nil, List.drop_succ_cons, List.drop_zero, List.drop_nil, List.cons_append, List.nil_append, List.append_nil, List.length_cons, List.length_nil, Nat.reduceAdd, Nat.add_zero, Nat.zero_add, List.set_cons_zero, List.set_cons_succ] at hs))
         all_goals (refine rg_y (yv_assign (kI rfl)) rfl rfl ?_)
         all_goals (first | refine rg_nils [(2, _), (3, _)] ⟨sP rfl, sI rfl, trivial⟩ ?_ | refine rg_nil ?_)))
    all_goals ((first | refine k_ret2 rfl (.cell rfl (ldBB (hs.blkL (i := 0) rfl) rfl)) (.tmp rfl) ⟨r3 ?_, hs.drop⟩ | refine k_ret2 rfl (.cell rfl (ldBB (hs.blkL (i := 1) rfl) rfl)) (.tmp rfl) ⟨r3 ?_, hs.drop⟩ | refine k_ret2 rfl (.cell rfl (ldBB (hs.blkL (i := 2) rfl) rfl)) (.tmp rfl) ⟨r3 ?_, hs.drop⟩ | refine k_ret2 rfl (.cell rfl (ldBB (hs.blkL (i := 3) rfl) rfl)) (.tmp rfl) ⟨r3 ?_, hs.drop⟩ | refine k_ret2 rfl (.cell rfl (ldBB (hs.blkL (i := 4) rfl) rfl)) (.tmp rfl) ⟨r3 ?_, hs.drop⟩ | refine k_ret2 rfl (.cell rfl (ldBB (hs.blkL (i := 5) rfl) rfl)) (.tmp rfl) ⟨r3 ?_, hs.drop⟩ | refine k_ret2 rfl (.cell rfl (ldBB (hs.blkL (i := 6) rfl) rfl)) (.tmp rfl) ⟨r3 ?_, hs.drop⟩ | refine k_ret2 rfl (.cell rfl (ldBB (hs.blkL (i := 7) rfl) rfl)) (.tmp rfl) ⟨r3 ?_, hs.drop⟩); unfold rootM isu; rw [if_neg (by omega), if_neg (by omega)]; first | rw [if_pos (by omega)] | rw [if_neg (by omega)])
  · (try unfold Gives); refine calls_enter Try.func15 rfl Try.ntmps15 rfl rfl ?_; have hs := St.refl w
    repeat' (first
      | refine rn_seq ?_
      | refine ks_n ?_
      | refine rn_cond_t rfl ?_
      | refine rn_cond_f rfl ?_
      | refine kb_n ?_
      | refine rn_block ?_
      | refine rn_skip ?_
      | refine rn_ret ?_
      | refine ks_r ?_
      | refine rn_exit ?_
      | refine ks_e ?_
      | refine kb_hit ?_
      | refine kb_miss rfl ?_
      | refine kb_r ?_
      | refine kl_e ?_
      | refine kl_r ?_
      | refine kr_n ?_
      | refine rnds_succ ?_
      | refine kr_e ?_
      | refine kr_r ?_
      | (refine rn_reg 0 ?_
         all_goals ((refine rg_box hs (kA rfl) (l2 rfl) rfl rfl ?_; clear hs; intro g w hs))
         all_goals ((refine rg_alloc hs (l2 rfl) rfl rfl ?_; clear hs; intro g w hs))
         all_goals (refine rg_y (yv_assign (kI rfl)) rfl rfl ?_)
         all_goals (first | refine rg_nils [(1, _), (2, _)] ⟨sP rfl, sP rfl, trivial⟩ ?_ | refine rg_nil ?_))
      | (refine rn_reg 1 ?_
         all_goals (first | refine rg_y (yv_load rfl (ldBB (k1 (hs.blkL (i := 0) rfl)) rfl)) rfl rfl ?_ | refine rg_y (yv_load rfl (ldBB (k1 (hs.blkL (i := 1) rfl)) rfl)) rfl rfl ?_ | refine rg_y (yv_load rfl (ldBB (k1 (hs.blkL (i := 2) rfl)) rfl)) rfl rfl ?_ | refine rg_y (yv_load rfl (ldBB (k1 (hs.blkL (i := 3) rfl)) rfl)) rfl rfl ?_ | refine rg_y (yv_load rfl (ldPB (k1 (hs.blkL (i := 0) rfl)) (l2 rfl) rfl)) rfl rfl ?_ | refine rg_y (yv_load rfl (ldPB (k1 (hs.blkL (i := 1) rfl)) (l2 rfl) rfl)) rfl rfl ?_ | refine rg_y (yv_load rfl (ldPB (k1 (hs.blkL (i := 2) rfl)) (l2 rfl) rfl)) rfl rfl ?_ | refine rg_y (yv_load rfl (ldPB (k1 (hs.blkL (i := 3) rfl)) (l2 rfl) rfl)) rfl rfl ?_)
         all_goals (first | (refine rg_callbt (Valid_g _ _ _) hs rfl (by omega) rfl rfl ?_; clear hs; intro w hs) | (refine rg_callbf (Valid_g _ _ _) hs rfl (by omega) rfl rfl ?_; clear hs; intro w hs) | (refine rg_callb (Valid_g _ _ _) hs rfl rfl rfl (fun hc => ?_) (fun hc => ?_) <;> (clear hs; intro w hs)))
         all_goals (refine rg_y (yv_not rfl) rfl rfl ?_)
         all_goals (first | refine rg_nils [(1, _), (2, _), (7, _)] ⟨sP rfl, sP rfl, sB rfl, trivial⟩ ?_ | refine rg_nil ?_))
      | (refine rn_reg 2 ?_
         all_goals (refine rg_y (yv_build rfl (o2 rfl)) rfl rfl ?_)
         all_goals (first | (refine rg_store 0 hs rfl rfl (kA rfl) (l2 rfl) rfl rfl rfl rfl ?_; clear hs; intro w hs; simp only [putCells, List.take_succ_cons, List.take_zero, List.take_nil, List.drop_succ_cons, List.drop_zero, List.drop_nil, List.cons_append, List.nil_append, List.append_nil, List.length_cons, List.length_nil, Nat.reduceAdd, Nat.add_zero, Nat.zero_add, List.set_cons_zero, List.set_cons_succ] at hs) | (refine rg_store 1 hs rfl rfl (kA rfl) (l2 rfl) rfl rfl rfl rfl ?_; clear hs; intro w hs; simp only [putCells, List.take_succ_cons, List.take_zero, List.take_nil, List.drop_succ_cons, List.drop_zero, List.drop_nil, List.cons_append, List.nil_append, List.append_nil, List.length_cons, List.length_nil, Nat.reduceAdd, Nat.add_zero, Nat.zero_add, List.set_cons_zero, List.set_cons_succ] at hs) | (refine rg_store 2 hs rfl rfl (kA rfl) (l2 rfl) rfl rfl rfl rfl ?_; clear hs; intro w hs; simp only [putCells, List.take_succ_cons, List.take_zero, List.take_nil, List.drop_succ_cons, List.drop_zero, List.drop_nil, List.cons_append, List.nil_append, List.append_nil, List.length_cons, List.length_nil, Nat.reduceAdd, Nat.add_zero, Nat.zero_add, List.set_cons_zero, List.set_cons_succ] at hs) | (refine rg_store 3 hs rfl rfl (kA rfl) (l2 rfl) rfl rfl rfl rfl ?_; clear hs; intro w hs; simp only [putCells, List.take_succ_cons, List.take_zero, List.take_nil, List.drop_succ_cons, List.drop_zero, List.drop_nil, List.cons_append, List.nil_append, List.append_nil, List.length_cons, List.length_nil, Nat.reduceAdd, Nat.add_zero, Nat.zero_add, List.set_cons_zero, List.set_cons_succ] at hs))
         all_goals (refine rg_y (yv_assign (kI rfl)) rfl rfl ?_)
         all_goals (first | refine rg_nils [(2, _), (3, _)] ⟨sP rfl, sI rfl, trivial⟩ ?_ | refine rg_nil ?_))
      | (refine rn_reg 3 ?_
         all_goals (refine rg_y (yv_fieldAddr rfl) rfl rfl ?_)
         all_goals (first | refine rg_y (yv_load rfl (ld1B (k1 (hs.blkL (i := 0) rfl)) (vI rfl))) rfl rfl ?_ | refine rg_y (yv_load rfl (ld1B (k1 (hs.blkL (i := 1) rfl)) (vI rfl))) rfl rfl ?_ | refine rg_y (yv_load rfl (ld1B (k1 (hs.blkL (i := 2) rfl)) (vI rfl))) rfl rfl ?_ | refine rg_y (yv_load rfl (ld1B (k1 (hs.blkL (i := 3) rfl)) (vI rfl))) rfl rfl ?_)
         all_goals (first | refine rg_bt (yv_lss rfl rfl) (by omega) rfl rfl ?_ | refine rg_bf (yv_lss rfl rfl) (by omega) rfl rfl ?_ | refine rg_b (yv_lss rfl rfl) rfl rfl (fun hc => ?_) (fun hc => ?_))
         all_goals (first | refine rg_nils [(1, _), (2, _), (11, _)] ⟨sP rfl, sP rfl, sB rfl, trivial⟩ ?_ | refine rg_nil ?_))
      | (refine rn_reg 4 ?_
         all_goals (refine rg_y (yv_build rfl (o2 rfl)) rfl rfl ?_)
         all_goals (first | (refine rg_store 0 hs rfl rfl (kA rfl) (l2 rfl) rfl rfl rfl rfl ?_; clear hs; intro w hs; simp only [putCells, List.take_succ_cons, List.take_zero, List.take_nil, List.drop_succ_cons, List.drop_zero, List.drop_nil, List.cons_append, List.nil_append, List.append_nil, List.length_cons, List.length_nil, Nat.reduceAdd, Nat.add_zero, Nat.zero_add, List.set_cons_zero, List.set_cons_succ] at hs) | (refine rg_store 1 hs rfl rfl (kA rfl) (l2 rfl) rfl rfl rfl rfl ?_; clear hs; intro w hs; simp only [putCells, List.take_succ_cons, List.take_zero, List.take_nil, List.drop_succ_cons, List.drop_zero, List.drop_nil, List.cons_append, List.nil_append, List.append_nil, List.length_cons, List.length_nil, Nat.reduceAdd, Nat.add_zero, Nat.zero_add, List.set_cons_zero, List.set_cons_succ] at hs) | (refine rg_store 2 hs rfl rfl (kA rfl) (l2 rfl) rfl rfl rfl rfl ?_; clear hs; intro w hs; simp only [putCells, List.take_succ_cons, List.take_zero, List.take_nil, List.drop_succ_cons, List.drop_zero, List.drop_nil, List.cons_append, List.nil_append, List.append_nil, List.length_cons, List.length_nil, Nat.reduceAdd, Nat.add_zero, Nat.zero_add, List.set_cons_zero, List.set_cons_succ] at hs) | (refine rg_store 3 hs rfl rfl (kA rfl) (l2 rfl) rfl rfl rfl rfl ?_; clear hs; intro w hs; simp only [putCells, List.take_succ_cons, List.take_zero, List.take_nil, List.drop_succ_cons, List.drop_zero, List.drop_nil, List.cons_append, List.nil_append, List.append_nil, List.length_cons, List.length_nil, Nat.reduceAdd, Nat.add_zero, Nat.zero_add, List.set_cons_zero, List.set_cons_succ] at hs))
         all_goals (refine rg_y (yv_assign (kI rfl)) rfl rfl ?_)
         all_goals (first | refine rg_nils [(2, _), (3, _)] ⟨sP rfl, sI rfl, trivial⟩ ?_ | refine rg_nil ?_))
      | exfalso; omega
      | (refine rn_reg 6 ?_
         all_goals (refine rg_y (yv_move (kI rfl)) rfl rfl ?_)
         all_goals (refine rg_y (yv_move (kI rfl)) rfl rfl ?_)
         all_goals (refine rg_y (yv_mul rfl rfl (by omega)) rfl rfl ?_)
         all_goals (refine rg_y (yv_fieldAddr rfl) rfl rfl ?_)
         all_goals (first | refine rg_y (yv_load rfl (ld1B (k1 (hs.blkL (i := 0) rfl)) (vI rfl))) rfl rfl ?_ | refine rg_y (yv_load rfl (ld1B (k1 (hs.blkL (i := 1) rfl)) (vI rfl))) rfl rfl ?_ | refine rg_y (yv_load rfl (ld1B (k1 (hs.blkL (i := 2) rfl)) (vI rfl))) rfl rfl ?_ | refine rg_y (yv_load rfl (ld1B (k1 (hs.blkL (i := 3) rfl)) (vI rfl))) rfl rfl ?_)
         all_goals (first | refine rg_bt (yv_lss rfl rfl) (by omega) rfl rfl ?_ | refine rg_bf (yv_lss rfl rfl) (by omega) rfl rfl ?_ | refine rg_b (yv_lss rfl rfl) rfl rfl (fun hc => ?_) (fun hc => ?_))
         all_goals (first | refine rg_nils [(1, _), (2, _), (4, _), (21, _)] ⟨sP rfl, sP rfl, sI rfl, sB rfl, trivial⟩ ?_ | refine rg_nil ?_))
      | (refine rn_reg 7 ?_
         all_goals (refine rg_y (yv_move (kI rfl)) rfl rfl ?_)
         all_goals (refine rg_y (yv_add rfl rfl (by omega)) rfl rfl ?_)
         all_goals (refine rg_y (yv_assign (kI rfl)) rfl rfl ?_)
         all_goals (first | refine rg_nils [(1, _), (2, _), (4, _)] ⟨sP rfl, sP rfl, sI rfl, trivial⟩ ?_ | refine rg_nil ?_))
      | (refine rn_reg 8 ?_
         all_goals (refine rg_y (yv_fieldAddr rfl) rfl rfl ?_)
         all_goals (first | refine rg_y (yv_load rfl (ld1B (k1 (hs.blkL (i := 0) rfl)) (vI rfl))) rfl rfl ?_ | refine rg_y (yv_load rfl (ld1B (k1 (hs.blkL (i := 1) rfl)) (vI rfl))) rfl rfl ?_ | refine rg_y (yv_load rfl (ld1B (k1 (hs.blkL (i := 2) rfl)) (vI rfl))) rfl rfl ?_ | refine rg_y (yv_load rfl (ld1B (k1 (hs.blkL (i := 3) rfl)) (vI rfl))) rfl rfl ?_)
         all_goals (fail)
         all_goals (refine rg_y (yv_move (kI rfl)) rfl rfl ?_)
         all_goals (refine rg_y (yv_build rfl (o2 rfl)) rfl rfl ?_)
         all_goals (first | (refine rg_store 0 hs rfl rfl (kA rfl) (l2 rfl) rfl rfl rfl rfl ?_; clear hs; intro w hs; simp only [putCells, List.take_succ_cons, List.take_zero, List.take_nil, List.drop_succ_cons, List.drop_zero, List.drop_nil, List.cons_append, List.nil_append, List.append_nil, List.length_cons, List.length_nil, Nat.reduceAdd, Nat.add_zero, Nat.zero_add, List.set_cons_zero, List.set_cons_succ] at hs) | (refine rg_store 1 hs rfl rfl (kA rfl) (l2 rfl) rfl rfl rfl rfl ?_; clear hs; intro w hs; simp only [putCells, List.take_succ_cons, List.take_zero, List.take_nil, List.drop_succ_cons, List.drop_zero, List.drop_nil, List.cons_append, List.nil_append, List.append_nil, List.length_cons, List.length_nil, Nat.reduceAdd, Nat.add_zero, Nat.zero_add, List.set_cons_zero, List.set_cons_succ] at hs) | (refine rg_store 2 hs rfl rfl (kA rfl) (l2 rfl) rfl rfl rfl rfl ?_; clear hs; intro w hs; simp only [putCells, List.take_succ_cons, List.take_zero, List.take_nil, List.drop_succ_cons, List.drop_zero, List.drop_nil, List.cons_append, List.nil_append, List.append_nil, List.length_cons, List.length_nil, Nat.reduceAdd, Nat.add_zero, Nat.zero_add, List.set_cons_zero, List.set_cons_succ] at hs) | (refine rg_store 3 hs rfl rfl (kA rfl) (l2 rfl) rfl rfl rfl rfl ?_; clear hs; intro w hs; simp only [putCells, List.take_succ_cons, List.take_zero, List.take_nil, List.drop_succ_cons, List.drop_zero, List.drop_nil, List.cons_append, List.nil_append, List.append_nil, List.length_cons, List.length_nil, Nat.reduceAdd, Nat.add_zero, Nat.zero_add, List.set_cons_zero, List.set_cons_succ] at hs))
         all_goals (refine rg_y (yv_assign (kI rfl)) rfl rfl ?_)
         all_goals (first | refine rg_nils [(2, _), (3, _)] ⟨sP rfl, sI rfl, trivial⟩ ?_ | refine rg_nil ?_)))
    all_goals ((first | refine k_ret2 rfl (.cell rfl (ldBB (hs.blkL (i := 0) rfl) rfl)) (.tmp rfl) ⟨r3 ?_, hs.drop⟩ | refine k_ret2 rfl (.cell rfl (ldBB (hs.blkL (i := 1) rfl) rfl)) (.tmp rfl) ⟨r3 ?_, hs.drop⟩ | refine k_ret2 rfl (.cell rfl (ldBB (hs.blkL (i := 2) rfl) rfl)) (.tmp rfl) ⟨r3 ?_, hs.drop⟩ | refine k_ret2 rfl (.cell rfl (ldBB (hs.blkL (i := 3) rfl) rfl)) (.tmp rfl) ⟨r3 ?_, hs.drop⟩ | refine k_ret2 rfl (.cell rfl (ldBB (hs.blkL (i := 4) rfl) rfl)) (.tmp rfl) ⟨r3 ?_, hs.drop⟩ | refine k_ret2 rfl (.cell rfl (ldBB (hs.blkL (i := 5) rfl) rfl)) (.tmp rfl) ⟨r3 ?_, hs.drop⟩ | refine k_ret2 rfl (.cell rfl (ldBB (hs.blkL (i := 6) rfl) rfl)) (.tmp rfl) ⟨r3 ?_, hs.drop⟩ | refine k_ret2 rfl (.cell rfl (ldBB (hs.blkL (i := 7) rfl) rfl)) (.tmp rfl) ⟨r3 ?_, hs.drop⟩); unfold rootM)
    all_goals first | (rw [if_pos (by omega)]; done) | rw [if_neg (by omega), if_pos (by omega)]
theorem Hull_g (a b c d : Int) (w : World) : Gives Try.prog 28 [ivv a b, ivv c d] w (tv3 (hullM a b c d)) := by
  (try unfold Gives); refine calls_enter Try.func28 rfl Try.ntmps28 rfl rfl ?_; have hs := St.refl w
  repeat' (first
    | refine rn_seq ?_
    | refine ks_n ?_
    | refine rn_cond_t rfl ?_
    | refine rn_cond_f rfl ?_
    | refine kb_n ?_
    | refine rn_block ?_
    | refine rn_skip ?_
    | refine rn_ret ?_
    | refine ks_r ?_
    | refine rn_exit ?_
    | refine ks_e ?_
    | refine kb_hit ?_
    | refine kb_miss rfl ?_
    | refine kb_r ?_
    | refine kl_e ?_
    | refine kl_r ?_
    | refine kr_n ?_
    | refine rnds_succ ?_
    | refine kr_e ?_
    | refine kr_r ?_
    | (refine rn_reg 0 ?_
       all_goals ((refine rg_box hs (kA rfl) (l2 rfl) rfl rfl ?_; clear hs; intro g w hs))
       all_goals ((refine rg_box hs (kA rfl) (l2 rfl) rfl rfl ?_; clear hs; intro g w hs))
       all_goals ((refine rg_alloc hs (l2 rfl) rfl rfl ?_; clear hs; intro g w hs))
       all_goals (refine rg_y (yv_assign (kI rfl)) rfl rfl ?_)
       all_goals (first | refine rg_nils [(2, _), (3, _), (4, _), (10, _), (11, _), (12, _)] ⟨sP rfl, sP rfl, sP rfl, sA rfl, sB rfl, sB rfl, trivial⟩ ?_ | refine rg_nil ?_))
    | (refine rn_reg 1 ?_
       all_goals (first | refine rg_y (yv_load rfl (ldBB (k1 (hs.blkL (i := 0) rfl)) rfl)) rfl rfl ?_ | refine rg_y (yv_load rfl (ldBB (k1 (hs.blkL (i := 1) rfl)) rfl)) rfl rfl ?_ | refine rg_y (yv_load rfl (ldBB (k1 (hs.blkL (i := 2) rfl)) rfl)) rfl rfl ?_ | refine rg_y (yv_load rfl (ldBB (k1 (hs.blkL (i := 3) rfl)) rfl)) rfl rfl ?_ | refine rg_y (yv_load rfl (ldPB (k1 (hs.blkL (i := 0) rfl)) (l2 rfl) rfl)) rfl rfl ?_ | refine rg_y (yv_load rfl (ldPB (k1 (hs.blkL (i := 1) rfl)) (l2 rfl) rfl)) rfl rfl ?_ | refine rg_y (yv_load rfl (ldPB (k1 (hs.blkL (i := 2) rfl)) (l2 rfl) rfl)) rfl rfl ?_ | refine rg_y (yv_load rfl (ldPB (k1 (hs.blkL (i := 3) rfl)) (l2 rfl) rfl)) rfl rfl ?_)
       all_goals (first | (refine rg_callbt (Valid_g _ _ _) hs rfl (by omega) rfl rfl ?_; clear hs; intro w hs) | (refine rg_callbf (Valid_g _ _ _) hs rfl (by omega) rfl rfl ?_; clear hs; intro w hs) | (refine rg_callb (Valid_g _ _ _) hs rfl rfl rfl (fun hc => ?_) (fun hc => ?_) <;> (clear hs; intro w hs)))
       all_goals (refine rg_y (yv_not rfl) rfl rfl ?_)
       all_goals (refine rg_y (yv_move (kB rfl)) rfl rfl ?_)
       all_goals (first | refine rg_skip rfl rfl ?_ | (first | refine rg_y (yv_load rfl (ldBB (k1 (hs.blkL (i := 0) rfl)) rfl)) rfl rfl ?_ | refine rg_y (yv_load rfl (ldBB (k1 (hs.blkL (i := 1) rfl)) rfl)) rfl rfl ?_ | refine rg_y (yv_load rfl (ldBB (k1 (hs.blkL (i := 2) rfl)) rfl)) rfl rfl ?_ | refine rg_y (yv_load rfl (ldBB (k1 (hs.blkL (i := 3) rfl)) rfl)) rfl rfl ?_ | refine rg_y (yv_load rfl (ldPB (k1 (hs.blkL (i := 0) rfl)) (l2 rfl) rfl)) rfl rfl ?_ | refine rg_y (yv_load rfl (ldPB (k1 (hs.blkL (i := 1) rfl)) (l2 rfl) rfl)) rfl rfl ?_ | refine rg_y (yv_load rfl (ldPB (k1 (hs.blkL (i := 2) rfl)) (l2 rfl) rfl)) rfl rfl ?_ | refine rg_y (yv_load rfl (ldPB (k1 (hs.blkL (i := 3) rfl)) (l2 rfl) rfl)) rfl rfl ?_))
       all_goals (first | refine rg_skip rfl rfl ?_ | (first | (refine rg_callbt (Valid_g _ _ _) hs rfl (by omega) rfl rfl ?_; clear hs; intro w hs) | (refine rg_callbf (Valid_g _ _ _) hs rfl (by omega) rfl rfl ?_; clear hs; intro w hs) | (refine rg_callb (Valid_g _ _ _) hs rfl rfl rfl (fun hc => ?_) (fun hc => ?_) <;> (clear hs; intro w hs))))
       all_goals (first | refine rg_skip rfl rfl ?_ | refine rg_y (yv_not rfl) rfl rfl ?_)
       all_goals (first | refine rg_y (yv_pick_t rfl (kB rfl)) rfl rfl ?_ | refine rg_y (yv_pick_f rfl (kB rfl)) rfl rfl ?_)
       all_goals (first | refine rg_nils [(2, _), (3, _), (4, _), (13, _)] ⟨sP rfl, sP rfl, sP rfl, sB rfl, trivial⟩ ?_ | refine rg_nil ?_))
    | (refine rn_reg 2 ?_
       all_goals (refine rg_y (yv_build rfl (o2 rfl)) rfl rfl ?_)
       all_goals (first | (refine rg_store 0 hs rfl rfl (kA rfl) (l2 rfl) rfl rfl rfl rfl ?_; clear hs; intro w hs; simp only [putCells, List.take_succ_cons, List.take_zero, List.take_nil, List.drop_succ_cons, List.drop_zero, List.drop_nil, List.cons_append, List.nil_append, List.append_nil, List.length_cons, List.length_nil, Nat.reduceAdd, Nat.add_zero, Nat.zero_add, List.set_cons_zero, List.set_cons_succ] at hs) | (refine rg_store 1 hs rfl rfl (kA rfl) (l2 rfl) rfl rfl rfl rfl ?_; clear hs; intro w hs; simp only [putCells, List.take_succ_cons, List.take_zero, List.take_nil, List.drop_succ_cons, List.drop_zero, List.drop_nil, List.cons_append, List.nil_append, List.append_nil, List.length_cons, List.length_nil, Nat.reduceAdd, Nat.add_zero, Nat.zero_add, List.set_cons_zero, List.set_cons_succ] at hs) | (refine rg_store 2 hs rfl rfl (kA rfl) (l2 rfl) rfl rfl rfl rfl ?_; clear hs; intro w hs; simp only [putCells, List.take_succ_cons, List.take_zero, List.take_nil, List.drop_succ_cons, List.drop_zero, List.drop_nil, List.cons_append, List.nil_append, List.append_nil, List.length_cons, List.length_nil, Nat.reduceAdd, Nat.add_zero, Nat.zero_add, List.set_cons_zero, List.set_cons_succ] at hs) | (refine rg_store 3 hs rfl rfl (kA rfl) (l2 rfl) rfl rfl rfl rfl ?_; clear hs; intro w hs; simp only [putCells, List.take_succ_cons, List.take_zero, List.take_nil, List.drop_succ_cons, List.drop_zero, List.drop_nil, List.cons_append, List.nil_append, List.append_nil, List.length_cons, List.length_nil, Nat.reduceAdd, Nat.add_zero, Nat.zero_add, List.set_cons_zero, List.set_cons_succ] at hs))
       all_goals (refine rg_y (yv_assign (kI rfl)) rfl rfl ?_)
       all_goals (first | refine rg_nils [(4, _), (5, _)] ⟨sP rfl, sI rfl, trivial⟩ ?_ | refine rg_nil ?_))
    | (refine rn_reg 3 ?_
       all_goals (refine rg_y (yv_fieldAddr rfl) rfl rfl ?_)
       all_goals (first | refine rg_y (yv_load rfl (ld1B (k1 (hs.blkL (i := 0) rfl)) (vI rfl))) rfl rfl ?_ | refine rg_y (yv_load rfl (ld1B (k1 (hs.blkL (i := 1) rfl)) (vI rfl))) rfl rfl ?_ | refine rg_y (yv_load rfl (ld1B (k1 (hs.blkL (i := 2) rfl)) (vI rfl))) rfl rfl ?_ | refine rg_y (yv_load rfl (ld1B (k1 (hs.blkL (i := 3) rfl)) (vI rfl))) rfl rfl ?_)
       all_goals (refine rg_y (yv_fieldAddr rfl) rfl rfl ?_)
       all_goals (first | refine rg_y (yv_load rfl (ld1B (k1 (hs.blkL (i := 0) rfl)) (vI rfl))) rfl rfl ?_ | refine rg_y (yv_load rfl (ld1B (k1 (hs.blkL (i := 1) rfl)) (vI rfl))) rfl rfl ?_ | refine rg_y (yv_load rfl (ld1B (k1 (hs.blkL (i := 2) rfl)) (vI rfl))) rfl rfl ?_ | refine rg_y (yv_load rfl (ld1B (k1 (hs.blkL (i := 3) rfl)) (vI rfl))) rfl rfl ?_)
       all_goals (refine rg_y (yv_min rfl rfl) rfl rfl ?_)
       all_goals (refine rg_y (yv_fieldAddr rfl) rfl rfl ?_)
       all_goals (first | refine rg_y (yv_load rfl (ld1B (k1 (hs.blkL (i := 0) rfl)) (vI rfl))) rfl rfl ?_ | refine rg_y (yv_load rfl (ld1B (k1 (hs.blkL (i := 1) rfl)) (vI rfl))) rfl rfl ?_ | refine rg_y (yv_load rfl (ld1B (k1 (hs.blkL (i := 2) rfl)) (vI rfl))) rfl rfl ?_ | refine rg_y (yv_load rfl (ld1B (k1 (hs.blkL (i := 3) rfl)) (vI rfl))) rfl rfl ?_)
       all_goals (refine rg_y (yv_fieldAddr rfl) rfl rfl ?_)
       all_goals (first | refine rg_y (yv_load rfl (ld1B (k1 (hs.blkL (i := 0) rfl)) (vI rfl))) rfl rfl ?_ | refine rg_y (yv_load rfl (ld1B (k1 (hs.blkL (i := 1) rfl)) (vI rfl))) rfl rfl ?_ | refine rg_y (yv_load rfl (ld1B (k1 (hs.blkL (i := 2) rfl)) (vI rfl))) rfl rfl ?_ | refine rg_y (yv_load rfl (ld1B (k1 (hs.blkL (i := 3) rfl)) (vI rfl))) rfl rfl ?_)
       all_goals (refine rg_y (yv_max rfl rfl) rfl rfl ?_)
       all_goals (refine rg_y (yv_build rfl (o2 rfl)) rfl rfl ?_)
       all_goals (first | (refine rg_store 0 hs rfl rfl (kA rfl) (l2 rfl) rfl rfl rfl rfl ?_; clear hs; intro w hs; simp only [putCells, List.take_succ_cons, List.take_zero, List.take_nil, List.drop_succ_cons, List.drop_zero, List.drop_nil, List.cons_append, List.nil_append, List.append_nil, List.length_cons, List.length_nil, Nat.reduceAdd, Nat.add_zero, Nat.zero_add, List.set_cons_zero, List.set_cons_succ] at hs) | (refine rg_store 1 hs rfl rfl (kA rfl) (l2 rfl) rfl rfl rfl rfl ?_; clear hs; intro w hs; simp only [putCells, List.take_succ_cons, List.take_zero, List.take_nil, List.drop_succ_cons, List.drop_zero, List.drop_nil, List.cons_append, List.nil_append, List.append_nil, List.length_cons, List.length_nil, Nat.reduceAdd, Nat.add_zero, Nat.zero_add, List.set_cons_zero, List.set_cons_succ] at hs) | (refine rg_store 2 hs rfl rfl (kA rfl) (l2 rfl) rfl rfl rfl rfl ?_; clear hs; intro w hs; simp only [putCells, List.take_succ_cons, List.take_zero, List.take_nil, List.drop_succ_cons, List.drop_zero, List.drop_nil, List.cons_append, List.nil_append, List.append_nil, List.length_cons, List.length_nil, Nat.reduceAdd, Nat.add_zero, Nat.zero_add, List.set_cons_zero, List.set_cons_succ] at hs) | (refine rg_store 3 hs rfl rfl (kA rfl) (l2 rfl) rfl rfl rfl rfl ?_; clear hs; intro w hs; simp only [putCells, List.take_succ_cons, List.take_zero, List.take_nil, List.drop_succ_cons, List.drop_zero, List.drop_nil, List.cons_append, List.nil_append, List.append_nil, List.length_cons, List.length_nil, Nat.reduceAdd, Nat.add_zero, Nat.zero_add, List.set_cons_zero, List.set_cons_succ] at hs))
       all_goals (refine rg_y (yv_assign (kI rfl)) rfl rfl ?_)
       all_goals (first | refine rg_nils [(4, _), (5, _)] ⟨sP rfl, sI rfl, trivial⟩ ?_ | refine rg_nil ?_)))
  all_goals ((first | refine k_ret2 rfl (.cell rfl (ldBB (hs.blkL (i := 0) rfl) rfl)) (.tmp rfl) ⟨r3 ?_, hs.drop⟩ | refine k_ret2 rfl (.cell rfl (ldBB (hs.blkL (i := 1) rfl) rfl)) (.tmp rfl) ⟨r3 ?_, hs.drop⟩ | refine k_ret2 rfl (.cell rfl (ldBB (hs.blkL (i := 2) rfl) rfl)) (.tmp rfl) ⟨r3 ?_, hs.drop⟩ | refine k_ret2 rfl (.cell rfl (ldBB (hs.blkL (i := 3) rfl) rfl)) (.tmp rfl) ⟨r3 ?_, hs.drop⟩ | refine k_ret2 rfl (.cell rfl (ldBB (hs.blkL (i := 4) rfl) rfl)) (.tmp rfl) ⟨r3 ?_, hs.drop⟩ | refine k_ret2 rfl (.cell rfl (ldBB (hs.blkL (i := 5) rfl) rfl)) (.tmp rfl) ⟨r3 ?_, hs.drop⟩ | refine k_ret2 rfl (.cell rfl (ldBB (hs.blkL (i := 6) rfl) rfl)) (.tmp rfl) ⟨r3 ?_, hs.drop⟩ | refine k_ret2 rfl (.cell rfl (ldBB (hs.blkL (i := 7) rfl) rfl)) (.tmp rfl) ⟨r3 ?_, hs.drop⟩); unfold hullM; first | rw [if_pos (by omega)] | rw [if_neg (by omega)])
theorem Meet_g (a b c d : Int) (w : World) : Gives Try.prog 29 [ivv a b, ivv c d] w (tv3 (meetM a b c d)) := by
  (try unfold Gives); refine calls_enter Try.func29 rfl Try.ntmps29 rfl rfl ?_; have hs := St.refl w
  repeat' (first
    | refine rn_seq ?_
    | refine ks_n ?_
    | refine rn_cond_t rfl ?_
    | refine rn_cond_f rfl ?_
    | refine kb_n ?_
    | refine rn_block ?_
    | refine rn_skip ?_
    | refine rn_ret ?_
    | refine ks_r ?_
    | refine rn_exit ?_
    | refine ks_e ?_
    | refine kb_hit ?_
    | refine kb_miss rfl ?_
    | refine kb_r ?_
    | refine kl_e ?_
    | refine kl_r ?_
    | refine kr_n ?_
    | refine rnds_succ ?_
    | refine kr_e ?_
    | refine kr_r ?_
    | (refine rn_reg 0 ?_
       all_goals ((refine rg_box hs (kA rfl) (l2 rfl) rfl rfl ?_; clear hs; intro g w hs))
       all_goals ((refine rg_box hs (kA rfl) (l2 rfl) rfl rfl ?_; clear hs; intro g w hs))
       all_goals ((refine rg_alloc hs (l2 rfl) rfl rfl ?_; clear hs; intro g w hs))
       all_goals (refine rg_y (yv_assign (kI rfl)) rfl rfl ?_)
       all_goals (first | refine rg_nils [(2, _), (3, _), (4, _), (11, _), (12, _), (13, _)] ⟨sP rfl, sP rfl, sP rfl, sA rfl, sB rfl, sB rfl, trivial⟩ ?_ | refine rg_nil ?_))
    | (refine rn_reg 1 ?_
       all_goals (first | refine rg_y (yv_load rfl (ldBB (k1 (hs.blkL (i := 0) rfl)) rfl)) rfl rfl ?_ | refine rg_y (yv_load rfl (ldBB (k1 (hs.blkL (i := 1) rfl)) rfl)) rfl rfl ?_ | refine rg_y (yv_load rfl (ldBB (k1 (hs.blkL (i := 2) rfl)) rfl)) rfl rfl ?_ | refine rg_y (yv_load rfl (ldBB (k1 (hs.blkL (i := 3) rfl)) rfl)) rfl rfl ?_ | refine rg_y (yv_load rfl (ldPB (k1 (hs.blkL (i := 0) rfl)) (l2 rfl) rfl)) rfl rfl ?_ | refine rg_y (yv_load rfl (ldPB (k1 (hs.blkL (i := 1) rfl)) (l2 rfl) rfl)) rfl rfl ?_ | refine rg_y (yv_load rfl (ldPB (k1 (hs.blkL (i := 2) rfl)) (l2 rfl) rfl)) rfl rfl ?_ | refine rg_y (yv_load rfl (ldPB (k1 (hs.blkL (i := 3) rfl)) (l2 rfl) rfl)) rfl rfl ?_)
       all_goals (first | (refine rg_callbt (Valid_g _ _ _) hs rfl (by omega) rfl rfl ?_; clear hs; intro w hs) | (refine rg_callbf (Valid_g _ _ _) hs rfl (by omega) rfl rfl ?_; clear hs; intro w hs) | (refine rg_callb (Valid_g _ _ _) hs rfl rfl rfl (fun hc => ?_) (fun hc => ?_) <;> (clear hs; intro w hs)))
       all_goals (refine rg_y (yv_not rfl) rfl rfl ?_)
       all_goals (refine rg_y (yv_move (kB rfl)) rfl rfl ?_)
       all_goals (first | refine rg_skip rfl rfl ?_ | (first | refine rg_y (yv_load rfl (ldBB (k1 (hs.blkL (i := 0) rfl)) rfl)) rfl rfl ?_ | refine rg_y (yv_load rfl (ldBB (k1 (hs.blkL (i := 1) rfl)) rfl)) rfl rfl ?_ | refine rg_y (yv_load rfl (ldBB (k1 (hs.blkL (i := 2) rfl)) rfl)) rfl rfl ?_ | refine rg_y (yv_load rfl (ldBB (k1 (hs.blkL (i := 3) rfl)) rfl)) rfl rfl ?_ | refine rg_y (yv_load rfl (ldPB (k1 (hs.blkL (i := 0) rfl)) (l2 rfl) rfl)) rfl rfl ?_ | refine rg_y (yv_load rfl (ldPB (k1 (hs.blkL (i := 1) rfl)) (l2 rfl) rfl)) rfl rfl ?_ | refine rg_y (yv_load rfl (ldPB (k1 (hs.blkL (i := 2) rfl)) (l2 rfl) rfl)) rfl rfl ?_ | refine rg_y (yv_load rfl (ldPB (k1 (hs.blkL (i := 3) rfl)) (l2 rfl) rfl)) rfl rfl ?_))
       all_goals (first | refine rg_skip rfl rfl ?_ | (first | (refine rg_callbt (Valid_g _ _ _) hs rfl (by omega) rfl rfl ?_; clear hs; intro w hs) | (refine rg_callbf (Valid_g _ _ _) hs rfl (by omega) rfl rfl ?_; clear hs; intro w hs) | (refine rg_callb (Valid_g _ _ _) hs rfl rfl rfl (fun hc => ?_) (fun hc => ?_) <;> (clear hs; intro w hs))))
       all_goals (first | refine rg_skip rfl rfl ?_ | refine rg_y (yv_not rfl) rfl rfl ?_)
       all_goals (first | refine rg_y (yv_pick_t rfl (kB rfl)) rfl rfl ?_ | refine rg_y (yv_pick_f rfl (kB rfl)) rfl rfl ?_)
       all_goals (first | refine rg_nils [(2, _), (3, _), (4, _), (14, _)] ⟨sP rfl, sP rfl, sP rfl, sB rfl, trivial⟩ ?_ | refine rg_nil ?_))
    | (refine rn_reg 2 ?_
       all_goals (refine rg_y (yv_build rfl (o2 rfl)) rfl rfl ?_)
       all_goals (first | (refine rg_store 0 hs rfl rfl (kA rfl) (l2 rfl) rfl rfl rfl rfl ?_; clear hs; intro w hs; simp only [putCells, List.take_succ_cons, List.take_zero, List.take_nil, List.drop_succ_cons, List.drop_zero, List.drop_nil, List.cons_append, List.nil_append, List.append_nil, List.length_cons, List.length_nil, Nat.reduceAdd, Nat.add_zero, Nat.zero_add, List.set_cons_zero, List.set_cons_succ] at hs) | (refine rg_store 1 hs rfl rfl (kA rfl) (l2 rfl) rfl rfl rfl rfl ?_; clear hs; intro w hs; simp only [putCells, List.take_succ_cons, List.take_zero, List.take_nil, List.drop_succ_cons, List.drop_zero, List.drop_nil, List.cons_append, List.nil_append, List.append_nil, List.length_cons, List.length_nil, Nat.reduceAdd, Nat.add_zero, Nat.zero_add, List.set_cons_zero, List.set_cons_succ] at hs) | (refine rg_store 2 hs rfl rfl (kA rfl) (l2 rfl) rfl rfl rfl rfl ?_; clear hs; intro w hs; simp only [putCells, List.take_succ_cons, List.take_zero, List.take_nil, List.drop_succ_cons, List.drop_zero, List.drop_nil, List.cons_append, List.nil_append, List.append_nil, List.length_cons, List.length_nil, Nat.reduceAdd, Nat.add_zero, Nat.zero_add, List.set_cons_zero, List.set_cons_succ] at hs) | (refine rg_store 3 hs rfl rfl (kA rfl) (l2 rfl) rfl rfl rfl rfl ?_; clear hs; intro w hs; simp only [putCells, List.take_succ_cons, List.take_zero, List.take_nil, List.drop_succ_cons, List.drop_zero, List.drop_nil, List.cons_append, List.nil_append, List.append_nil, List.length_cons, List.length_nil, Nat.reduceAdd, Nat.add_zero, Nat.zero_add, List.set_cons_zero, List.set_cons_succ] at hs))
       all_goals (refine rg_y (yv_assign (kI rfl)) rfl rfl ?_)
       all_goals (first | refine rg_nils [(4, _), (5, _)] ⟨sP rfl, sI rfl, trivial⟩ ?_ | refine rg_nil ?_))
    | (refine rn_reg 3 ?_
       all_goals (refine rg_y (yv_fieldAddr rfl) rfl rfl ?_)
       all_goals (first | refine rg_y (yv_load rfl (ld1B (k1 (hs.blkL (i := 0) rfl)) (vI rfl))) rfl rfl ?_ | refine rg_y (yv_load rfl (ld1B (k1 (hs.blkL (i := 1) rfl)) (vI rfl))) rfl rfl ?_ | refine rg_y (yv_load rfl (ld1B (k1 (hs.blkL (i := 2) rfl)) (vI rfl))) rfl rfl ?_ | refine rg_y (yv_load rfl (ld1B (k1 (hs.blkL (i := 3) rfl)) (vI rfl))) rfl rfl ?_)
       all_goals (refine rg_y (yv_fieldAddr rfl) rfl rfl ?_)
       all_goals (first | refine rg_y (yv_load rfl (ld1B (k1 (hs.blkL (i := 0) rfl)) (vI rfl))) rfl rfl ?_ | refine rg_y (yv_load rfl (ld1B (k1 (hs.blkL (i := 1) rfl)) (vI rfl))) rfl rfl ?_ | refine rg_y (yv_load rfl (ld1B (k1 (hs.blkL (i := 2) rfl)) (vI rfl))) rfl rfl ?_ | refine rg_y (yv_load rfl (ld1B (k1 (hs.blkL (i := 3) rfl)) (vI rfl))) rfl rfl ?_)
       all_goals (refine rg_y (yv_max rfl rfl) rfl rfl ?_)
       all_goals (refine rg_y (yv_fieldAddr rfl) rfl rfl ?_)
       all_goals (first | refine rg_y (yv_load rfl (ld1B (k1 (hs.blkL (i := 0) rfl)) (vI rfl))) rfl rfl ?_ | refine rg_y (yv_load rfl (ld1B (k1 (hs.blkL (i := 1) rfl)) (vI rfl))) rfl rfl ?_ | refine rg_y (yv_load rfl (ld1B (k1 (hs.blkL (i := 2) rfl)) (vI rfl))) rfl rfl ?_ | refine rg_y (yv_load rfl (ld1B (k1 (hs.blkL (i := 3) rfl)) (vI rfl))) rfl rfl ?_)
       all_goals (refine rg_y (yv_fieldAddr rfl) rfl rfl ?_)
       all_goals (first | refine rg_y (yv_load rfl (ld1B (k1 (hs.blkL (i := 0) rfl)) (vI rfl))) rfl rfl ?_ | refine rg_y (yv_load rfl (ld1B (k1 (hs.blkL (i := 1) rfl)) (vI rfl))) rfl rfl ?_ | refine rg_y (yv_load rfl (ld1B (k1 (hs.blkL (i := 2) rfl)) (vI rfl))) rfl rfl ?_ | refine rg_y (yv_load rfl (ld1B (k1 (hs.blkL (i := 3) rfl)) (vI rfl))) rfl rfl ?_)
       all_goals (refine rg_y (yv_min rfl rfl) rfl rfl ?_)
       all_goals (refine rg_y (yv_build rfl (o2 rfl)) rfl rfl ?_)
       all_goals ((refine rg_alloc hs (l2 rfl) rfl rfl ?_; clear hs; intro g w hs))
       all_goals (first | (refine rg_store 0 hs rfl rfl (kA rfl) (l2 rfl) rfl rfl rfl rfl ?_; clear hs; intro w hs; simp only [putCells, List.take_succ_cons, List.take_zero, List.take_nil, List.drop_succ_cons, List.drop_zero, List.drop_nil, List.cons_append, List.nil_append, List.append_nil, List.length_cons, List.length_nil, Nat.reduceAdd, Nat.add_zero, Nat.zero_add, List.set_cons_zero, List.set_cons_succ] at hs) | (refine rg_store 1 hs rfl rfl (kA rfl) (l2 rfl) rfl rfl rfl rfl ?_; clear hs; intro w hs; simp only [putCells, List.take_succ_cons, List.take_zero, List.take_nil, List.drop_succ_cons, List.drop_zero, List.drop_nil, List.cons_append, List.nil_append, List.append_nil, List.length_cons, List.length_nil, Nat.reduceAdd, Nat.add_zero, Nat.zero_add, List.set_cons_zero, List.set_cons_succ] at hs) | (refine rg_store 2 hs rfl rfl (kA rfl) (l2 rfl) rfl rfl rfl rfl ?_; clear hs; intro w hs; simp only [putCells, List.take_succ_cons, List.take_zero, List.take_nil, List.drop_succ_cons, List.drop_zero, List.drop_nil, List.cons_append, List.nil_append, List.append_nil, List.length_cons, List.length_nil, Nat.reduceAdd, Nat.add_zero, Nat.zero_add, List.set_cons_zero, List.set_cons_succ] at hs) | (refine rg_store 3 hs rfl rfl (kA rfl) (l2 rfl) rfl rfl rfl rfl ?_; clear hs; intro w hs; simp only [putCells, List.take_succ_cons, List.take_zero, List.take_nil, List.drop_succ_cons, List.drop_zero, List.drop_nil, List.cons_append, List.nil_append, List.append_nil, List.length_cons, List.length_nil, Nat.reduceAdd, Nat.add_zero, Nat.zero_add, List.set_cons_zero, List.set_cons_succ] at hs))
       all_goals (first | refine rg_nils [(4, _), (6, _)] ⟨sP rfl, sP rfl, trivial⟩ ?_ | refine rg_nil ?_))
    | (refine rn_reg 4 ?_
       all_goals (refine rg_y (yv_fieldAddr rfl) rfl rfl ?_)
       all_goals (first | refine rg_y (yv_load rfl (ld1B (k1 (hs.blkL (i := 0) rfl)) (vI rfl))) rfl rfl ?_ | refine rg_y (yv_load rfl (ld1B (k1 (hs.blkL (i := 1) rfl)) (vI rfl))) rfl rfl ?_ | refine rg_y (yv_load rfl (ld1B (k1 (hs.blkL (i := 2) rfl)) (vI rfl))) rfl rfl ?_ | refine rg_y (yv_load rfl (ld1B (k1 (hs.blkL (i := 3) rfl)) (vI rfl))) rfl rfl ?_)
       all_goals (refine rg_y (yv_fieldAddr rfl) rfl rfl ?_)
       all_goals (first | refine rg_y (yv_load rfl (ld1B (k1 (hs.blkL (i := 0) rfl)) (vI rfl))) rfl rfl ?_ | refine rg_y (yv_load rfl (ld1B (k1 (hs.blkL (i := 1) rfl)) (vI rfl))) rfl rfl ?_ | refine rg_y (yv_load rfl (ld1B (k1 (hs.blkL (i := 2) rfl)) (vI rfl))) rfl rfl ?_ | refine rg_y (yv_load rfl (ld1B (k1 (hs.blkL (i := 3) rfl)) (vI rfl))) rfl rfl ?_)
       all_goals (first | refine rg_bt (yv_gtr rfl rfl) (by omega) rfl rfl ?_ | refine rg_bf (yv_gtr rfl rfl) (by omega) rfl rfl ?_ | refine rg_b (yv_gtr rfl rfl) rfl rfl (fun hc => ?_) (fun hc => ?_))
       all_goals (first | refine rg_nils [(4, _), (6, _), (31, _)] ⟨sP rfl, sP rfl, sB rfl, trivial⟩ ?_ | refine rg_nil ?_))
    | (refine rn_reg 5 ?_
       all_goals (refine rg_y (yv_build rfl (o2 rfl)) rfl rfl ?_)
       all_goals (first | (refine rg_store 0 hs rfl rfl (kA rfl) (l2 rfl) rfl rfl rfl rfl ?_; clear hs; intro w hs; simp only [putCells, List.take_succ_cons, List.take_zero, List.take_nil, List.drop_succ_cons, List.drop_zero, List.drop_nil, List.cons_append, List.nil_append, List.append_nil, List.length_cons, List.length_nil, Nat.reduceAdd, Nat.add_zero, Nat.zero_add, List.set_cons_zero, List.set_cons_succ] at hs) | (refine rg_store 1 hs rfl rfl (kA rfl) (l2 rfl) rfl rfl rfl rfl ?_; clear hs; intro w hs; simp only [putCells, List.take_succ_cons, List.take_zero, List.take_nil, List.drop_succ_cons, List.drop_zero, List.drop_nil, List.cons_append, List.nil_append, List.append_nil, List.length_cons, List.length_nil, Nat.reduceAdd, Nat.add_zero, Nat.zero_add, List.set_cons_zero, List.set_cons_succ] at hs) | (refine rg_store 2 hs rfl rfl (kA rfl) (l2 rfl) rfl rfl rfl rfl ?_; clear hs; intro w hs; simp only [putCells, List.take_succ_cons, List.take_zero, List.take_nil, List.drop_succ_cons, List.drop_zero, List.drop_nil, List.cons_append, List.nil_append, List.append_nil, List.length_cons, List.length_nil, Nat.reduceAdd, Nat.add_zero, Nat.zero_add, List.set_cons_zero, List.set_cons_succ] at hs) | (refine rg_store 3 hs rfl rfl (kA rfl) (l2 rfl) rfl rfl rfl rfl ?_; clear hs; intro w hs; simp only [putCells, List.take_succ_cons, List.take_zero, List.take_nil, List.drop_succ_cons, List.drop_zero, List.drop_nil, List.cons_append, List.nil_append, List.append_nil, List.length_cons, List.length_nil, Nat.reduceAdd, Nat.add_zero, Nat.zero_add, List.set_cons_zero, List.set_cons_succ] at hs))
       all_goals (refine rg_y (yv_assign (kI rfl)) rfl rfl ?_)
       all_goals (first | refine rg_nils [(4, _), (5, _)] ⟨sP rfl, sI rfl, trivial⟩ ?_ | refine rg_nil ?_))
    | (refine rn_reg 6 ?_
       all_goals (first | refine rg_y (yv_load rfl (ldBB (k1 (hs.blkL (i := 0) rfl)) rfl)) rfl rfl ?_ | refine rg_y (yv_load rfl (ldBB (k1 (hs.blkL (i := 1) rfl)) rfl)) rfl rfl ?_ | refine rg_y (yv_load rfl (ldBB (k1 (hs.blkL (i := 2) rfl)) rfl)) rfl rfl ?_ | refine rg_y (yv_load rfl (ldBB (k1 (hs.blkL (i := 3) rfl)) rfl)) rfl rfl ?_ | refine rg_y (yv_load rfl (ldPB (k1 (hs.blkL (i := 0) rfl)) (l2 rfl) rfl)) rfl rfl ?_ | refine rg_y (yv_load rfl (ldPB (k1 (hs.blkL (i := 1) rfl)) (l2 rfl) rfl)) rfl rfl ?_ | refine rg_y (yv_load rfl (ldPB (k1 (hs.blkL (i := 2) rfl)) (l2 rfl) rfl)) rfl rfl ?_ | refine rg_y (yv_load rfl (ldPB (k1 (hs.blkL (i := 3) rfl)) (l2 rfl) rfl)) rfl rfl ?_)
       all_goals (first | (refine rg_store 0 hs rfl rfl (kA rfl) (l2 rfl) rfl rfl rfl rfl ?_; clear hs; intro w hs; simp only [putCells, List.take_succ_cons, List.take_zero, List.take_nil, List.drop_succ_cons, List.drop_zero, List.drop_nil, List.cons_append, List.nil_append, List.append_nil, List.length_cons, List.length_nil, Nat.reduceAdd, Nat.add_zero, Nat.zero_add, List.set_cons_zero, List.set_cons_succ] at hs) | (refine rg_store 1 hs rfl rfl (kA rfl) (l2 rfl) rfl rfl rfl rfl ?_; clear hs; intro w hs; simp only [putCells, List.take_succ_cons, List.take_zero, List.take_nil, List.drop_succ_cons, List.drop_zero, List.drop_nil, List.cons_append, List.nil_append, List.append_nil, List.length_cons, List.length_nil, Nat.reduceAdd, Nat.add_zero, Nat.zero_add, List.set_cons_zero, List.set_cons_succ] at hs) | (refine rg_store 2 hs rfl rfl (kA rfl) (l2 rfl) rfl rfl rfl rfl ?_; clear hs; intro w hs; simp only [putCells, List.take_succ_cons, List.take_zero, List.take_nil, List.drop_succ_cons, List.drop_zero, List.drop_nil, List.cons_append, List.nil_append, List.append_nil, List.length_cons, List.length_nil, Nat.reduceAdd, Nat.add_zero, Nat.zero_add, List.set_cons_zero, List.set_cons_succ] at hs) | (refine rg_store 3 hs rfl rfl (kA rfl) (l2 rfl) rfl rfl rfl rfl ?_; clear hs; intro w hs; simp only [putCells, List.take_succ_cons, List.take_zero, List.take_nil, List.drop_succ_cons, List.drop_zero, List.drop_nil, List.cons_append, List.nil_append, List.append_nil, List.length_cons, List.length_nil, Nat.reduceAdd, Nat.add_zero, Nat.zero_add, List.set_cons_zero, List.set_cons_succ] at hs))
       all_goals (refine rg_y (yv_assign (kI rfl)) rfl rfl ?_)
       all_goals (first | refine rg_nils [(4, _), (5, _)] ⟨sP rfl, sI rfl, trivial⟩ ?_ | refine rg_nil ?_)))
  all_goals ((first | refine k_ret2 rfl (.cell rfl (ldBB (hs.blkL (i := 0) rfl) rfl)) (.tmp rfl) ⟨r3 ?_, hs.drop⟩ | refine k_ret2 rfl (.cell rfl (ldBB (hs.blkL (i := 1) rfl) rfl)) (.tmp rfl) ⟨r3 ?_, hs.drop⟩ | refine k_ret2 rfl (.cell rfl (ldBB (hs.blkL (i := 2) rfl) rfl)) (.tmp rfl) ⟨r3 ?_, hs.drop⟩ | refine k_ret2 rfl (.cell rfl (ldBB (hs.blkL (i := 3) rfl) rfl)) (.tmp rfl) ⟨r3 ?_, hs.drop⟩ | refine k_ret2 rfl (.cell rfl (ldBB (hs.blkL (i := 4) rfl) rfl)) (.tmp rfl) ⟨r3 ?_, hs.drop⟩ | refine k_ret2 rfl (.cell rfl (ldBB (hs.blkL (i := 5) rfl) rfl)) (.tmp rfl) ⟨r3 ?_, hs.drop⟩ | refine k_ret2 rfl (.cell rfl (ldBB (hs.blkL (i := 6) rfl) rfl)) (.tmp rfl) ⟨r3 ?_, hs.drop⟩ | refine k_ret2 rfl (.cell rfl (ldBB (hs.blkL (i := 7) rfl) rfl)) (.tmp rfl) ⟨r3 ?_, hs.drop⟩); unfold meetM)
  all_goals first | rw [if_pos (by omega), if_pos (by omega)] | rw [if_pos (by omega), if_neg (by omega)] | rw [if_neg (by omega)]
end Go.Proofs.Ytbbcpffbdadnoaa
