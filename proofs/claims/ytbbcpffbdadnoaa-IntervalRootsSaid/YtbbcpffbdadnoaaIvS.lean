/-
  The examples that every statement of layer 1 asks for, and the statement on quotients.
-/
import Derived.Test.YtbbcpffbdadnoaaIvB
import Derived.Test.YtbbcpffbdadnoaaIvR
namespace Go.Proofs.Ytbbcpffbdadnoaa
set_option linter.unusedVariables false
set_option linter.unusedSimpArgs false
set_option maxHeartbeats 2000000
set_option maxRecDepth 10000
open Go.Hy Go.Hy.Iv

theorem bl {b : Bool} (h : b = true) : Ending.returned (.bool b) = .returned (.bool true) := by rw [h]
theorem sane01_g (w : World) : Gives Try.prog 14 [] w (.bool true) := by
  have i2 : isq 2 = 1 := (isq_unique (by omega) (by omega) (by omega)).symm
  have i17 : isq 17 = 4 := (isq_unique (by omega) (by omega) (by omega)).symm
  have a1 : mulM (-2) 3 (-5) 4 = (-15, 12, 0) := by decide
  have a2 : scaleM 1 10 1 3 = (0, 4, 0) := by decide
  have a3 : rootM 2 17 = (1, 5, 0) := by unfold rootM isu; rw [i2, i17]; decide
  have a4 : floorM (-7) 2 = (-4, 0) := by decide
  have a5 : ceilM (-7) 2 = (-3, 0) := by decide
  have b1 : (mulM (-2) 3 (-5) 4).1 = -15 ∧ (mulM (-2) 3 (-5) 4).2.1 = 12 ∧ (mulM (-2) 3 (-5) 4).2.2 = 0 := by rw [a1]; decide
  have b2 : (scaleM 1 10 1 3).1 = 0 ∧ (scaleM 1 10 1 3).2.1 = 4 ∧ (scaleM 1 10 1 3).2.2 = 0 := by rw [a2]; decide
  have b3 : (rootM 2 17).1 = 1 ∧ (rootM 2 17).2.1 = 5 ∧ (rootM 2 17).2.2 = 0 := by rw [a3]; decide
  have b4 : (floorM (-7) 2).1 = -4 ∧ (floorM (-7) 2).2 = 0 := by rw [a4]; decide
  have b5 : (ceilM (-7) 2).1 = -3 ∧ (ceilM (-7) 2).2 = 0 := by rw [a5]; decide
  clear a1 a2 a3 a4 a5 i2 i17
  (try unfold Gives); refine calls_enter Try.func14 rfl Try.ntmps14 rfl rfl ?_; have hs := St.refl w
  repeat' (first
    | refine rn_seq ?_
    | refine ks_n ?_
    | refine rn_cond_t rfl ?_
    | refine rn_cond_f rfl ?_
    | refine kb_n ?_
    | refine rn_block ?_
    | refine rn_skip ?_
    | refine rn_ret ?_
    | refine ks_r ?_
    | refine rn_exit ?_
    | refine ks_e ?_
    | refine kb_hit ?_
    | refine kb_miss rfl ?_
    | refine kb_r ?_
    | refine kl_e ?_
    | refine kl_r ?_
    | refine kr_n ?_
    | refine rnds_succ ?_
    | refine kr_e ?_
    | refine kr_r ?_
    | (refine rn_reg 0 ?_
       all_goals (refine rg_y (yv_assign (kB rfl)) rfl rfl ?_)
       all_goals (first | refine rg_nils [(38, _), (39, _), (40, _), (43, _), (44, _), (47, _), (48, _), (49, _), (52, _), (53, _), (56, _), (57, _), (58, _), (61, _), (62, _), (65, _), (66, _), (69, _), (70, _), (73, _), (74, _)] ⟨sA rfl, sA rfl, sB rfl, sI rfl, sB rfl, sA rfl, sA rfl, sB rfl, sI rfl, sB rfl, sA rfl, sA rfl, sB rfl, sI rfl, sB rfl, sI rfl, sB rfl, sI rfl, sB rfl, sI rfl, sB rfl, trivial⟩ ?_ | refine rg_nil ?_))
    | (refine rn_reg 1 ?_
       all_goals (refine rg_y (yv_build rfl (o2 rfl)) rfl rfl ?_)
       all_goals (refine rg_y (yv_build rfl (o2 rfl)) rfl rfl ?_)
       all_goals ((refine rg_call0 (Mul_g _ _ _ _ _) hs rfl rfl rfl ?_; clear hs; intro w hs))
       all_goals (refine rg_y (yv_move (kT rfl)) rfl rfl ?_)
       all_goals (refine rg_y (yv_extract rfl (vA rfl)) rfl rfl ?_)
       all_goals (refine rg_y (yv_extract rfl (vI rfl)) rfl rfl ?_)
       all_goals ((refine rg_alloc hs (l2 rfl) rfl rfl ?_; clear hs; intro g w hs))
       all_goals (first | (refine rg_store 0 hs rfl rfl (kA rfl) (l2 rfl) rfl rfl rfl rfl ?_; clear hs; intro w hs; simp only [putCells, List.take_succ_cons, List.take_zero, List.take_nil, List.drop_succ_cons, List.drop_zero, List.drop_nil, List.cons_append, List.nil_append, List.append_nil, List.length_cons, List.length_nil, Nat.reduceAdd, Nat.add_zero, Nat.zero_add, List.set_cons_zero, List.set_cons_succ] at hs) | (refine rg_store 1 hs rfl rfl (kA rfl) (l2 rfl) rfl rfl rfl rfl ?_; clear hs; intro w hs; simp only [putCells, List.take_succ_cons, List.take_zero, List.take_nil, List.drop_succ_cons, List.drop_zero, List.drop_nil, List.cons_append, List.nil_append, List.append_nil, List.length_cons, List.length_nil, Nat.reduceAdd, Nat.add_zero, Nat.zero_add, List.set_cons_zero, List.set_cons_succ] at hs) | (refine rg_store 2 hs rfl rfl (kA rfl) (l2 rfl) rfl rfl rfl rfl ?_; clear hs; intro w hs; simp only [putCells, List.take_succ_cons, List.take_zero, List.take_nil, List.drop_succ_cons, List.drop_zero, List.drop_nil, List.cons_append, List.nil_append, List.append_nil, List.length_cons, List.length_nil, Nat.reduceAdd, Nat.add_zero, Nat.zero_add, List.set_cons_zero, List.set_cons_succ] at hs) | (refine rg_store 3 hs rfl rfl (kA rfl) (l2 rfl) rfl rfl rfl rfl ?_; clear hs; intro w hs; simp only [putCells, List.take_succ_cons, List.take_zero, List.take_nil, List.drop_succ_cons, List.drop_zero, List.drop_nil, List.cons_append, List.nil_append, List.append_nil, List.length_cons, List.length_nil, Nat.reduceAdd, Nat.add_zero, Nat.zero_add, List.set_cons_zero, List.set_cons_succ] at hs) | (refine rg_store 4 hs rfl rfl (kA rfl) (l2 rfl) rfl rfl rfl rfl ?_; clear hs; intro w hs; simp only [putCells, List.take_succ_cons, List.take_zero, List.take_nil, List.drop_succ_cons, List.drop_zero, List.drop_nil, List.cons_append, List.nil_append, List.append_nil, List.length_cons, List.length_nil, Nat.reduceAdd, Nat.add_zero, Nat.zero_add, List.set_cons_zero, List.set_cons_succ] at hs) | (refine rg_store 5 hs rfl rfl (kA rfl) (l2 rfl) rfl rfl rfl rfl ?_; clear hs; intro w hs; simp only [putCells, List.take_succ_cons, List.take_zero, List.take_nil, List.drop_succ_cons, List.drop_zero, List.drop_nil, List.cons_append, List.nil_append, List.append_nil, List.length_cons, List.length_nil, Nat.reduceAdd, Nat.add_zero, Nat.zero_add, List.set_cons_zero, List.set_cons_succ] at hs) | (refine rg_store 6 hs rfl rfl (kA rfl) (l2 rfl) rfl rfl rfl rfl ?_; clear hs; intro w hs; simp only [putCells, List.take_succ_cons, List.take_zero, List.take_nil, List.drop_succ_cons, List.drop_zero, List.drop_nil, List.cons_append, List.nil_append, List.append_nil, List.length_cons, List.length_nil, Nat.reduceAdd, Nat.add_zero, Nat.zero_add, List.set_cons_zero, List.set_cons_succ] at hs) | (refine rg_store 7 hs rfl rfl (kA rfl) (l2 rfl) rfl rfl rfl rfl ?_; clear hs; intro w hs; simp only [putCells, List.take_succ_cons, List.take_zero, List.take_nil, List.drop_succ_cons, List.drop_zero, List.drop_nil, List.cons_append, List.nil_append, List.append_nil, List.length_cons, List.length_nil, Nat.reduceAdd, Nat.add_zero, Nat.zero_add, List.set_cons_zero, List.set_cons_succ] at hs) | (refine rg_store 8 hs rfl rfl (kA rfl) (l2 rfl) rfl rfl rfl rfl ?_; clear hs; intro w hs; simp only [putCells, List.take_succ_cons, List.take_zero, List.take_nil, List.drop_succ_cons, List.drop_zero, List.drop_nil, List.cons_append, List.nil_append, List.append_nil, List.length_cons, List.length_nil, Nat.reduceAdd, Nat.add_zero, Nat.zero_add, List.set_cons_zero, List.set_cons_succ] at hs) | (refine rg_store 9 hs rfl rfl (kA rfl) (l2 rfl) rfl rfl rfl rfl ?_; clear hs; intro w hs; simp only [putCells, List.take_succ_cons, List.take_zero, List.take_nil, List.drop_succ_cons, List.drop_zero, List.drop_nil, List.cons_append, List.nil_append, List.append_nil, List.length_cons, List.length_nil, Nat.reduceAdd, Nat.add_zero, Nat.zero_add, List.set_cons_zero, List.set_cons_succ] at hs))
       all_goals (refine rg_y (yv_assign (kI rfl)) rfl rfl ?_)
       all_goals (first | refine rg_nils [(1, _), (2, _), (38, _), (39, _), (40, _), (43, _), (44, _), (47, _), (48, _), (49, _), (52, _), (53, _), (56, _), (57, _), (58, _), (61, _), (62, _), (65, _), (66, _), (69, _), (70, _), (73, _), (74, _)] ⟨sP rfl, sI rfl, sA rfl, sA rfl, sB rfl, sI rfl, sB rfl, sA rfl, sA rfl, sB rfl, sI rfl, sB rfl, sA rfl, sA rfl, sB rfl, sI rfl, sB rfl, sI rfl, sB rfl, sI rfl, sB rfl, sI rfl, sB rfl, trivial⟩ ?_ | refine rg_nil ?_))
    | (refine rn_reg 2 ?_
       all_goals (refine rg_y (yv_build rfl (o2 rfl)) rfl rfl ?_)
       all_goals ((refine rg_call0 (Scale_g _ _ _ _ _) hs rfl rfl rfl ?_; clear hs; intro w hs))
       all_goals (refine rg_y (yv_move (kT rfl)) rfl rfl ?_)
       all_goals (refine rg_y (yv_extract rfl (vA rfl)) rfl rfl ?_)
       all_goals (refine rg_y (yv_extract rfl (vI rfl)) rfl rfl ?_)
       all_goals ((refine rg_alloc hs (l2 rfl) rfl rfl ?_; clear hs; intro g w hs))
       all_goals (first | (refine rg_store 0 hs rfl rfl (kA rfl) (l2 rfl) rfl rfl rfl rfl ?_; clear hs; intro w hs; simp only [putCells, List.take_succ_cons, List.take_zero, List.take_nil, List.drop_succ_cons, List.drop_zero, List.drop_nil, List.cons_append, List.nil_append, List.append_nil, List.length_cons, List.length_nil, Nat.reduceAdd, Nat.add_zero, Nat.zero_add, List.set_cons_zero, List.set_cons_succ] at hs) | (refine rg_store 1 hs rfl rfl (kA rfl) (l2 rfl) rfl rfl rfl rfl ?_; clear hs; intro w hs; simp only [putCells, List.take_succ_cons, List.take_zero, List.take_nil, List.drop_succ_cons, List.drop_zero, List.drop_nil, List.cons_append, List.nil_append, List.append_nil, List.length_cons, List.length_nil, Nat.reduceAdd, Nat.add_zero, Nat.zero_add, List.set_cons_zero, List.set_cons_succ] at hs) | (refine rg_store 2 hs rfl rfl (kA rfl) (l2 rfl) rfl rfl rfl rfl ?_; clear hs; intro w hs; simp only [putCells, List.take_succ_cons, List.take_zero, List.take_nil, List.drop_succ_cons, List.drop_zero, List.drop_nil, List.cons_append, List.nil_append, List.append_nil, List.length_cons, List.length_nil, Nat.reduceAdd, Nat.add_zero, Nat.zero_add, List.set_cons_zero, List.set_cons_succ] at hs) | (refine rg_store 3 hs rfl rfl (kA rfl) (l2 rfl) rfl rfl rfl rfl ?_; clear hs; intro w hs; simp only [putCells, List.take_succ_cons, List.take_zero, List.take_nil, List.drop_succ_cons, List.drop_zero, List.drop_nil, List.cons_append, List.nil_append, List.append_nil, List.length_cons, List.length_nil, Nat.reduceAdd, Nat.add_zero, Nat.zero_add, List.set_cons_zero, List.set_cons_succ] at hs) | (refine rg_store 4 hs rfl rfl (kA rfl) (l2 rfl) rfl rfl rfl rfl ?_; clear hs; intro w hs; simp only [putCells, List.take_succ_cons, List.take_zero, List.take_nil, List.drop_succ_cons, List.drop_zero, List.drop_nil, List.cons_append, List.nil_append, List.append_nil, List.length_cons, List.length_nil, Nat.reduceAdd, Nat.add_zero, Nat.zero_add, List.set_cons_zero, List.set_cons_succ] at hs) | (refine rg_store 5 hs rfl rfl (kA rfl) (l2 rfl) rfl rfl rfl rfl ?_; clear hs; intro w hs; simp only [putCells, List.take_succ_cons, List.take_zero, List.take_nil, List.drop_succ_cons, List.drop_zero, List.drop_nil, List.cons_append, List.nil_append, List.append_nil, List.length_cons, List.length_nil, Nat.reduceAdd, Nat.add_zero, Nat.zero_add, List.set_cons_zero, List.set_cons_succ] at hs) | (refine rg_store 6 hs rfl rfl (kA rfl) (l2 rfl) rfl rfl rfl rfl ?_; clear hs; intro w hs; simp only [putCells, List.take_succ_cons, List.take_zero, List.take_nil, List.drop_succ_cons, List.drop_zero, List.drop_nil, List.cons_append, List.nil_append, List.append_nil, List.length_cons, List.length_nil, Nat.reduceAdd, Nat.add_zero, Nat.zero_add, List.set_cons_zero, List.set_cons_succ] at hs) | (refine rg_store 7 hs rfl rfl (kA rfl) (l2 rfl) rfl rfl rfl rfl ?_; clear hs; intro w hs; simp only [putCells, List.take_succ_cons, List.take_zero, List.take_nil, List.drop_succ_cons, List.drop_zero, List.drop_nil, List.cons_append, List.nil_append, List.append_nil, List.length_cons, List.length_nil, Nat.reduceAdd, Nat.add_zero, Nat.zero_add, List.set_cons_zero, List.set_cons_succ] at hs) | (refine rg_store 8 hs rfl rfl (kA rfl) (l2 rfl) rfl rfl rfl rfl ?_; clear hs; intro w hs; simp only [putCells, List.take_succ_cons, List.take_zero, List.take_nil, List.drop_succ_cons, List.drop_zero, List.drop_nil, List.cons_append, List.nil_append, List.append_nil, List.length_cons, List.length_nil, Nat.reduceAdd, Nat.add_zero, Nat.zero_add, List.set_cons_zero, List.set_cons_succ] at hs) | (refine rg_store 9 hs rfl rfl (kA rfl) (l2 rfl) rfl rfl rfl rfl ?_; clear hs; intro w hs; simp only [putCells, List.take_succ_cons, List.take_zero, List.take_nil, List.drop_succ_cons, List.drop_zero, List.drop_nil, List.cons_append, List.nil_append, List.append_nil, List.length_cons, List.length_nil, Nat.reduceAdd, Nat.add_zero, Nat.zero_add, List.set_cons_zero, List.set_cons_succ] at hs))
       all_goals (refine rg_y (yv_assign (kI rfl)) rfl rfl ?_)
       all_goals (first | refine rg_nils [(1, _), (2, _), (3, _), (4, _), (38, _), (39, _), (40, _), (43, _), (44, _), (47, _), (48, _), (49, _), (52, _), (53, _), (56, _), (57, _), (58, _), (61, _), (62, _), (65, _), (66, _), (69, _), (70, _), (73, _), (74, _)] ⟨sP rfl, sI rfl, sP rfl, sI rfl, sA rfl, sA rfl, sB rfl, sI rfl, sB rfl, sA rfl, sA rfl, sB rfl, sI rfl, sB rfl, sA rfl, sA rfl, sB rfl, sI rfl, sB rfl, sI rfl, sB rfl, sI rfl, sB rfl, sI rfl, sB rfl, trivial⟩ ?_ | refine rg_nil ?_))
    | (refine rn_reg 3 ?_
       all_goals (refine rg_y (yv_build rfl (o2 rfl)) rfl rfl ?_)
       all_goals ((refine rg_call0 (Root_g _ _ _) hs rfl rfl rfl ?_; clear hs; intro w hs))
       all_goals (refine rg_y (yv_move (kT rfl)) rfl rfl ?_)
       all_goals (refine rg_y (yv_extract rfl (vA rfl)) rfl rfl ?_)
       all_goals (refine rg_y (yv_extract rfl (vI rfl)) rfl rfl ?_)
       all_goals ((refine rg_alloc hs (l2 rfl) rfl rfl ?_; clear hs; intro g w hs))
       all_goals (first | (refine rg_store 0 hs rfl rfl (kA rfl) (l2 rfl) rfl rfl rfl rfl ?_; clear hs; intro w hs; simp only [putCells, List.take_succ_cons, List.take_zero, List.take_nil, List.drop_succ_cons, List.drop_zero, List.drop_nil, List.cons_append, List.nil_append, List.append_nil, List.length_cons, List.length_nil, Nat.reduceAdd, Nat.add_zero, Nat.zero_add, List.set_cons_zero, List.set_cons_succ] at hs) | (refine rg_store 1 hs rfl rfl (kA rfl) (l2 rfl) rfl rfl rfl rfl ?_; clear hs; intro w hs; simp only [putCells, List.take_succ_cons, List.take_zero, List.take_nil, List.drop_succ_cons, List.drop_zero, List.drop_nil, List.cons_append, List.nil_append, List.append_nil, List.length_cons, List.length_nil, Nat.reduceAdd, Nat.add_zero, Nat.zero_add, List.set_cons_zero, List.set_cons_succ] at hs) | (refine rg_store 2 hs rfl rfl (kA rfl) (l2 rfl) rfl rfl rfl rfl ?_; clear hs; intro w hs; simp only [putCells, List.take_succ_cons, List.take_zero, List.take_nil, List.drop_succ_cons, List.drop_zero, List.drop_nil, List.cons_append, List.nil_append, List.append_nil, List.length_cons, List.length_nil, Nat.reduceAdd, Nat.add_zero, Nat.zero_add, List.set_cons_zero, List.set_cons_succ] at hs) | (refine rg_store 3 hs rfl rfl (kA rfl) (l2 rfl) rfl rfl rfl rfl ?_; clear hs; intro w hs; simp only [putCells, List.take_succ_cons, List.take_zero, List.take_nil, List.drop_succ_cons, List.drop_zero, List.drop_nil, List.cons_append, List.nil_append, List.append_nil, List.length_cons, List.length_nil, Nat.reduceAdd, Nat.add_zero, Nat.zero_add, List.set_cons_zero, List.set_cons_succ] at hs) | (refine rg_store 4 hs rfl rfl (kA rfl) (l2 rfl) rfl rfl rfl rfl ?_; clear hs; intro w hs; simp only [putCells, List.take_succ_cons, List.take_zero, List.take_nil, List.drop_succ_cons, List.drop_zero, List.drop_nil, List.cons_append, List.nil_append, List.append_nil, List.length_cons, List.length_nil, Nat.reduceAdd, Nat.add_zero, Nat.zero_add, List.set_cons_zero, List.set_cons_succ] at hs) | (refine rg_store 5 hs rfl rfl (kA rfl) (l2 rfl) rfl rfl rfl rfl ?_; clear hs; intro w hs; simp only [putCells, List.take_succ_cons, List.take_zero, List.take_nil, List.drop_succ_cons, List.drop_zero, List.drop_nil, List.cons_append, List.nil_append, List.append_nil, List.length_cons, List.length_nil, Nat.reduceAdd, Nat.add_zero, Nat.zero_add, List.set_cons_zero, List.set_cons_succ] at hs) | (refine rg_store 6 hs rfl rfl (kA rfl) (l2 rfl) rfl rfl rfl rfl ?_; clear hs; intro w hs; simp only [putCells, List.take_succ_cons, List.take_zero, List.take_nil, List.drop_succ_cons, List.drop_zero, List.drop_nil, List.cons_append, List.nil_append, List.append_nil, List.length_cons, List.length_nil, Nat.reduceAdd, Nat.add_zero, Nat.zero_add, List.set_cons_zero, List.set_cons_succ] at hs) | (refine rg_store 7 hs rfl rfl (kA rfl) (l2 rfl) rfl rfl rfl rfl ?_; clear hs; intro w hs; simp only [putCells, List.take_succ_cons, List.take_zero, List.take_nil, List.drop_succ_cons, List.drop_zero, List.drop_nil, List.cons_append, List.nil_append, List.append_nil, List.length_cons, List.length_nil, Nat.reduceAdd, Nat.add_zero, Nat.zero_add, List.set_cons_zero, List.set_cons_succ] at hs) | (refine rg_store 8 hs rfl rfl (kA rfl) (l2 rfl) rfl rfl rfl rfl ?_; clear hs; intro w hs; simp only [putCells, List.take_succ_cons, List.take_zero, List.take_nil, List.drop_succ_cons, List.drop_zero, List.drop_nil, List.cons_append, List.nil_append, List.append_nil, List.length_cons, List.length_nil, Nat.reduceAdd, Nat.add_zero, Nat.zero_add, List.set_cons_zero, List.set_cons_succ] at hs) | (refine rg_store 9 hs rfl rfl (kA rfl) (l2 rfl) rfl rfl rfl rfl ?_; clear hs; intro w hs; simp only [putCells, List.take_succ_cons, List.take_zero, List.take_nil, List.drop_succ_cons, List.drop_zero, List.drop_nil, List.cons_append, List.nil_append, List.append_nil, List.length_cons, List.length_nil, Nat.reduceAdd, Nat.add_zero, Nat.zero_add, List.set_cons_zero, List.set_cons_succ] at hs))
       all_goals (refine rg_y (yv_assign (kI rfl)) rfl rfl ?_)
       all_goals (first | refine rg_nils [(1, _), (2, _), (3, _), (4, _), (5, _), (6, _), (38, _), (39, _), (40, _), (43, _), (44, _), (47, _), (48, _), (49, _), (52, _), (53, _), (56, _), (57, _), (58, _), (61, _), (62, _), (65, _), (66, _), (69, _), (70, _), (73, _), (74, _)] ⟨sP rfl, sI rfl, sP rfl, sI rfl, sP rfl, sI rfl, sA rfl, sA rfl, sB rfl, sI rfl, sB rfl, sA rfl, sA rfl, sB rfl, sI rfl, sB rfl, sA rfl, sA rfl, sB rfl, sI rfl, sB rfl, sI rfl, sB rfl, sI rfl, sB rfl, sI rfl, sB rfl, trivial⟩ ?_ | refine rg_nil ?_))
    | (refine rn_reg 4 ?_
       all_goals ((refine rg_call0 (Floor_g _ _ _ (by omega)) hs rfl rfl rfl ?_; clear hs; intro w hs))
       all_goals (refine rg_y (yv_move (kT rfl)) rfl rfl ?_)
       all_goals (refine rg_y (yv_extract rfl (vI rfl)) rfl rfl ?_)
       all_goals (refine rg_y (yv_extract rfl (vI rfl)) rfl rfl ?_)
       all_goals (refine rg_y (yv_assign (kI rfl)) rfl rfl ?_)
       all_goals (refine rg_y (yv_assign (kI rfl)) rfl rfl ?_)
       all_goals (first | refine rg_nils [(1, _), (2, _), (3, _), (4, _), (5, _), (6, _), (7, _), (8, _), (38, _), (39, _), (40, _), (43, _), (44, _), (47, _), (48, _), (49, _), (52, _), (53, _), (56, _), (57, _), (58, _), (61, _), (62, _), (65, _), (66, _), (69, _), (70, _), (73, _), (74, _)] ⟨sP rfl, sI rfl, sP rfl, sI rfl, sP rfl, sI rfl, sI rfl, sI rfl, sA rfl, sA rfl, sB rfl, sI rfl, sB rfl, sA rfl, sA rfl, sB rfl, sI rfl, sB rfl, sA rfl, sA rfl, sB rfl, sI rfl, sB rfl, sI rfl, sB rfl, sI rfl, sB rfl, sI rfl, sB rfl, trivial⟩ ?_ | refine rg_nil ?_))
    | (refine rn_reg 5 ?_
       all_goals ((refine rg_call0 (Ceil_g _ _ _ (by omega)) hs rfl rfl rfl ?_; clear hs; intro w hs))
       all_goals (refine rg_y (yv_move (kT rfl)) rfl rfl ?_)
       all_goals (refine rg_y (yv_extract rfl (vI rfl)) rfl rfl ?_)
       all_goals (refine rg_y (yv_extract rfl (vI rfl)) rfl rfl ?_)
       all_goals (refine rg_y (yv_assign (kI rfl)) rfl rfl ?_)
       all_goals (refine rg_y (yv_assign (kI rfl)) rfl rfl ?_)
       all_goals (first | refine rg_nils [(1, _), (2, _), (3, _), (4, _), (5, _), (6, _), (7, _), (8, _), (9, _), (10, _), (38, _), (39, _), (40, _), (43, _), (44, _), (47, _), (48, _), (49, _), (52, _), (53, _), (56, _), (57, _), (58, _), (61, _), (62, _), (65, _), (66, _), (69, _), (70, _), (73, _), (74, _)] ⟨sP rfl, sI rfl, sP rfl, sI rfl, sP rfl, sI rfl, sI rfl, sI rfl, sI rfl, sI rfl, sA rfl, sA rfl, sB rfl, sI rfl, sB rfl, sA rfl, sA rfl, sB rfl, sI rfl, sB rfl, sA rfl, sA rfl, sB rfl, sI rfl, sB rfl, sI rfl, sB rfl, sI rfl, sB rfl, sI rfl, sB rfl, trivial⟩ ?_ | refine rg_nil ?_))
    | (refine rn_reg 6 ?_
       all_goals (refine rg_y (yv_move (kI rfl)) rfl rfl ?_)
       all_goals (first | refine rg_bt (yv_eql rfl rfl) (by omega) rfl rfl ?_ | refine rg_bf (yv_eql rfl rfl) (by omega) rfl rfl ?_ | refine rg_b (yv_eql rfl rfl) rfl rfl (fun hc => ?_) (fun hc => ?_))
       all_goals (refine rg_y (yv_move (kB rfl)) rfl rfl ?_)
       all_goals (first | refine rg_skip rfl rfl ?_ | (first | refine rg_y (yv_load rfl (ldBB (k1 (hs.blkL (i := 0) rfl)) rfl)) rfl rfl ?_ | refine rg_y (yv_load rfl (ldBB (k1 (hs.blkL (i := 1) rfl)) rfl)) rfl rfl ?_ | refine rg_y (yv_load rfl (ldBB (k1 (hs.blkL (i := 2) rfl)) rfl)) rfl rfl ?_ | refine rg_y (yv_load rfl (ldBB (k1 (hs.blkL (i := 3) rfl)) rfl)) rfl rfl ?_ | refine rg_y (yv_load rfl (ldBB (k1 (hs.blkL (i := 4) rfl)) rfl)) rfl rfl ?_ | refine rg_y (yv_load rfl (ldBB (k1 (hs.blkL (i := 5) rfl)) rfl)) rfl rfl ?_ | refine rg_y (yv_load rfl (ldBB (k1 (hs.blkL (i := 6) rfl)) rfl)) rfl rfl ?_ | refine rg_y (yv_load rfl (ldBB (k1 (hs.blkL (i := 7) rfl)) rfl)) rfl rfl ?_ | refine rg_y (yv_load rfl (ldBB (k1 (hs.blkL (i := 8) rfl)) rfl)) rfl rfl ?_ | refine rg_y (yv_load rfl (ldBB (k1 (hs.blkL (i := 9) rfl)) rfl)) rfl rfl ?_ | refine rg_y (yv_load rfl (ldPB (k1 (hs.blkL (i := 0) rfl)) (l2 rfl) rfl)) rfl rfl ?_ | refine rg_y (yv_load rfl (ldPB (k1 (hs.blkL (i := 1) rfl)) (l2 rfl) rfl)) rfl rfl ?_ | refine rg_y (yv_load rfl (ldPB (k1 (hs.blkL (i := 2) rfl)) (l2 rfl) rfl)) rfl rfl ?_ | refine rg_y (yv_load rfl (ldPB (k1 (hs.blkL (i := 3) rfl)) (l2 rfl) rfl)) rfl rfl ?_ | refine rg_y (yv_load rfl (ldPB (k1 (hs.blkL (i := 4) rfl)) (l2 rfl) rfl)) rfl rfl ?_ | refine rg_y (yv_load rfl (ldPB (k1 (hs.blkL (i := 5) rfl)) (l2 rfl) rfl)) rfl rfl ?_ | refine rg_y (yv_load rfl (ldPB (k1 (hs.blkL (i := 6) rfl)) (l2 rfl) rfl)) rfl rfl ?_ | refine rg_y (yv_load rfl (ldPB (k1 (hs.blkL (i := 7) rfl)) (l2 rfl) rfl)) rfl rfl ?_ | refine rg_y (yv_load rfl (ldPB (k1 (hs.blkL (i := 8) rfl)) (l2 rfl) rfl)) rfl rfl ?_ | refine rg_y (yv_load rfl (ldPB (k1 (hs.blkL (i := 9) rfl)) (l2 rfl) rfl)) rfl rfl ?_))
       all_goals (first | refine rg_skip rfl rfl ?_ | refine rg_y (yv_build rfl (o2 rfl)) rfl rfl ?_)
       all_goals (first | refine rg_skip rfl rfl ?_ | (first | refine rg_bt (yeq29 rfl rfl) (by omega) rfl rfl ?_ | refine rg_bf (yeq29 rfl rfl) (by omega) rfl rfl ?_ | refine rg_b (yeq29 rfl rfl) rfl rfl (fun hc => ?_) (fun hc => ?_)))
       all_goals (first | refine rg_y (yv_pick_t rfl (kB rfl)) rfl rfl ?_ | refine rg_y (yv_pick_f rfl (kB rfl)) rfl rfl ?_)
       all_goals (refine rg_y (yv_move (kB rfl)) rfl rfl ?_)
       all_goals (first | refine rg_skip rfl rfl ?_ | refine rg_y (yv_move (kI rfl)) rfl rfl ?_)
       all_goals (first | refine rg_skip rfl rfl ?_ | (first | refine rg_bt (yv_eql rfl rfl) (by omega) rfl rfl ?_ | refine rg_bf (yv_eql rfl rfl) (by omega) rfl rfl ?_ | refine rg_b (yv_eql rfl rfl) rfl rfl (fun hc => ?_) (fun hc => ?_)))
       all_goals (first | refine rg_y (yv_pick_t rfl (kB rfl)) rfl rfl ?_ | refine rg_y (yv_pick_f rfl (kB rfl)) rfl rfl ?_)
       all_goals (refine rg_y (yv_move (kB rfl)) rfl rfl ?_)
       all_goals (first | refine rg_skip rfl rfl ?_ | (first | refine rg_y (yv_load rfl (ldBB (k1 (hs.blkL (i := 0) rfl)) rfl)) rfl rfl ?_ | refine rg_y (yv_load rfl (ldBB (k1 (hs.blkL (i := 1) rfl)) rfl)) rfl rfl ?_ | refine rg_y (yv_load rfl (ldBB (k1 (hs.blkL (i := 2) rfl)) rfl)) rfl rfl ?_ | refine rg_y (yv_load rfl (ldBB (k1 (hs.blkL (i := 3) rfl)) rfl)) rfl rfl ?_ | refine rg_y (yv_load rfl (ldBB (k1 (hs.blkL (i := 4) rfl)) rfl)) rfl rfl ?_ | refine rg_y (yv_load rfl (ldBB (k1 (hs.blkL (i := 5) rfl)) rfl)) rfl rfl ?_ | refine rg_y (yv_load rfl (ldBB (k1 (hs.blkL (i := 6) rfl)) rfl)) rfl rfl ?_ | refine rg_y (yv_load rfl (ldBB (k1 (hs.blkL (i := 7) rfl)) rfl)) rfl rfl ?_ | refine rg_y (yv_load rfl (ldBB (k1 (hs.blkL (i := 8) rfl)) rfl)) rfl rfl ?_ | refine rg_y (yv_load rfl (ldBB (k1 (hs.blkL (i := 9) rfl)) rfl)) rfl rfl ?_ | refine rg_y (yv_load rfl (ldPB (k1 (hs.blkL (i := 0) rfl)) (l2 rfl) rfl)) rfl rfl ?_ | refine rg_y (yv_load rfl (ldPB (k1 (hs.blkL (i := 1) rfl)) (l2 rfl) rfl)) rfl rfl ?_ | refine rg_y (yv_load rfl (ldPB (k1 (hs.blkL (i := 2) rfl)) (l2 rfl) rfl)) rfl rfl ?_ | refine rg_y (yv_load rfl (ldPB (k1 (hs.blkL (i := 3) rfl)) (l2 rfl) rfl)) rfl rfl ?_ | refine rg_y (yv_load rfl (ldPB (k1 (hs.blkL (i := 4) rfl)) (l2 rfl) rfl)) rfl rfl ?_ | refine rg_y (yv_load rfl (ldPB (k1 (hs.blkL (i := 5) rfl)) (l2 rfl) rfl)) rfl rfl ?_ | refine rg_y (yv_load rfl (ldPB (k1 (hs.blkL (i := 6) rfl)) (l2 rfl) rfl)) rfl rfl ?_ | refine rg_y (yv_load rfl (ldPB (k1 (hs.blkL (i := 7) rfl)) (l2 rfl) rfl)) rfl rfl ?_ | refine rg_y (yv_load rfl (ldPB (k1 (hs.blkL (i := 8) rfl)) (l2 rfl) rfl)) rfl rfl ?_ | refine rg_y (yv_load rfl (ldPB (k1 (hs.blkL (i := 9) rfl)) (l2 rfl) rfl)) rfl rfl ?_))
       all_goals (first | refine rg_skip rfl rfl ?_ | refine rg_y (yv_build rfl (o2 rfl)) rfl rfl ?_)
       all_goals (first | refine rg_skip rfl rfl ?_ | (first | refine rg_bt (yeq29 rfl rfl) (by omega) rfl rfl ?_ | refine rg_bf (yeq29 rfl rfl) (by omega) rfl rfl ?_ | refine rg_b (yeq29 rfl rfl) rfl rfl (fun hc => ?_) (fun hc => ?_)))
       all_goals (first | refine rg_y (yv_pick_t rfl (kB rfl)) rfl rfl ?_ | refine rg_y (yv_pick_f rfl (kB rfl)) rfl rfl ?_)
       all_goals (refine rg_y (yv_move (kB rfl)) rfl rfl ?_)
       all_goals (first | refine rg_skip rfl rfl ?_ | refine rg_y (yv_move (kI rfl)) rfl rfl ?_)
       all_goals (first | refine rg_skip rfl rfl ?_ | (first | refine rg_bt (yv_eql rfl rfl) (by omega) rfl rfl ?_ | refine rg_bf (yv_eql rfl rfl) (by omega) rfl rfl ?_ | refine rg_b (yv_eql rfl rfl) rfl rfl (fun hc => ?_) (fun hc => ?_)))
       all_goals (first | refine rg_y (yv_pick_t rfl (kB rfl)) rfl rfl ?_ | refine rg_y (yv_pick_f rfl (kB rfl)) rfl rfl ?_)
       all_goals (refine rg_y (yv_move (kB rfl)) rfl rfl ?_)
       all_goals (first | refine rg_skip rfl rfl ?_ | (first | refine rg_y (yv_load rfl (ldBB (k1 (hs.blkL (i := 0) rfl)) rfl)) rfl rfl ?_ | refine rg_y (yv_load rfl (ldBB (k1 (hs.blkL (i := 1) rfl)) rfl)) rfl rfl ?_ | refine rg_y (yv_load rfl (ldBB (k1 (hs.blkL (i := 2) rfl)) rfl)) rfl rfl ?_ | refine rg_y (yv_load rfl (ldBB (k1 (hs.blkL (i := 3) rfl)) rfl)) rfl rfl ?_ | refine rg_y (yv_load rfl (ldBB (k1 (hs.blkL (i := 4) rfl)) rfl)) rfl rfl ?_ | refine rg_y (yv_load rfl (ldBB (k1 (hs.blkL (i := 5) rfl)) rfl)) rfl rfl ?_ | refine rg_y (yv_load rfl (ldBB (k1 (hs.blkL (i := 6) rfl)) rfl)) rfl rfl ?_ | refine rg_y (yv_load rfl (ldBB (k1 (hs.blkL (i := 7) rfl)) rfl)) rfl rfl ?_ | refine rg_y (yv_load rfl (ldBB (k1 (hs.blkL (i := 8) rfl)) rfl)) rfl rfl ?_ | refine rg_y (yv_load rfl (ldBB (k1 (hs.blkL (i := 9) rfl)) rfl)) rfl rfl ?_ | refine rg_y (yv_load rfl (ldPB (k1 (hs.blkL (i := 0) rfl)) (l2 rfl) rfl)) rfl rfl ?_ | refine rg_y (yv_load rfl (ldPB (k1 (hs.blkL (i := 1) rfl)) (l2 rfl) rfl)) rfl rfl ?_ | refine rg_y (yv_load rfl (ldPB (k1 (hs.blkL (i := 2) rfl)) (l2 rfl) rfl)) rfl rfl ?_ | refine rg_y (yv_load rfl (ldPB (k1 (hs.blkL (i := 3) rfl)) (l2 rfl) rfl)) rfl rfl ?_ | refine rg_y (yv_load rfl (ldPB (k1 (hs.blkL (i := 4) rfl)) (l2 rfl) rfl)) rfl rfl ?_ | refine rg_y (yv_load rfl (ldPB (k1 (hs.blkL (i := 5) rfl)) (l2 rfl) rfl)) rfl rfl ?_ | refine rg_y (yv_load rfl (ldPB (k1 (hs.blkL (i := 6) rfl)) (l2 rfl) rfl)) rfl rfl ?_ | refine rg_y (yv_load rfl (ldPB (k1 (hs.blkL (i := 7) rfl)) (l2 rfl) rfl)) rfl rfl ?_ | refine rg_y (yv_load rfl (ldPB (k1 (hs.blkL (i := 8) rfl)) (l2 rfl) rfl)) rfl rfl ?_ | refine rg_y (yv_load rfl (ldPB (k1 (hs.blkL (i := 9) rfl)) (l2 rfl) rfl)) rfl rfl ?_))
       all_goals (first | refine rg_skip rfl rfl ?_ | refine rg_y (yv_build rfl (o2 rfl)) rfl rfl ?_)
       all_goals (first | refine rg_skip rfl rfl ?_ | (first | refine rg_bt (yeq29 rfl rfl) (by omega) rfl rfl ?_ | refine rg_bf (yeq29 rfl rfl) (by omega) rfl rfl ?_ | refine rg_b (yeq29 rfl rfl) rfl rfl (fun hc => ?_) (fun hc => ?_)))
       all_goals (first | refine rg_y (yv_pick_t rfl (kB rfl)) rfl rfl ?_ | refine rg_y (yv_pick_f rfl (kB rfl)) rfl rfl ?_)
       all_goals (refine rg_y (yv_move (kB rfl)) rfl rfl ?_)
       all_goals (first | refine rg_skip rfl rfl ?_ | refine rg_y (yv_move (kI rfl)) rfl rfl ?_)
       all_goals (first | refine rg_skip rfl rfl ?_ | (first | refine rg_bt (yv_eql rfl rfl) (by omega) rfl rfl ?_ | refine rg_bf (yv_eql rfl rfl) (by omega) rfl rfl ?_ | refine rg_b (yv_eql rfl rfl) rfl rfl (fun hc => ?_) (fun hc => ?_)))
       all_goals (first | refine rg_y (yv_pick_t rfl (kB rfl)) rfl rfl ?_ | refine rg_y (yv_pick_f rfl (kB rfl)) rfl rfl ?_)
       all_goals (refine rg_y (yv_move (kB rfl)) rfl rfl ?_)
       all_goals (first | refine rg_skip rfl rfl ?_ | refine rg_y (yv_move (kI rfl)) rfl rfl ?_)
       all_goals (first | refine rg_skip rfl rfl ?_ | (first | refine rg_bt (yv_eql rfl rfl) (by omega) rfl rfl ?_ | refine rg_bf (yv_eql rfl rfl) (by omega) rfl rfl ?_ | refine rg_b (yv_eql rfl rfl) rfl rfl (fun hc => ?_) (fun hc => ?_)))
       all_goals (first | refine rg_y (yv_pick_t rfl (kB rfl)) rfl rfl ?_ | refine rg_y (yv_pick_f rfl (kB rfl)) rfl rfl ?_)
       all_goals (refine rg_y (yv_move (kB rfl)) rfl rfl ?_)
       all_goals (first | refine rg_skip rfl rfl ?_ | refine rg_y (yv_move (kI rfl)) rfl rfl ?_)
       all_goals (first | refine rg_skip rfl rfl ?_ | (first | refine rg_bt (yv_eql rfl rfl) (by omega) rfl rfl ?_ | refine rg_bf (yv_eql rfl rfl) (by omega) rfl rfl ?_ | refine rg_b (yv_eql rfl rfl) rfl rfl (fun hc => ?_) (fun hc => ?_)))
       all_goals (first | refine rg_y (yv_pick_t rfl (kB rfl)) rfl rfl ?_ | refine rg_y (yv_pick_f rfl (kB rfl)) rfl rfl ?_)
       all_goals (refine rg_y (yv_move (kB rfl)) rfl rfl ?_)
       all_goals (first | refine rg_skip rfl rfl ?_ | refine rg_y (yv_move (kI rfl)) rfl rfl ?_)
       all_goals (first | refine rg_skip rfl rfl ?_ | (first | refine rg_bt (yv_eql rfl rfl) (by omega) rfl rfl ?_ | refine rg_bf (yv_eql rfl rfl) (by omega) rfl rfl ?_ | refine rg_b (yv_eql rfl rfl) rfl rfl (fun hc => ?_) (fun hc => ?_)))
       all_goals (first | refine rg_y (yv_pick_t rfl (kB rfl)) rfl rfl ?_ | refine rg_y (yv_pick_f rfl (kB rfl)) rfl rfl ?_)
       all_goals (refine rg_y (yv_assign (kB rfl)) rfl rfl ?_)
       all_goals (first | refine rg_nils [(0, _)] ⟨sB rfl, trivial⟩ ?_ | refine rg_nil ?_)))
  all_goals (refine k_ret1 rfl (.tmp rfl) ⟨rfl, hs.drop⟩)
theorem Divides_g (a b small : Int) (w : World) (ha : I64 a) (hb : I64 b) (hs' : I64 small) : Gives Try.prog 3 [.int .i64 a, .int .i64 b, .int .i64 small] w (.bool true) := by
  have tm := fun x m => tmod_rng x m
  have t1 := tmod_rng small 1000 (by omega)
  have t2 := tmod_rng a 100000 (by omega)
  have t3 := tmod_rng b 500 (by omega)
  have t4 := tmod_rng (b.tmod 500 + 500) 500 (by omega)
  have hd : 1 ≤ 1 + (b.tmod 500 + 500) % 500 ∧ 1 + (b.tmod 500 + 500) % 500 ≤ 500 := by omega
  have q := quot_facts (x := a.tmod 100000) (d := 1 + (b.tmod 500 + 500) % 500) (by omega) (by omega)
  (try unfold Gives); refine calls_enter Try.func3 rfl Try.ntmps3 rfl rfl ?_; have hs := St.refl w
  repeat' (first
    | refine rn_rounds 6 ?_
    | refine rn_seq ?_
    | refine ks_n ?_
    | refine rn_cond_t rfl ?_
    | refine rn_cond_f rfl ?_
    | refine kb_n ?_
    | refine rn_block ?_
    | refine rn_skip ?_
    | refine rn_ret ?_
    | refine ks_r ?_
    | refine rn_exit ?_
    | refine ks_e ?_
    | refine kb_hit ?_
    | refine kb_miss rfl ?_
    | refine kb_r ?_
    | refine kl_e ?_
    | refine kl_r ?_
    | refine kr_n ?_
    | refine rnds_succ ?_
    | refine kr_e ?_
    | refine kr_r ?_
    | (refine rn_reg 0 ?_
       all_goals (refine rg_y (yv_assign (kB rfl)) rfl rfl ?_)
       all_goals (first | refine rg_nils [(0, _), (1, _), (2, _), (60, _), (61, _), (62, _), (65, _), (66, _), (67, _), (70, _), (71, _), (72, _), (97, _), (98, _), (101, _), (102, _), (103, _), (104, _), (105, _), (108, _), (109, _), (110, _), (111, _), (112, _), (113, _), (114, _), (117, _), (118, _), (119, _), (120, _), (121, _), (124, _), (125, _), (126, _), (127, _), (128, _), (129, _), (130, _), (133, _)] ⟨sI rfl, sI rfl, sI rfl, sI rfl, sI rfl, sB rfl, sI rfl, sI rfl, sB rfl, sI rfl, sI rfl, sB rfl, sI rfl, sB rfl, sI rfl, sI rfl, sI rfl, sI rfl, sB rfl, sI rfl, sI rfl, sI rfl, sI rfl, sI rfl, sI rfl, sB rfl, sI rfl, sI rfl, sI rfl, sI rfl, sB rfl, sI rfl, sI rfl, sI rfl, sI rfl, sI rfl, sI rfl, sB rfl, sB rfl, trivial⟩ ?_ | refine rg_nil ?_))
    | (refine rn_reg 1 ?_
       all_goals (refine rg_y (yv_move (kI rfl)) rfl rfl ?_)
       all_goals (refine rg_y (yv_move (kI rfl)) rfl rfl ?_)
       all_goals (first | refine rg_y (yv_rem rfl rfl (by omega)) rfl rfl ?_ | refine rg_y (yv_tmod rfl rfl (by omega)) rfl rfl ?_)
       all_goals ((refine rg_buildSlice hs rfl (o5 rfl) rfl rfl rfl rfl rfl ?_; clear hs; intro g w hs))
       all_goals (refine rg_y (yv_len rfl) rfl rfl ?_)
       all_goals (refine rg_y (yv_move (kI rfl)) rfl rfl ?_)
       all_goals (first | refine rg_nils [(0, _), (1, _), (26, _), (27, _), (28, _), (60, _), (61, _), (62, _), (65, _), (66, _), (67, _), (70, _), (71, _), (72, _), (97, _), (98, _), (101, _), (102, _), (103, _), (104, _), (105, _), (108, _), (109, _), (110, _), (111, _), (112, _), (113, _), (114, _), (117, _), (118, _), (119, _), (120, _), (121, _), (124, _), (125, _), (126, _), (127, _), (128, _), (129, _), (130, _), (133, _)] ⟨sI rfl, sI rfl, sS rfl, sI rfl, sI rfl, sI rfl, sI rfl, sB rfl, sI rfl, sI rfl, sB rfl, sI rfl, sI rfl, sB rfl, sI rfl, sB rfl, sI rfl, sI rfl, sI rfl, sI rfl, sB rfl, sI rfl, sI rfl, sI rfl, sI rfl, sI rfl, sI rfl, sB rfl, sI rfl, sI rfl, sI rfl, sI rfl, sB rfl, sI rfl, sI rfl, sI rfl, sI rfl, sI rfl, sI rfl, sB rfl, sB rfl, trivial⟩ ?_ | refine rg_nil ?_))
    | (refine rn_reg 2 ?_
       all_goals (first | refine rg_bt (yv_lss rfl rfl) (by omega) rfl rfl ?_ | refine rg_bf (yv_lss rfl rfl) (by omega) rfl rfl ?_ | refine rg_b (yv_lss rfl rfl) rfl rfl (fun hc => ?_) (fun hc => ?_))
       all_goals (first | refine rg_nils [(0, _), (1, _), (26, _), (27, _), (28, _), (29, _), (60, _), (61, _), (62, _), (65, _), (66, _), (67, _), (70, _), (71, _), (72, _), (97, _), (98, _), (101, _), (102, _), (103, _), (104, _), (105, _), (108, _), (109, _), (110, _), (111, _), (112, _), (113, _), (114, _), (117, _), (118, _), (119, _), (120, _), (121, _), (124, _), (125, _), (126, _), (127, _), (128, _), (129, _), (130, _), (133, _)] ⟨sI rfl, sI rfl, sS rfl, sI rfl, sI rfl, sT rfl, sI rfl, sI rfl, sB rfl, sI rfl, sI rfl, sB rfl, sI rfl, sI rfl, sB rfl, sI rfl, sB rfl, sI rfl, sI rfl, sI rfl, sI rfl, sB rfl, sI rfl, sI rfl, sI rfl, sI rfl, sI rfl, sI rfl, sB rfl, sI rfl, sI rfl, sI rfl, sI rfl, sB rfl, sI rfl, sI rfl, sI rfl, sI rfl, sI rfl, sI rfl, sB rfl, sB rfl, trivial⟩ ?_ | refine rg_nil ?_))
    | (refine rn_reg 3 ?_
       all_goals (first | refine rg_y (yv_indexAddr rfl rfl hr (by first | rfl | omega) (by omega) (by omega)) rfl rfl ?_ | refine rg_y (yv_indexAddr_blk rfl rfl (by omega)) rfl rfl ?_)
       all_goals (first | refine rg_y (yv_load_ep1 rfl hr (by first | assumption | exact hl) (vI rfl)) rfl rfl ?_ | refine rg_y (yv_load rfl (ld1B (k1 (hs.blkL (i := 0) rfl)) (vI rfl))) rfl rfl ?_ | refine rg_y (yv_load rfl (ld1B (k1 (hs.blkL (i := 1) rfl)) (vI rfl))) rfl rfl ?_ | refine rg_y (yv_load rfl (ld1B (k1 (hs.blkL (i := 2) rfl)) (vI rfl))) rfl rfl ?_ | refine rg_y (yv_load rfl (ld1B (k1 (hs.blkL (i := 3) rfl)) (vI rfl))) rfl rfl ?_ | refine rg_y (yv_load rfl (ld1B (k1 (hs.blkL (i := 4) rfl)) (vI rfl))) rfl rfl ?_ | refine rg_y (yv_load rfl (ld1B (k1 (hs.blkL (i := 5) rfl)) (vI rfl))) rfl rfl ?_ | refine rg_y (yv_load rfl (ld1B (k1 (hs.blkL (i := 6) rfl)) (vI rfl))) rfl rfl ?_ | refine rg_y (yv_load rfl (ld1B (k1 (hs.blkL (i := 7) rfl)) (vI rfl))) rfl rfl ?_ | refine rg_y (yv_load rfl (ld1B (k1 (hs.blkL (i := 8) rfl)) (vI rfl))) rfl rfl ?_ | refine rg_y (yv_load rfl (ld1B (k1 (hs.blkL (i := 9) rfl)) (vI rfl))) rfl rfl ?_)
       all_goals (refine rg_y (yv_assign (kI rfl)) rfl rfl ?_)
       all_goals (first | refine rg_nils [(0, _), (1, _), (8, _), (26, _), (27, _), (28, _), (60, _), (61, _), (62, _), (65, _), (66, _), (67, _), (70, _), (71, _), (72, _), (97, _), (98, _), (101, _), (102, _), (103, _), (104, _), (105, _), (108, _), (109, _), (110, _), (111, _), (112, _), (113, _), (114, _), (117, _), (118, _), (119, _), (120, _), (121, _), (124, _), (125, _), (126, _), (127, _), (128, _), (129, _), (130, _), (133, _)] ⟨sI rfl, sI rfl, sI rfl, sS rfl, sI rfl, sI rfl, sI rfl, sI rfl, sB rfl, sI rfl, sI rfl, sB rfl, sI rfl, sI rfl, sB rfl, sI rfl, sB rfl, sI rfl, sI rfl, sI rfl, sI rfl, sB rfl, sI rfl, sI rfl, sI rfl, sI rfl, sI rfl, sI rfl, sB rfl, sI rfl, sI rfl, sI rfl, sI rfl, sB rfl, sI rfl, sI rfl, sI rfl, sI rfl, sI rfl, sI rfl, sB rfl, sB rfl, trivial⟩ ?_ | refine rg_nil ?_))
    | (refine rn_reg 4 ?_
       all_goals (refine rg_y (yv_move (kI rfl)) rfl rfl ?_)
       all_goals (refine rg_y (yv_move (kI rfl)) rfl rfl ?_)
       all_goals ((refine rg_call0 (Floor_g _ _ _ (by omega)) hs rfl rfl rfl ?_; clear hs; intro w hs))
       all_goals (refine rg_y (yv_move (kT rfl)) rfl rfl ?_)
       all_goals (refine rg_y (yv_extract rfl (vI rfl)) rfl rfl ?_)
       all_goals (refine rg_y (yv_extract rfl (vI rfl)) rfl rfl ?_)
       all_goals (refine rg_y (yv_assign (kI rfl)) rfl rfl ?_)
       all_goals (refine rg_y (yv_assign (kI rfl)) rfl rfl ?_)
       all_goals (first | refine rg_nils [(0, _), (1, _), (8, _), (9, _), (10, _), (26, _), (27, _), (28, _), (60, _), (61, _), (62, _), (65, _), (66, _), (67, _), (70, _), (71, _), (72, _), (97, _), (98, _), (101, _), (102, _), (103, _), (104, _), (105, _), (108, _), (109, _), (110, _), (111, _), (112, _), (113, _), (114, _), (117, _), (118, _), (119, _), (120, _), (121, _), (124, _), (125, _), (126, _), (127, _), (128, _), (129, _), (130, _), (133, _)] ⟨sI rfl, sI rfl, sI rfl, sI rfl, sI rfl, sS rfl, sI rfl, sI rfl, sI rfl, sI rfl, sB rfl, sI rfl, sI rfl, sB rfl, sI rfl, sI rfl, sB rfl, sI rfl, sB rfl, sI rfl, sI rfl, sI rfl, sI rfl, sB rfl, sI rfl, sI rfl, sI rfl, sI rfl, sI rfl, sI rfl, sB rfl, sI rfl, sI rfl, sI rfl, sI rfl, sB rfl, sI rfl, sI rfl, sI rfl, sI rfl, sI rfl, sI rfl, sB rfl, sB rfl, trivial⟩ ?_ | refine rg_nil ?_))
    | (refine rn_reg 5 ?_
       all_goals (refine rg_y (yv_move (kI rfl)) rfl rfl ?_)
       all_goals (refine rg_y (yv_move (kI rfl)) rfl rfl ?_)
       all_goals ((refine rg_call0 (Ceil_g _ _ _ (by omega)) hs rfl rfl rfl ?_; clear hs; intro w hs))
       all_goals (refine rg_y (yv_move (kT rfl)) rfl rfl ?_)
       all_goals (refine rg_y (yv_extract rfl (vI rfl)) rfl rfl ?_)
       all_goals (refine rg_y (yv_extract rfl (vI rfl)) rfl rfl ?_)
       all_goals (refine rg_y (yv_assign (kI rfl)) rfl rfl ?_)
       all_goals (refine rg_y (yv_assign (kI rfl)) rfl rfl ?_)
       all_goals (first | refine rg_nils [(0, _), (1, _), (8, _), (9, _), (10, _), (11, _), (12, _), (26, _), (27, _), (28, _), (60, _), (61, _), (62, _), (65, _), (66, _), (67, _), (70, _), (71, _), (72, _), (97, _), (98, _), (101, _), (102, _), (103, _), (104, _), (105, _), (108, _), (109, _), (110, _), (111, _), (112, _), (113, _), (114, _), (117, _), (118, _), (119, _), (120, _), (121, _), (124, _), (125, _), (126, _), (127, _), (128, _), (129, _), (130, _), (133, _)] ⟨sI rfl, sI rfl, sI rfl, sI rfl, sI rfl, sI rfl, sI rfl, sS rfl, sI rfl, sI rfl, sI rfl, sI rfl, sB rfl, sI rfl, sI rfl, sB rfl, sI rfl, sI rfl, sB rfl, sI rfl, sB rfl, sI rfl, sI rfl, sI rfl, sI rfl, sB rfl, sI rfl, sI rfl, sI rfl, sI rfl, sI rfl, sI rfl, sB rfl, sI rfl, sI rfl, sI rfl, sI rfl, sB rfl, sI rfl, sI rfl, sI rfl, sI rfl, sI rfl, sI rfl, sB rfl, sB rfl, trivial⟩ ?_ | refine rg_nil ?_))
    | (refine rn_reg 6 ?_
       all_goals (refine rg_y (yv_move (kI rfl)) rfl rfl ?_)
       all_goals (refine rg_y (yv_move (kI rfl)) rfl rfl ?_)
       all_goals ((refine rg_call0 (RFloor_g _ _ _ (by omega)) hs rfl rfl rfl ?_; clear hs; intro w hs))
       all_goals (refine rg_y (yv_move (kT rfl)) rfl rfl ?_)
       all_goals (refine rg_y (yv_extract rfl (vI rfl)) rfl rfl ?_)
       all_goals (refine rg_y (yv_extract rfl (vI rfl)) rfl rfl ?_)
       all_goals (refine rg_y (yv_assign (kI rfl)) rfl rfl ?_)
       all_goals (refine rg_y (yv_assign (kI rfl)) rfl rfl ?_)
       all_goals (first | refine rg_nils [(0, _), (1, _), (8, _), (9, _), (10, _), (11, _), (12, _), (13, _), (14, _), (26, _), (27, _), (28, _), (60, _), (61, _), (62, _), (65, _), (66, _), (67, _), (70, _), (71, _), (72, _), (97, _), (98, _), (101, _), (102, _), (103, _), (104, _), (105, _), (108, _), (109, _), (110, _), (111, _), (112, _), (113, _), (114, _), (117, _), (118, _), (119, _), (120, _), (121, _), (124, _), (125, _), (126, _), (127, _), (128, _), (129, _), (130, _), (133, _)] ⟨sI rfl, sI rfl, sI rfl, sI rfl, sI rfl, sI rfl, sI rfl, sI rfl, sI rfl, sS rfl, sI rfl, sI rfl, sI rfl, sI rfl, sB rfl, sI rfl, sI rfl, sB rfl, sI rfl, sI rfl, sB rfl, sI rfl, sB rfl, sI rfl, sI rfl, sI rfl, sI rfl, sB rfl, sI rfl, sI rfl, sI rfl, sI rfl, sI rfl, sI rfl, sB rfl, sI rfl, sI rfl, sI rfl, sI rfl, sB rfl, sI rfl, sI rfl, sI rfl, sI rfl, sI rfl, sI rfl, sB rfl, sB rfl, trivial⟩ ?_ | refine rg_nil ?_))
    | (refine rn_reg 7 ?_
       all_goals (refine rg_y (yv_move (kI rfl)) rfl rfl ?_)
       all_goals (refine rg_y (yv_move (kI rfl)) rfl rfl ?_)
       all_goals ((refine rg_call0 (RCeil_g _ _ _ (by omega)) hs rfl rfl rfl ?_; clear hs; intro w hs))
       all_goals (refine rg_y (yv_move (kT rfl)) rfl rfl ?_)
       all_goals (refine rg_y (yv_extract rfl (vI rfl)) rfl rfl ?_)
       all_goals (refine rg_y (yv_extract rfl (vI rfl)) rfl rfl ?_)
       all_goals (refine rg_y (yv_assign (kI rfl)) rfl rfl ?_)
       all_goals (refine rg_y (yv_assign (kI rfl)) rfl rfl ?_)
       all_goals (first | refine rg_nils [(0, _), (1, _), (9, _), (10, _), (11, _), (12, _), (13, _), (14, _), (15, _), (16, _), (26, _), (27, _), (28, _), (60, _), (61, _), (62, _), (65, _), (66, _), (67, _), (70, _), (71, _), (72, _), (97, _), (98, _), (101, _), (102, _), (103, _), (104, _), (105, _), (108, _), (109, _), (110, _), (111, _), (112, _), (113, _), (114, _), (117, _), (118, _), (119, _), (120, _), (121, _), (124, _), (125, _), (126, _), (127, _), (128, _), (129, _), (130, _), (133, _)] ⟨sI rfl, sI rfl, sI rfl, sI rfl, sI rfl, sI rfl, sI rfl, sI rfl, sI rfl, sI rfl, sS rfl, sI rfl, sI rfl, sI rfl, sI rfl, sB rfl, sI rfl, sI rfl, sB rfl, sI rfl, sI rfl, sB rfl, sI rfl, sB rfl, sI rfl, sI rfl, sI rfl, sI rfl, sB rfl, sI rfl, sI rfl, sI rfl, sI rfl, sI rfl, sI rfl, sB rfl, sI rfl, sI rfl, sI rfl, sI rfl, sB rfl, sI rfl, sI rfl, sI rfl, sI rfl, sI rfl, sI rfl, sB rfl, sB rfl, trivial⟩ ?_ | refine rg_nil ?_))
    | (refine rn_reg 8 ?_
       all_goals (refine rg_y (yv_move (kI rfl)) rfl rfl ?_)
       all_goals (refine rg_y (yv_move (kI rfl)) rfl rfl ?_)
       all_goals (first | refine rg_bt (yv_neq rfl rfl) (by omega) rfl rfl ?_ | refine rg_bf (yv_neq rfl rfl) (by omega) rfl rfl ?_ | refine rg_b (yv_neq rfl rfl) rfl rfl (fun hc => ?_) (fun hc => ?_))
       all_goals (refine rg_y (yv_move (kB rfl)) rfl rfl ?_)
       all_goals (first | refine rg_skip rfl rfl ?_ | refine rg_y (yv_move (kI rfl)) rfl rfl ?_)
       all_goals (first | refine rg_skip rfl rfl ?_ | refine rg_y (yv_move (kI rfl)) rfl rfl ?_)
       all_goals (first | refine rg_skip rfl rfl ?_ | (first | refine rg_bt (yv_neq rfl rfl) (by omega) rfl rfl ?_ | refine rg_bf (yv_neq rfl rfl) (by omega) rfl rfl ?_ | refine rg_b (yv_neq rfl rfl) rfl rfl (fun hc => ?_) (fun hc => ?_)))
       all_goals (first | refine rg_y (yv_pick_t rfl (kB rfl)) rfl rfl ?_ | refine rg_y (yv_pick_f rfl (kB rfl)) rfl rfl ?_)
       all_goals (refine rg_y (yv_move (kB rfl)) rfl rfl ?_)
       all_goals (first | refine rg_skip rfl rfl ?_ | refine rg_y (yv_move (kI rfl)) rfl rfl ?_)
       all_goals (first | refine rg_skip rfl rfl ?_ | refine rg_y (yv_move (kI rfl)) rfl rfl ?_)
       all_goals (first | refine rg_skip rfl rfl ?_ | (first | refine rg_bt (yv_neq rfl rfl) (by omega) rfl rfl ?_ | refine rg_bf (yv_neq rfl rfl) (by omega) rfl rfl ?_ | refine rg_b (yv_neq rfl rfl) rfl rfl (fun hc => ?_) (fun hc => ?_)))
       all_goals (first | refine rg_y (yv_pick_t rfl (kB rfl)) rfl rfl ?_ | refine rg_y (yv_pick_f rfl (kB rfl)) rfl rfl ?_)
       all_goals (refine rg_y (yv_move (kB rfl)) rfl rfl ?_)
       all_goals (first | refine rg_skip rfl rfl ?_ | refine rg_y (yv_move (kI rfl)) rfl rfl ?_)
       all_goals (first | refine rg_skip rfl rfl ?_ | refine rg_y (yv_move (kI rfl)) rfl rfl ?_)
       all_goals (first | refine rg_skip rfl rfl ?_ | (first | refine rg_bt (yv_neq rfl rfl) (by omega) rfl rfl ?_ | refine rg_bf (yv_neq rfl rfl) (by omega) rfl rfl ?_ | refine rg_b (yv_neq rfl rfl) rfl rfl (fun hc => ?_) (fun hc => ?_)))
       all_goals (first | refine rg_y (yv_pick_t rfl (kB rfl)) rfl rfl ?_ | refine rg_y (yv_pick_f rfl (kB rfl)) rfl rfl ?_)
       all_goals (first | refine rg_nils [(0, _), (1, _), (26, _), (27, _), (28, _), (60, _), (61, _), (62, _), (65, _), (66, _), (67, _), (70, _), (71, _), (72, _), (73, _), (97, _), (98, _), (101, _), (102, _), (103, _), (104, _), (105, _), (108, _), (109, _), (110, _), (111, _), (112, _), (113, _), (114, _), (117, _), (118, _), (119, _), (120, _), (121, _), (124, _), (125, _), (126, _), (127, _), (128, _), (129, _), (130, _), (133, _)] ⟨sI rfl, sI rfl, sS rfl, sI rfl, sI rfl, sI rfl, sI rfl, sB rfl, sI rfl, sI rfl, sB rfl, sI rfl, sI rfl, sB rfl, sB rfl, sI rfl, sB rfl, sI rfl, sI rfl, sI rfl, sI rfl, sB rfl, sI rfl, sI rfl, sI rfl, sI rfl, sI rfl, sI rfl, sB rfl, sI rfl, sI rfl, sI rfl, sI rfl, sB rfl, sI rfl, sI rfl, sI rfl, sI rfl, sI rfl, sI rfl, sB rfl, sB rfl, trivial⟩ ?_ | refine rg_nil ?_))
    | (refine rn_reg 9 ?_
       all_goals (refine rg_y (yv_assign (kB rfl)) rfl rfl ?_)
       all_goals (first | refine rg_nils [(6, _)] ⟨sB rfl, trivial⟩ ?_ | refine rg_nil ?_))
    | (refine rn_reg 10 ?_
       all_goals (refine rg_y (yv_add rfl rfl (by omega)) rfl rfl ?_)
       all_goals (refine rg_y (yv_move (kI rfl)) rfl rfl ?_)
       all_goals (first | refine rg_nils [(0, _), (1, _), (26, _), (27, _), (28, _), (60, _), (61, _), (62, _), (65, _), (66, _), (67, _), (70, _), (71, _), (72, _), (97, _), (98, _), (101, _), (102, _), (103, _), (104, _), (105, _), (108, _), (109, _), (110, _), (111, _), (112, _), (113, _), (114, _), (117, _), (118, _), (119, _), (120, _), (121, _), (124, _), (125, _), (126, _), (127, _), (128, _), (129, _), (130, _), (133, _)] ⟨sI rfl, sI rfl, sS rfl, sI rfl, sI rfl, sI rfl, sI rfl, sB rfl, sI rfl, sI rfl, sB rfl, sI rfl, sI rfl, sB rfl, sI rfl, sB rfl, sI rfl, sI rfl, sI rfl, sI rfl, sB rfl, sI rfl, sI rfl, sI rfl, sI rfl, sI rfl, sI rfl, sB rfl, sI rfl, sI rfl, sI rfl, sI rfl, sB rfl, sI rfl, sI rfl, sI rfl, sI rfl, sI rfl, sI rfl, sB rfl, sB rfl, trivial⟩ ?_ | refine rg_nil ?_))
    | (refine rn_reg 11 ?_
       all_goals (refine rg_y (yv_move (kI rfl)) rfl rfl ?_)
       all_goals (first | refine rg_y (yv_rem rfl rfl (by omega)) rfl rfl ?_ | refine rg_y (yv_tmod rfl rfl (by omega)) rfl rfl ?_)
       all_goals (refine rg_y (yv_move (kI rfl)) rfl rfl ?_)
       all_goals (first | refine rg_y (yv_rem rfl rfl (by omega)) rfl rfl ?_ | refine rg_y (yv_tmod rfl rfl (by omega)) rfl rfl ?_)
       all_goals (refine rg_y (yv_add rfl rfl (by omega)) rfl rfl ?_)
       all_goals (first | refine rg_y (yv_rem rfl rfl (by omega)) rfl rfl ?_ | refine rg_y (yv_tmod rfl rfl (by omega)) rfl rfl ?_)
       all_goals (refine rg_y (yv_add rfl rfl (by omega)) rfl rfl ?_)
       all_goals (refine rg_y (yv_assign (kI rfl)) rfl rfl ?_)
       all_goals (refine rg_y (yv_assign (kI rfl)) rfl rfl ?_)
       all_goals (first | refine rg_nils [(17, _), (18, _), (97, _), (98, _), (101, _), (102, _), (103, _), (104, _), (105, _), (108, _), (109, _), (110, _), (111, _), (112, _), (113, _), (114, _), (117, _), (118, _), (119, _), (120, _), (121, _), (124, _), (125, _), (126, _), (127, _), (128, _), (129, _), (130, _), (133, _)] ⟨sI rfl, sI rfl, sI rfl, sB rfl, sI rfl, sI rfl, sI rfl, sI rfl, sB rfl, sI rfl, sI rfl, sI rfl, sI rfl, sI rfl, sI rfl, sB rfl, sI rfl, sI rfl, sI rfl, sI rfl, sB rfl, sI rfl, sI rfl, sI rfl, sI rfl, sI rfl, sI rfl, sB rfl, sB rfl, trivial⟩ ?_ | refine rg_nil ?_))
    | (refine rn_reg 12 ?_
       all_goals (refine rg_y (yv_move (kI rfl)) rfl rfl ?_)
       all_goals (refine rg_y (yv_move (kI rfl)) rfl rfl ?_)
       all_goals ((refine rg_call0 (Floor_g _ _ _ (by omega)) hs rfl rfl rfl ?_; clear hs; intro w hs))
       all_goals (refine rg_y (yv_move (kT rfl)) rfl rfl ?_)
       all_goals (refine rg_y (yv_extract rfl (vI rfl)) rfl rfl ?_)
       all_goals (refine rg_y (yv_extract rfl (vI rfl)) rfl rfl ?_)
       all_goals (refine rg_y (yv_assign (kI rfl)) rfl rfl ?_)
       all_goals (refine rg_y (yv_assign (kI rfl)) rfl rfl ?_)
       all_goals (first | refine rg_nils [(17, _), (18, _), (19, _), (20, _), (97, _), (98, _), (101, _), (102, _), (103, _), (104, _), (105, _), (108, _), (109, _), (110, _), (111, _), (112, _), (113, _), (114, _), (117, _), (118, _), (119, _), (120, _), (121, _), (124, _), (125, _), (126, _), (127, _), (128, _), (129, _), (130, _), (133, _)] ⟨sI rfl, sI rfl, sI rfl, sI rfl, sI rfl, sB rfl, sI rfl, sI rfl, sI rfl, sI rfl, sB rfl, sI rfl, sI rfl, sI rfl, sI rfl, sI rfl, sI rfl, sB rfl, sI rfl, sI rfl, sI rfl, sI rfl, sB rfl, sI rfl, sI rfl, sI rfl, sI rfl, sI rfl, sI rfl, sB rfl, sB rfl, trivial⟩ ?_ | refine rg_nil ?_))
    | (refine rn_reg 13 ?_
       all_goals (refine rg_y (yv_move (kI rfl)) rfl rfl ?_)
       all_goals (refine rg_y (yv_move (kI rfl)) rfl rfl ?_)
       all_goals ((refine rg_call0 (Ceil_g _ _ _ (by omega)) hs rfl rfl rfl ?_; clear hs; intro w hs))
       all_goals (refine rg_y (yv_move (kT rfl)) rfl rfl ?_)
       all_goals (refine rg_y (yv_extract rfl (vI rfl)) rfl rfl ?_)
       all_goals (refine rg_y (yv_extract rfl (vI rfl)) rfl rfl ?_)
       all_goals (refine rg_y (yv_assign (kI rfl)) rfl rfl ?_)
       all_goals (refine rg_y (yv_assign (kI rfl)) rfl rfl ?_)
       all_goals (first | refine rg_nils [(17, _), (18, _), (19, _), (20, _), (21, _), (22, _), (97, _), (98, _), (101, _), (102, _), (103, _), (104, _), (105, _), (108, _), (109, _), (110, _), (111, _), (112, _), (113, _), (114, _), (117, _), (118, _), (119, _), (120, _), (121, _), (124, _), (125, _), (126, _), (127, _), (128, _), (129, _), (130, _), (133, _)] ⟨sI rfl, sI rfl, sI rfl, sI rfl, sI rfl, sI rfl, sI rfl, sB rfl, sI rfl, sI rfl, sI rfl, sI rfl, sB rfl, sI rfl, sI rfl, sI rfl, sI rfl, sI rfl, sI rfl, sB rfl, sI rfl, sI rfl, sI rfl, sI rfl, sB rfl, sI rfl, sI rfl, sI rfl, sI rfl, sI rfl, sI rfl, sB rfl, sB rfl, trivial⟩ ?_ | refine rg_nil ?_))
    | (refine rn_reg 14 ?_
       all_goals (refine rg_y (yv_move (kI rfl)) rfl rfl ?_)
       all_goals (first | refine rg_bt (yv_eql rfl rfl) (by omega) rfl rfl ?_ | refine rg_bf (yv_eql rfl rfl) (by omega) rfl rfl ?_ | refine rg_b (yv_eql rfl rfl) rfl rfl (fun hc => ?_) (fun hc => ?_))
       all_goals (refine rg_y (yv_move (kB rfl)) rfl rfl ?_)
       all_goals (first | refine rg_skip rfl rfl ?_ | refine rg_y (yv_move (kI rfl)) rfl rfl ?_)
       all_goals (first | refine rg_skip rfl rfl ?_ | (first | refine rg_bt (yv_eql rfl rfl) (by omega) rfl rfl ?_ | refine rg_bf (yv_eql rfl rfl) (by omega) rfl rfl ?_ | refine rg_b (yv_eql rfl rfl) rfl rfl (fun hc => ?_) (fun hc => ?_)))
       all_goals (first | refine rg_y (yv_pick_t rfl (kB rfl)) rfl rfl ?_ | refine rg_y (yv_pick_f rfl (kB rfl)) rfl rfl ?_)
       all_goals (refine rg_y (yv_move (kB rfl)) rfl rfl ?_)
       all_goals (first | refine rg_skip rfl rfl ?_ | refine rg_y (yv_move (kI rfl)) rfl rfl ?_)
       all_goals (first | refine rg_skip rfl rfl ?_ | refine rg_y (yv_move (kI rfl)) rfl rfl ?_)
       all_goals (first | refine rg_skip rfl rfl ?_ | refine rg_y (yv_mul rfl rfl (by omega)) rfl rfl ?_)
       all_goals (first | refine rg_skip rfl rfl ?_ | refine rg_y (yv_move (kI rfl)) rfl rfl ?_)
       all_goals (first | refine rg_skip rfl rfl ?_ | (first | refine rg_bt (yv_leq rfl rfl) (by omega) rfl rfl ?_ | refine rg_bf (yv_leq rfl rfl) (by omega) rfl rfl ?_ | refine rg_b (yv_leq rfl rfl) rfl rfl (fun hc => ?_) (fun hc => ?_)))
       all_goals (first | refine rg_y (yv_pick_t rfl (kB rfl)) rfl rfl ?_ | refine rg_y (yv_pick_f rfl (kB rfl)) rfl rfl ?_)
       all_goals (refine rg_y (yv_move (kB rfl)) rfl rfl ?_)
       all_goals (first | refine rg_skip rfl rfl ?_ | refine rg_y (yv_move (kI rfl)) rfl rfl ?_)
       all_goals (first | refine rg_skip rfl rfl ?_ | refine rg_y (yv_move (kI rfl)) rfl rfl ?_)
       all_goals (first | refine rg_skip rfl rfl ?_ | refine rg_y (yv_move (kI rfl)) rfl rfl ?_)
       all_goals (first | refine rg_skip rfl rfl ?_ | refine rg_y (yv_mul rfl rfl (by omega)) rfl rfl ?_)
       all_goals (first | refine rg_skip rfl rfl ?_ | refine rg_y (yv_move (kI rfl)) rfl rfl ?_)
       all_goals (first | refine rg_skip rfl rfl ?_ | refine rg_y (yv_add rfl rfl (by omega)) rfl rfl ?_)
       all_goals (first | refine rg_skip rfl rfl ?_ | (first | refine rg_bt (yv_lss rfl rfl) (by omega) rfl rfl ?_ | refine rg_bf (yv_lss rfl rfl) (by omega) rfl rfl ?_ | refine rg_b (yv_lss rfl rfl) rfl rfl (fun hc => ?_) (fun hc => ?_)))
       all_goals (first | refine rg_y (yv_pick_t rfl (kB rfl)) rfl rfl ?_ | refine rg_y (yv_pick_f rfl (kB rfl)) rfl rfl ?_)
       all_goals (refine rg_y (yv_move (kB rfl)) rfl rfl ?_)
       all_goals (first | refine rg_skip rfl rfl ?_ | refine rg_y (yv_move (kI rfl)) rfl rfl ?_)
       all_goals (first | refine rg_skip rfl rfl ?_ | refine rg_y (yv_move (kI rfl)) rfl rfl ?_)
       all_goals (first | refine rg_skip rfl rfl ?_ | refine rg_y (yv_mul rfl rfl (by omega)) rfl rfl ?_)
       all_goals (first | refine rg_skip rfl rfl ?_ | refine rg_y (yv_move (kI rfl)) rfl rfl ?_)
       all_goals (first | refine rg_skip rfl rfl ?_ | (first | refine rg_bt (yv_geq rfl rfl) (by omega) rfl rfl ?_ | refine rg_bf (yv_geq rfl rfl) (by omega) rfl rfl ?_ | refine rg_b (yv_geq rfl rfl) rfl rfl (fun hc => ?_) (fun hc => ?_)))
       all_goals (first | refine rg_y (yv_pick_t rfl (kB rfl)) rfl rfl ?_ | refine rg_y (yv_pick_f rfl (kB rfl)) rfl rfl ?_)
       all_goals (refine rg_y (yv_move (kB rfl)) rfl rfl ?_)
       all_goals (first | refine rg_skip rfl rfl ?_ | refine rg_y (yv_move (kI rfl)) rfl rfl ?_)
       all_goals (first | refine rg_skip rfl rfl ?_ | refine rg_y (yv_move (kI rfl)) rfl rfl ?_)
       all_goals (first | refine rg_skip rfl rfl ?_ | refine rg_y (yv_move (kI rfl)) rfl rfl ?_)
       all_goals (first | refine rg_skip rfl rfl ?_ | refine rg_y (yv_mul rfl rfl (by omega)) rfl rfl ?_)
       all_goals (first | refine rg_skip rfl rfl ?_ | refine rg_y (yv_move (kI rfl)) rfl rfl ?_)
       all_goals (first | refine rg_skip rfl rfl ?_ | refine rg_y (yv_sub rfl rfl (by omega)) rfl rfl ?_)
       all_goals (first | refine rg_skip rfl rfl ?_ | (first | refine rg_bt (yv_gtr rfl rfl) (by omega) rfl rfl ?_ | refine rg_bf (yv_gtr rfl rfl) (by omega) rfl rfl ?_ | refine rg_b (yv_gtr rfl rfl) rfl rfl (fun hc => ?_) (fun hc => ?_)))
       all_goals (first | refine rg_y (yv_pick_t rfl (kB rfl)) rfl rfl ?_ | refine rg_y (yv_pick_f rfl (kB rfl)) rfl rfl ?_)
       all_goals (refine rg_y (yv_move (kB rfl)) rfl rfl ?_)
       all_goals (first | refine rg_skip rfl rfl ?_ | (refine rg_call0 (sane01_g _) hs rfl rfl rfl ?_; clear hs; intro w hs))
       all_goals (first | refine rg_y (yv_pick_t rfl (kB rfl)) rfl rfl ?_ | refine rg_y (yv_pick_f rfl (kB rfl)) rfl rfl ?_)
       all_goals (refine rg_y (yv_assign (kB rfl)) rfl rfl ?_)
       all_goals (first | refine rg_nils [(6, _)] ⟨sB rfl, trivial⟩ ?_ | refine rg_nil ?_)))
  all_goals (refine k_ret1 rfl (.tmp rfl) ⟨rfl, hs.drop⟩)
end Go.Proofs.Ytbbcpffbdadnoaa
