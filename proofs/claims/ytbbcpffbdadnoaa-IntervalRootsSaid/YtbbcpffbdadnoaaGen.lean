/-
  Contracts of package humpgen: the maker of numbers, and what it makes of them.
-/
import Derived.Test.YtbbcpffbdadnoaaIvA
namespace Go.Proofs.Ytbbcpffbdadnoaa
set_option linter.unusedVariables false
set_option linter.unusedSimpArgs false
set_option maxHeartbeats 2000000
set_option maxRecDepth 10000
open Go.Hy Go.Hy.Iv

abbrev encI (n : Int) : List Value := [.int .i64 n]
theorem encI_len (a : Int) : (encI a).length = 1 := rfl
abbrev pv (g : Nat) : Value := .pointer (some ⟨g, 0, none⟩)
/-- The block of a maker: its list and its counter. -/
abbrev mkb (bk : Nat) (A : Option Addr) (cap : Nat) (l : List Int) (c : Int) : Res := .blk bk 51 [.slice A l.length cap, .int .i64 c]
/-- What a maker leans on in a world. -/
structure Mk (w : World) (bk : Nat) (A : Option Addr) (cap : Nat) (l : List Int) (c : Int) : Prop where
  b : Blk w bk 51 [.slice A l.length cap, .int .i64 c]
  r : Rd w A 1 encI l
  o : 0 < l.length → Off A bk
  c0 : 0 ≤ c
  c1 : c ≤ 1000000000000000
theorem Mk.st {w : World} {bk : Nat} {A : Option Addr} {cap : Nat} {l : List Int} {c : Int} (h : Mk w bk A cap l c) : St w w [mkb bk A cap l c] [] := by
  have := h.b
  unfold Blk at this
  exact St.init w _ (by intro r hr; simp only [List.mem_singleton] at hr; subst hr; exact this) (List.pairwise_singleton _ _)
theorem tmod_rng (x m : Int) (h : 1 ≤ m) : -m < x.tmod m ∧ x.tmod m < m := by
  obtain ⟨_, h2⟩ := tdiv_pos x m
  have h3 := Int.emod_nonneg x (b := m) (by omega)
  have h4 := Int.emod_lt_of_pos x (b := m) (by omega)
  have h5 := Int.emod_nonneg (-x) (b := m) (by omega)
  have h6 := Int.emod_lt_of_pos (-x) (b := m) (by omega)
  rw [h2]
  split <;> omega
/-- What a step of the maker leaves. -/
abbrev Step (w : World) (bk : Nat) (A : Option Addr) (cap : Nat) (l : List Int) (c : Int) (w' : World) : Prop := St w w' [mkb bk A cap l c] []

section
variable {bk : Nat} {A : Option Addr} {cap : Nat} {l : List Int} {c : Int} {w : World}
theorem Next_c {m : Int} (hk : Mk w bk A cap l c) (hm : 1 ≤ m ∧ m ≤ 1000000000000) :
    Calls Try.prog 38 [pv bk, .int .i64 m].toArray w fun e w' => ∃ r : Int, (0 ≤ r ∧ r < m) ∧ e = .returned (.int .i64 r) ∧ Step w bk A cap l (c + 1) w' := by
  obtain ⟨hb, hr, ho, c0, c1⟩ := hk
  have hs0 : St w w [mkb bk A cap l c] [] := Mk.st ⟨hb, hr, ho, c0, c1⟩
  have hlm := hr.max
  have tm := fun x => tmod_rng x m hm.1
  by_cases hl : 0 < l.length
  · have hz0 := Int.emod_nonneg c (b := (l.length : Int)) (by omega)
    have hz1 := Int.emod_lt_of_pos c (b := (l.length : Int)) (by omega)
    obtain ⟨z, hl⟩ : ∃ z, l[(c % (l.length : Int)).toNat]? = some z := ⟨_, List.getElem?_eq_getElem (by omega)⟩
    have tz := tm (IntKind.i64.wrap (z + IntKind.i64.wrap (c / (l.length : Int) * 7919)))
    refine calls_enter Try.func38 rfl Try.ntmps38 rfl rfl ?_
    have hs := hs0
    clear hs0
    repeat' (first
      | refine rn_seq ?_
      | refine ks_n ?_
      | refine rn_cond_t rfl ?_
      | refine rn_cond_f rfl ?_
      | refine kb_n ?_
      | refine rn_block ?_
      | refine rn_skip ?_
      | refine rn_ret ?_
      | refine ks_r ?_
      | refine rn_exit ?_
      | refine ks_e ?_
      | refine kb_hit ?_
      | refine kb_miss rfl ?_
      | refine kb_r ?_
      | refine kl_e ?_
      | refine kl_r ?_
      | refine kr_n ?_
      | refine rnds_succ ?_
      | refine kr_e ?_
      | refine kr_r ?_
      | (refine rn_reg 0 ?_
         all_goals (refine rg_y (yv_assign (kI rfl)) rfl rfl ?_)
         all_goals (first | refine rg_nils [(0, _), (1, _)] ⟨sP rfl, sI rfl, trivial⟩ ?_ | refine rg_nil ?_))
      | (refine rn_reg 1 ?_
         all_goals (refine rg_y (yv_assign (kI rfl)) rfl rfl ?_)
         all_goals (first | refine rg_nils [(0, _), (1, _), (5, _)] ⟨sP rfl, sI rfl, sI rfl, trivial⟩ ?_ | refine rg_nil ?_))
      | (refine rn_reg 2 ?_
         all_goals (first | refine rg_y (yv_move (kE rfl)) rfl rfl ?_ | refine rg_y (yv_move (kP rfl)) rfl rfl ?_)
         all_goals (refine rg_y (yv_nil rfl) rfl rfl ?_)
         all_goals (refine rg_y (yv_fieldAddr rfl) rfl rfl ?_)
         all_goals (refine rg_y (yv_load rfl (ld1B (k1 (hs.blkM (i := 0) rfl)) (vS rfl))) rfl rfl ?_)
         all_goals (refine rg_y (yv_len rfl) rfl rfl ?_)
         all_goals (first | refine rg_bt (yv_gtr rfl rfl) (by omega) rfl rfl ?_ | refine rg_bf (yv_gtr rfl rfl) (by omega) rfl rfl ?_ | refine rg_b (yv_gtr rfl rfl) rfl rfl (fun hc => ?_) (fun hc => ?_))
         all_goals (first | refine rg_nils [(0, _), (1, _), (5, _), (11, _)] ⟨sP rfl, sI rfl, sI rfl, sB rfl, trivial⟩ ?_ | refine rg_nil ?_))
      | (refine rn_draw_st 3 [0, 1, 2, 3, 4, 5, 6, 7, 8, 9, 10, 11, 12, 13, 14, 15, 16, 17, 18, 19, 20, 21, 22, 23, 24, 25, 26, 27, 28] [(0, true), (1, true), (2, true), (3, true), (4, true), (5, true), (6, true), (7, true), (8, true), (9, true), (10, true), (11, true), (12, true), (13, true), (14, true), (15, true), (16, true), (17, true), (18, true), (19, true), (20, true), (21, true), (22, true), (23, true), (24, true), (25, true), (26, true), (27, true), (28, true)] hs (by repeat (first | exact np_ret | refine np_seq ?_ | refine np_blk ?_ | refine np_loop ?_ | refine np_rnd ?_)) (by kernel_rfl) rfl (by kernel_rfl) ?_; clear hs; intro w hs
         all_goals (first | (refine dr_y rfl (fun w hs => yv_move (kE rfl)) (by first | exact hs | exact hs.tail | exact hs.tail.tail | exact hs.tail.tail.tail) rfl rfl ?_; intro w hg; replace hs := hs.call0 hg; clear hg) | (refine dr_y rfl (fun w hs => yv_move (kP rfl)) (by first | exact hs | exact hs.tail | exact hs.tail.tail | exact hs.tail.tail.tail) rfl rfl ?_; intro w hg; replace hs := hs.call0 hg; clear hg))
         all_goals ((refine dr_y rfl (fun w hs => yv_nil rfl) (by first | exact hs | exact hs.tail | exact hs.tail.tail | exact hs.tail.tail.tail) rfl rfl ?_; intro w hg; replace hs := hs.call0 hg; clear hg))
         all_goals ((refine dr_y rfl (fun w hs => yv_fieldAddr rfl) (by first | exact hs | exact hs.tail | exact hs.tail.tail | exact hs.tail.tail.tail) rfl rfl ?_; intro w hg; replace hs := hs.call0 hg; clear hg))
         all_goals ((refine dr_y rfl (fun w hs => yv_load rfl (ld1B (k1 (hs.blkM (i := 0) rfl)) (vS rfl))) (by first | exact hs | exact hs.tail | exact hs.tail.tail | exact hs.tail.tail.tail) rfl rfl ?_; intro w hg; replace hs := hs.call0 hg; clear hg))
         all_goals (first | (refine dr_y rfl (fun w hs => yv_move (kE rfl)) (by first | exact hs | exact hs.tail | exact hs.tail.tail | exact hs.tail.tail.tail) rfl rfl ?_; intro w hg; replace hs := hs.call0 hg; clear hg) | (refine dr_y rfl (fun w hs => yv_move (kP rfl)) (by first | exact hs | exact hs.tail | exact hs.tail.tail | exact hs.tail.tail.tail) rfl rfl ?_; intro w hg; replace hs := hs.call0 hg; clear hg))
         all_goals ((refine dr_y rfl (fun w hs => yv_nil rfl) (by first | exact hs | exact hs.tail | exact hs.tail.tail | exact hs.tail.tail.tail) rfl rfl ?_; intro w hg; replace hs := hs.call0 hg; clear hg))
         all_goals ((refine dr_y rfl (fun w hs => yv_fieldAddr rfl) (by first | exact hs | exact hs.tail | exact hs.tail.tail | exact hs.tail.tail.tail) rfl rfl ?_; intro w hg; replace hs := hs.call0 hg; clear hg))
         all_goals ((refine dr_y rfl (fun w hs => yv_load rfl (ld1B (k1 (hs.blkM (i := 0) rfl)) (vI rfl))) (by first | exact hs | exact hs.tail | exact hs.tail.tail | exact hs.tail.tail.tail) rfl rfl ?_; intro w hg; replace hs := hs.call0 hg; clear hg))
         all_goals (first | (refine dr_y rfl (fun w hs => yv_move (kE rfl)) (by first | exact hs | exact hs.tail | exact hs.tail.tail | exact hs.tail.tail.tail) rfl rfl ?_; intro w hg; replace hs := hs.call0 hg; clear hg) | (refine dr_y rfl (fun w hs => yv_move (kP rfl)) (by first | exact hs | exact hs.tail | exact hs.tail.tail | exact hs.tail.tail.tail) rfl rfl ?_; intro w hg; replace hs := hs.call0 hg; clear hg))
         all_goals ((refine dr_y rfl (fun w hs => yv_nil rfl) (by first | exact hs | exact hs.tail | exact hs.tail.tail | exact hs.tail.tail.tail) rfl rfl ?_; intro w hg; replace hs := hs.call0 hg; clear hg))
         all_goals ((refine dr_y rfl (fun w hs => yv_fieldAddr rfl) (by first | exact hs | exact hs.tail | exact hs.tail.tail | exact hs.tail.tail.tail) rfl rfl ?_; intro w hg; replace hs := hs.call0 hg; clear hg))
         all_goals ((refine dr_y rfl (fun w hs => yv_load rfl (ld1B (k1 (hs.blkM (i := 0) rfl)) (vS rfl))) (by first | exact hs | exact hs.tail | exact hs.tail.tail | exact hs.tail.tail.tail) rfl rfl ?_; intro w hg; replace hs := hs.call0 hg; clear hg))
         all_goals ((refine dr_y rfl (fun w hs => yv_len rfl) (by first | exact hs | exact hs.tail | exact hs.tail.tail | exact hs.tail.tail.tail) rfl rfl ?_; intro w hg; replace hs := hs.call0 hg; clear hg))
         all_goals (first | (refine dr_y rfl (fun w hs => yv_rem rfl rfl (by omega)) (by first | exact hs | exact hs.tail | exact hs.tail.tail | exact hs.tail.tail.tail) rfl rfl ?_; intro w hg; replace hs := hs.call0 hg; clear hg) | (refine dr_y rfl (fun w hs => yv_tmod rfl rfl (by omega)) (by first | exact hs | exact hs.tail | exact hs.tail.tail | exact hs.tail.tail.tail) rfl rfl ?_; intro w hg; replace hs := hs.call0 hg; clear hg))
         all_goals (first | (refine dr_y rfl (fun w hs => yv_indexAddr rfl rfl (hr.stM (by decide) ho hs) (by first | rfl | omega) (by omega) (by omega)) (by first | exact hs | exact hs.tail | exact hs.tail.tail | exact hs.tail.tail.tail) rfl rfl ?_; intro w hg; replace hs := hs.call0 hg; clear hg) | (refine dr_y rfl (fun w hs => yv_indexAddr rfl rfl hr (by first | rfl | omega) (by omega) (by omega)) (by first | exact hs | exact hs.tail | exact hs.tail.tail | exact hs.tail.tail.tail) rfl rfl ?_; intro w hg; replace hs := hs.call0 hg; clear hg) | (refine dr_y rfl (fun w hs => yv_indexAddr_blk rfl rfl (by omega)) (by first | exact hs | exact hs.tail | exact hs.tail.tail | exact hs.tail.tail.tail) rfl rfl ?_; intro w hg; replace hs := hs.call0 hg; clear hg))
         all_goals (first | (refine dr_y rfl (fun w hs => yv_load_ep1 rfl (hr.stM (by decide) ho hs) (by first | assumption | exact hl) (vI rfl)) (by first | exact hs | exact hs.tail | exact hs.tail.tail | exact hs.tail.tail.tail) rfl rfl ?_; intro w hg; replace hs := hs.call0 hg; clear hg) | (refine dr_y rfl (fun w hs => yv_load_ep1 rfl hr (by first | assumption | exact hl) (vI rfl)) (by first | exact hs | exact hs.tail | exact hs.tail.tail | exact hs.tail.tail.tail) rfl rfl ?_; intro w hg; replace hs := hs.call0 hg; clear hg) | (refine dr_y rfl (fun w hs => yv_load rfl (ld1B (k1 (hs.blkM (i := 0) rfl)) (vI rfl))) (by first | exact hs | exact hs.tail | exact hs.tail.tail | exact hs.tail.tail.tail) rfl rfl ?_; intro w hg; replace hs := hs.call0 hg; clear hg))
         all_goals (first | (refine dr_y rfl (fun w hs => yv_move (kE rfl)) (by first | exact hs | exact hs.tail | exact hs.tail.tail | exact hs.tail.tail.tail) rfl rfl ?_; intro w hg; replace hs := hs.call0 hg; clear hg) | (refine dr_y rfl (fun w hs => yv_move (kP rfl)) (by first | exact hs | exact hs.tail | exact hs.tail.tail | exact hs.tail.tail.tail) rfl rfl ?_; intro w hg; replace hs := hs.call0 hg; clear hg))
         all_goals ((refine dr_y rfl (fun w hs => yv_nil rfl) (by first | exact hs | exact hs.tail | exact hs.tail.tail | exact hs.tail.tail.tail) rfl rfl ?_; intro w hg; replace hs := hs.call0 hg; clear hg))
         all_goals ((refine dr_y rfl (fun w hs => yv_fieldAddr rfl) (by first | exact hs | exact hs.tail | exact hs.tail.tail | exact hs.tail.tail.tail) rfl rfl ?_; intro w hg; replace hs := hs.call0 hg; clear hg))
         all_goals ((refine dr_y rfl (fun w hs => yv_load rfl (ld1B (k1 (hs.blkM (i := 0) rfl)) (vI rfl))) (by first | exact hs | exact hs.tail | exact hs.tail.tail | exact hs.tail.tail.tail) rfl rfl ?_; intro w hg; replace hs := hs.call0 hg; clear hg))
         all_goals (first | (refine dr_y rfl (fun w hs => yv_move (kE rfl)) (by first | exact hs | exact hs.tail | exact hs.tail.tail | exact hs.tail.tail.tail) rfl rfl ?_; intro w hg; replace hs := hs.call0 hg; clear hg) | (refine dr_y rfl (fun w hs => yv_move (kP rfl)) (by first | exact hs | exact hs.tail | exact hs.tail.tail | exact hs.tail.tail.tail) rfl rfl ?_; intro w hg; replace hs := hs.call0 hg; clear hg))
         all_goals ((refine dr_y rfl (fun w hs => yv_nil rfl) (by first | exact hs | exact hs.tail | exact hs.tail.tail | exact hs.tail.tail.tail) rfl rfl ?_; intro w hg; replace hs := hs.call0 hg; clear hg))
         all_goals ((refine dr_y rfl (fun w hs => yv_fieldAddr rfl) (by first | exact hs | exact hs.tail | exact hs.tail.tail | exact hs.tail.tail.tail) rfl rfl ?_; intro w hg; replace hs := hs.call0 hg; clear hg))
         all_goals ((refine dr_y rfl (fun w hs => yv_load rfl (ld1B (k1 (hs.blkM (i := 0) rfl)) (vS rfl))) (by first | exact hs | exact hs.tail | exact hs.tail.tail | exact hs.tail.tail.tail) rfl rfl ?_; intro w hg; replace hs := hs.call0 hg; clear hg))
         all_goals ((refine dr_y rfl (fun w hs => yv_len rfl) (by first | exact hs | exact hs.tail | exact hs.tail.tail | exact hs.tail.tail.tail) rfl rfl ?_; intro w hg; replace hs := hs.call0 hg; clear hg))
         all_goals (first | (refine dr_y rfl (fun w hs => yv_quo rfl rfl (by omega)) (by first | exact hs | exact hs.tail | exact hs.tail.tail | exact hs.tail.tail.tail) rfl rfl ?_; intro w hg; replace hs := hs.call0 hg; clear hg) | (refine dr_y rfl (fun w hs => yv_tdiv rfl rfl (by omega) (by omega) (by omega)) (by first | exact hs | exact hs.tail | exact hs.tail.tail | exact hs.tail.tail.tail) rfl rfl ?_; intro w hg; replace hs := hs.call0 hg; clear hg))
         all_goals ((refine dr_y rfl (fun w hs => yv_mul_w rfl rfl) (by first | exact hs | exact hs.tail | exact hs.tail.tail | exact hs.tail.tail.tail) rfl rfl ?_; intro w hg; replace hs := hs.call0 hg; clear hg))
         all_goals ((refine dr_y rfl (fun w hs => yv_add_w rfl rfl) (by first | exact hs | exact hs.tail | exact hs.tail.tail | exact hs.tail.tail.tail) rfl rfl ?_; intro w hg; replace hs := hs.call0 hg; clear hg))
         all_goals ((refine dr_y rfl (fun w hs => yv_assign (kI rfl)) (by first | exact hs | exact hs.tail | exact hs.tail.tail | exact hs.tail.tail.tail) rfl rfl ?_; intro w hg; replace hs := hs.call0 hg; clear hg))
         all_goals (first | refine dr_nils [(0, _), (1, _), (5, _)] ⟨sP rfl, sI rfl, sI rfl, trivial⟩ ?_ | refine dr_nil ?_))
      | (refine rn_reg 4 ?_
         all_goals (first | refine rg_y (yv_move (kE rfl)) rfl rfl ?_ | refine rg_y (yv_move (kP rfl)) rfl rfl ?_)
         all_goals (refine rg_y (yv_nil rfl) rfl rfl ?_)
         all_goals (refine rg_y (yv_fieldAddr rfl) rfl rfl ?_)
         all_goals (refine rg_y (yv_load rfl (ld1B (k1 (hs.blkM (i := 0) rfl)) (vI rfl))) rfl rfl ?_)
         all_goals (refine rg_y (yv_add rfl rfl (by omega)) rfl rfl ?_)
         all_goals (refine rg_y (yv_nil rfl) rfl rfl ?_)
         all_goals (refine rg_y (yv_fieldAddr rfl) rfl rfl ?_)
         all_goals ((refine rg_storeM 0 hs rfl rfl (kI rfl) (l1 rfl) rfl rfl rfl rfl ?_; clear hs; intro w hs; simp only [putCells, List.take_succ_cons, List.take_zero, List.take_nil, List.drop_succ_cons, List.drop_zero, List.drop_nil, List.cons_append, List.nil_append, List.append_nil, List.length_cons, List.length_nil, Nat.reduceAdd, Nat.add_zero, Nat.zero_add, List.set_cons_zero, List.set_cons_succ] at hs))
         all_goals (first | refine rg_nils [(1, _), (5, _)] ⟨sI rfl, sI rfl, trivial⟩ ?_ | refine rg_nil ?_))
      | (refine rn_reg 5 ?_
         all_goals (refine rg_y (yv_move (kI rfl)) rfl rfl ?_)
         all_goals (refine rg_y (yv_move (kI rfl)) rfl rfl ?_)
         all_goals (refine rg_y (yv_tmod rfl rfl (by omega)) rfl rfl ?_)
         all_goals (refine rg_y (yv_assign (kI rfl)) rfl rfl ?_)
         all_goals (first | refine rg_nils [(1, _), (5, _)] ⟨sI rfl, sI rfl, trivial⟩ ?_ | refine rg_nil ?_))
      | (refine rn_reg 6 ?_
         all_goals (refine rg_y (yv_move (kI rfl)) rfl rfl ?_)
         all_goals (first | refine rg_bt (yv_lss rfl rfl) (by omega) rfl rfl ?_ | refine rg_bf (yv_lss rfl rfl) (by omega) rfl rfl ?_ | refine rg_b (yv_lss rfl rfl) rfl rfl (fun hc => ?_) (fun hc => ?_))
         all_goals (first | refine rg_nils [(1, _), (5, _), (51, _)] ⟨sI rfl, sI rfl, sB rfl, trivial⟩ ?_ | refine rg_nil ?_))
      | (refine rn_reg 7 ?_
         all_goals (refine rg_y (yv_move (kI rfl)) rfl rfl ?_)
         all_goals (refine rg_y (yv_move (kI rfl)) rfl rfl ?_)
         all_goals (refine rg_y (yv_add rfl rfl (by omega)) rfl rfl ?_)
         all_goals (refine rg_y (yv_assign (kI rfl)) rfl rfl ?_)
         all_goals (first | refine rg_nils [(5, _)] ⟨sI rfl, trivial⟩ ?_ | refine rg_nil ?_))
      | (refine rn_reg 8 ?_
         all_goals (refine rg_y (yv_move (kI rfl)) rfl rfl ?_)
         all_goals (refine rg_y (yv_assign (kI rfl)) rfl rfl ?_)
         all_goals (first | refine rg_nils [(4, _)] ⟨sI rfl, trivial⟩ ?_ | refine rg_nil ?_)))
    all_goals (refine k_ret1 rfl (.tmp rfl) ⟨_, ?_, rfl, hs⟩; omega)
  · have tz := tm 0
    refine calls_enter Try.func38 rfl Try.ntmps38 rfl rfl ?_
    have hs := hs0
    clear hs0
    repeat' (first
      | refine rn_seq ?_
      | refine ks_n ?_
      | refine rn_cond_t rfl ?_
      | refine rn_cond_f rfl ?_
      | refine kb_n ?_
      | refine rn_block ?_
      | refine rn_skip ?_
      | refine rn_ret ?_
      | refine ks_r ?_
      | refine rn_exit ?_
      | refine ks_e ?_
      | refine kb_hit ?_
      | refine kb_miss rfl ?_
      | refine kb_r ?_
      | refine kl_e ?_
      | refine kl_r ?_
      | refine kr_n ?_
      | refine rnds_succ ?_
      | refine kr_e ?_
      | refine kr_r ?_
      | (refine rn_reg 0 ?_
         all_goals (refine rg_y (yv_assign (kI rfl)) rfl rfl ?_)
         all_goals (first | refine rg_nils [(0, _), (1, _)] ⟨sP rfl, sI rfl, trivial⟩ ?_ | refine rg_nil ?_))
      | (refine rn_reg 1 ?_
         all_goals (refine rg_y (yv_assign (kI rfl)) rfl rfl ?_)
         all_goals (first | refine rg_nils [(0, _), (1, _), (5, _)] ⟨sP rfl, sI rfl, sI rfl, trivial⟩ ?_ | refine rg_nil ?_))
      | (refine rn_reg 2 ?_
         all_goals (first | refine rg_y (yv_move (kE rfl)) rfl rfl ?_ | refine rg_y (yv_move (kP rfl)) rfl rfl ?_)
         all_goals (refine rg_y (yv_nil rfl) rfl rfl ?_)
         all_goals (refine rg_y (yv_fieldAddr rfl) rfl rfl ?_)
         all_goals (refine rg_y (yv_load rfl (ld1B (k1 (hs.blkM (i := 0) rfl)) (vS rfl))) rfl rfl ?_)
         all_goals (refine rg_y (yv_len rfl) rfl rfl ?_)
         all_goals (first | refine rg_bt (yv_gtr rfl rfl) (by omega) rfl rfl ?_ | refine rg_bf (yv_gtr rfl rfl) (by omega) rfl rfl ?_ | refine rg_b (yv_gtr rfl rfl) rfl rfl (fun hc => ?_) (fun hc => ?_))
         all_goals (first | refine rg_nils [(0, _), (1, _), (5, _), (11, _)] ⟨sP rfl, sI rfl, sI rfl, sB rfl, trivial⟩ ?_ | refine rg_nil ?_))
      | exfalso; omega
      | (refine rn_reg 4 ?_
         all_goals (first | refine rg_y (yv_move (kE rfl)) rfl rfl ?_ | refine rg_y (yv_move (kP rfl)) rfl rfl ?_)
         all_goals (refine rg_y (yv_nil rfl) rfl rfl ?_)
         all_goals (refine rg_y (yv_fieldAddr rfl) rfl rfl ?_)
         all_goals (refine rg_y (yv_load rfl (ld1B (k1 (hs.blkM (i := 0) rfl)) (vI rfl))) rfl rfl ?_)
         all_goals (refine rg_y (yv_add rfl rfl (by omega)) rfl rfl ?_)
         all_goals (refine rg_y (yv_nil rfl) rfl rfl ?_)
         all_goals (refine rg_y (yv_fieldAddr rfl) rfl rfl ?_)
         all_goals ((refine rg_storeM 0 hs rfl rfl (kI rfl) (l1 rfl) rfl rfl rfl rfl ?_; clear hs; intro w hs; simp only [putCells, List.take_succ_cons, List.take_zero, List.take_nil, List.drop_succ_cons, List.drop_zero, List.drop_nil, List.cons_append, List.nil_append, List.append_nil, List.length_cons, List.length_nil, Nat.reduceAdd, Nat.add_zero, Nat.zero_add, List.set_cons_zero, List.set_cons_succ] at hs))
         all_goals (first | refine rg_nils [(1, _), (5, _)] ⟨sI rfl, sI rfl, trivial⟩ ?_ | refine rg_nil ?_))
      | (refine rn_reg 5 ?_
         all_goals (refine rg_y (yv_move (kI rfl)) rfl rfl ?_)
         all_goals (refine rg_y (yv_move (kI rfl)) rfl rfl ?_)
         all_goals (refine rg_y (yv_tmod rfl rfl (by omega)) rfl rfl ?_)
         all_goals (refine rg_y (yv_assign (kI rfl)) rfl rfl ?_)
         all_goals (first | refine rg_nils [(1, _), (5, _)] ⟨sI rfl, sI rfl, trivial⟩ ?_ | refine rg_nil ?_))
      | (refine rn_reg 6 ?_
         all_goals (refine rg_y (yv_move (kI rfl)) rfl rfl ?_)
         all_goals (first | refine rg_bt (yv_lss rfl rfl) (by omega) rfl rfl ?_ | refine rg_bf (yv_lss rfl rfl) (by omega) rfl rfl ?_ | refine rg_b (yv_lss rfl rfl) rfl rfl (fun hc => ?_) (fun hc => ?_))
         all_goals (first | refine rg_nils [(1, _), (5, _), (51, _)] ⟨sI rfl, sI rfl, sB rfl, trivial⟩ ?_ | refine rg_nil ?_))
      | (refine rn_reg 7 ?_
         all_goals (refine rg_y (yv_move (kI rfl)) rfl rfl ?_)
         all_goals (refine rg_y (yv_move (kI rfl)) rfl rfl ?_)
         all_goals (refine rg_y (yv_add rfl rfl (by omega)) rfl rfl ?_)
         all_goals (refine rg_y (yv_assign (kI rfl)) rfl rfl ?_)
         all_goals (first | refine rg_nils [(5, _)] ⟨sI rfl, trivial⟩ ?_ | refine rg_nil ?_))
      | (refine rn_reg 8 ?_
         all_goals (refine rg_y (yv_move (kI rfl)) rfl rfl ?_)
         all_goals (refine rg_y (yv_assign (kI rfl)) rfl rfl ?_)
         all_goals (first | refine rg_nils [(4, _)] ⟨sI rfl, trivial⟩ ?_ | refine rg_nil ?_)))
    all_goals (refine k_ret1 rfl (.tmp rfl) ⟨_, ?_, rfl, hs⟩; omega)
theorem From_c {a b : Int} (hk : Mk w bk A cap l c) (hm : c ≤ 100000000000000 ∧ -100000000000 ≤ a ∧ a ≤ b ∧ b ≤ 100000000000) :
    Calls Try.prog 21 [pv bk, .int .i64 a, .int .i64 b].toArray w fun e w' => ∃ r : Int, (a ≤ r ∧ r ≤ b) ∧ e = .returned (.int .i64 r) ∧ Step w bk A cap l (c + 1) w' := by
  have hs0 := hk.st
  obtain ⟨hb, hr, ho, c0, c1⟩ := hk
  refine calls_enter Try.func21 rfl Try.ntmps21 rfl rfl ?_
  have hs := hs0
  clear hs0
  repeat' (first
    | refine rn_seq ?_
    | refine ks_n ?_
    | refine rn_cond_t rfl ?_
    | refine rn_cond_f rfl ?_
    | refine kb_n ?_
    | refine rn_block ?_
    | refine rn_skip ?_
    | refine rn_ret ?_
    | refine ks_r ?_
    | refine rn_exit ?_
    | refine ks_e ?_
    | refine kb_hit ?_
    | refine kb_miss rfl ?_
    | refine kb_r ?_
    | refine kl_e ?_
    | refine kl_r ?_
    | refine kr_n ?_
    | refine rnds_succ ?_
    | refine kr_e ?_
    | refine kr_r ?_
    | (refine rn_reg 0 ?_
       all_goals (refine rg_y (yv_assign (kI rfl)) rfl rfl ?_)
       all_goals (first | refine rg_nils [(0, _), (1, _), (2, _)] ⟨sP rfl, sI rfl, sI rfl, trivial⟩ ?_ | refine rg_nil ?_))
    | (refine rn_reg 1 ?_
       all_goals (refine rg_y (yv_move (kI rfl)) rfl rfl ?_)
       all_goals (first | refine rg_y (yv_move (kE rfl)) rfl rfl ?_ | refine rg_y (yv_move (kP rfl)) rfl rfl ?_)
       all_goals (refine rg_y (yv_move (kI rfl)) rfl rfl ?_)
       all_goals (refine rg_y (yv_move (kI rfl)) rfl rfl ?_)
       all_goals (refine rg_y (yv_sub rfl rfl (by omega)) rfl rfl ?_)
       all_goals (refine rg_y (yv_add rfl rfl (by omega)) rfl rfl ?_)
       all_goals ((refine rg_call (Next_c ⟨hs.blkM (i := 0) rfl, hr.stM (by decide) ho hs, ho, by omega, by omega⟩ (by omega)) rfl rfl rfl ?_; rintro _ w ⟨r, hf, rfl, hs'⟩; refine ⟨_, rfl, ?_⟩; replace hs := hs.callM (i := 0) rfl hs' rfl; clear hs'; simp only [List.nil_append, List.set_cons_zero] at hs))
       all_goals (refine rg_y (yv_add rfl rfl (by omega)) rfl rfl ?_)
       all_goals (refine rg_y (yv_assign (kI rfl)) rfl rfl ?_)
       all_goals (first | refine rg_nils [(6, _)] ⟨sI rfl, trivial⟩ ?_ | refine rg_nil ?_)))
  all_goals (refine k_ret1 rfl (.tmp rfl) ⟨_, ?_, rfl, hs⟩; omega)
/-- One of some numbers, which stand in a slice of their own. -/
theorem Pick_c {B : Option Addr} {cp : Nat} {xs : List Int} (hk : Mk w bk A cap l c) (hx : Rd w B 1 encI xs) (hox : Off B bk) (hm : c ≤ 100000000000000 ∧ 1 ≤ xs.length ∧ xs.length ≤ 1000) :
    Calls Try.prog 23 [pv bk, .slice B xs.length cp].toArray w fun e w' => ∃ r : Int, r ∈ xs ∧ e = .returned (.int .i64 r) ∧ Step w bk A cap l (c + 1) w' := by
  have hs0 := hk.st
  obtain ⟨hb, hr, ho, c0, c1⟩ := hk
  refine calls_enter Try.func23 rfl Try.ntmps23 rfl rfl ?_
  have hs := hs0
  clear hs0
  repeat' (first
    | refine rn_seq ?_
    | refine ks_n ?_
    | refine rn_cond_t rfl ?_
    | refine rn_cond_f rfl ?_
    | refine kb_n ?_
    | refine rn_block ?_
    | refine rn_skip ?_
    | refine rn_ret ?_
    | refine ks_r ?_
    | refine rn_exit ?_
    | refine ks_e ?_
    | refine kb_hit ?_
    | refine kb_miss rfl ?_
    | refine kb_r ?_
    | refine kl_e ?_
    | refine kl_r ?_
    | refine kr_n ?_
    | refine rnds_succ ?_
    | refine kr_e ?_
    | refine kr_r ?_
    | (refine rn_reg 0 ?_
       all_goals (refine rg_y (yv_assign (kI rfl)) rfl rfl ?_)
       all_goals (first | refine rg_nils [(0, _), (1, _)] ⟨sP rfl, sS rfl, trivial⟩ ?_ | refine rg_nil ?_))
    | (refine rn_reg 1 ?_
       all_goals (refine rg_y (yv_move (kS rfl)) rfl rfl ?_)
       all_goals (first | refine rg_y (yv_move (kE rfl)) rfl rfl ?_ | refine rg_y (yv_move (kP rfl)) rfl rfl ?_)
       all_goals (refine rg_y (yv_move (kS rfl)) rfl rfl ?_)
       all_goals (refine rg_y (yv_len rfl) rfl rfl ?_)
       all_goals ((refine rg_call (Next_c ⟨hs.blkM (i := 0) rfl, hr.stM (by decide) ho hs, ho, by omega, by omega⟩ (by omega)) rfl rfl rfl ?_; rintro _ w ⟨r, hf, rfl, hs'⟩; refine ⟨_, rfl, ?_⟩; replace hs := hs.callM (i := 0) rfl hs' rfl; clear hs'; simp only [List.nil_append, List.set_cons_zero] at hs))
       all_goals ((obtain ⟨z, hl⟩ : ∃ z, xs[r.toNat]? = some z := ⟨_, List.getElem?_eq_getElem (by omega)⟩; refine rg_y (yv_indexAddr rfl rfl (hx.stM (by decide) (fun _ => hox) hs) rfl (by omega) (by omega)) rfl rfl ?_))
       all_goals (first | refine rg_y (yv_load_ep1 rfl (hx.stM (by decide) (fun _ => hox) hs) (by first | assumption | exact hl) (vI rfl)) rfl rfl ?_ | refine rg_y (yv_load_ep1 rfl hr (by first | assumption | exact hl) (vI rfl)) rfl rfl ?_ | refine rg_y (yv_load rfl (ld1B (k1 (hs.blkM (i := 0) rfl)) (vI rfl))) rfl rfl ?_)
       all_goals (refine rg_y (yv_assign (kI rfl)) rfl rfl ?_)
       all_goals (first | refine rg_nils [(4, _)] ⟨sI rfl, trivial⟩ ?_ | refine rg_nil ?_)))
  all_goals (refine k_ret1 rfl (.tmp rfl) ⟨_, List.mem_of_getElem? (by assumption), rfl, hs⟩)
theorem intOf_enc (cs : List Value) (h : cellsOf encI (cs.map Go.RowKit.intOf) = cs) (hb : Blk w bk 3 cs) (hm : cs.length ≤ 1000) : Rd w (some ⟨bk, 0, none⟩) 1 encI (cs.map Go.RowKit.intOf) := by
  unfold Blk at hb
  exact rd_blk hb encI_len h (by simp only [List.length_map]; omega)
end
end Go.Proofs.Ytbbcpffbdadnoaa
