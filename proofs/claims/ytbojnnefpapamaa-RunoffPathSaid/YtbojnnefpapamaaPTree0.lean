/-
  What the tree's functions answer: the check, and ways.
-/
import Derived.Test.YtbojnnefpapamaaPVal
import Derived.Test.YtbojnnefpapamaaPWay0
namespace Go.Hy
set_option linter.unusedVariables false
set_option linter.unusedSimpArgs false
set_option maxHeartbeats 2000000
set_option maxRecDepth 10000

def chkE (l : List Element) (ts : List Int) : Int := if lE l ≠ 0 then lE l else if ∀ t ∈ ts, 0 ≤ t ∧ t < (l.length : Int) then 0 else 2
theorem check_m {l : List Element} {ts : List Int} (hn : Nms l) (hts : ts.length ≤ 1000) : tree_check l ts = some (chkE l ts) := by
  refine Ok.eq (?_ : Ok _ _)
  unfold tree_check chkE
  refine ok_bde (Valid_e hn) (ok_if (fun h => ok_some (by rw [if_pos h])) (fun h => ?_))
  rw [if_neg h]
  refine ok_lp (fun (z : Int) => Scan (fun t => decide (0 ≤ t ∧ t < (l.length : Int))) ts z) (fun z => ((ts.length : Int) - z).toNat) Scan.zero (by simp only [big_eq]; omega) ?_
  intro z next hz hnx
  refine ok_if (fun hi => ok_ix hz.1 hi fun t ht => ?_) (fun hi => ok_some ?_)
  rotate_left
  · have := hz.done hi
    rw [List.all_eq_true] at this
    rw [if_pos fun t ht => of_decide_eq_true (this t ht)]
  have bad : ¬ (0 ≤ t ∧ t < (l.length : Int)) → Ok (some (2 : Int)) (fun v => v = if ∀ t ∈ ts, 0 ≤ t ∧ t < (l.length : Int) then 0 else 2) := fun hb => ok_some (by rw [if_neg fun hh => hb (hh t (sc_mem ht))])
  refine ok_if (fun q => bad (by omega)) (fun q1 => ok_if (fun q => bad (by omega)) (fun q2 => ?_))
  have := hz.1
  rw [w64_eq (by omega)]
  exact hnx _ (hz.step ht (decide_eq_true (by omega))) (by omega)
theorem path_m {l : List Element} (h : VL l) : ∀ (n : Nat) (i : Int), i < n → 0 ≤ i → i < l.length → tree_path_n n l i = some (way l i) := by
  intro n
  induction n with
  | zero => intro i h1 h2; omega
  | succ n ih =>
    intro i h1 h2 h3
    refine Ok.eq (?_ : Ok _ _)
    unfold tree_path_n
    have hlen := h.len
    refine ok_if (fun h0 => ?_) (fun h0 => ok_ix h2 h3 fun x hx => ?_)
    · subst h0
      have hx : l[(0 : Int).toNat]? = some l[0] := List.getElem?_eq_getElem (by omega)
      generalize l[0] = x at hx
      have hp := ((h.el hx).1 rfl).2.1
      exact ok_some (by rw [way_at h (by decide) hx, hp, way_neg (by decide)]; rfl)
    · have hp := ((h.el hx).2 (by omega)).2.2
      have hl := way_len h (i.toNat + 1) x.Parent (by omega)
      refine ok_bde (ih x.Parent (by omega) hp.1 (by omega)) (ok_ck (by simp only [List.length_cons, List.length_nil]; omega) (ok_vl fun y hy => ok_some ?_))
      rw [hy, way_at h h2 hx]
theorem tpath_m {l : List Element} (h : VL l) {i : Int} (h0 : 0 ≤ i) (hi : i < l.length) : tree_path l i = some (way l i) := by
  have hlen := h.len
  unfold tree_path
  exact path_m h big i (by rw [big_eq]; omega) h0 hi
theorem chk_bad {l : List Element} {ts : List Int} (h : chkE l ts = 0) : VL l ∧ ∀ t ∈ ts, 0 ≤ t ∧ t < (l.length : Int) := by
  unfold chkE at h
  split at h
  · rename_i h1; exact absurd h h1
  · rename_i h1
    refine ⟨lE_ok (Decidable.not_not.1 h1), ?_⟩
    split at h
    · assumption
    · cases h
theorem chk_ok {l : List Element} {ts : List Int} (h : lE l = 0) (ht : ∀ t ∈ ts, 0 ≤ t ∧ t < (l.length : Int)) : chkE l ts = 0 := by
  unfold chkE
  rw [if_neg (by rw [h]; decide), if_pos ht]
/-- An answer of a function that looks at the layout first. -/
def aft {α : Type} (e : Int) (d v : α) : α × Int := if e ≠ 0 then (d, e) else (v, 0)
theorem Path_m {l : List Element} {i : Int} (hn : Nms l) : tree_Path l i = some (aft (chkE l [i]) [] (way l i)) := by
  refine Ok.eq (?_ : Ok _ _)
  unfold tree_Path aft
  refine ok_bde (check_m hn (by simp)) (ok_if (fun h => ok_some (by rw [if_pos h])) (fun h => ?_))
  rw [if_neg h]
  obtain ⟨hv, ht⟩ := chk_bad (Decidable.not_not.1 h)
  have ht := ht i (List.mem_singleton.2 rfl)
  exact ok_bde (tpath_m hv ht.1 ht.2) (ok_some rfl)

end Go.Hy
