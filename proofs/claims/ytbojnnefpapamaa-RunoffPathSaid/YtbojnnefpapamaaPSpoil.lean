/-
  The maker of spoiled layouts.
-/
import Derived.Test.YtbojnnefpapamaaPMade
namespace Go.Hy
set_option linter.unusedVariables false
set_option linter.unusedSimpArgs false
set_option maxHeartbeats 2000000
set_option maxRecDepth 10000
theorem nms_set {l : List Element} {i : Nat} {x : Element} (h : Nms l) (hx : x.Name.size ≤ 9223372036854775807) : Nms (l.set i x) := fun y hy => by
  rcases List.mem_or_eq_of_mem_set hy with hy | rfl
  · exact h y hy
  · exact hx
theorem Spoil_ok {k : HumpgenMaker} {l : List Element} (h : Mk k 900000000000000) (hn : Nms l) (hl : l.length ≤ 1000) : Ok (gen_Maker_SpoilLayout k l) fun r => Nms r.1 ∧ r.1.length ≤ 1000 ∧ k.fn ≤ r.2 ∧ r.2 ≤ k.fn + 5 := by
  have c0 := h.c0
  have c1 := h.c1
  have mk : ∀ c', k.fn ≤ c' → c' ≤ k.fn + 100000 → Mk (HumpgenMaker.mk k.fl c') CM0 := fun c' h1 h2 => h.to h1 (by unfold CM0; omega)
  unfold gen_Maker_SpoilLayout
  refine ok_ck (by simp; omega) (ok_vl fun y hy => ?_)
  rw [List.nil_append] at hy
  subst hy
  refine ok_if (fun _ => ok_some ⟨hn, hl, by dsimp only; omega, by dsimp only; omega⟩) (fun hne => ?_)
  refine ok_bd (Next_ok (h.up (by decide)) (by omega)) fun v ⟨hv, ev⟩ => ok_ix hv.1 (by omega) fun x hx => ?_
  refine ok_bd (Next_ok (mk v.2 (by omega) (by omega)) (by omega)) fun u ⟨hu, eu⟩ => ?_
  dsimp only at eu
  have hxn := hn x (sc_mem hx)
  have fin : ∀ (z : Element) (c' : Int), z.Name.size ≤ 9223372036854775807 → u.2 ≤ c' → c' ≤ u.2 + 1 → Ok (vl (y.set (Int.toNat v.1) z) fun q => some (q, c')) fun r => Nms r.1 ∧ r.1.length ≤ 1000 ∧ k.fn ≤ r.2 ∧ r.2 ≤ k.fn + 5 := fun z c' hz h1 h2 => ok_vl fun q hq => ok_some ⟨by rw [hq]; exact nms_set hn hz, by rw [hq, List.length_set]; exact hl, by dsimp only; omega, by dsimp only; omega⟩
  have mu := mk u.2 (by omega) (by omega)
  refine ok_if (fun _ => ok_bd (Pick_ok mu (by simp)) fun p ⟨_, ep⟩ => fin _ _ hxn (by dsimp only at ep; omega) (by dsimp only at ep; omega)) fun _ => ?_
  refine ok_if (fun _ => ok_bd (Next_ok mu (by omega)) fun p ⟨hp, ep⟩ => ok_ix hp.1 (by simp only [List.length_cons, List.length_nil]; omega) fun s hs => fin _ _ ?_ (by dsimp only at ep; omega) (by dsimp only at ep; omega)) fun _ => ?_
  · have := sc_mem hs
    simp only [List.mem_cons, List.not_mem_nil, or_false] at this
    dsimp only
    rcases this with rfl | rfl | rfl | rfl | rfl | rfl <;> decide
  refine ok_if (fun _ => ok_bd (Pick_ok mu (by simp)) fun p ⟨_, ep⟩ => fin _ _ hxn (by dsimp only at ep; omega) (by dsimp only at ep; omega)) fun _ => ?_
  refine ok_if (fun _ => ok_bd (Pick_ok mu (by simp)) fun p ⟨_, ep⟩ => fin _ _ hxn (by dsimp only at ep; omega) (by dsimp only at ep; omega)) fun _ => ?_
  refine ok_if (fun _ => ok_bd (Pick_ok mu (by simp)) fun p ⟨_, ep⟩ => fin _ _ hxn (by dsimp only at ep; omega) (by dsimp only at ep; omega)) fun _ => ?_
  refine ok_if (fun _ => ok_bd (Pick_ok mu (by simp)) fun p ⟨_, ep⟩ => fin _ _ hxn (by dsimp only at ep; omega) (by dsimp only at ep; omega)) fun _ => ?_
  refine ok_if (fun _ => ok_bd (Pick_ok mu (by simp)) fun p ⟨_, ep⟩ => fin _ _ hxn (by dsimp only at ep; omega) (by dsimp only at ep; omega)) fun _ => ?_
  refine ok_if (fun _ => ok_bd (Pick_ok mu (by simp)) fun p ⟨_, ep⟩ => fin _ _ hxn (by dsimp only at ep; omega) (by dsimp only at ep; omega)) fun _ => ?_
  have ht : Nms (y.take (Int.toNat v.1)) := fun z hz => hn z (List.mem_of_mem_take hz)
  refine ok_if (fun _ => ?_) fun _ => ?_
  · rw [w64_eq (by omega)]
    refine ok_ck (by omega) (ok_ck (by omega) (ok_ck (by rw [List.length_take, List.length_drop]; omega) (ok_vl fun q hq => ok_some ⟨?_, ?_, by dsimp only; omega, by dsimp only; omega⟩)))
    · rw [hq]
      exact fun z hz => (List.mem_append.1 hz).elim (ht z) fun hz => hn z (List.mem_of_mem_drop hz)
    · rw [hq, List.length_append, List.length_take, List.length_drop]; omega
  · exact ok_if (fun _ => ok_ck (by omega) (ok_some ⟨ht, by dsimp only; rw [List.length_take]; omega, by dsimp only; omega, by dsimp only; omega⟩)) (fun _ => ok_some ⟨hn, hl, by dsimp only; omega, by dsimp only; omega⟩)
end Go.Hy
