/-
  What the maker of numbers answers: numbers in their ranges.
-/
import Derived.Test.YtdgminllobhncaaGreatP0
namespace Go.Hy
set_option linter.unusedVariables false
set_option linter.unusedSimpArgs false
set_option maxHeartbeats 2000000
set_option maxRecDepth 10000

/-- A maker that has not been used too often. -/
structure Mk (k : HumpgenMaker) (C : Int) : Prop where
  c0 : 0 ≤ k.fn
  c1 : k.fn ≤ C
  l : k.fl.length ≤ 9223372036854775807
abbrev CM0 : Int := 1000000000000000
theorem Mk.to {k : HumpgenMaker} {C C' c : Int} (h : Mk k C) (h1 : k.fn ≤ c) (h2 : c ≤ C') : Mk (HumpgenMaker.mk k.fl c) C' := ⟨Int.le_trans h.c0 h1, h2, h.l⟩
theorem Mk.up {k : HumpgenMaker} {C C' : Int} (h : Mk k C) (h2 : C ≤ C') : Mk k C' := ⟨h.c0, Int.le_trans h.c1 h2, h.l⟩

theorem Mk0 {t : List Int} {C : Int} (ht : t.length ≤ 9223372036854775807) (h : 0 ≤ C) : Mk (HumpgenMaker.mk t 0) C := ⟨Int.le_refl 0, h, ht⟩
theorem gen_New_ok (l : List Int) : gen_New l = some (HumpgenMaker.mk l 0) := rfl
theorem Next_ok {k : HumpgenMaker} {n : Int} (h : Mk k CM0) (hn : 1 ≤ n ∧ n ≤ 1000000000000) : Ok (gen_Maker_Next k n) fun r => (0 ≤ r.1 ∧ r.1 < n) ∧ r.2 = k.fn + 1 := by
  obtain ⟨c0, c1, hl⟩ := h
  unfold CM0 at c1
  unfold gen_Maker_Next
  refine ok_jp (fun _ => True) (fun z _ => ?_) (fun k' hk' => ?_)
  · have hz := tmod_rng z n hn.1
    refine ok_ck (by omega) (ok_if (fun h => ok_some ?_) (fun h => ok_some ?_))
    · rw [w64_eq (by omega), w64_eq (by omega)]
      exact ⟨⟨by dsimp only; omega, by dsimp only; omega⟩, rfl⟩
    · rw [w64_eq (by omega)]
      exact ⟨⟨by dsimp only; omega, by dsimp only; omega⟩, rfl⟩
  · refine ok_if (fun hp => ?_) (fun _ => hk' _ trivial)
    have := tmod_nn c0 (m := (k.fl.length : Int)) (by omega)
    refine ok_ck (by omega) (ok_vl fun x hx => ok_ix (by omega) (by omega) fun a _ => ok_ck (by omega) (ok_vl fun y _ => hk' _ trivial))
theorem Pick_ok {k : HumpgenMaker} {l : List Int} (h : Mk k CM0) (hn : 1 ≤ l.length ∧ l.length ≤ 1000) : Ok (gen_Maker_Pick k l) fun r => r.1 ∈ l ∧ r.2 = k.fn + 1 := by
  unfold gen_Maker_Pick
  refine ok_bd (Next_ok h (by omega)) fun v ⟨hv, hc⟩ => ok_ix hv.1 hv.2 fun a ha => ok_some ⟨List.mem_of_getElem? ha, hc⟩
end Go.Hy
