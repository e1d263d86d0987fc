/-
  A law's arguments, opened: integers, lists of integers, structs of integers.
-/
import Derived.Test.YtbojnnefpapamaaFacts
import Derived.Test.YtbojnnefpapamaaP0
import Derived.Carry
import Derived.OpenShut
import Derived.Lib.SmallJoins
namespace Go.Proofs.Ytbojnnefpapamaa
set_option linter.unusedVariables false
set_option linter.unusedSimpArgs false
set_option maxHeartbeats 2000000
set_option maxRecDepth 10000
open Go.Hy Go.ChangeShapes Go.WideShapes Go.RowKit Go.Joins

abbrev I64 (a : Int) : Prop := -9223372036854775808 ≤ a ∧ a ≤ 9223372036854775807
theorem i64_of {a : Int} (h : (Lit.int .i64 a).wf = true) : I64 a := by
  have := bounds_i64 h
  omega
theorem Sl_len {α : Type} {w : World} {h : Hd} {enc : α → List Value} {l : List α} (k : Sl w h enc l) : l.length ≤ 9223372036854775807 := by
  have := k.n
  have := k.max
  omega
section
variable {H : Type} {enc : TypeId × Value → H} {P : Program} {w : World} {base b : Nat} {spare : Nat → Bool} {held : Bool} {v : Value} {d : DataW H} {p : List MemPlace} {r : Reach}
theorem open_I {t : TypeId} (ht : P.underlying t = some (.int .i64)) (hv : Value.okWide P w r b t v) (h : DataW.Trod enc P w base spare held t v d p) : ∃ a, v = .int .i64 a ∧ I64 a := by
  obtain ⟨a, rfl, _, _, w0⟩ := open_int ht hv h
  exact ⟨a, rfl, i64_of w0⟩
theorem open_L {t e : TypeId} (ht : P.underlying t = some (.slice e)) (he : P.underlying e = some (.int .i64)) (hc : P.cellsOf e = 1) (hv : Value.okWide P w r b t v) (h : DataW.Trod enc P w base spare held t v d p) :
    ∃ (h : Hd) (l : List Int), v = h.v ∧ Sl w h encI l ∧ ∀ n ∈ l, I64 n := by
  obtain ⟨a, len, cap, rfl⟩ := okWide_slice ht hv
  obtain ⟨fuel, hf⟩ := h
  rcases open_ints ht he hc hf with ⟨hcs, _⟩ | ⟨x, l, c, zs, hcs, _, hl, hm, hz, _, hcell, hwz⟩
  · simp [Value.cells] at hcs
    obtain ⟨rfl, rfl, rfl⟩ := hcs
    exact ⟨⟨none, 0, 0⟩, [], rfl, Sl.nil, by simp⟩
  · simp [Value.cells] at hcs
    obtain ⟨rfl, rfl, rfl⟩ := hcs
    have hzl : len ≤ zs.length := by rw [hz]; split <;> omega
    have hlen : (zs.take len).length = len := by rw [List.length_take]; omega
    refine ⟨⟨some x, len, cap⟩, zs.take len, rfl, ⟨⟨1, inferInstance, fun _ => rfl, ?_, fun _ => ⟨x, rfl, fun j u hu => ?_⟩⟩, hlen, hl⟩, fun n hn => i64_of (hwz n (List.mem_of_mem_take hn))⟩
    · rw [hlen]; unfold maxLen at hm; omega
    · have e : cellsOf encI (zs.take len) = (zs.take len).map (.int .i64) := by
        unfold cellsOf encI
        induction zs.take len with
        | nil => rfl
        | cons y ys ih => rw [List.flatMap_cons, ih]; rfl
      rw [e, List.getElem?_map, List.getElem?_take] at hu
      split at hu
      · rename_i hj
        have hj' : j < zs.length := by omega
        rw [List.getElem?_eq_getElem hj'] at hu
        simp only [Option.map_some, Option.some.injEq] at hu
        rw [hcell j hj', ← hu, List.getD_eq_getElem?_getD, List.getElem?_eq_getElem hj']
        rfl
      · simp at hu
theorem open_V {t : TypeId} {f0 f1 : Field} (hs : P.underlying t = some (.struct #[f0, f1])) (hone : Go.Deep.oneCellFields P #[f0, f1] = true) (hC : P.cellsOf t = 2) (u0 : P.underlying f0.type = some (.int .i64)) (u1 : P.underlying f1.type = some (.int .i64))
    (hv : Value.okWide P w r b t v) (h : DataW.Trod enc P w base spare held t v d p) : ∃ x y, v = .agg #[.int .i64 x, .int .i64 y] ∧ I64 x ∧ I64 y := by
  obtain ⟨c0, c1, y0, y1, m, rfl, rfl, rfl, h0, h1⟩ := open_agg2 hs hone hC hv h
  obtain ⟨a, e0, _, wa⟩ := DataW.trod_int u0 h0
  obtain ⟨a', e1, _, wa'⟩ := DataW.trod_int u1 h1
  simp at e0 e1
  subst e0 e1
  exact ⟨a, a', rfl, i64_of wa, i64_of wa'⟩
end
end Go.Proofs.Ytbojnnefpapamaa
