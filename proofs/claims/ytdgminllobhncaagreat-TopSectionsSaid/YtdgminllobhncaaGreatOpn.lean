/-
  A law's arguments, opened: integers, lists of integers, structs of integers.
-/
import Derived.Test.YtdgminllobhncaaGreatFacts
import Derived.Test.YtdgminllobhncaaGreatP0
import Derived.Carry
import Derived.OpenShut
import Derived.Lib.SmallJoins
import Derived.SizedLaws
namespace Go.Proofs.YtdgminllobhncaaGreat
set_option linter.unusedVariables false
set_option linter.unusedSimpArgs false
set_option maxHeartbeats 2000000
set_option maxRecDepth 10000
open Go.Hy Go.ChangeShapes Go.WideShapes Go.RowKit Go.Joins

abbrev I64 (a : Int) : Prop := -9223372036854775808 ≤ a ∧ a ≤ 9223372036854775807
theorem i64_of {a : Int} (h : (Lit.int .i64 a).wf = true) : I64 a := by
  have := bounds_i64 h
  omega
theorem Sl_len {α : Type} {w : World} {h : Hd} {enc : α → List Value} {l : List α} (k : Sl w h enc l) : l.length ≤ 9223372036854775807 := by
  have := k.n
  have := k.max
  omega
section
variable {H : Type} {enc : TypeId × Value → H} {P : Program} {w : World} {base b : Nat} {spare : Nat → Bool} {held : Bool} {v : Value} {d : DataW H} {p : List MemPlace} {r : Reach}
theorem open_I {t : TypeId} (ht : P.underlying t = some (.int .i64)) (hv : Value.okWide P w r b t v) (h : DataW.Trod enc P w base spare held t v d p) : ∃ a, v = .int .i64 a ∧ I64 a := by
  obtain ⟨a, rfl, _, _, w0⟩ := open_int ht hv h
  exact ⟨a, rfl, i64_of w0⟩
theorem open_L {t e : TypeId} (ht : P.underlying t = some (.slice e)) (he : P.underlying e = some (.int .i64)) (hc : P.cellsOf e = 1) (hv : Value.okWide P w r b t v) (h : DataW.Trod enc P w base spare held t v d p) :
    ∃ (h : Hd) (l : List Int), v = h.v ∧ Sl w h encI l ∧ ∀ n ∈ l, I64 n := by
  obtain ⟨a, len, cap, rfl⟩ := okWide_slice ht hv
  obtain ⟨fuel, hf⟩ := h
  rcases open_ints ht he hc hf with ⟨hcs, _⟩ | ⟨x, l, c, zs, hcs, _, hl, hm, hz, _, hcell, hwz⟩
  · simp [Value.cells] at hcs
    obtain ⟨rfl, rfl, rfl⟩ := hcs
    exact ⟨⟨none, 0, 0⟩, [], rfl, Sl.nil, by simp⟩
  · simp [Value.cells] at hcs
    obtain ⟨rfl, rfl, rfl⟩ := hcs
    have hzl : len ≤ zs.length := by rw [hz]; split <;> omega
    have hlen : (zs.take len).length = len := by rw [List.length_take]; omega
    refine ⟨⟨some x, len, cap⟩, zs.take len, rfl, ⟨⟨1, inferInstance, fun _ => rfl, ?_, fun _ => ⟨x, rfl, fun j u hu => ?_⟩⟩, hlen, hl⟩, fun n hn => i64_of (hwz n (List.mem_of_mem_take hn))⟩
    · rw [hlen]; unfold maxLen at hm; omega
    · have e : cellsOf encI (zs.take len) = (zs.take len).map (.int .i64) := by
        unfold cellsOf encI
        induction zs.take len with
        | nil => rfl
        | cons y ys ih => rw [List.flatMap_cons, ih]; rfl
      rw [e, List.getElem?_map, List.getElem?_take] at hu
      split at hu
      · rename_i hj
        have hj' : j < zs.length := by omega
        rw [List.getElem?_eq_getElem hj'] at hu
        simp only [Option.map_some, Option.some.injEq] at hu
        rw [hcell j hj', ← hu, List.getD_eq_getElem?_getD, List.getElem?_eq_getElem hj']
        rfl
      · simp at hu
theorem open_V {t : TypeId} {f0 f1 : Field} (hs : P.underlying t = some (.struct #[f0, f1])) (hone : Go.Deep.oneCellFields P #[f0, f1] = true) (hC : P.cellsOf t = 2) (u0 : P.underlying f0.type = some (.int .i64)) (u1 : P.underlying f1.type = some (.int .i64))
    (hv : Value.okWide P w r b t v) (h : DataW.Trod enc P w base spare held t v d p) : ∃ x y, v = .agg #[.int .i64 x, .int .i64 y] ∧ I64 x ∧ I64 y := by
  obtain ⟨c0, c1, y0, y1, m, rfl, rfl, rfl, h0, h1⟩ := open_agg2 hs hone hC hv h
  obtain ⟨a, e0, _, wa⟩ := DataW.trod_int u0 h0
  obtain ⟨a', e1, _, wa'⟩ := DataW.trod_int u1 h1
  simp at e0 e1
  subst e0 e1
  exact ⟨a, a', rfl, i64_of wa, i64_of wa'⟩
/-! ### Any data: what is read tells what lies there -/
theorem list_of {α : Type} {Q : Nat → α → Prop} : ∀ n, (∀ i, i < n → ∃ a, Q i a) → ∃ l : List α, l.length = n ∧ ∀ i a, l[i]? = some a → Q i a
  | 0, _ => ⟨[], rfl, fun i a h => by simp at h⟩
  | n + 1, h => by
    obtain ⟨l, hl, hq⟩ := list_of n fun i hi => h i (by omega)
    obtain ⟨a, ha⟩ := h n (by omega)
    refine ⟨l ++ [a], by simp [hl], fun i b hb => ?_⟩
    rcases Nat.lt_or_ge i l.length with h1 | h1
    · rw [List.getElem?_append_left h1] at hb; exact hq i b hb
    · rw [List.getElem?_append_right h1] at hb
      have e : i - l.length = 0 := by
        rcases Nat.eq_zero_or_pos (i - l.length) with h2 | h2
        · exact h2
        · rw [List.getElem?_eq_none (by simp; omega)] at hb; cases hb
      rw [e] at hb
      simp only [List.getElem?_cons_zero, Option.some.injEq] at hb
      subst hb
      obtain rfl : i = n := by omega
      exact ha
theorem og_int {fuel : Nat} {t : TypeId} {cs : List Value} {x : DataW H × List MemPlace} (ht : P.underlying t = some (.int .i64)) (h : DataW.trod enc P w base spare held fuel t cs = some x) : ∃ a, cs = [.int .i64 a] ∧ I64 a := by
  obtain ⟨a, rfl, _, wa⟩ := DataW.trod_int ht h
  exact ⟨a, rfl, i64_of wa⟩
theorem og_bool {fuel : Nat} {t : TypeId} {cs : List Value} {x : DataW H × List MemPlace} (ht : P.underlying t = some .bool) (h : DataW.trod enc P w base spare held fuel t cs = some x) : ∃ a, cs = [.bool a] := by
  obtain ⟨a, rfl, _⟩ := DataW.trod_bool ht h
  exact ⟨a, rfl⟩
theorem og_row {α : Type} {fuel : Nat} {t e : TypeId} {sz : Nat} {en : α → List Value} {R : α → Prop} {cs : List Value} {x : DataW H × List MemPlace} [he : En en sz] (ht : P.underlying t = some (.slice e)) (hc : P.cellsOf e = sz)
    (hE : ∀ fuel cs x, DataW.trod enc P w base spare held fuel e cs = some x → ∃ a, cs = en a ∧ R a) (h : DataW.trod enc P w base spare held fuel t cs = some x) :
    ∃ (h : Hd) (l : List α), cs = [h.v] ∧ Sl w h en l ∧ ∀ a ∈ l, R a := by
  rcases DataW.trod_slice ht h with ⟨rfl, _⟩ | ⟨a, len, cap, elems, rest, n, _, rfl, _, hb, hl, hm, hlen, hel, _, _⟩
  · exact ⟨⟨none, 0, 0⟩, [], rfl, Sl.nil, by simp⟩
  · obtain ⟨l, hln, hq⟩ := list_of (Q := fun i b => (w.cells? base (a.add (i * sz)) sz = some (en b)) ∧ R b) len fun i hi => by
      have h1 := hel i hi
      have h2 : i < elems.length := by omega
      rw [List.getElem?_eq_getElem h2, hc, Option.bind_eq_some_iff] at h1
      obtain ⟨cs', h3, h4⟩ := h1
      obtain ⟨b, rfl, hr⟩ := hE _ _ _ h4
      exact ⟨b, h3, hr⟩
    refine ⟨⟨some a, len, cap⟩, l, rfl, ⟨⟨sz, he, he.len, ?_, fun _ => ⟨a, rfl, fun j u hu => ?_⟩⟩, hln, hl⟩, fun b hb => ?_⟩
    · unfold maxLen at hm; omega
    · have hj := (List.getElem?_eq_some_iff.1 hu).1
      rw [flat_len he.len] at hj
      have hpos := he.pos
      have hd : j / sz < l.length := Nat.div_lt_of_lt_mul (by rw [Nat.mul_comm]; exact hj)
      have hmod := Nat.mod_lt j hpos
      have ej : j / sz * sz + j % sz = j := by rw [Nat.mul_comm]; exact Nat.div_add_mod j sz
      have hg := List.getElem?_eq_getElem hd
      have hqq := (hq _ _ hg).1
      have h5 := (World.cells?_some hqq).2.2 (j % sz) hmod
      rw [Addr.add_add, ej] at h5
      rw [h5, ← flat_get he.len l _ _ _ hg hmod, ej]
      exact hu
    · obtain ⟨i, hi⟩ := List.getElem?_of_mem hb
      exact (hq i b hi).2
theorem og_str {fuel : Nat} {t : TypeId} {cs : List Value} {x : DataW H × List MemPlace} (ht : P.underlying t = some .string) (h : DataW.trod enc P w base spare held fuel t cs = some x) : ∃ a, cs = [.string a] := by
  obtain ⟨a, rfl, _⟩ := DataW.trod_string ht h
  exact ⟨a, rfl⟩
theorem og_strB {fuel : Nat} {t : TypeId} {cs : List Value} {x : DataW H × List MemPlace} (ht : P.underlying t = some .string) (h : DataW.trod enc P w base spare held fuel t cs = some x) : ∃ a, cs = [.string a] ∧ a.size ≤ 9223372036854775807 := by
  obtain ⟨a, rfl, _, hm⟩ := DataW.trod_string ht h
  exact ⟨a, rfl, by unfold maxLen at hm; omega⟩
theorem agg_of {v : Value} {t : TypeId} {fs : Array Field} {l : List Value} (hs : P.underlying t = some (.struct fs)) (hv : Value.okWide P w r b t v) (h : v.cells.toList = l) : v = .agg l.toArray := by
  obtain ⟨cs, rfl, _⟩ := okWide_struct hs hv
  rw [← h]
  simp [Value.cells]
theorem row_of {v : Value} {t e : TypeId} {h : Hd} (hs : P.underlying t = some (.slice e)) (hv : Value.okWide P w r b t v) (hc : v.cells.toList = [h.v]) : v = h.v := by
  obtain ⟨a, len, cap, rfl⟩ := okWide_slice hs hv
  simpa [Value.cells] using hc
end
section
variable {H : Type} {enc : TypeId × Value → H} {P : Program} {w : World} {base : Nat} {spare : Nat → Bool} {held : Bool}
/-- A list that came in is no longer than the form's own reach. -/
theorem row_reach {α : Type} {en : α → List Value} {l : List α} {h : Hd} {t e : TypeId} {b : Nat} {ts : List TypeId} {ds : List (DataW H)} {d : DataW H} {p : List MemPlace} {j : Nat} (hsz : (DataW.weightsEach P ts ds).all (· ≤ reachBytes) = true) (hS : Sl w h en l) (ht : P.underlying t = some (.slice e)) (hb : P.bytesOf e = b + 1)
    (hj : ts[j]? = some t) (hd : ds[j]? = some d) (hT : DataW.Trod enc P w base spare held t h.v d p) : l.length ≤ 140737488351232 := by
  obtain ⟨fuel, hf⟩ := hT
  have hn := hS.n
  rcases DataW.trod_slice ht hf with ⟨hcs, _⟩ | ⟨a, len, cap, elems, rest, n, _, hcs, hx, _, hl, hm, hlen, _⟩
  · simp [Hd.v, Value.cells] at hcs
    omega
  · simp [Hd.v, Value.cells] at hcs
    simp only [Prod.mk.injEq] at hx
    obtain ⟨rfl, _⟩ := hx
    have := sized_slice hsz hj hd ht
    rw [hb, List.length_map, List.length_map] at this
    unfold reachBytes at this
    have h2 : elems.length ≤ (elems.length + rest.length) * (b + 1) := by
      rw [Nat.mul_add, Nat.mul_one]
      omega
    omega
end
end Go.Proofs.YtdgminllobhncaaGreat
