/-
  The way of the reference, and the pieces on it.
-/
import Derived.Test.YtbojnnefpapamaaPWayR
import Derived.Test.YtbojnnefpapamaaPBase
namespace Go.Hy
set_option linter.unusedVariables false
set_option linter.unusedSimpArgs false
set_option maxHeartbeats 2000000
set_option maxRecDepth 10000
/-! ### Pieces on a way -/
def pcOf (l : List Element) (e : Int) : Piece := match l[e.toNat]? with
  | none => ⟨0, 0, 0, 0, 0⟩
  | some x => ⟨e, x.Length, x.Grade, x.Curve, x.Power⟩
def pth (l : List Element) (t : Int) : List Piece := (way l t).tail.map (pcOf l)
abbrev IsTr (l : List Element) (t : Int) : Prop := 0 ≤ t ∧ ∃ x : Element, l[t.toNat]? = some x ∧ x.Kind = 4
instance {l : List Element} {t : Int} : Decidable (IsTr l t) := by
  unfold IsTr
  cases h : l[t.toNat]? with
  | none => exact .isFalse fun hh => by obtain ⟨_, x, hx, _⟩ := hh; cases hx
  | some y => exact decidable_of_iff (0 ≤ t ∧ y.Kind = 4) ⟨fun hh => ⟨hh.1, y, rfl, hh.2⟩, fun hh => by obtain ⟨h0, x, hx, hk⟩ := hh; cases hx; exact ⟨h0, hk⟩⟩
def ptE (l : List Element) (t : Int) : List Piece × Int := if lE l ≠ 0 then ([], lE l) else if IsTr l t then (pth l t, 0) else ([], 2)
theorem rPath_m {l : List Element} {t : Int} (hn : Nms l) : r20_Path l t = some (ptE l t) := by
  refine Ok.eq (?_ : Ok _ _)
  unfold r20_Path ptE
  refine ok_bde (rLayValid_e hn) (ok_if (fun h => ok_some (by rw [if_pos h])) (fun h => ?_))
  rw [if_neg h]
  have hv := lE_ok (Decidable.not_not.1 h)
  have hlen := hv.len
  refine ok_if (fun q => ok_some (by rw [if_neg (fun hh => by omega)])) (fun q0 => ok_if (fun q => ok_some ?_) (fun q1 => ok_ix (by omega) (by omega) fun x hx => ok_if (fun q => ok_some ?_) (fun q2 => ?_)))
  · rw [if_neg]
    rintro ⟨_, x, hx, _⟩
    have := sc_lt hx
    omega
  · rw [if_neg]
    rintro ⟨_, y, hy, hk⟩
    rw [hx] at hy
    cases hy
    exact q hk
  have hk4 := Decidable.not_not.1 q2
  rw [if_pos ⟨by omega, x, hx, hk4⟩]
  refine ok_bde (way_m hv (by omega)) ?_
  have hwl := way_len hv (t.toNat + 1) t (by omega)
  have hmem := way_mem hv (t.toNat + 1) t (by omega)
  refine ok_lp (fun (z : List Piece × Int) => 1 ≤ z.2 ∧ z.2 ≤ (way l t).length + 1 ∧ z.1.length + 1 = z.2 ∧ z.1 = ((way l t).tail.take (z.2.toNat - 1)).map (pcOf l)) (fun z => ((way l t).length - z.2).toNat) ⟨by decide, by dsimp only; omega, rfl, rfl⟩ (by simp only [big_eq]; omega) ?_
  rintro ⟨out, i⟩ next ⟨i0, i1, ol, ho⟩ hnx
  dsimp only at i0 i1 ol ho ⊢
  refine ok_if (fun hi => ?_) (fun hi => ok_some ?_)
  rotate_left
  · rw [ho, List.take_of_length_le (by rw [List.length_tail]; omega)]
    rfl
  refine ok_ix (by omega) hi fun e he => ?_
  have hm := hmem e (sc_mem he)
  refine ok_ix hm.1 hm.2.2 fun y hy => ok_ixe (by omega) he (ok_ck (by simp only [List.length_cons, List.length_nil]; omega) (ok_vl fun o ho2 => ?_))
  rw [w64_eq (by omega)]
  refine hnx _ ⟨by dsimp only; omega, by dsimp only; omega, by dsimp only; rw [ho2]; simp; omega, ?_⟩ (by dsimp only; omega)
  dsimp only
  have e1 : (i + 1).toNat - 1 = (i.toNat - 1) + 1 := by omega
  have e2 : (way l t).tail[i.toNat - 1]? = some e := by
    rw [List.getElem?_tail, ← he]
    congr 1
    omega
  rw [ho2, e1, sc_take e2, List.map_append, ← ho]
  simp only [List.map_cons, List.map_nil, pcOf, hy]
theorem pc_ok {l : List Element} (h : VL l) {e : Int} (h0 : 1 ≤ e) (h1 : e < l.length) : PieceOk (pcOf l e) ∧ (pcOf l e).Element = e := by
  have hx : l[e.toNat]? = some l[e.toNat] := List.getElem?_eq_getElem (by omega)
  generalize l[e.toNat] = x at hx
  have hlen := h.len
  have := of_decide_eq_true ((h.el hx).2 (by omega)).1
  unfold pcOf
  rw [hx]
  dsimp only
  refine ⟨⟨by dsimp only; omega, by dsimp only; omega, by dsimp only; omega, by dsimp only; omega, ?_⟩, rfl⟩
  dsimp only
  by_cases hk : x.Kind = 2
  · have := this.2.2.2.2.2.1 hk; omega
  · have := this.2.2.2.2.2.2 hk; omega
theorem pth_get {l : List Element} {t : Int} {k : Nat} {p : Piece} (h : (pth l t)[k]? = some p) : ∃ e, (way l t)[k + 1]? = some e ∧ p = pcOf l e := by
  unfold pth at h
  rw [List.getElem?_map, List.getElem?_tail] at h
  cases hh : (way l t)[k + 1]? with
  | none => rw [hh] at h; cases h
  | some e => rw [hh] at h; exact ⟨e, rfl, (Option.some.inj h).symm⟩
theorem pth_len {l : List Element} {t : Int} : (pth l t).length = (way l t).length - 1 := by unfold pth; rw [List.length_map, List.length_tail]
theorem pth_ok {l : List Element} (h : VL l) {t : Int} (ht : IsTr l t) : PsOk (pth l t) ∧ (∀ p ∈ pth l t, 1 ≤ p.Element ∧ p.Element < l.length ∧ p = pcOf l p.Element) ∧ (pth l t)[(pth l t).length - 1]? = some (pcOf l t) := by
  obtain ⟨t0, x, hx, hk⟩ := ht
  have hlt := sc_lt hx
  have hlen := h.len
  have hel := h.el hx
  have ht1 : t ≠ 0 := fun e => by subst e; have := (hel.1 rfl).1; omega
  have hwl := way_len h (t.toNat + 1) t (by omega)
  have hmem := way_mem h (t.toNat + 1) t (by omega)
  obtain ⟨a1, a2, a3, a4⟩ := way_step h (t.toNat + 1) t (by omega) t0 (by omega)
  have hw2 : 2 ≤ (way l t).length := by
    rcases Nat.lt_or_ge (way l t).length 2 with hh | hh
    · have : (way l t).length = 1 := by omega
      rw [this] at a2
      rw [a1] at a2
      exact absurd (Option.some.inj a2).symm ht1
    · exact hh
  have all : ∀ p ∈ pth l t, ∃ e, 1 ≤ e ∧ e < (l.length : Int) ∧ p = pcOf l e := fun p hp => by
    obtain ⟨k, hk⟩ := List.getElem?_of_mem hp
    obtain ⟨e, he, rfl⟩ := pth_get hk
    exact ⟨e, (a4 k e he).1, (hmem e (sc_mem he)).2.2, rfl⟩
  refine ⟨⟨by rw [pth_len]; omega, fun p hp => ?_⟩, fun p hp => ?_, ?_⟩
  · obtain ⟨e, e1, e2, rfl⟩ := all p hp
    exact (pc_ok h e1 e2).1
  · obtain ⟨e, e1, e2, rfl⟩ := all p hp
    rw [(pc_ok h e1 e2).2]
    exact ⟨e1, e2, rfl⟩
  · unfold pth
    rw [List.getElem?_map, List.getElem?_tail, List.length_map, List.length_tail]
    have : (way l t).length - 1 - 1 + 1 = (way l t).length - 1 := by omega
    rw [this, a2]
    rfl
end Go.Hy
