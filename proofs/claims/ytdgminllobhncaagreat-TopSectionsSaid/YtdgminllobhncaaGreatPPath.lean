/-
  The maker of paths.
-/
import Derived.Test.YtdgminllobhncaaGreatPGen
namespace Go.Hy
set_option linter.unusedVariables false
set_option linter.unusedSimpArgs false
set_option maxHeartbeats 2000000
set_option maxRecDepth 10000
/-- A piece that may lie on a path. -/
structure PieceOk (p : Piece) : Prop where
  e : 0 ≤ p.Element ∧ p.Element ≤ 127
  l : 1 ≤ p.Length ∧ p.Length ≤ 1000000
  g : -10000 ≤ p.Grade ∧ p.Grade ≤ 10000
  c : 0 ≤ p.Curve ∧ p.Curve ≤ 5000
  p : 0 ≤ p.Power ∧ p.Power ≤ 1000000000
/-- A made path. -/
structure MadePath (l : List Piece) (n : Nat) : Prop where
  len : 1 ≤ l.length ∧ l.length ≤ n
  ok : ∀ p ∈ l, PieceOk p
theorem Pieces_ok {k : HumpgenMaker} {n : Int} (h : Mk k 900000000000000) (hn : 1 ≤ n ∧ n ≤ 120) : Ok (gen_Maker_Pieces k n) fun r => MadePath r.1 n.toNat ∧ (∀ p ∈ r.1, p.Length ≤ 100000 ∧ p.Grade ≤ 5000 ∧ -150 ≤ p.Grade ∧ p.Curve ≤ 150 ∧ p.Power ≤ 30000000) ∧ k.fn ≤ r.2 ∧ r.2 ≤ k.fn + 5 * n + 1 := by
  unfold gen_Maker_Pieces
  have hm : Mk k CM0 := h.up (by decide)
  have c0 := h.c0
  have c1 := h.c1
  refine ok_bd (Next_ok hm (by omega)) fun v ⟨hv, hc⟩ => ?_
  refine ok_lp (fun z => 0 ≤ z.2.1 ∧ z.2.1 + z.1.length = 1 + v.1 ∧ (∀ p ∈ z.1, PieceOk p) ∧ (∀ p ∈ z.1, p.Length ≤ 100000 ∧ p.Grade ≤ 5000 ∧ -150 ≤ p.Grade ∧ p.Curve ≤ 150 ∧ p.Power ≤ 30000000) ∧ k.fn ≤ z.2.2 ∧ z.2.2 ≤ k.fn + 1 + 5 * z.1.length) (fun z => z.2.1.toNat) ?_ ?_ ?_
  · rw [w64_eq (by omega)]
    exact ⟨by dsimp only; omega, by dsimp only; simp, by simp, by simp, by dsimp only; omega, by dsimp only; simp; omega⟩
  · rw [w64_eq (by omega)]
    simp only [big_eq]; omega
  rintro ⟨l, i, c⟩ next ⟨i0, i1, i2, i3, i4, i5⟩ hnext
  dsimp only at i0 i1 i2 i3 i4 i5 ⊢
  refine ok_if (fun hi => ?_) (fun hi => ?_)
  rotate_left
  · refine ok_some ⟨⟨by dsimp only; omega, i2⟩, i3, i4, by dsimp only; omega⟩
  have mk : ∀ c', k.fn ≤ c' → c' ≤ 950000000000000 → Mk (HumpgenMaker.mk k.fl c') CM0 := fun c' h1 h2 => h.to h1 (by unfold CM0; omega)
  refine ok_bd (Pick_ok (mk c (by omega) (by omega)) (by simp)) fun v1 ⟨hv1, e1⟩ => ?_
  dsimp only at e1
  refine ok_bd (Pick_ok (mk v1.2 (by omega) (by omega)) (by simp)) fun v2 ⟨hv2, e2⟩ => ?_
  dsimp only at e2
  refine ok_bd (Pick_ok (mk v2.2 (by omega) (by omega)) (by simp)) fun v3 ⟨hv3, e3⟩ => ?_
  dsimp only at e3
  refine ok_bd (Next_ok (mk v3.2 (by omega) (by omega)) (by omega)) fun v4 ⟨hv4, e4⟩ => ?_
  dsimp only at e4
  simp only [List.mem_cons, List.not_mem_nil, or_false] at hv1 hv2 hv3
  have hwl : w64 ((l.length : Int) + 1) = l.length + 1 := w64_eq (by omega)
  have hwi : w64 (i - 1) = i - 1 := w64_eq (by omega)
  have fin : ∀ pw c', 0 ≤ pw ∧ pw ≤ 30000000 → k.fn ≤ c' → c' ≤ c + 5 → Ok (ck (decide (l.length + ([(Piece.mk (w64 ((l.length : Int) + 1)) v1.1 v2.1 v3.1 pw)] : List Piece).length ≤ 1000000000)) <|
      vl (l ++ ([(Piece.mk (w64 ((l.length : Int) + 1)) v1.1 v2.1 v3.1 pw)] : List Piece)) fun y24 => next (y24, w64 (i - 1), c')) fun r => MadePath r.1 n.toNat ∧ (∀ p ∈ r.1, p.Length ≤ 100000 ∧ p.Grade ≤ 5000 ∧ -150 ≤ p.Grade ∧ p.Curve ≤ 150 ∧ p.Power ≤ 30000000) ∧ k.fn ≤ r.2 ∧ r.2 ≤ k.fn + 5 * n + 1 := by
    intro pw c' hpw hc1 hc2
    refine ok_ck (by simp; omega) (ok_vl fun y hy => ?_)
    subst hy
    rw [hwl, hwi]
    refine hnext _ ⟨by dsimp only; omega, by simp; omega, ?_, ?_, by dsimp only; omega, by simp; omega⟩ (by dsimp only; omega)
    · intro p hp
      rcases List.mem_append.1 hp with hp | hp
      · exact i2 p hp
      · simp only [List.mem_singleton] at hp
        subst hp
        exact ⟨by dsimp only; omega, by dsimp only; omega, by dsimp only; omega, by dsimp only; omega, by dsimp only; omega⟩
    · intro p hp
      rcases List.mem_append.1 hp with hp | hp
      · exact i3 p hp
      · simp only [List.mem_singleton] at hp
        subst hp
        dsimp only
        omega
  refine ok_if (fun h0 => ?_) (fun h0 => ?_)
  · refine ok_bd (Pick_ok (mk v4.2 (by omega) (by omega)) (by simp)) fun v5 ⟨hv5, e5⟩ => ?_
    dsimp only at e5
    simp only [List.mem_cons, List.not_mem_nil, or_false] at hv5
    exact fin v5.1 v5.2 (by omega) (by omega) (by omega)
  · exact fin 0 v4.2 (by omega) (by omega) (by omega)
end Go.Hy
