/-
  Valid paths and motions, as the checks see them; a path with another last length.
-/
import Derived.Test.YtdabnfhkojapjaaPRef
import Derived.Test.YtdabnfhkojapjaaPScan
namespace Go.Hy
set_option linter.unusedVariables false
set_option linter.unusedSimpArgs false
set_option maxHeartbeats 2000000
set_option maxRecDepth 10000
open Go.Hy.Iv

theorem vE_zero {ps : List Piece} (h : PsOk ps) : vE ps = 0 := by
  unfold vE
  have : ps.all pB = true := by
    rw [List.all_eq_true]
    intro p hp
    have := h.ok p hp
    exact decide_eq_true ⟨this.e, this.l, this.g, this.c, this.p⟩
  rw [if_pos h.len, if_pos this]
theorem psOut_eq {ps : List Piece} {m : Motion} (hp : PsOk ps) (hm : MotOk ps m) : psOut ps m = (psAll ps m, 0) := by
  have h1 : mE ps m = 0 := by
    obtain ⟨sp, cl, c, er, tg, t⟩ := hm
    have q1 : m.Class.all Go.Hy.cB = true := by
      rw [List.all_eq_true]; intro x hx; have := c x hx; exact decide_eq_true (by omega)
    have q2 : m.Class.all dB = true := by
      rw [List.all_eq_true]; intro x hx; have := c x hx; exact decide_eq_true (by omega)
    have q3 : m.Targets.all tB = true := by
      rw [List.all_eq_true]; intro x hx; exact decide_eq_true (t x hx)
    unfold mE
    rw [if_pos ⟨by omega, cl, tg, q1⟩, if_pos ⟨q2, by omega, q3⟩]
  unfold psOut
  rw [if_neg (by simp [vE_zero hp]), if_neg (by simp [h1])]
theorem ptOut_eq {ps : List Piece} {r : Run} (hp : PsOk ps) (hr : RunOk ps r) : ptOut ps r = (ptAll ps r, ptStop ps r, 0) := by
  obtain ⟨h1, h2, h3, h4, h5⟩ := hr
  refine ptOut3 (vE_zero hp) ⟨h1, h2⟩ ⟨?_, h3, ?_⟩
  · rw [List.all_eq_true]; intro x hx; exact decide_eq_true (h4 x hx)
  · rw [List.all_eq_true]; intro x hx; exact decide_eq_true (h5 x hx)
theorem bent {ps : List Piece} (h : PsOk ps) : Bent ps := fun p hp => (h.ok p hp).c

/-- The path with another last length. -/
def setL (ps : List Piece) (n : Int) : List Piece := match ps[ps.length - 1]? with
  | none => ps
  | some x => ps.set (ps.length - 1) ⟨x.Element, n, x.Grade, x.Curve, x.Power⟩
theorem setL_get {ps : List Piece} {n : Int} {x : Piece} (hx : ps[ps.length - 1]? = some x) (hl : 1 ≤ ps.length) : (setL ps n).length = ps.length ∧ (setL ps n)[ps.length - 1]? = some ⟨x.Element, n, x.Grade, x.Curve, x.Power⟩ ∧ ∀ i, i ≠ ps.length - 1 → (setL ps n)[i]? = ps[i]? := by
  unfold setL
  rw [hx]
  dsimp only
  refine ⟨by simp, ?_, fun i hi => ?_⟩
  · rw [List.getElem?_set_self (by omega)]
  · rw [List.getElem?_set_ne (by omega)]
theorem setL_ok {ps : List Piece} {n : Int} (h : PsOk ps) (hn : 1 ≤ n ∧ n ≤ 1000000) : PsOk (setL ps n) := by
  have hl := h.len
  have hx : ps[ps.length - 1]? = some ps[ps.length - 1] := List.getElem?_eq_getElem (by omega)
  generalize ps[ps.length - 1] = x at hx
  obtain ⟨g1, g2, g3⟩ := setL_get (n := n) hx (by omega)
  refine ⟨by omega, fun p hp => ?_⟩
  obtain ⟨i, hi⟩ := List.getElem?_of_mem hp
  by_cases e : i = ps.length - 1
  · subst e
    rw [g2] at hi
    cases hi
    have := h.ok x (sc_mem hx)
    exact ⟨this.e, hn, this.g, this.c, this.p⟩
  · rw [g3 i e] at hi
    exact h.ok p (sc_mem hi)
theorem setL_nret : ∀ {ps qs : List Piece}, ps.length = qs.length → (∀ (i : Nat) p q, ps[i]? = some p → qs[i]? = some q → (0 < p.Power ↔ 0 < q.Power)) → nret ps = nret qs
  | [], [], _, _ => rfl
  | [], _ :: _, h, _ => by simp at h
  | _ :: _, [], h, _ => by simp at h
  | p :: ps, q :: qs, h, k => by
    have h1 := k 0 p q rfl rfl
    have h2 := setL_nret (ps := ps) (qs := qs) (by simpa using h) (fun i a b ha hb => k (i + 1) a b ha hb)
    simp only [nret, h1, h2]
theorem setL_nr {ps : List Piece} {n : Int} (hl : 1 ≤ ps.length) : nret (setL ps n) = nret ps := by
  have hx : ps[ps.length - 1]? = some ps[ps.length - 1] := List.getElem?_eq_getElem (by omega)
  generalize ps[ps.length - 1] = x at hx
  obtain ⟨g1, g2, g3⟩ := setL_get (n := n) hx hl
  refine setL_nret g1 fun i p q hp hq => ?_
  by_cases e : i = ps.length - 1
  · subst e
    rw [g2] at hp
    rw [hx] at hq
    cases hp
    cases hq
    exact Iff.rfl
  · rw [g3 i e, hq] at hp
    cases hp
    exact Iff.rfl
theorem setL_mot {ps : List Piece} {n : Int} {m : Motion} (hl : 1 ≤ ps.length) (h : MotOk ps m) : MotOk (setL ps n) m := by
  have hx : ps[ps.length - 1]? = some ps[ps.length - 1] := List.getElem?_eq_getElem (by omega)
  have g := (setL_get (n := n) hx hl).1
  exact ⟨h.sp, by rw [h.cls, g], h.c, h.err, by rw [h.tgs, setL_nr hl], h.t⟩
end Go.Hy
