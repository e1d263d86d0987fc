/-
  Intervals: scaling, hulls, parts.
-/
import Derived.Test.YtncgacgkeonfnaaPIvB0
namespace Go.Hy
set_option linter.unusedVariables false
set_option linter.unusedSimpArgs false
set_option maxHeartbeats 2000000
set_option maxRecDepth 10000
open Go.Hy.Iv

theorem Within_m (x y : Interval) : interval_Within x y = some (decide (Ivd x.Lo x.Hi ∧ Ivd y.Lo y.Hi ∧ y.Lo ≤ x.Lo ∧ x.Hi ≤ y.Hi)) := by
  refine Ok.eq (?_ : Ok _ _)
  unfold interval_Within
  exact ok_pd (Valid_m x) (fun h => ok_pd (Valid_m y) (fun h2 => ok_if (fun h1 => ok_some (dd (by omega))) (fun h1 => ok_some (df (by omega)))) (fun h2 => ok_some (df (by omega)))) (fun h => ok_some (df (by omega)))
theorem result_m (a b : Int) : interval_result a b = some (i3 (resM a b)) := by
  refine Ok.eq (?_ : Ok _ _)
  unfold interval_result resM
  exact ok_nd (inside_m a) (fun h => ok_some (by rw [if_neg (by omega)])) (fun h => ok_nd (inside_m b) (fun h1 => ok_some (by rw [if_neg (by omega)])) (fun h1 => ok_some (by rw [if_pos ⟨h, h1⟩])))
theorem checked_m {a b : Int} (h : a ≤ b) : r01_checked a b = some (i3 (resM a b)) := by
  refine Ok.eq (?_ : Ok _ _)
  unfold r01_checked resM
  exact ok_if (fun h1 => ok_some (by rw [if_neg (by omega)])) (fun h1 => ok_if (fun h2 => ok_some (by rw [if_neg (by omega)])) (fun h2 => ok_some (by rw [if_pos (by omega)])))
theorem Hull_m (x y : Interval) : interval_Hull x y = some (i3 (hullM x.Lo x.Hi y.Lo y.Hi)) := by
  refine Ok.eq (?_ : Ok _ _)
  unfold interval_Hull hullM
  exact ok_nd (Valid_m x) (fun h => ok_some (by rw [if_neg (by omega)])) (fun h => ok_nd (Valid_m y) (fun h1 => ok_some (by rw [if_neg (by omega)])) (fun h1 => ok_some (by rw [if_pos ⟨h, h1⟩])))
theorem Scale_m (x : Interval) (num den : Int) : interval_Scale x num den = some (i3 (scaleM x.Lo x.Hi num den)) := by
  refine Ok.eq (?_ : Ok _ _)
  unfold interval_Scale scaleM
  refine ok_nd (Valid_m x) (fun h => ok_some (by rw [if_pos h])) (fun h => ?_)
  rw [if_neg (by omega)]
  refine ok_jp (fun z => z = decide (num < -1000000 ∨ 1000000 < num ∨ den < -1000000 ∨ 1000000 < den)) (fun z hz => ?_) (fun k hk => ?_)
  · subst hz
    refine ok_if (fun h1 => ok_some (by rw [if_pos h1])) (fun h1 => ?_)
    rw [if_neg h1]
    refine ok_if (fun h2 => ok_some (by rw [if_pos h2])) (fun h2 => ?_)
    rw [if_neg h2]
    have ha := mul_bd (x := x.Lo) (y := num) (by omega) (by omega)
    have hb := mul_bd (x := x.Hi) (y := num) (by omega) (by omega)
    have e1 : w64 (x.Lo * num) = x.Lo * num := w64_eq (by omega)
    have e2 : w64 (x.Hi * num) = x.Hi * num := w64_eq (by omega)
    rw [e1, e2]
    have i1 : I64 (x.Lo * num) := by omega
    have i2 : I64 (x.Hi * num) := by omega
    refine ok_jp (fun z => if num < 0 ∧ 0 ≤ den ∨ 0 ≤ num ∧ den < 0 then z = (x.Hi * num, x.Lo * num) else z = (x.Lo * num, x.Hi * num)) (fun z hz => ?_) (fun k hk => ?_)
    · by_cases h3 : num < 0 ∧ 0 ≤ den ∨ 0 ≤ num ∧ den < 0
      · rw [if_pos h3] at hz ⊢
        subst hz
        exact ok_bde (down_m i2 h2) (ok_bde (up_m i1 h2) (ok_bde (result_m _ _) (ok_some rfl)))
      · rw [if_neg h3] at hz ⊢
        subst hz
        exact ok_bde (down_m i1 h2) (ok_bde (up_m i2 h2) (ok_bde (result_m _ _) (ok_some rfl)))
    · by_cases h3 : num < 0 <;> by_cases h4 : den < 0
      · rw [decide_eq_true h3, decide_eq_true h4]; exact hk _ (by rw [if_neg (by omega)])
      · rw [decide_eq_true h3, decide_eq_false h4]; exact hk _ (by rw [if_pos (by omega)])
      · rw [decide_eq_false h3, decide_eq_true h4]; exact hk _ (by rw [if_pos (by omega)])
      · rw [decide_eq_false h3, decide_eq_false h4]; exact hk _ (by rw [if_neg (by omega)])
  · refine ok_if (fun h1 => hk _ (decide_eq_true (by omega)).symm) (fun h1 => ok_if (fun h2 => hk _ (decide_eq_true (by omega)).symm) (fun h2 => ok_if (fun h3 => hk _ (decide_eq_true (by omega)).symm) (fun h3 => hk _ ?_)))
    rw [decide_eq_decide]; omega
theorem rScale_m (x : Interval) (num den : Int) : r01_Scale x num den = some (i3 (scaleM x.Lo x.Hi num den)) := by
  refine Ok.eq (?_ : Ok _ _)
  unfold r01_Scale scaleM
  refine ok_nd (rValid_m x) (fun h => ok_some (by rw [if_pos h])) (fun h => ?_)
  rw [if_neg (by omega)]
  refine ok_jp (fun z => z = decide (num < -1000000 ∨ 1000000 < num ∨ den < -1000000 ∨ 1000000 < den)) (fun z hz => ?_) (fun k hk => ?_)
  · subst hz
    refine ok_if (fun h1 => ok_some (by rw [if_pos h1])) (fun h1 => ?_)
    rw [if_neg h1]
    refine ok_if (fun h2 => ok_some (by rw [if_pos h2])) (fun h2 => ?_)
    rw [if_neg h2]
    have ha := mul_bd (x := x.Lo) (y := num) (by omega) (by omega)
    have hb := mul_bd (x := x.Hi) (y := num) (by omega) (by omega)
    have e1 : w64 (x.Lo * num) = x.Lo * num := w64_eq (by omega)
    have e2 : w64 (x.Hi * num) = x.Hi * num := w64_eq (by omega)
    rw [e1, e2]
    have i1 : I64 (x.Lo * num) := by omega
    have i2 : I64 (x.Hi * num) := by omega
    obtain ⟨⟨s1, s2⟩, ⟨s3, s4⟩, s5⟩ := scale_min (a := x.Lo) (b := x.Hi) (num := num) (den := den) (by omega) (by omega) (by omega) h2
    refine ok_bde (rDown_m i1 h2) (ok_bde (rDown_m i2 h2) (ok_bde (rUp_m i1 h2) (ok_bde (rUp_m i2 h2) (ok_bde (checked_m s5) (ok_some ?_)))))
    by_cases hc : num < 0 ∧ 0 ≤ den ∨ 0 ≤ num ∧ den < 0
    · rw [if_pos hc, s1 hc, s2 hc]
    · rw [if_neg hc, s3 hc, s4 hc]
  · refine ok_if (fun h1 => hk _ (decide_eq_true (by omega)).symm) (fun h1 => ok_if (fun h2 => hk _ (decide_eq_true (by omega)).symm) (fun h2 => ok_if (fun h3 => hk _ (decide_eq_true (by omega)).symm) (fun h3 => hk _ ?_)))
    rw [decide_eq_decide]; omega
end Go.Hy
