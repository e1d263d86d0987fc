/-
  Quotients and checks of package interval.
-/
import Derived.Test.YtdgminllobhncaaGreatP0
import Derived.Test.YtdgminllobhncaaGreatIvM
namespace Go.Hy
set_option linter.unusedVariables false
set_option linter.unusedSimpArgs false
set_option maxHeartbeats 2000000
set_option maxRecDepth 10000
open Go.Hy.Iv

abbrev i3 (r : Int × Int × Int) : Interval × Int := (Interval.mk r.1 r.2.1, r.2.2)
theorem dd {p q : Prop} [Decidable p] [Decidable q] (h : p ↔ q) : decide p = decide q := decide_eq_decide.2 h
theorem df {p : Prop} [Decidable p] (h : ¬ p) : false = decide p := (decide_eq_false h).symm
theorem inside_m (n : Int) : interval_inside n = some (decide (Inr n)) := by
  refine Ok.eq (?_ : Ok _ _)
  unfold interval_inside
  exact ok_if (fun h => ok_some (dd (by omega))) (fun h => ok_some (df (by omega)))
theorem Valid_m (x : Interval) : interval_Valid x = some (decide (Ivd x.Lo x.Hi)) := by
  refine Ok.eq (?_ : Ok _ _)
  unfold interval_Valid
  exact ok_if (fun h => ok_pd (inside_m _) (fun h1 => ok_bde (inside_m _) (ok_some (dd (by omega)))) (fun h1 => ok_some (df (by omega)))) (fun h => ok_some (df (by omega)))
theorem down_m {a b : Int} (ha : I64 a) (hb : b ≠ 0) : interval_down a b = some (dnm a b) := by
  have hm := qw_mid (b := b) ha
  refine Ok.eq (?_ : Ok _ _)
  unfold interval_down dnm
  refine ok_ck hb (ok_ck hb (ok_if (fun h => ?_) (fun h => ok_some (by rw [if_neg (by omega)]; rfl))))
  have hm : -4611686018427387905 ≤ w64 (a.tdiv b) ∧ w64 (a.tdiv b) ≤ 4611686018427387905 := hm h
  by_cases h1 : a.tmod b < 0 <;> by_cases h2 : b < 0
  · rw [decide_eq_true h1, decide_eq_true h2, if_neg (by omega)]; exact ok_some rfl
  · rw [decide_eq_true h1, decide_eq_false h2, if_pos (by omega)]; exact ok_vl fun x hx => ok_some (by rw [hx]; exact w64_eq (by omega))
  · rw [decide_eq_false h1, decide_eq_true h2, if_pos (by omega)]; exact ok_vl fun x hx => ok_some (by rw [hx]; exact w64_eq (by omega))
  · rw [decide_eq_false h1, decide_eq_false h2, if_neg (by omega)]; exact ok_some rfl
theorem up_m {a b : Int} (ha : I64 a) (hb : b ≠ 0) : interval_up a b = some (upm a b) := by
  have hm := qw_mid (b := b) ha
  refine Ok.eq (?_ : Ok _ _)
  unfold interval_up upm
  refine ok_ck hb (ok_ck hb (ok_if (fun h => ?_) (fun h => ok_some (by rw [if_neg (by omega)]; rfl))))
  have hm : -4611686018427387905 ≤ w64 (a.tdiv b) ∧ w64 (a.tdiv b) ≤ 4611686018427387905 := hm h
  by_cases h1 : a.tmod b < 0 <;> by_cases h2 : b < 0
  · rw [decide_eq_true h1, decide_eq_true h2, if_pos (by omega)]; exact ok_vl fun x hx => ok_some (by rw [hx]; exact w64_eq (by omega))
  · rw [decide_eq_true h1, decide_eq_false h2, if_neg (by omega)]; exact ok_some rfl
  · rw [decide_eq_false h1, decide_eq_true h2, if_neg (by omega)]; exact ok_some rfl
  · rw [decide_eq_false h1, decide_eq_false h2, if_pos (by omega)]; exact ok_vl fun x hx => ok_some (by rw [hx]; exact w64_eq (by omega))
end Go.Hy
