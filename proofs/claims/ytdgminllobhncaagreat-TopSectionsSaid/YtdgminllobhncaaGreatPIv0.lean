/-
  What the functions of package interval answer that the layers above use (a part of PIv, PIvEx, PIvC).
-/
import Derived.Test.YtdgminllobhncaaGreatPIvB0
namespace Go.Hy
set_option linter.unusedVariables false
set_option linter.unusedSimpArgs false
set_option maxHeartbeats 2000000
set_option maxRecDepth 10000
open Go.Hy.Iv

theorem root_m {n : Int} (h0 : 0 ≤ n) (h1 : n ≤ 1000000000000) : interval_root n = some (isq n) := by
  refine Ok.eq (?_ : Ok _ _)
  unfold interval_root
  refine ok_lp (fun (z : Int × Int) => 0 ≤ z.1 ∧ z.1 < z.2 ∧ z.2 ≤ 1000001 ∧ z.1 * z.1 ≤ n ∧ n < z.2 * z.2) (fun z => (z.2 - z.1).toNat) ⟨by decide, by decide, by decide, by simpa using h0, by simp only; omega⟩ (by simp [big_eq]) ?_
  rintro ⟨lo, hi⟩ next ⟨i0, i1, i2, i3, i4⟩ hn
  dsimp only at i0 i1 i2 i3 i4 ⊢
  rw [w64_eq (by omega : -9223372036854775808 ≤ hi - lo ∧ hi - lo ≤ 9223372036854775807)]
  refine ok_if (fun h => ?_) (fun h => ok_some ?_)
  · rw [w64_eq (by omega : -9223372036854775808 ≤ lo + hi ∧ lo + hi ≤ 9223372036854775807), Int.tdiv_eq_ediv_of_nonneg (by omega), w64_eq (by omega)]
    refine ok_vl fun x hx => ?_
    have hsq : 0 ≤ x * x ∧ x * x ≤ 1000002000001 := by
      have := sq_le (a := x) (b := 1000001) (by omega) (by omega)
      have := Int.mul_nonneg (a := x) (b := x) (by omega) (by omega)
      omega
    rw [w64_eq (by omega)]
    refine ok_if (fun h2 => hn _ ⟨by dsimp only; omega, by dsimp only; omega, by dsimp only; omega, h2, i4⟩ (by dsimp only; omega)) (fun h2 => hn _ ⟨by dsimp only; omega, by dsimp only; omega, by dsimp only; omega, i3, by dsimp only; omega⟩ (by dsimp only; omega))
  · have : hi = lo + 1 := by omega
    subst this
    exact isq_unique i0 i3 i4
theorem Root_m (x : Interval) : interval_Root x = some (i3 (rootM x.Lo x.Hi)) := by
  refine Ok.eq (?_ : Ok _ _)
  unfold interval_Root rootM isu
  refine ok_nd (Valid_m x) (fun h => ok_some (by rw [if_pos h])) (fun h => ?_)
  · rw [if_neg (by omega)]
    refine ok_if (fun h1 => ok_some (by rw [if_pos h1])) (fun h1 => ?_)
    have hq := isq_spec (n := x.Hi) (by omega)
    have hl := isq_le (n := x.Hi) (by omega) (by omega)
    have hsq : isq x.Hi * isq x.Hi ≤ 1000000 * 1000000 := sq_le hq.1 hl
    have hm := Int.mul_nonneg hq.1 hq.1
    refine ok_bde (root_m (by omega) (by omega)) (ok_jp0 ?_)
    rw [w64_eq (by omega), if_neg h1]
    refine ok_if (fun h2 => ?_) (fun h2 => ?_)
    · refine ok_bde (root_m (by omega) (by omega)) (ok_some ?_)
      rw [w64_eq (by omega), if_pos h2]
    · refine ok_bde (root_m (by omega) (by omega)) (ok_some ?_)
      rw [if_neg h2]
theorem Floor_m {a b : Int} (ha : I64 a) : interval_Floor a b = some (floorM a b) := by
  refine Ok.eq (?_ : Ok _ _)
  unfold interval_Floor floorM
  refine ok_if (fun h => ok_some (by rw [if_pos h])) (fun h => ?_)
  rw [if_neg h]
  refine ok_bde (down_m ha h) (ok_bde (inside_m _) (ok_if (fun h1 => ok_some (by rw [if_pos h1])) (fun h1 => ok_some (by rw [if_neg h1]))))
theorem Ceil_m {a b : Int} (ha : I64 a) : interval_Ceil a b = some (ceilM a b) := by
  refine Ok.eq (?_ : Ok _ _)
  unfold interval_Ceil ceilM
  refine ok_if (fun h => ok_some (by rw [if_pos h])) (fun h => ?_)
  rw [if_neg h]
  refine ok_bde (up_m ha h) (ok_bde (inside_m _) (ok_if (fun h1 => ok_some (by rw [if_pos h1])) (fun h1 => ok_some (by rw [if_neg h1]))))
theorem isu_spec {n : Int} (h : 0 ≤ n) : n ≤ isu n * isu n ∧ (isu n = 0 ∨ (isu n - 1) * (isu n - 1) < n) ∧ 0 ≤ isu n ∧ isu n ≤ isq n + 1 := by
  obtain ⟨g0, g1, g2⟩ := isq_spec h
  unfold isu
  split
  · rename_i hl
    refine ⟨by omega, Or.inr ?_, by omega, by omega⟩
    have : isq n + 1 - 1 = isq n := by omega
    rw [this]; exact hl
  · rename_i hl
    have e : isq n * isq n = n := by omega
    refine ⟨by omega, ?_, by omega, by omega⟩
    rcases Int.lt_or_le 0 (isq n) with hp | hp
    · right
      have := sq_lt (a := isq n - 1) (b := isq n) (by omega) (by omega) (by omega)
      omega
    · left; omega
end Go.Hy
