/-
  The models of package interval and of its reference answer the plain functions of IvM.
-/
import Derived.Test.YtbbcpffbdadnoaaPGen
import Derived.Test.YtbbcpffbdadnoaaIvM
namespace Go.Hy
set_option linter.unusedVariables false
set_option linter.unusedSimpArgs false
set_option maxHeartbeats 2000000
set_option maxRecDepth 10000
open Go.Hy.Iv

abbrev i3 (r : Int × Int × Int) : Interval × Int := (Interval.mk r.1 r.2.1, r.2.2)
theorem dd {p q : Prop} [Decidable p] [Decidable q] (h : p ↔ q) : decide p = decide q := decide_eq_decide.2 h
theorem df {p : Prop} [Decidable p] (h : ¬ p) : false = decide p := (decide_eq_false h).symm
theorem inside_m (n : Int) : interval_inside n = some (decide (Inr n)) := by
  refine Ok.eq (?_ : Ok _ _)
  unfold interval_inside
  exact ok_if (fun h => ok_some (dd (by omega))) (fun h => ok_some (df (by omega)))
theorem Valid_m (x : Interval) : interval_Valid x = some (decide (Ivd x.Lo x.Hi)) := by
  refine Ok.eq (?_ : Ok _ _)
  unfold interval_Valid
  exact ok_if (fun h => ok_pd (inside_m _) (fun h1 => ok_bde (inside_m _) (ok_some (dd (by omega)))) (fun h1 => ok_some (df (by omega)))) (fun h => ok_some (df (by omega)))
theorem rValid_m (x : Interval) : r01_Valid x = some (decide (Ivd x.Lo x.Hi)) := by
  refine Ok.eq (?_ : Ok _ _)
  unfold r01_Valid
  exact ok_if (fun h => ok_if (fun h1 => ok_some (dd (by omega))) (fun h1 => ok_some (df (by omega)))) (fun h => ok_some (df (by omega)))
theorem Contains_m (x : Interval) (n : Int) : interval_Contains x n = some (decide (Ivd x.Lo x.Hi ∧ x.Lo ≤ n ∧ n ≤ x.Hi)) := by
  refine Ok.eq (?_ : Ok _ _)
  unfold interval_Contains
  exact ok_pd (Valid_m x) (fun h => ok_if (fun h1 => ok_some (dd (by omega))) (fun h1 => ok_some (df (by omega)))) (fun h => ok_some (df (by omega)))
theorem rContains_m (x : Interval) (n : Int) : r01_Contains x n = some (decide (Ivd x.Lo x.Hi ∧ x.Lo ≤ n ∧ n ≤ x.Hi)) := by
  refine Ok.eq (?_ : Ok _ _)
  unfold r01_Contains
  exact ok_pd (rValid_m x) (fun h => ok_if (fun h1 => ok_some (dd (by omega))) (fun h1 => ok_some (df (by omega)))) (fun h => ok_some (df (by omega)))
theorem Within_m (x y : Interval) : interval_Within x y = some (decide (Ivd x.Lo x.Hi ∧ Ivd y.Lo y.Hi ∧ y.Lo ≤ x.Lo ∧ x.Hi ≤ y.Hi)) := by
  refine Ok.eq (?_ : Ok _ _)
  unfold interval_Within
  exact ok_pd (Valid_m x) (fun h => ok_pd (Valid_m y) (fun h2 => ok_if (fun h1 => ok_some (dd (by omega))) (fun h1 => ok_some (df (by omega)))) (fun h2 => ok_some (df (by omega)))) (fun h => ok_some (df (by omega)))
theorem rWithin_m (x y : Interval) : r01_Within x y = some (decide (Ivd x.Lo x.Hi ∧ Ivd y.Lo y.Hi ∧ y.Lo ≤ x.Lo ∧ x.Hi ≤ y.Hi)) := by
  refine Ok.eq (?_ : Ok _ _)
  unfold r01_Within
  exact ok_pd (rValid_m x) (fun h => ok_pd (rValid_m y) (fun h2 => ok_if (fun h1 => ok_some (dd (by omega))) (fun h1 => ok_some (df (by omega)))) (fun h2 => ok_some (df (by omega)))) (fun h => ok_some (df (by omega)))
theorem result_m (a b : Int) : interval_result a b = some (i3 (resM a b)) := by
  refine Ok.eq (?_ : Ok _ _)
  unfold interval_result resM
  exact ok_nd (inside_m a) (fun h => ok_some (by rw [if_neg (by omega)])) (fun h => ok_nd (inside_m b) (fun h1 => ok_some (by rw [if_neg (by omega)])) (fun h1 => ok_some (by rw [if_pos ⟨h, h1⟩])))
theorem checked_m {a b : Int} (h : a ≤ b) : r01_checked a b = some (i3 (resM a b)) := by
  refine Ok.eq (?_ : Ok _ _)
  unfold r01_checked resM
  exact ok_if (fun h1 => ok_some (by rw [if_neg (by omega)])) (fun h1 => ok_if (fun h2 => ok_some (by rw [if_neg (by omega)])) (fun h2 => ok_some (by rw [if_pos (by omega)])))
theorem Add_m (x y : Interval) : interval_Add x y = some (i3 (addM x.Lo x.Hi y.Lo y.Hi)) := by
  refine Ok.eq (?_ : Ok _ _)
  unfold interval_Add addM
  refine ok_nd (Valid_m x) (fun h => ok_some (by rw [if_neg (by omega)])) (fun h => ok_nd (Valid_m y) (fun h1 => ok_some (by rw [if_neg (by omega)])) (fun h1 => ?_))
  rw [w64_eq (by omega), w64_eq (by omega)]
  exact ok_bde (result_m _ _) (ok_some (by rw [if_pos ⟨h, h1⟩]))
theorem Sub_m (x y : Interval) : interval_Sub x y = some (i3 (subM x.Lo x.Hi y.Lo y.Hi)) := by
  refine Ok.eq (?_ : Ok _ _)
  unfold interval_Sub subM
  refine ok_nd (Valid_m x) (fun h => ok_some (by rw [if_neg (by omega)])) (fun h => ok_nd (Valid_m y) (fun h1 => ok_some (by rw [if_neg (by omega)])) (fun h1 => ?_))
  rw [w64_eq (by omega), w64_eq (by omega)]
  exact ok_bde (result_m _ _) (ok_some (by rw [if_pos ⟨h, h1⟩]))
theorem rAdd_m (x y : Interval) : r01_Add x y = some (i3 (addM x.Lo x.Hi y.Lo y.Hi)) := by
  refine Ok.eq (?_ : Ok _ _)
  unfold r01_Add addM
  refine ok_nd (rValid_m x) (fun h => ok_some (by rw [if_neg (by omega)])) (fun h => ok_nd (rValid_m y) (fun h1 => ok_some (by rw [if_neg (by omega)])) (fun h1 => ?_))
  rw [w64_eq (by omega), w64_eq (by omega)]
  exact ok_bde (checked_m (by omega)) (ok_some (by rw [if_pos ⟨h, h1⟩]))
theorem rSub_m (x y : Interval) : r01_Sub x y = some (i3 (subM x.Lo x.Hi y.Lo y.Hi)) := by
  refine Ok.eq (?_ : Ok _ _)
  unfold r01_Sub subM
  refine ok_nd (rValid_m x) (fun h => ok_some (by rw [if_neg (by omega)])) (fun h => ok_nd (rValid_m y) (fun h1 => ok_some (by rw [if_neg (by omega)])) (fun h1 => ?_))
  rw [w64_eq (by omega), w64_eq (by omega)]
  exact ok_bde (checked_m (by omega)) (ok_some (by rw [if_pos ⟨h, h1⟩]))
theorem Hull_m (x y : Interval) : interval_Hull x y = some (i3 (hullM x.Lo x.Hi y.Lo y.Hi)) := by
  refine Ok.eq (?_ : Ok _ _)
  unfold interval_Hull hullM
  exact ok_nd (Valid_m x) (fun h => ok_some (by rw [if_neg (by omega)])) (fun h => ok_nd (Valid_m y) (fun h1 => ok_some (by rw [if_neg (by omega)])) (fun h1 => ok_some (by rw [if_pos ⟨h, h1⟩])))
theorem rHull_m (x y : Interval) : r01_Hull x y = some (i3 (hullM x.Lo x.Hi y.Lo y.Hi)) := by
  refine Ok.eq (?_ : Ok _ _)
  unfold r01_Hull hullM
  exact ok_nd (rValid_m x) (fun h => ok_some (by rw [if_neg (by omega)])) (fun h => ok_nd (rValid_m y) (fun h1 => ok_some (by rw [if_neg (by omega)])) (fun h1 => ok_some (by rw [if_pos ⟨h, h1⟩])))
theorem Meet_m (x y : Interval) : interval_Meet x y = some (i3 (meetM x.Lo x.Hi y.Lo y.Hi)) := by
  refine Ok.eq (?_ : Ok _ _)
  unfold interval_Meet meetM
  exact ok_nd (Valid_m x) (fun h => ok_some (by rw [if_neg (by omega)])) (fun h => ok_nd (Valid_m y) (fun h1 => ok_some (by rw [if_neg (by omega)])) (fun h1 => ok_if (fun h2 => ok_some (by rw [if_pos ⟨h, h1⟩, if_pos h2])) (fun h2 => ok_some (by rw [if_pos ⟨h, h1⟩, if_neg h2]))))
theorem rMeet_m (x y : Interval) : r01_Meet x y = some (i3 (meetM x.Lo x.Hi y.Lo y.Hi)) := by
  refine Ok.eq (?_ : Ok _ _)
  unfold r01_Meet meetM
  exact ok_nd (rValid_m x) (fun h => ok_some (by rw [if_neg (by omega)])) (fun h => ok_nd (rValid_m y) (fun h1 => ok_some (by rw [if_neg (by omega)])) (fun h1 => ok_if (fun h2 => ok_some (by rw [if_pos ⟨h, h1⟩, if_pos h2])) (fun h2 => ok_some (by rw [if_pos ⟨h, h1⟩, if_neg h2]))))
theorem down_m {a b : Int} (ha : I64 a) (hb : b ≠ 0) : interval_down a b = some (dnm a b) := by
  have hm := qw_mid (b := b) ha
  refine Ok.eq (?_ : Ok _ _)
  unfold interval_down dnm
  refine ok_ck hb (ok_ck hb (ok_if (fun h => ?_) (fun h => ok_some (by rw [if_neg (by omega)]; rfl))))
  have hm : -4611686018427387905 ≤ w64 (a.tdiv b) ∧ w64 (a.tdiv b) ≤ 4611686018427387905 := hm h
  by_cases h1 : a.tmod b < 0 <;> by_cases h2 : b < 0
  · rw [decide_eq_true h1, decide_eq_true h2, if_neg (by omega)]; exact ok_some rfl
  · rw [decide_eq_true h1, decide_eq_false h2, if_pos (by omega)]; exact ok_vl fun x hx => ok_some (by rw [hx]; exact w64_eq (by omega))
  · rw [decide_eq_false h1, decide_eq_true h2, if_pos (by omega)]; exact ok_vl fun x hx => ok_some (by rw [hx]; exact w64_eq (by omega))
  · rw [decide_eq_false h1, decide_eq_false h2, if_neg (by omega)]; exact ok_some rfl
theorem up_m {a b : Int} (ha : I64 a) (hb : b ≠ 0) : interval_up a b = some (upm a b) := by
  have hm := qw_mid (b := b) ha
  refine Ok.eq (?_ : Ok _ _)
  unfold interval_up upm
  refine ok_ck hb (ok_ck hb (ok_if (fun h => ?_) (fun h => ok_some (by rw [if_neg (by omega)]; rfl))))
  have hm : -4611686018427387905 ≤ w64 (a.tdiv b) ∧ w64 (a.tdiv b) ≤ 4611686018427387905 := hm h
  by_cases h1 : a.tmod b < 0 <;> by_cases h2 : b < 0
  · rw [decide_eq_true h1, decide_eq_true h2, if_pos (by omega)]; exact ok_vl fun x hx => ok_some (by rw [hx]; exact w64_eq (by omega))
  · rw [decide_eq_true h1, decide_eq_false h2, if_neg (by omega)]; exact ok_some rfl
  · rw [decide_eq_false h1, decide_eq_true h2, if_neg (by omega)]; exact ok_some rfl
  · rw [decide_eq_false h1, decide_eq_false h2, if_pos (by omega)]; exact ok_vl fun x hx => ok_some (by rw [hx]; exact w64_eq (by omega))
theorem rDown_m {a b : Int} (ha : I64 a) (hb : b ≠ 0) : r01_Down a b = some (dnm a b) := down_m ha hb
theorem rUp_m {a b : Int} (ha : I64 a) (hb : b ≠ 0) : r01_Up a b = some (upm a b) := up_m ha hb
theorem root_m {n : Int} (h0 : 0 ≤ n) (h1 : n ≤ 1000000000000) : interval_root n = some (isq n) := by
  refine Ok.eq (?_ : Ok _ _)
  unfold interval_root
  refine ok_lp (fun (z : Int × Int) => 0 ≤ z.1 ∧ z.1 < z.2 ∧ z.2 ≤ 1000001 ∧ z.1 * z.1 ≤ n ∧ n < z.2 * z.2) (fun z => (z.2 - z.1).toNat) ⟨by decide, by decide, by decide, by simpa using h0, by simp only; omega⟩ (by simp [big_eq]) ?_
  rintro ⟨lo, hi⟩ next ⟨i0, i1, i2, i3, i4⟩ hn
  dsimp only at i0 i1 i2 i3 i4 ⊢
  rw [w64_eq (by omega : -9223372036854775808 ≤ hi - lo ∧ hi - lo ≤ 9223372036854775807)]
  refine ok_if (fun h => ?_) (fun h => ok_some ?_)
  · rw [w64_eq (by omega : -9223372036854775808 ≤ lo + hi ∧ lo + hi ≤ 9223372036854775807), Int.tdiv_eq_ediv_of_nonneg (by omega), w64_eq (by omega)]
    refine ok_vl fun x hx => ?_
    have hsq : 0 ≤ x * x ∧ x * x ≤ 1000002000001 := by
      have := sq_le (a := x) (b := 1000001) (by omega) (by omega)
      have := Int.mul_nonneg (a := x) (b := x) (by omega) (by omega)
      omega
    rw [w64_eq (by omega)]
    refine ok_if (fun h2 => hn _ ⟨by dsimp only; omega, by dsimp only; omega, by dsimp only; omega, h2, i4⟩ (by dsimp only; omega)) (fun h2 => hn _ ⟨by dsimp only; omega, by dsimp only; omega, by dsimp only; omega, i3, by dsimp only; omega⟩ (by dsimp only; omega))
  · have : hi = lo + 1 := by omega
    subst this
    exact isq_unique i0 i3 i4
theorem Root_m (x : Interval) : interval_Root x = some (i3 (rootM x.Lo x.Hi)) := by
  refine Ok.eq (?_ : Ok _ _)
  unfold interval_Root rootM isu
  refine ok_nd (Valid_m x) (fun h => ok_some (by rw [if_pos h])) (fun h => ?_)
  · rw [if_neg (by omega)]
    refine ok_if (fun h1 => ok_some (by rw [if_pos h1])) (fun h1 => ?_)
    have hq := isq_spec (n := x.Hi) (by omega)
    have hl := isq_le (n := x.Hi) (by omega) (by omega)
    have hsq : isq x.Hi * isq x.Hi ≤ 1000000 * 1000000 := sq_le hq.1 hl
    have hm := Int.mul_nonneg hq.1 hq.1
    refine ok_bde (root_m (by omega) (by omega)) (ok_jp0 ?_)
    rw [w64_eq (by omega), if_neg h1]
    refine ok_if (fun h2 => ?_) (fun h2 => ?_)
    · refine ok_bde (root_m (by omega) (by omega)) (ok_some ?_)
      rw [w64_eq (by omega), if_pos h2]
    · refine ok_bde (root_m (by omega) (by omega)) (ok_some ?_)
      rw [if_neg h2]
theorem Floor_m {a b : Int} (ha : I64 a) : interval_Floor a b = some (floorM a b) := by
  refine Ok.eq (?_ : Ok _ _)
  unfold interval_Floor floorM
  refine ok_if (fun h => ok_some (by rw [if_pos h])) (fun h => ?_)
  rw [if_neg h]
  refine ok_bde (down_m ha h) (ok_bde (inside_m _) (ok_if (fun h1 => ok_some (by rw [if_pos h1])) (fun h1 => ok_some (by rw [if_neg h1]))))
theorem Ceil_m {a b : Int} (ha : I64 a) : interval_Ceil a b = some (ceilM a b) := by
  refine Ok.eq (?_ : Ok _ _)
  unfold interval_Ceil ceilM
  refine ok_if (fun h => ok_some (by rw [if_pos h])) (fun h => ?_)
  rw [if_neg h]
  refine ok_bde (up_m ha h) (ok_bde (inside_m _) (ok_if (fun h1 => ok_some (by rw [if_pos h1])) (fun h1 => ok_some (by rw [if_neg h1]))))
theorem Scale_m (x : Interval) (num den : Int) : interval_Scale x num den = some (i3 (scaleM x.Lo x.Hi num den)) := by
  refine Ok.eq (?_ : Ok _ _)
  unfold interval_Scale scaleM
  refine ok_nd (Valid_m x) (fun h => ok_some (by rw [if_pos h])) (fun h => ?_)
  rw [if_neg (by omega)]
  refine ok_jp (fun z => z = decide (num < -1000000 ∨ 1000000 < num ∨ den < -1000000 ∨ 1000000 < den)) (fun z hz => ?_) (fun k hk => ?_)
  · subst hz
    refine ok_if (fun h1 => ok_some (by rw [if_pos h1])) (fun h1 => ?_)
    rw [if_neg h1]
    refine ok_if (fun h2 => ok_some (by rw [if_pos h2])) (fun h2 => ?_)
    rw [if_neg h2]
    have ha := mul_bd (x := x.Lo) (y := num) (by omega) (by omega)
    have hb := mul_bd (x := x.Hi) (y := num) (by omega) (by omega)
    have e1 : w64 (x.Lo * num) = x.Lo * num := w64_eq (by omega)
    have e2 : w64 (x.Hi * num) = x.Hi * num := w64_eq (by omega)
    rw [e1, e2]
    have i1 : I64 (x.Lo * num) := by omega
    have i2 : I64 (x.Hi * num) := by omega
    refine ok_jp (fun z => if num < 0 ∧ 0 ≤ den ∨ 0 ≤ num ∧ den < 0 then z = (x.Hi * num, x.Lo * num) else z = (x.Lo * num, x.Hi * num)) (fun z hz => ?_) (fun k hk => ?_)
    · by_cases h3 : num < 0 ∧ 0 ≤ den ∨ 0 ≤ num ∧ den < 0
      · rw [if_pos h3] at hz ⊢
        subst hz
        exact ok_bde (down_m i2 h2) (ok_bde (up_m i1 h2) (ok_bde (result_m _ _) (ok_some rfl)))
      · rw [if_neg h3] at hz ⊢
        subst hz
        exact ok_bde (down_m i1 h2) (ok_bde (up_m i2 h2) (ok_bde (result_m _ _) (ok_some rfl)))
    · by_cases h3 : num < 0 <;> by_cases h4 : den < 0
      · rw [decide_eq_true h3, decide_eq_true h4]; exact hk _ (by rw [if_neg (by omega)])
      · rw [decide_eq_true h3, decide_eq_false h4]; exact hk _ (by rw [if_pos (by omega)])
      · rw [decide_eq_false h3, decide_eq_true h4]; exact hk _ (by rw [if_pos (by omega)])
      · rw [decide_eq_false h3, decide_eq_false h4]; exact hk _ (by rw [if_neg (by omega)])
  · refine ok_if (fun h1 => hk _ (decide_eq_true (by omega)).symm) (fun h1 => ok_if (fun h2 => hk _ (decide_eq_true (by omega)).symm) (fun h2 => ok_if (fun h3 => hk _ (decide_eq_true (by omega)).symm) (fun h3 => hk _ ?_)))
    rw [decide_eq_decide]; omega
theorem product_m {a b : Int} (ha : Inr a) (hb : Inr b) : interval_product a b = some (prodM a b, decide (Inr (a * b))) := by
  have hm := abs_mul a b
  have abs : ∀ n : Int, Inr n → interval_abs n = some (if n < 0 then -n else n) := fun n hn => by
    refine Ok.eq (?_ : Ok _ _)
    unfold interval_abs
    exact ok_if (fun h => ok_some (by rw [if_pos h, w64_eq (by omega)])) (fun h => ok_some (by rw [if_neg h]))
  refine Ok.eq (?_ : Ok _ _)
  unfold interval_product prodM
  refine ok_if (fun h => ?_) (fun h => ?_)
  · refine ok_bde (abs b hb) (ok_bde (abs a ha) ?_)
    have ht := prod_test (a := if a < 0 then -a else a) (b := if b < 0 then -b else b) (by split <;> omega) (by split <;> omega)
    refine ok_ck (by split <;> omega) ?_
    rw [Int.tdiv_eq_ediv_of_nonneg (by decide)]
    refine ok_vl fun x4 hx => ?_
    have hd : 0 ≤ 1000000000000 / (if a < 0 then -a else a) ∧ 1000000000000 / (if a < 0 then -a else a) ≤ 1000000000000 := ⟨Int.ediv_nonneg (by decide) (by split <;> omega), Int.ediv_le_self _ (by decide)⟩
    rw [w64_eq (by omega)] at hx
    rw [hx]
    refine ok_if (fun h1 => ok_some ?_) (fun h1 => ok_some ?_)
    · rw [if_neg (by omega), decide_eq_false (by omega)]
    · have : Inr (a * b) := by omega
      rw [if_pos this, decide_eq_true this, w64_eq (by omega)]
  · have e : a = 0 := by omega
    subst e
    refine ok_some ?_
    rw [Int.zero_mul]
    rfl
theorem Mul_m (x y : Interval) : interval_Mul x y = some (i3 (mulM x.Lo x.Hi y.Lo y.Hi)) := by
  refine Ok.eq (?_ : Ok _ _)
  unfold interval_Mul mulM
  refine ok_nd (Valid_m x) (fun h => ok_some (by rw [if_neg (by omega)])) (fun h => ok_nd (Valid_m y) (fun h1 => ok_some (by rw [if_neg (by omega)])) (fun h1 => ?_))
  rw [if_pos ⟨h, h1⟩]
  have hx0 : Inr x.Lo := by omega
  have hx1 : Inr x.Hi := by omega
  have hy0 : Inr y.Lo := by omega
  have hy1 : Inr y.Hi := by omega
  have two : ∀ i : Int, i < 2 → 0 ≤ i → i = 0 ∨ i = 1 := fun i h1 h2 => by omega
  refine ok_lp (fun (z : Int × Int × Int) => (z.2.2 = 0 ∧ z.1 = 1000000000000 ∧ z.2.1 = -1000000000000) ∨
      (z.2.2 = 1 ∧ Inr (x.Lo * y.Lo) ∧ Inr (x.Lo * y.Hi) ∧ z.1 = min (min 1000000000000 (x.Lo * y.Lo)) (x.Lo * y.Hi) ∧ z.2.1 = max (max (-1000000000000) (x.Lo * y.Lo)) (x.Lo * y.Hi)) ∨
      (z.2.2 = 2 ∧ (Inr (x.Lo * y.Lo) ∧ Inr (x.Lo * y.Hi) ∧ Inr (x.Hi * y.Lo) ∧ Inr (x.Hi * y.Hi)) ∧ z.1 = min (min (min (min 1000000000000 (x.Lo * y.Lo)) (x.Lo * y.Hi)) (x.Hi * y.Lo)) (x.Hi * y.Hi) ∧ z.2.1 = max (max (max (max (-1000000000000) (x.Lo * y.Lo)) (x.Lo * y.Hi)) (x.Hi * y.Lo)) (x.Hi * y.Hi)))
    (fun z => (2 - z.2.2).toNat) (Or.inl ⟨rfl, rfl, rfl⟩) (by simp [big_eq]) ?_
  rintro ⟨lo, hi, i⟩ next hI hn
  dsimp only at hI ⊢
  refine ok_if (fun hi2 => ?_) (fun hi2 => ?_)
  rotate_left
  · rcases hI with ⟨e, _⟩ | ⟨e, _⟩ | ⟨e, hin, e1, e2⟩
    · omega
    · omega
    · rw [if_pos hin, e1, e2]; exact ok_some rfl
  have hi0 : i = 0 ∨ i = 1 := by omega
  -- the inner rounds, for a left end
  have inner : ∀ (a lo0 hi0 : Int) (k : Int → Int → Option (Interval × Int)), Inr a → (Inr (a * y.Lo) → Inr (a * y.Hi) → Ok (k (min (min lo0 (a * y.Lo)) (a * y.Hi)) (max (max hi0 (a * y.Lo)) (a * y.Hi))) (fun v => v = i3 (if Inr (x.Lo * y.Lo) ∧ Inr (x.Lo * y.Hi) ∧ Inr (x.Hi * y.Lo) ∧ Inr (x.Hi * y.Hi) then (min (min (min (min 1000000000000 (x.Lo * y.Lo)) (x.Lo * y.Hi)) (x.Hi * y.Lo)) (x.Hi * y.Hi), max (max (max (max (-1000000000000) (x.Lo * y.Lo)) (x.Lo * y.Hi)) (x.Hi * y.Lo)) (x.Hi * y.Hi), 0) else (0, 0, 4)))) →
      (¬ (Inr (a * y.Lo) ∧ Inr (a * y.Hi)) → ¬ (Inr (x.Lo * y.Lo) ∧ Inr (x.Lo * y.Hi) ∧ Inr (x.Hi * y.Lo) ∧ Inr (x.Hi * y.Hi))) →
      Ok (lp (fun (z14 : (Int × Int × Int)) k16 =>
        cond (decide (z14.2.2 < 2))
        (ix ([y.Lo, y.Hi] : List Int) z14.2.2 fun x19 =>
        bd (interval_product a x19) fun v21 =>
        cond (!v21.2)
        (some ((Interval.mk 0 0), 4))
        (k16 (min z14.1 v21.1, max z14.2.1 v21.1, w64 (z14.2.2 + 1))))
        (k z14.1 z14.2.1)) big (lo0, hi0, 0)) (fun v => v = i3 (if Inr (x.Lo * y.Lo) ∧ Inr (x.Lo * y.Hi) ∧ Inr (x.Hi * y.Lo) ∧ Inr (x.Hi * y.Hi) then (min (min (min (min 1000000000000 (x.Lo * y.Lo)) (x.Lo * y.Hi)) (x.Hi * y.Lo)) (x.Hi * y.Hi), max (max (max (max (-1000000000000) (x.Lo * y.Lo)) (x.Lo * y.Hi)) (x.Hi * y.Lo)) (x.Hi * y.Hi), 0) else (0, 0, 4))) := by
    intro a lo0 hi0 k ha hk hbad
    refine ok_lp (fun (z : Int × Int × Int) => (z.2.2 = 0 ∧ z.1 = lo0 ∧ z.2.1 = hi0) ∨ (z.2.2 = 1 ∧ Inr (a * y.Lo) ∧ z.1 = min lo0 (a * y.Lo) ∧ z.2.1 = max hi0 (a * y.Lo)) ∨
      (z.2.2 = 2 ∧ Inr (a * y.Lo) ∧ Inr (a * y.Hi) ∧ z.1 = min (min lo0 (a * y.Lo)) (a * y.Hi) ∧ z.2.1 = max (max hi0 (a * y.Lo)) (a * y.Hi))) (fun z => (2 - z.2.2).toNat) (Or.inl ⟨rfl, rfl, rfl⟩) (by simp [big_eq]) ?_
    rintro ⟨lo, hi, j⟩ next hJ hn
    dsimp only at hJ ⊢
    refine ok_if (fun hj2 => ?_) (fun hj2 => ?_)
    rotate_left
    · rcases hJ with ⟨e, _⟩ | ⟨e, _⟩ | ⟨e, g1, g2, e1, e2⟩
      · omega
      · omega
      · rw [e1, e2]; exact hk g1 g2
    rcases hJ with ⟨e, e1, e2⟩ | ⟨e, g1, e1, e2⟩ | ⟨e, _⟩
    · subst e e1 e2
      refine ok_ixe (a := y.Lo) (by decide) rfl (ok_bde (product_m ha hy0) ?_)
      by_cases hp : Inr (a * y.Lo)
      · rw [decide_eq_true hp]
        exact hn _ (Or.inr (Or.inl ⟨rfl, hp, by simp only [prodM, if_pos hp], by simp only [prodM, if_pos hp]⟩)) (by dsimp only; decide)
      · rw [decide_eq_false hp, if_neg (hbad (fun h => hp h.1))]
        exact ok_some rfl
    · subst e e1 e2
      refine ok_ixe (a := y.Hi) (by decide) rfl (ok_bde (product_m ha hy1) ?_)
      by_cases hp : Inr (a * y.Hi)
      · rw [decide_eq_true hp]
        exact hn _ (Or.inr (Or.inr ⟨rfl, g1, hp, by simp only [prodM, if_pos hp], by simp only [prodM, if_pos hp]⟩)) (by dsimp only; decide)
      · rw [decide_eq_false hp, if_neg (hbad (fun h => hp h.2))]
        exact ok_some rfl
    · omega
  rcases hI with ⟨e, e1, e2⟩ | ⟨e, g1, g2, e1, e2⟩ | ⟨e, _⟩
  · subst e e1 e2
    refine ok_ixe (a := x.Lo) (by decide) rfl ?_
    exact inner x.Lo _ _ (fun l u => next (l, u, w64 (0 + 1))) hx0 (fun p1 p2 => hn _ (Or.inr (Or.inl ⟨rfl, p1, p2, rfl, rfl⟩)) (by dsimp only; decide)) (fun h hh => h ⟨hh.1, hh.2.1⟩)
  · subst e e1 e2
    refine ok_ixe (a := x.Hi) (by decide) rfl ?_
    exact inner x.Hi _ _ (fun l u => next (l, u, w64 (1 + 1))) hx1 (fun p1 p2 => hn _ (Or.inr (Or.inr ⟨rfl, ⟨g1, g2, p1, p2⟩, rfl, rfl⟩)) (by dsimp only; decide)) (fun h hh => h ⟨hh.2.2.1, hh.2.2.2⟩)
  · omega
theorem sane01 : law01_sane = some true := by kernel_rfl
end Go.Hy
