/-
  What the functions of package interval answer, as plain functions on integers, and plain facts about them.
-/
import Derived.WalkKit
namespace Go.Hy.Iv
set_option linter.unusedVariables false
set_option linter.unusedSimpArgs false
set_option maxHeartbeats 2000000
set_option maxRecDepth 10000

abbrev Inr (n : Int) : Prop := -1000000000000 ≤ n ∧ n ≤ 1000000000000
abbrev Ivd (lo hi : Int) : Prop := lo ≤ hi ∧ -1000000000000 ≤ lo ∧ lo ≤ 1000000000000 ∧ -1000000000000 ≤ hi ∧ hi ≤ 1000000000000
abbrev I64 (a : Int) : Prop := -9223372036854775808 ≤ a ∧ a ≤ 9223372036854775807
/-- Quotients rounded down and up, as the code makes them of Go's own. -/
def qw (a b : Int) : Int := IntKind.i64.wrap (a.tdiv b)
def dnm (a b : Int) : Int := if a.tmod b ≠ 0 ∧ (a.tmod b < 0 ∧ 0 ≤ b ∨ 0 ≤ a.tmod b ∧ b < 0) then qw a b - 1 else qw a b
def upm (a b : Int) : Int := if a.tmod b ≠ 0 ∧ (a.tmod b < 0 ∧ b < 0 ∨ 0 ≤ a.tmod b ∧ 0 ≤ b) then qw a b + 1 else qw a b
theorem wrap_in (n : Int) : I64 (IntKind.i64.wrap n) := by
  rw [IntKind.wrap_i64]; omega
theorem qw_in (a b : Int) : I64 (qw a b) := wrap_in _
theorem qw_mid {a b : Int} (ha : I64 a) (h : a.tmod b ≠ 0) : -4611686018427387905 ≤ qw a b ∧ qw a b ≤ 4611686018427387905 := by
  have h1 : b ≠ 1 := by rintro rfl; simp at h
  have h2 : b ≠ -1 := by rintro rfl; simp [Int.tmod_neg] at h
  have e : (a.tdiv b).natAbs = a.natAbs / b.natAbs := Int.natAbs_tdiv a b
  by_cases h0 : b = 0
  · subst h0
    simp [qw, Int.tdiv_zero, IntKind.wrap_i64]
  have h4 : a.natAbs / b.natAbs ≤ a.natAbs / 2 := Nat.div_le_div_left (by omega) (by omega)
  have h5 : -4611686018427387905 ≤ a.tdiv b ∧ a.tdiv b ≤ 4611686018427387905 := by omega
  unfold qw
  rw [IntWalk.i64_in _ (by omega)]
  exact h5
theorem dnm_in {a b : Int} (ha : I64 a) : I64 (dnm a b) := by
  have h1 := qw_in a b
  have h2 := qw_mid (a := a) (b := b) ha
  unfold dnm; split <;> omega
theorem upm_in {a b : Int} (ha : I64 a) : I64 (upm a b) := by
  have h1 := qw_in a b
  have h2 := qw_mid (a := a) (b := b) ha
  unfold upm; split <;> omega
theorem tdiv_pos (a b : Int) : a.tdiv b = (if a < 0 then -((-a) / b) else a / b) ∧ a.tmod b = (if a < 0 then -((-a) % b) else a % b) := by
  by_cases h : a < 0
  · rw [if_pos h, if_pos h]
    have h1 : (-a).tdiv b = (-a) / b := Int.tdiv_eq_ediv_of_nonneg (by omega)
    have h2 : (-a).tmod b = (-a) % b := Int.tmod_eq_emod_of_nonneg (by omega)
    rw [Int.neg_tdiv] at h1
    rw [Int.neg_tmod] at h2
    omega
  · rw [if_neg h, if_neg h]
    exact ⟨Int.tdiv_eq_ediv_of_nonneg (by omega), Int.tmod_eq_emod_of_nonneg (by omega)⟩

theorem neg_ediv {x d : Int} (hd : 0 < d) : (x % d = 0 → (-x) / d = -(x / d)) ∧ (x % d ≠ 0 → (-x) / d = -(x / d) - 1) ∧ ((-x) % d = 0 ↔ x % d = 0) := by
  have h1 := Int.mul_ediv_add_emod x d
  have h2 := Int.mul_ediv_add_emod (-x) d
  have h3 := Int.emod_nonneg x (b := d) (by omega)
  have h4 := Int.emod_lt_of_pos x hd
  have h5 := Int.emod_nonneg (-x) (b := d) (by omega)
  have h6 := Int.emod_lt_of_pos (-x) hd
  generalize x / d = q at *
  generalize (-x) / d = p at *
  generalize x % d = r at *
  generalize (-x) % d = s at *
  have h7 : d * (p + q) = -(r + s) := by rw [Int.mul_add]; omega
  have h8 : p + q ≤ 0 := by
    rcases Int.lt_or_le 0 (p + q) with h | h
    · have : 0 < d * (p + q) := Int.mul_pos hd h
      omega
    · exact h
  have h9 : -1 ≤ p + q := by
    rcases Int.lt_or_le (p + q) (-1) with h | h
    · have : d * (p + q) ≤ d * (-2) := Int.mul_le_mul_of_nonneg_left (by omega) (by omega)
      omega
    · exact h
  have h10 : p + q = 0 ∨ p + q = -1 := by omega
  rcases h10 with h | h <;> rw [h] at h7 <;> omega
theorem quot_in {x d : Int} (hx : -9223372036854775807 ≤ x ∧ x ≤ 9223372036854775807) (hd : d ≠ 0) : qw x d = x.tdiv d := IntWalk.i64_in _ (tdiv_in x d (by omega) hd (by omega))
where
  tdiv_in (m n : Int) (h : -9223372036854775808 ≤ m ∧ m ≤ 9223372036854775807) (hn : n ≠ 0) (h1 : n = -1 → -9223372036854775808 < m) : -9223372036854775808 ≤ m.tdiv n ∧ m.tdiv n ≤ 9223372036854775807 := by
    have h2 : (m.tdiv n).natAbs = m.natAbs / n.natAbs := Int.natAbs_tdiv m n
    have h4 : m.natAbs / n.natAbs ≤ m.natAbs := Nat.div_le_self _ _
    by_cases hm : n = -1
    · subst hm
      have := h1 rfl
      omega
    by_cases hp : n = 1
    · subst hp; simpa using h
    have h5 : m.natAbs / n.natAbs ≤ m.natAbs / 2 := Nat.div_le_div_left (by omega) (by omega)
    omega
theorem dnm_pos {x d : Int} (hx : -9223372036854775807 ≤ x ∧ x ≤ 9223372036854775807) (hd : 0 < d) : dnm x d = x / d := by
  obtain ⟨h1, h2⟩ := tdiv_pos x d
  obtain ⟨g1, g2, g3⟩ := neg_ediv (x := x) hd
  have h4 := Int.emod_nonneg x (b := d) (by omega)
  have h5 := Int.emod_nonneg (-x) (b := d) (by omega)
  unfold dnm
  rw [quot_in hx (by omega), h1, h2]
  by_cases hx0 : x < 0
  · simp only [if_pos hx0]; split <;> omega
  · simp only [if_neg hx0]; split <;> omega
theorem upm_pos {x d : Int} (hx : -9223372036854775807 ≤ x ∧ x ≤ 9223372036854775807) (hd : 0 < d) : upm x d = -((-x) / d) := by
  obtain ⟨h1, h2⟩ := tdiv_pos x d
  obtain ⟨g1, g2, g3⟩ := neg_ediv (x := x) hd
  have h4 := Int.emod_nonneg x (b := d) (by omega)
  have h5 := Int.emod_nonneg (-x) (b := d) (by omega)
  unfold upm
  rw [quot_in hx (by omega), h1, h2]
  by_cases hx0 : x < 0
  · simp only [if_pos hx0]; split <;> omega
  · simp only [if_neg hx0]; split <;> omega
theorem dnm_neg {x d : Int} (hx : -9223372036854775807 ≤ x ∧ x ≤ 9223372036854775807) (hd : d < 0) : dnm x d = (-x) / (-d) := by
  have e1 : (-x).tdiv (-d) = x.tdiv d := by rw [Int.neg_tdiv, Int.tdiv_neg, Int.neg_neg]
  have e2 : (-x).tmod (-d) = -(x.tmod d) := by rw [Int.neg_tmod, Int.tmod_neg]
  have h := dnm_pos (x := -x) (d := -d) (by omega) (by omega)
  unfold dnm at h ⊢
  rw [quot_in (by omega) (by omega), e1, e2] at h
  rw [quot_in hx (by omega), ← h]
  by_cases h0 : x.tmod d = 0
  · rw [if_neg (by omega), if_neg (by omega)]
  · by_cases h1 : x.tmod d < 0
    · rw [if_neg (by omega), if_neg (by omega)]
    · rw [if_pos (by omega), if_pos (by omega)]
theorem upm_neg {x d : Int} (hx : -9223372036854775807 ≤ x ∧ x ≤ 9223372036854775807) (hd : d < 0) : upm x d = -(x / (-d)) := by
  have e1 : (-x).tdiv (-d) = x.tdiv d := by rw [Int.neg_tdiv, Int.tdiv_neg, Int.neg_neg]
  have e2 : (-x).tmod (-d) = -(x.tmod d) := by rw [Int.neg_tmod, Int.tmod_neg]
  have h := upm_pos (x := -x) (d := -d) (by omega) (by omega)
  rw [Int.neg_neg] at h
  unfold upm at h ⊢
  rw [quot_in (by omega) (by omega), e1, e2] at h
  rw [quot_in hx (by omega), ← h]
  by_cases h0 : x.tmod d = 0
  · rw [if_neg (by omega), if_neg (by omega)]
  · by_cases h1 : x.tmod d < 0
    · rw [if_pos (by omega), if_pos (by omega)]
    · rw [if_neg (by omega), if_neg (by omega)]
theorem dn_le_up {x d : Int} (hx : -9223372036854775807 ≤ x ∧ x ≤ 9223372036854775807) (hd : d ≠ 0) : dnm x d ≤ upm x d := by
  rcases Int.lt_or_lt_of_ne hd with h | h
  · rw [dnm_neg hx h, upm_neg hx h]
    have := neg_ediv (x := x) (d := -d) (by omega)
    omega
  · rw [dnm_pos hx h, upm_pos hx h]
    have := neg_ediv (x := x) h
    omega
/-- A greater numerator. -/
theorem dn_mono {x y d : Int} (hx : -9223372036854775807 ≤ x ∧ x ≤ 9223372036854775807) (hy : -9223372036854775807 ≤ y ∧ y ≤ 9223372036854775807) (h : x ≤ y) :
    (0 < d → dnm x d ≤ dnm y d ∧ upm x d ≤ upm y d) ∧ (d < 0 → dnm y d ≤ dnm x d ∧ upm y d ≤ upm x d) := by
  refine ⟨fun hd => ?_, fun hd => ?_⟩
  · rw [dnm_pos hx hd, dnm_pos hy hd, upm_pos hx hd, upm_pos hy hd]
    have h1 := Int.ediv_le_ediv hd h
    have h2 := Int.ediv_le_ediv hd (show -y ≤ -x by omega)
    omega
  · rw [dnm_neg hx hd, dnm_neg hy hd, upm_neg hx hd, upm_neg hy hd]
    have h1 := Int.ediv_le_ediv (show 0 < -d by omega) h
    have h2 := Int.ediv_le_ediv (show 0 < -d by omega) (show -y ≤ -x by omega)
    omega
theorem scale_min {a b num den : Int} (h : a ≤ b) (ha : -1000000000000000000 ≤ a * num ∧ a * num ≤ 1000000000000000000) (hb : -1000000000000000000 ≤ b * num ∧ b * num ≤ 1000000000000000000) (hd : den ≠ 0) :
    ((num < 0 ∧ 0 ≤ den ∨ 0 ≤ num ∧ den < 0 → min (dnm (a * num) den) (dnm (b * num) den) = dnm (b * num) den) ∧ (num < 0 ∧ 0 ≤ den ∨ 0 ≤ num ∧ den < 0 → max (upm (a * num) den) (upm (b * num) den) = upm (a * num) den)) ∧
    ((¬ (num < 0 ∧ 0 ≤ den ∨ 0 ≤ num ∧ den < 0) → min (dnm (a * num) den) (dnm (b * num) den) = dnm (a * num) den) ∧ (¬ (num < 0 ∧ 0 ≤ den ∨ 0 ≤ num ∧ den < 0) → max (upm (a * num) den) (upm (b * num) den) = upm (b * num) den)) ∧
    min (dnm (a * num) den) (dnm (b * num) den) ≤ max (upm (a * num) den) (upm (b * num) den) := by
  have h1 := dn_le_up (x := a * num) (d := den) (by omega) hd
  have h2 := dn_le_up (x := b * num) (d := den) (by omega) hd
  rcases Int.lt_or_le num 0 with hn | hn
  · have hm : b * num ≤ a * num := by
      have := Int.mul_le_mul_of_nonneg_right h (show 0 ≤ -num by omega)
      rw [Int.mul_neg, Int.mul_neg] at this
      omega
    have := dn_mono (x := b * num) (y := a * num) (d := den) (by omega) (by omega) hm
    omega
  · have hm : a * num ≤ b * num := Int.mul_le_mul_of_nonneg_right h hn
    have := dn_mono (x := a * num) (y := b * num) (d := den) (by omega) (by omega) hm
    omega

theorem dnm_m1 {a b : Int} (ha : I64 a) (hb : b = -1) (hl : a < -1000000000000) : ¬ Inr (dnm a b) ∧ ¬ Inr (upm a b) := by
  subst hb
  have e : a.tdiv (-1) = -a := by simp [Int.tdiv_neg, Int.tdiv_one]
  have e2 : a.tmod (-1) = 0 := by simp [Int.tmod_neg]
  have h : IntKind.i64.wrap (-a) = if a = -9223372036854775808 then -9223372036854775808 else -a := by rw [IntKind.wrap_i64]; split <;> omega
  unfold dnm upm qw
  rw [e, e2, h]
  simp only [ne_eq, not_true_eq_false, false_and, if_false]
  split <;> omega

/-- The product, while it is in range. -/
def prodM (a b : Int) : Int := if Inr (a * b) then a * b else 0
theorem mul_small {a b : Int} (ha : Inr a) (hb : Inr b) (h : Inr (a * b)) : I64 (a * b) := by omega
theorem prod_test {a b : Int} (ha : 1 ≤ a) (hb : 0 ≤ b) : 1000000000000 / a < b ↔ 1000000000000 < a * b := by
  rw [Int.ediv_lt_iff_lt_mul (by omega), Int.mul_comm]
theorem mul_bd {x y : Int} (hx : -1000000000000 ≤ x ∧ x ≤ 1000000000000) (hy : -1000000 ≤ y ∧ y ≤ 1000000) : -1000000000000000000 ≤ x * y ∧ x * y ≤ 1000000000000000000 := by
  have h : (x * y).natAbs ≤ 1000000000000 * 1000000 := by
    rw [Int.natAbs_mul]
    exact Nat.mul_le_mul (by omega) (by omega)
  omega
theorem abs_mul (a b : Int) : Inr (a * b) ↔ (if a < 0 then -a else a) * (if b < 0 then -b else b) ≤ 1000000000000 := by
  have h1 : 0 ≤ (if a < 0 then -a else a) * (if b < 0 then -b else b) := Int.mul_nonneg (by split <;> omega) (by split <;> omega)
  have h2 : (if a < 0 then -a else a) * (if b < 0 then -b else b) = a * b ∨ (if a < 0 then -a else a) * (if b < 0 then -b else b) = -(a * b) := by
    split <;> split
    · left; rw [Int.neg_mul_neg]
    · right; rw [Int.neg_mul]
    · right; rw [Int.mul_neg]
    · left; rfl
  unfold Inr
  omega

/-- The test for a product that is too great. -/
theorem mul_test (a c : Int) : (c ≠ 0 → (1000000000000 / (if c < 0 then -c else c) < (if a < 0 then -a else a) ↔ ¬ Inr (a * c))) ∧ (c = 0 → a * c = 0) := by
  refine ⟨fun h => ?_, fun h => by rw [h, Int.mul_zero]⟩
  have h1 := abs_mul a c
  have h2 := prod_test (a := if c < 0 then -c else c) (b := if a < 0 then -a else a) (by split <;> omega) (by split <;> omega)
  rw [Int.mul_comm (if c < 0 then -c else c)] at h2
  rw [h2, h1]
  omega
def resM (lo hi : Int) : Int × Int × Int := if Inr lo ∧ Inr hi then (lo, hi, 0) else (0, 0, 4)
def addM (a b c d : Int) : Int × Int × Int := if Ivd a b ∧ Ivd c d then resM (a + c) (b + d) else (0, 0, 1)
def subM (a b c d : Int) : Int × Int × Int := if Ivd a b ∧ Ivd c d then resM (a - d) (b - c) else (0, 0, 1)
def mulM (a b c d : Int) : Int × Int × Int :=
  if Ivd a b ∧ Ivd c d then
    if Inr (a * c) ∧ Inr (a * d) ∧ Inr (b * c) ∧ Inr (b * d) then
      (min (min (min (min 1000000000000 (a * c)) (a * d)) (b * c)) (b * d), max (max (max (max (-1000000000000) (a * c)) (a * d)) (b * c)) (b * d), 0)
    else (0, 0, 4)
  else (0, 0, 1)
def scaleM (a b num den : Int) : Int × Int × Int :=
  if ¬ Ivd a b then (0, 0, 1)
  else if num < -1000000 ∨ 1000000 < num ∨ den < -1000000 ∨ 1000000 < den then (0, 0, 2)
  else if den = 0 then (0, 0, 5)
  else if num < 0 ∧ 0 ≤ den ∨ 0 ≤ num ∧ den < 0 then resM (dnm (b * num) den) (upm (a * num) den)
  else resM (dnm (a * num) den) (upm (b * num) den)
def hullM (a b c d : Int) : Int × Int × Int := if Ivd a b ∧ Ivd c d then (min a c, max b d, 0) else (0, 0, 1)
def meetM (a b c d : Int) : Int × Int × Int := if Ivd a b ∧ Ivd c d then (if min b d < max a c then (0, 0, 15) else (max a c, min b d, 0)) else (0, 0, 1)
def floorM (a b : Int) : Int × Int := if b = 0 then (0, 5) else if Inr (dnm a b) then (dnm a b, 0) else (0, 4)
def ceilM (a b : Int) : Int × Int := if b = 0 then (0, 5) else if Inr (upm a b) then (upm a b, 0) else (0, 4)

/-- The root, rounded down. -/
def isqN : Nat → Nat
  | 0 => 0
  | n + 1 => if (isqN n + 1) * (isqN n + 1) ≤ n + 1 then isqN n + 1 else isqN n
theorem isqN_spec : ∀ n, isqN n * isqN n ≤ n ∧ n < (isqN n + 1) * (isqN n + 1)
  | 0 => by simp [isqN]
  | n + 1 => by
    obtain ⟨h1, h2⟩ := isqN_spec n
    unfold isqN
    split
    · rename_i h
      refine ⟨h, ?_⟩
      have : (isqN n + 1 + 1) * (isqN n + 1 + 1) = (isqN n + 1) * (isqN n + 1) + 2 * (isqN n + 1) + 1 := by
        simp only [Nat.add_mul, Nat.mul_add, Nat.one_mul, Nat.mul_one]; omega
      omega
    · omega
def isq (n : Int) : Int := (isqN n.toNat : Int)
theorem isq_spec {n : Int} (h : 0 ≤ n) : 0 ≤ isq n ∧ isq n * isq n ≤ n ∧ n < (isq n + 1) * (isq n + 1) := by
  obtain ⟨h1, h2⟩ := isqN_spec n.toNat
  unfold isq
  refine ⟨by omega, ?_, ?_⟩
  · have : ((isqN n.toNat * isqN n.toNat : Nat) : Int) ≤ n := by omega
    simpa using this
  · have : n < (((isqN n.toNat + 1) * (isqN n.toNat + 1) : Nat) : Int) := by omega
    simpa using this
theorem sq_lt {a b : Int} (ha : 0 ≤ a) (hb : 0 ≤ b) (h : a < b) : a * a < b * b := by
  have h1 : a * a ≤ a * b := Int.mul_le_mul_of_nonneg_left (by omega) ha
  have h2 : a * b < b * b := Int.mul_lt_mul_of_pos_right h (by omega)
  omega
theorem sq_le {a b : Int} (ha : 0 ≤ a) (h : a ≤ b) : a * a ≤ b * b := by
  have h1 : a * a ≤ a * b := Int.mul_le_mul_of_nonneg_left h ha
  have h2 : a * b ≤ b * b := Int.mul_le_mul_of_nonneg_right h (by omega)
  omega
theorem isq_unique {n r : Int} (hr : 0 ≤ r) (h1 : r * r ≤ n) (h2 : n < (r + 1) * (r + 1)) : r = isq n := by
  have h0 : 0 ≤ n := Int.le_trans (Int.mul_nonneg hr hr) h1
  obtain ⟨g0, g1, g2⟩ := isq_spec h0
  rcases Int.lt_trichotomy r (isq n) with h | h | h
  · have := sq_le (a := r + 1) (b := isq n) (by omega) (by omega); omega
  · exact h
  · have := sq_le (a := isq n + 1) (b := r) (by omega) (by omega); omega
theorem isq_le {n : Int} (h : 0 ≤ n) (hn : n ≤ 1000000000000) : isq n ≤ 1000000 := by
  obtain ⟨g0, g1, g2⟩ := isq_spec h
  rcases Int.lt_or_le 1000000 (isq n) with hh | hh
  · have := sq_le (a := 1000001) (b := isq n) (by omega) (by omega); omega
  · exact hh
theorem isq_le30 {n : Int} (h : 0 ≤ n) (hn : n < 1152921504606846976) : isq n < 1073741824 := by
  obtain ⟨g0, g1, g2⟩ := isq_spec h
  rcases Int.lt_or_le (isq n) 1073741824 with hh | hh
  · exact hh
  · have := sq_le (a := 1073741824) (b := isq n) (by omega) (by omega); omega
/-- The root, rounded up. -/
def isu (n : Int) : Int := if isq n * isq n < n then isq n + 1 else isq n
def rootM (a b : Int) : Int × Int × Int := if ¬ Ivd a b then (0, 0, 1) else if a < 0 then (0, 0, 2) else (isq a, isu b, 0)
theorem tmod_rng (x m : Int) (h : 1 ≤ m) : -m < x.tmod m ∧ x.tmod m < m := by
  obtain ⟨_, h2⟩ := tdiv_pos x m
  have h3 := Int.emod_nonneg x (b := m) (by omega)
  have h4 := Int.emod_lt_of_pos x (b := m) (by omega)
  have h5 := Int.emod_nonneg (-x) (b := m) (by omega)
  have h6 := Int.emod_lt_of_pos (-x) (b := m) (by omega)
  rw [h2]
  split <;> omega
/-- What a quotient of small numbers encloses. -/
theorem quot_facts {x d : Int} (hx : -100000 ≤ x ∧ x ≤ 100000) (hd : 1 ≤ d) :
    (floorM x d).2 = 0 ∧ (ceilM x d).2 = 0 ∧ (floorM x d).1 * d ≤ x ∧ x < (floorM x d).1 * d + d ∧ x ≤ (ceilM x d).1 * d ∧ (ceilM x d).1 * d - d < x ∧ -1000000 ≤ (floorM x d).1 ∧ (floorM x d).1 ≤ 1000000 ∧ -1000000 ≤ (ceilM x d).1 ∧ (ceilM x d).1 ≤ 1000000 := by
  have e1 := dnm_pos (x := x) (d := d) (by omega) (by omega)
  have e2 := upm_pos (x := x) (d := d) (by omega) (by omega)
  have h1 := Int.mul_ediv_add_emod x d
  have h2 := Int.mul_ediv_add_emod (-x) d
  have h3 := Int.emod_nonneg x (b := d) (by omega)
  have h4 := Int.emod_lt_of_pos x (b := d) (by omega)
  have h5 := Int.emod_nonneg (-x) (b := d) (by omega)
  have h6 := Int.emod_lt_of_pos (-x) (b := d) (by omega)
  have b1 : -100000 ≤ x / d ∧ x / d ≤ 100000 := by
    refine ⟨Int.le_ediv_of_mul_le (by omega) ?_, Int.ediv_le_of_le_mul (by omega) ?_⟩
    · have : (-100000) * d ≤ (-100000) * 1 := by omega
      omega
    · have : 100000 * 1 ≤ 100000 * d := by omega
      omega
  have b2 : -100000 ≤ (-x) / d ∧ (-x) / d ≤ 100000 := by
    refine ⟨Int.le_ediv_of_mul_le (by omega) ?_, Int.ediv_le_of_le_mul (by omega) ?_⟩
    · omega
    · omega
  have f1 : floorM x d = (x / d, 0) := by unfold floorM; rw [if_neg (by omega), e1, if_pos (by omega)]
  have f2 : ceilM x d = (-((-x) / d), 0) := by unfold ceilM; rw [if_neg (by omega), e2, if_pos (by omega)]
  rw [f1, f2]
  have g1 : x / d * d = d * (x / d) := Int.mul_comm _ _
  have g2 : -((-x) / d) * d = -(d * ((-x) / d)) := by rw [Int.neg_mul, Int.mul_comm]
  refine ⟨rfl, rfl, ?_, ?_, ?_, ?_, ?_, ?_, ?_, ?_⟩ <;> dsimp only <;> omega
attribute [irreducible] isqN isq
end Go.Hy.Iv
