/-
  Plain facts on intervals, and the statements of layer 1.
-/
import Derived.Test.YtbbcpffbdadnoaaPIv
namespace Go.Hy
set_option linter.unusedVariables false
set_option linter.unusedSimpArgs false
set_option maxHeartbeats 2000000
set_option maxRecDepth 10000
open Go.Hy.Iv
theorem isu_spec {n : Int} (h : 0 ≤ n) : n ≤ isu n * isu n ∧ (isu n = 0 ∨ (isu n - 1) * (isu n - 1) < n) ∧ 0 ≤ isu n ∧ isu n ≤ isq n + 1 := by
  obtain ⟨g0, g1, g2⟩ := isq_spec h
  unfold isu
  split
  · rename_i hl
    refine ⟨by omega, Or.inr ?_, by omega, by omega⟩
    have : isq n + 1 - 1 = isq n := by omega
    rw [this]; exact hl
  · rename_i hl
    have e : isq n * isq n = n := by omega
    refine ⟨by omega, ?_, by omega, by omega⟩
    rcases Int.lt_or_le 0 (isq n) with hp | hp
    · right
      have := sq_lt (a := isq n - 1) (b := isq n) (by omega) (by omega) (by omega)
      omega
    · left; omega
abbrev Sml (lo hi : Int) : Prop := -60 ≤ lo ∧ lo ≤ 60 ∧ lo ≤ hi ∧ hi ≤ lo + 39
theorem mul_sm {x y : Int} {p q : Nat} (hx : -(p : Int) ≤ x ∧ x ≤ p) (hy : -(q : Int) ≤ y ∧ y ≤ q) : -((p * q : Nat) : Int) ≤ x * y ∧ x * y ≤ ((p * q : Nat) : Int) := by
  have h : (x * y).natAbs ≤ p * q := by
    rw [Int.natAbs_mul]
    exact Nat.mul_le_mul (by omega) (by omega)
  omega
/-- A product lies between those of the ends. -/
theorem mul_btw {a b c d n m : Int} (hn : a ≤ n ∧ n ≤ b) (hm : c ≤ m ∧ m ≤ d) :
    (a * c ≤ n * m ∨ a * d ≤ n * m ∨ b * c ≤ n * m ∨ b * d ≤ n * m) ∧ (n * m ≤ a * c ∨ n * m ≤ a * d ∨ n * m ≤ b * c ∨ n * m ≤ b * d) := by
  have key : ∀ {x y z k : Int}, x ≤ y → y ≤ z → (x * k ≤ y * k ∧ y * k ≤ z * k) ∨ (z * k ≤ y * k ∧ y * k ≤ x * k) := by
    intro x y z k h1 h2
    rcases Int.lt_or_le k 0 with hk | hk
    · right
      have e1 := Int.mul_le_mul_of_nonneg_right h1 (show 0 ≤ -k by omega)
      have e2 := Int.mul_le_mul_of_nonneg_right h2 (show 0 ≤ -k by omega)
      simp only [Int.mul_neg] at e1 e2
      omega
    · exact .inl ⟨Int.mul_le_mul_of_nonneg_right h1 hk, Int.mul_le_mul_of_nonneg_right h2 hk⟩
  have k1 := key (k := m) hn.1 hn.2
  have k2 := key (k := a) hm.1 hm.2
  have k3 := key (k := b) hm.1 hm.2
  simp only [Int.mul_comm _ a, Int.mul_comm _ b] at k2 k3
  omega
theorem arith_facts {a b c d n m : Int} (hx : Sml a b) (hy : Sml c d) (hn : a ≤ n ∧ n ≤ b) (hm : c ≤ m ∧ m ≤ d) :
    (addM a b c d).2.2 = 0 ∧ (subM a b c d).2.2 = 0 ∧ (mulM a b c d).2.2 = 0 ∧
    (Ivd (addM a b c d).1 (addM a b c d).2.1 ∧ (addM a b c d).1 ≤ n + m ∧ n + m ≤ (addM a b c d).2.1) ∧
    (Ivd (subM a b c d).1 (subM a b c d).2.1 ∧ (subM a b c d).1 ≤ n - m ∧ n - m ≤ (subM a b c d).2.1) ∧
    (Ivd (mulM a b c d).1 (mulM a b c d).2.1 ∧ (mulM a b c d).1 ≤ n * m ∧ n * m ≤ (mulM a b c d).2.1) ∧ -10000 ≤ n * m ∧ n * m ≤ 10000 := by
  have e1 : addM a b c d = (a + c, b + d, 0) := by unfold addM resM; rw [if_pos (by omega), if_pos (by omega)]
  have e2 : subM a b c d = (a - d, b - c, 0) := by unfold subM resM; rw [if_pos (by omega), if_pos (by omega)]
  have m1 := mul_sm (x := a) (y := c) (p := 100) (q := 100) (by omega) (by omega)
  have m2 := mul_sm (x := a) (y := d) (p := 100) (q := 100) (by omega) (by omega)
  have m3 := mul_sm (x := b) (y := c) (p := 100) (q := 100) (by omega) (by omega)
  have m4 := mul_sm (x := b) (y := d) (p := 100) (q := 100) (by omega) (by omega)
  have m5 := mul_sm (x := n) (y := m) (p := 100) (q := 100) (by omega) (by omega)
  have hb := mul_btw hn hm
  rw [e1, e2]
  unfold mulM
  rw [if_pos (by omega), if_pos (by omega)]
  dsimp only
  omega
theorem scale_facts {a b num den n : Int} (hx : Sml a b) (hn : a ≤ n ∧ n ≤ b) (hu : -20 ≤ num ∧ num ≤ 20) (hd : den ≠ 0 ∧ -10 ≤ den ∧ den ≤ 10) :
    (scaleM a b num den).2.2 = 0 ∧ Ivd (scaleM a b num den).1 (scaleM a b num den).2.1 ∧ ((scaleM a b num den).1 ≤ dnm (n * num) den ∧ dnm (n * num) den ≤ (scaleM a b num den).2.1) ∧
    ((scaleM a b num den).1 ≤ upm (n * num) den ∧ upm (n * num) den ≤ (scaleM a b num den).2.1) ∧ -2000 ≤ n * num ∧ n * num ≤ 2000 := by
  have m1 := mul_sm (x := a) (y := num) (p := 100) (q := 20) (by omega) (by omega)
  have m2 := mul_sm (x := b) (y := num) (p := 100) (q := 20) (by omega) (by omega)
  have m3 := mul_sm (x := n) (y := num) (p := 100) (q := 20) (by omega) (by omega)
  have rng : ∀ x, -2000 ≤ x ∧ x ≤ 2000 → (-2001 ≤ dnm x den ∧ dnm x den ≤ upm x den ∧ upm x den ≤ 2001) := by
    intro x hx'
    have h1 := dn_le_up (x := x) (d := den) (by omega) hd.1
    rcases Int.lt_or_lt_of_ne hd.1 with h | h
    · have q1 := dnm_neg (x := x) (d := den) (by omega) h
      have q2 := upm_neg (x := x) (d := den) (by omega) h
      have q3 : -2000 ≤ (-x) / (-den) ∧ -2000 ≤ x / (-den) := by
        constructor <;> refine Int.le_ediv_of_mul_le (by omega) ?_ <;> omega
      have q4 : (-x) / (-den) ≤ 2000 ∧ x / (-den) ≤ 2000 := by
        constructor <;> refine Int.ediv_le_of_le_mul (by omega) ?_ <;> omega
      omega
    · have q1 := dnm_pos (x := x) (d := den) (by omega) h
      have q2 := upm_pos (x := x) (d := den) (by omega) h
      have q3 : -2000 ≤ (-x) / den ∧ -2000 ≤ x / den := by
        constructor <;> refine Int.le_ediv_of_mul_le (by omega) ?_ <;> omega
      have q4 : (-x) / den ≤ 2000 ∧ x / den ≤ 2000 := by
        constructor <;> refine Int.ediv_le_of_le_mul (by omega) ?_ <;> omega
      omega
  have ra := rng (a * num) (by omega)
  have rb := rng (b * num) (by omega)
  have rn := rng (n * num) (by omega)
  have l1 := dn_le_up (x := n * num) (d := den) (by omega) hd.1
  have hmon : (0 ≤ num → a * num ≤ n * num ∧ n * num ≤ b * num) ∧ (num < 0 → b * num ≤ n * num ∧ n * num ≤ a * num) := by
    refine ⟨fun h => ⟨Int.mul_le_mul_of_nonneg_right hn.1 h, Int.mul_le_mul_of_nonneg_right hn.2 h⟩, fun h => ?_⟩
    have e1 := Int.mul_le_mul_of_nonneg_right hn.1 (show 0 ≤ -num by omega)
    have e2 := Int.mul_le_mul_of_nonneg_right hn.2 (show 0 ≤ -num by omega)
    simp only [Int.mul_neg] at e1 e2
    omega
  have mono : ∀ x y, x ≤ y → -2000 ≤ x → y ≤ 2000 → (0 < den → dnm x den ≤ dnm y den ∧ upm x den ≤ upm y den) ∧ (den < 0 → dnm y den ≤ dnm x den ∧ upm y den ≤ upm x den) := fun x y h h1 h2 => dn_mono (by omega) (by omega) h
  rcases Int.lt_or_le num 0 with hn0 | hn0
  · have k1 := mono (b * num) (n * num) (hmon.2 hn0).1 (by omega) (by omega)
    have k2 := mono (n * num) (a * num) (hmon.2 hn0).2 (by omega) (by omega)
    rcases Int.lt_or_lt_of_ne hd.1 with h | h
    · have e : scaleM a b num den = (dnm (a * num) den, upm (b * num) den, 0) := by
        unfold scaleM resM
        rw [if_neg (by omega), if_neg (by omega), if_neg (by omega), if_neg (by omega), if_pos (by omega)]
      rw [e]; dsimp only; omega
    · have e : scaleM a b num den = (dnm (b * num) den, upm (a * num) den, 0) := by
        unfold scaleM resM
        rw [if_neg (by omega), if_neg (by omega), if_neg (by omega), if_pos (by omega), if_pos (by omega)]
      rw [e]; dsimp only; omega
  · have k1 := mono (a * num) (n * num) (hmon.1 hn0).1 (by omega) (by omega)
    have k2 := mono (n * num) (b * num) (hmon.1 hn0).2 (by omega) (by omega)
    rcases Int.lt_or_lt_of_ne hd.1 with h | h
    · have e : scaleM a b num den = (dnm (b * num) den, upm (a * num) den, 0) := by
        unfold scaleM resM
        rw [if_neg (by omega), if_neg (by omega), if_neg (by omega), if_pos (by omega), if_pos (by omega)]
      rw [e]; dsimp only; omega
    · have e : scaleM a b num den = (dnm (a * num) den, upm (b * num) den, 0) := by
        unfold scaleM resM
        rw [if_neg (by omega), if_neg (by omega), if_neg (by omega), if_neg (by omega), if_pos (by omega)]
      rw [e]; dsimp only; omega
theorem root_in {a b n : Int} (hx : Sml a b) (hn : a ≤ n ∧ n ≤ b) (h : 0 ≤ a) :
    (rootM a b).2.2 = 0 ∧ (rootM a b).1 * (rootM a b).1 ≤ n ∧ n ≤ (rootM a b).2.1 * (rootM a b).2.1 ∧ 0 ≤ (rootM a b).1 * (rootM a b).1 ∧ (rootM a b).2.1 * (rootM a b).2.1 ≤ 10000000000000 := by
  have e : rootM a b = (isq a, isu b, 0) := by unfold rootM; rw [if_neg (by omega), if_neg (by omega)]
  rw [e]
  obtain ⟨g0, g1, g2⟩ := isq_spec h
  obtain ⟨u1, u2, u3, u4⟩ := isu_spec (n := b) (by omega)
  have := isq_le (n := b) (by omega) (by omega)
  have h2 := sq_le (a := isu b) (b := 1000001) (by omega) (by omega)
  have h3 := Int.mul_nonneg g0 g0
  dsimp only
  omega

theorem From_ok {k : HumpgenMaker} {a b : Int} (h : Mk k CM0) (hab : a ≤ b) (ha : -100000000000 ≤ a ∧ b ≤ 100000000000) : Ok (gen_Maker_From k a b) fun r => (a ≤ r.1 ∧ r.1 ≤ b) ∧ r.2 = k.fn + 1 := by
  unfold gen_Maker_From
  rw [w64_eq (by omega : -9223372036854775808 ≤ b - a ∧ b - a ≤ 9223372036854775807), w64_eq (by omega)]
  refine ok_bd (Next_ok h (by omega)) fun v ⟨hv, e⟩ => ok_some ?_
  rw [w64_eq (by omega)]
  exact ⟨⟨by dsimp only; omega, by dsimp only; omega⟩, e⟩
theorem MValid_ok {k : HumpgenMaker} (h : Mk k 900000000000000) : Ok (gen_Maker_Valid k) fun r => Sml r.1.Lo r.1.Hi ∧ r.2 = k.fn + 2 := by
  unfold gen_Maker_Valid
  have c0 := h.c0
  have c1 := h.c1
  refine ok_bd (From_ok (h.up (by decide)) (by decide) (by decide)) fun v ⟨hv, e⟩ => ?_
  refine ok_bd (Next_ok (h.to (by omega) (by unfold CM0; omega)) (by decide)) fun u ⟨hu, e2⟩ => ok_some ?_
  rw [w64_eq (by omega)]
  exact ⟨by dsimp only; omega, by dsimp only at e2 ⊢; omega⟩
theorem IContains_ok {t : List Int} (ht : t.length ≤ 9223372036854775807) : law01_IntervalContains t = some true := by
  refine Ok.eq (?_ : Ok _ _)
  unfold law01_IntervalContains
  refine ok_bde (gen_New_ok t) ?_
  refine ok_lp (fun (z : Int × Int) => 0 ≤ z.2 ∧ z.2 ≤ 5 ∧ 0 ≤ z.1 ∧ z.1 ≤ 20 * z.2) (fun z => (5 - z.2).toNat) ⟨by dsimp only; decide, by dsimp only; decide, Int.le_refl 0, Int.le_refl 0⟩ (by simp [big_eq]) ?_
  rintro ⟨c, i⟩ next ⟨i0, i1, c0, c1⟩ hnext
  dsimp only at i0 i1 c0 c1 ⊢
  refine ok_if (fun hi => ?_) (fun _ => ok_bde sane01 (ok_some rfl))
  have mk : ∀ c', 0 ≤ c' → c' ≤ 1000 → Mk (HumpgenMaker.mk t c') 900000000000000 := fun c' h1 h2 => ⟨h1, by dsimp only; omega, ht⟩
  have mk0 : ∀ c', 0 ≤ c' → c' ≤ 1000 → Mk (HumpgenMaker.mk t c') CM0 := fun c' h1 h2 => (mk c' h1 h2).up (by decide)
  refine ok_bd (MValid_ok (mk c (by omega) (by omega))) fun x ⟨hx, ex⟩ => ?_
  refine ok_bd (MValid_ok (mk x.2 (by dsimp only at ex; omega) (by dsimp only at ex; omega))) fun y ⟨hy, ey⟩ => ?_
  dsimp only at ex ey
  refine ok_bd (From_ok (mk0 y.2 (by omega) (by omega)) (by omega) (by omega)) fun n ⟨hn, en⟩ => ?_
  dsimp only at en
  refine ok_bd (From_ok (mk0 n.2 (by omega) (by omega)) (by omega) (by omega)) fun m ⟨hm, em⟩ => ?_
  dsimp only at em
  obtain ⟨x, cx⟩ := x
  obtain ⟨y, cy⟩ := y
  obtain ⟨n, cn⟩ := n
  obtain ⟨m, cm⟩ := m
  dsimp only at *
  obtain ⟨f1, f2, f3, f4, f5, f6, f7, f8⟩ := arith_facts hx hy hn hm
  refine ok_bde (Add_m x y) (ok_bde (Sub_m x y) (ok_bde (Mul_m x y) ?_))
  rw [w64_eq (by omega : -9223372036854775808 ≤ n + m ∧ n + m ≤ 9223372036854775807), w64_eq (by omega : -9223372036854775808 ≤ n - m ∧ n - m ≤ 9223372036854775807), w64_eq (by omega : -9223372036854775808 ≤ n * m ∧ n * m ≤ 9223372036854775807)]
  refine ok_if0 (by dsimp only; omega) (ok_if0 (by dsimp only; omega) (ok_if0 (by dsimp only; omega) ?_))
  refine ok_nd (Contains_m _ _) (fun h => absurd f4 h) fun _ => ok_nd (Contains_m _ _) (fun h => absurd f5 h) fun _ => ok_nd (Contains_m _ _) (fun h => absurd f6 h) fun _ => ?_
  refine ok_bd (From_ok (mk0 cm (by omega) (by omega)) (by decide) (by decide)) fun nu ⟨hnu, enu⟩ => ?_
  dsimp only at enu
  refine ok_bd (Pick_ok (mk0 nu.2 (by omega) (by omega)) (by simp)) fun de ⟨hde, ede⟩ => ?_
  dsimp only at ede
  simp only [List.mem_cons, List.not_mem_nil, or_false] at hde
  obtain ⟨nu, cnu⟩ := nu
  obtain ⟨de, cde⟩ := de
  dsimp only at *
  have hs := scale_facts (den := de) hx hn hnu (by omega)
  refine ok_bde (Scale_m _ _ _) (ok_if0 (by dsimp only; omega) ?_)
  have hnn := mul_sm (x := n) (y := nu) (p := 100) (q := 20) (by omega) (by omega)
  rw [w64_eq (by omega : -9223372036854775808 ≤ n * nu ∧ n * nu ≤ 9223372036854775807)]
  refine ok_bde (rDown_m (by omega) (by omega)) (ok_nd (Contains_m _ _) (fun h => absurd (by dsimp only; omega) h) fun _ => ?_)
  refine ok_bde (rUp_m (by omega) (by omega)) (ok_nd (Contains_m _ _) (fun h => absurd (by dsimp only; omega) h) fun _ => ?_)
  rw [w64_eq (by omega : -9223372036854775808 ≤ i + 1 ∧ i + 1 ≤ 9223372036854775807)]
  have fin := hnext (cde, i + 1) ⟨by dsimp only; omega, by dsimp only; omega, by dsimp only; omega, by dsimp only; omega⟩ (by dsimp only; omega)
  refine ok_if (fun h0 => ?_) (fun _ => fin)
  obtain ⟨r1, r2, r3, r4, r5⟩ := root_in hx hn h0
  refine ok_bde (Root_m x) (ok_if0 (by dsimp only; omega) ?_)
  dsimp only
  rw [w64_eq (by omega), w64_eq (by omega)]
  exact ok_if0 (by omega) (ok_if0 (by omega) fin)
end Go.Hy
