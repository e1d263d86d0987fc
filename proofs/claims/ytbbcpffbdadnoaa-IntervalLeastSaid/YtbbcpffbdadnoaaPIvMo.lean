/-
  The statements of layer 1 on parts, on sets, and the exact one.
-/
import Derived.Test.YtbbcpffbdadnoaaPIvC
namespace Go.Hy
set_option linter.unusedVariables false
set_option linter.unusedSimpArgs false
set_option maxHeartbeats 2000000
set_option maxRecDepth 10000
open Go.Hy.Iv

abbrev Sm2 (lo hi : Int) : Prop := -60 ≤ lo ∧ lo ≤ hi ∧ hi ≤ 99
theorem mn4 (p q r s : Int) : min (min (min p q) r) s ≤ p ∧ min (min (min p q) r) s ≤ q ∧ min (min (min p q) r) s ≤ r ∧ min (min (min p q) r) s ≤ s := by omega
theorem mx4 (p q r s : Int) : p ≤ max (max (max p q) r) s ∧ q ≤ max (max (max p q) r) s ∧ r ≤ max (max (max p q) r) s ∧ s ≤ max (max (max p q) r) s := by omega
theorem mn4g {v p q r s : Int} (h1 : v ≤ p) (h2 : v ≤ q) (h3 : v ≤ r) (h4 : v ≤ s) : v ≤ min (min (min p q) r) s := by omega
theorem mx4g {v p q r s : Int} (h1 : p ≤ v) (h2 : q ≤ v) (h3 : r ≤ v) (h4 : s ≤ v) : max (max (max p q) r) s ≤ v := by omega
theorem mulM_eq {a b c d : Int} (hx : Sm2 a b) (hy : Sm2 c d) : mulM a b c d = (min (min (min (a * c) (a * d)) (b * c)) (b * d), max (max (max (a * c) (a * d)) (b * c)) (b * d), 0) ∧
    (-10000 ≤ a * c ∧ a * c ≤ 10000) ∧ (-10000 ≤ a * d ∧ a * d ≤ 10000) ∧ (-10000 ≤ b * c ∧ b * c ≤ 10000) ∧ (-10000 ≤ b * d ∧ b * d ≤ 10000) := by
  have m1 := mul_sm (x := a) (y := c) (p := 100) (q := 100) (by omega) (by omega)
  have m2 := mul_sm (x := a) (y := d) (p := 100) (q := 100) (by omega) (by omega)
  have m3 := mul_sm (x := b) (y := c) (p := 100) (q := 100) (by omega) (by omega)
  have m4 := mul_sm (x := b) (y := d) (p := 100) (q := 100) (by omega) (by omega)
  refine ⟨?_, by omega, by omega, by omega, by omega⟩
  have e1 : min 1000000000000 (a * c) = a * c := by omega
  have e2 : max (-1000000000000) (a * c) = a * c := by omega
  unfold mulM
  rw [if_pos (by omega), if_pos (by omega), e1, e2]
/-- A product lies in the product. -/
theorem mul_in {a b c d n m : Int} (hx : Sm2 a b) (hy : Sm2 c d) (hn : a ≤ n ∧ n ≤ b) (hm : c ≤ m ∧ m ≤ d) : (mulM a b c d).1 ≤ n * m ∧ n * m ≤ (mulM a b c d).2.1 := by
  obtain ⟨e1, _⟩ := mulM_eq hx hy
  obtain ⟨g1, g2⟩ := mul_btw hn hm
  obtain ⟨h1, h2, h3, h4⟩ := mn4 (a * c) (a * d) (b * c) (b * d)
  obtain ⟨k1, k2, k3, k4⟩ := mx4 (a * c) (a * d) (b * c) (b * d)
  rw [e1]
  dsimp only
  constructor
  · rcases g1 with h | h | h | h <;> exact Int.le_trans (by assumption) h
  · rcases g2 with h | h | h | h <;> exact Int.le_trans h (by assumption)
/-- The product of a part is a part. -/
theorem mul_part {a b c d p q : Int} (hx : Sm2 a b) (hy : Sm2 c d) (hp : a ≤ p ∧ p ≤ q ∧ q ≤ b) :
    (mulM a b c d).2.2 = 0 ∧ (mulM p q c d).2.2 = 0 ∧ Ivd (mulM a b c d).1 (mulM a b c d).2.1 ∧ Ivd (mulM p q c d).1 (mulM p q c d).2.1 ∧ (mulM a b c d).1 ≤ (mulM p q c d).1 ∧ (mulM p q c d).2.1 ≤ (mulM a b c d).2.1 := by
  have hpq : Sm2 p q := by omega
  obtain ⟨e1, b1, b2, b3, b4⟩ := mulM_eq hx hy
  obtain ⟨e2, c1, c2, c3, c4⟩ := mulM_eq (a := p) (b := q) (c := c) (d := d) hpq hy
  have g1 := mul_in (n := p) (m := c) hx hy (by omega) (by omega)
  have g2 := mul_in (n := p) (m := d) hx hy (by omega) (by omega)
  have g3 := mul_in (n := q) (m := c) hx hy (by omega) (by omega)
  have g4 := mul_in (n := q) (m := d) hx hy (by omega) (by omega)
  have i1 := mul_in (n := a) (m := c) hx hy (by omega) (by omega)
  have i2 := mul_in (n := p) (m := c) hpq hy (by omega) (by omega)
  have v1 : -10000 ≤ (mulM a b c d).1 ∧ (mulM a b c d).2.1 ≤ 10000 := by
    rw [e1]
    exact ⟨mn4g b1.1 b2.1 b3.1 b4.1, mx4g b1.2 b2.2 b3.2 b4.2⟩
  have v2 : -10000 ≤ (mulM p q c d).1 ∧ (mulM p q c d).2.1 ≤ 10000 := by
    rw [e2]
    exact ⟨mn4g c1.1 c2.1 c3.1 c4.1, mx4g c1.2 c2.2 c3.2 c4.2⟩
  refine ⟨by rw [e1], by rw [e2], by omega, by omega, ?_, ?_⟩
  · rw [e2]; exact mn4g g1.1 g2.1 g3.1 g4.1
  · rw [e2]; exact mx4g g1.2 g2.2 g3.2 g4.2
theorem scaleM_eq {a b num den : Int} (hx : Sm2 a b) (hu : -20 ≤ num ∧ num ≤ 20) (hd : den ≠ 0 ∧ -10 ≤ den ∧ den ≤ 10) :
    (scaleM a b num den).2.2 = 0 ∧ Ivd (scaleM a b num den).1 (scaleM a b num den).2.1 ∧
    (scaleM a b num den).1 = min (dnm (a * num) den) (dnm (b * num) den) ∧ (scaleM a b num den).2.1 = max (upm (a * num) den) (upm (b * num) den) := by
  have m1 := mul_sm (x := a) (y := num) (p := 100) (q := 20) (by omega) (by omega)
  have m2 := mul_sm (x := b) (y := num) (p := 100) (q := 20) (by omega) (by omega)
  have rng : ∀ x, -2000 ≤ x ∧ x ≤ 2000 → -2000 ≤ dnm x den ∧ dnm x den ≤ 2000 ∧ -2000 ≤ upm x den ∧ upm x den ≤ 2000 := fun x hx => by
    rcases Int.lt_or_lt_of_ne hd.1 with h | h
    · have q1 := dnm_neg (x := x) (d := den) (by omega) h
      have q2 := upm_neg (x := x) (d := den) (by omega) h
      have q3 : -2000 ≤ (-x) / (-den) ∧ -2000 ≤ x / (-den) := by
        constructor <;> refine Int.le_ediv_of_mul_le (by omega) ?_ <;> omega
      have q4 : (-x) / (-den) ≤ 2000 ∧ x / (-den) ≤ 2000 := by
        constructor <;> refine Int.ediv_le_of_le_mul (by omega) ?_ <;> omega
      omega
    · have q1 := dnm_pos (x := x) (d := den) (by omega) h
      have q2 := upm_pos (x := x) (d := den) (by omega) h
      have q3 : -2000 ≤ (-x) / den ∧ -2000 ≤ x / den := by
        constructor <;> refine Int.le_ediv_of_mul_le (by omega) ?_ <;> omega
      have q4 : (-x) / den ≤ 2000 ∧ x / den ≤ 2000 := by
        constructor <;> refine Int.ediv_le_of_le_mul (by omega) ?_ <;> omega
      omega
  have ra := rng (a * num) (by omega)
  have rb := rng (b * num) (by omega)
  obtain ⟨⟨s1, s2⟩, ⟨s3, s4⟩, s5⟩ := scale_min (a := a) (b := b) (num := num) (den := den) hx.2.1 (by omega) (by omega) hd.1
  by_cases hc : num < 0 ∧ 0 ≤ den ∨ 0 ≤ num ∧ den < 0
  · have := s1 hc
    have := s2 hc
    have e : scaleM a b num den = (dnm (b * num) den, upm (a * num) den, 0) := by
      unfold scaleM resM
      rw [if_neg (by omega), if_neg (by omega), if_neg (by omega), if_pos hc, if_pos (by omega)]
    rw [e]; dsimp only; omega
  · have := s3 hc
    have := s4 hc
    have e : scaleM a b num den = (dnm (a * num) den, upm (b * num) den, 0) := by
      unfold scaleM resM
      rw [if_neg (by omega), if_neg (by omega), if_neg (by omega), if_neg hc, if_pos (by omega)]
    rw [e]; dsimp only; omega
theorem scale_part {a b p q num den : Int} (hx : Sm2 a b) (hp : a ≤ p ∧ p ≤ q ∧ q ≤ b) (hu : -20 ≤ num ∧ num ≤ 20) (hd : den ≠ 0 ∧ -10 ≤ den ∧ den ≤ 10) :
    (scaleM a b num den).1 ≤ (scaleM p q num den).1 ∧ (scaleM p q num den).2.1 ≤ (scaleM a b num den).2.1 := by
  obtain ⟨_, _, e1, e2⟩ := scaleM_eq hx hu hd
  obtain ⟨_, _, e3, e4⟩ := scaleM_eq (a := p) (b := q) (by omega) hu hd
  rw [e1, e2, e3, e4]
  have m1 := mul_sm (x := a) (y := num) (p := 100) (q := 20) (by omega) (by omega)
  have m2 := mul_sm (x := b) (y := num) (p := 100) (q := 20) (by omega) (by omega)
  have m3 := mul_sm (x := p) (y := num) (p := 100) (q := 20) (by omega) (by omega)
  have m4 := mul_sm (x := q) (y := num) (p := 100) (q := 20) (by omega) (by omega)
  have mono : ∀ x y, x ≤ y → -2000 ≤ x → y ≤ 2000 → (0 < den → dnm x den ≤ dnm y den ∧ upm x den ≤ upm y den) ∧ (den < 0 → dnm y den ≤ dnm x den ∧ upm y den ≤ upm x den) := fun x y h h1 h2 => dn_mono (by omega) (by omega) h
  have hmul : ∀ x y, x ≤ y → (0 ≤ num → x * num ≤ y * num) ∧ (num < 0 → y * num ≤ x * num) := fun x y h => by
    refine ⟨fun hn => Int.mul_le_mul_of_nonneg_right h hn, fun hn => ?_⟩
    have := Int.mul_le_mul_of_nonneg_right h (show 0 ≤ -num by omega)
    simp only [Int.mul_neg] at this
    omega
  have btw : ∀ z, a ≤ z → z ≤ b → (min (dnm (a * num) den) (dnm (b * num) den) ≤ dnm (z * num) den) ∧ (upm (z * num) den ≤ max (upm (a * num) den) (upm (b * num) den)) := fun z z1 z2 => by
    have h1 := hmul a z z1
    have h2 := hmul z b z2
    rcases Int.lt_or_le num 0 with hn | hn
    · have k1 := mono _ _ (h1.2 hn) (by have := h2.2 hn; omega) (by omega)
      have k2 := mono _ _ (h2.2 hn) (by omega) (by have := h1.2 hn; omega)
      rcases Int.lt_or_lt_of_ne hd.1 with h | h
      · have := k1.2 h; have := k2.2 h; omega
      · have := k1.1 h; have := k2.1 h; omega
    · have k1 := mono _ _ (h1.1 hn) (by omega) (by have := h2.1 hn; omega)
      have k2 := mono _ _ (h2.1 hn) (by have := h1.1 hn; omega) (by omega)
      rcases Int.lt_or_lt_of_ne hd.1 with h | h
      · have := k1.2 h; have := k2.2 h; omega
      · have := k1.1 h; have := k2.1 h; omega
  have p1 := btw p (by omega) (by omega)
  have p2 := btw q (by omega) (by omega)
  omega
theorem IMonotone_ok {t : List Int} (ht : t.length ≤ 9223372036854775807) : law01_IntervalMonotone t = some true := by
  refine Ok.eq (?_ : Ok _ _)
  unfold law01_IntervalMonotone
  refine ok_bde (gen_New_ok t) ?_
  refine ok_lp (fun (z : Int × Int) => 0 ≤ z.2 ∧ z.2 ≤ 5 ∧ 0 ≤ z.1 ∧ z.1 ≤ 20 * z.2) (fun z => (5 - z.2).toNat) ⟨by dsimp only; decide, by dsimp only; decide, Int.le_refl 0, Int.le_refl 0⟩ (by simp [big_eq]) ?_
  rintro ⟨c, i⟩ next ⟨i0, i1, c0, c1⟩ hnext
  dsimp only at i0 i1 c0 c1 ⊢
  refine ok_if (fun hi => ?_) (fun _ => ok_bde sane01 (ok_some rfl))
  have mk : ∀ c', 0 ≤ c' → c' ≤ 1000 → Mk (HumpgenMaker.mk t c') 900000000000000 := fun c' h1 h2 => ⟨h1, by dsimp only; omega, ht⟩
  have mk0 : ∀ c', 0 ≤ c' → c' ≤ 1000 → Mk (HumpgenMaker.mk t c') CM0 := fun c' h1 h2 => (mk c' h1 h2).up (by decide)
  refine ok_bd (MValid_ok (mk c (by omega) (by omega))) fun x ⟨hx, ex⟩ => ?_
  refine ok_bd (MValid_ok (mk x.2 (by dsimp only at ex; omega) (by dsimp only at ex; omega))) fun y ⟨hy, ey⟩ => ?_
  dsimp only at ex ey
  refine ok_bd (From_ok (mk0 y.2 (by omega) (by omega)) (by omega) (by omega)) fun n ⟨hn, en⟩ => ?_
  dsimp only at en
  refine ok_bd (From_ok (mk0 n.2 (by omega) (by omega)) (by omega) (by omega)) fun m ⟨hm, em⟩ => ?_
  dsimp only at em
  obtain ⟨x, cx⟩ := x
  obtain ⟨y, cy⟩ := y
  obtain ⟨n, cn⟩ := n
  obtain ⟨m, cm⟩ := m
  dsimp only at *
  obtain ⟨f1, f2, f3, f4, f5, f6⟩ := mul_part (a := x.Lo) (b := x.Hi) (c := y.Lo) (d := y.Hi) (p := n) (q := m) (by omega) (by omega) (by omega)
  have s1 : subM y.Lo y.Hi x.Lo x.Hi = (y.Lo - x.Hi, y.Hi - x.Lo, 0) := by unfold subM resM; rw [if_pos (by omega), if_pos (by omega)]
  have s2 : subM y.Lo y.Hi n m = (y.Lo - m, y.Hi - n, 0) := by unfold subM resM; rw [if_pos (by omega), if_pos (by omega)]
  refine ok_bde (Mul_m x y) (ok_bde (Mul_m _ y) (ok_bde (Sub_m y x) (ok_bde (Sub_m y _) ?_)))
  dsimp only
  rw [s1, s2]
  dsimp only
  refine ok_if0 (by omega) (ok_if0 (by omega) (ok_if0 (by omega) (ok_if0 (by omega) ?_)))
  refine ok_nd (Within_m _ _) (fun h => absurd (by dsimp only; omega) h) fun _ => ok_nd (Within_m _ _) (fun h => absurd (by dsimp only; omega) h) fun _ => ok_nd (Within_m _ _) (fun h => absurd (by dsimp only; omega) h) fun _ => ?_
  refine ok_bd (From_ok (mk0 cm (by omega) (by omega)) (by decide) (by decide)) fun nu ⟨hnu, enu⟩ => ?_
  dsimp only at enu
  refine ok_bd (Pick_ok (mk0 nu.2 (by omega) (by omega)) (by simp)) fun de ⟨hde, ede⟩ => ?_
  dsimp only at ede
  simp only [List.mem_cons, List.not_mem_nil, or_false] at hde
  obtain ⟨nu, cnu⟩ := nu
  obtain ⟨de, cde⟩ := de
  dsimp only at *
  obtain ⟨g1, g2, _, _⟩ := scaleM_eq (a := x.Lo) (b := x.Hi) (num := nu) (den := de) (by omega) (by omega) (by omega)
  obtain ⟨g3, g4, _, _⟩ := scaleM_eq (a := n) (b := m) (num := nu) (den := de) (by omega) (by omega) (by omega)
  obtain ⟨g5, g6⟩ := scale_part (a := x.Lo) (b := x.Hi) (p := n) (q := m) (num := nu) (den := de) (by omega) (by omega) (by omega) (by omega)
  have hh : hullM x.Lo x.Hi y.Lo y.Hi = (min x.Lo y.Lo, max x.Hi y.Hi, 0) := by unfold hullM; rw [if_pos (by omega)]
  refine ok_bde (Scale_m _ _ _) (ok_bde (Scale_m _ _ _) (ok_bde (Hull_m _ _) ?_))
  dsimp only
  rw [hh]
  dsimp only
  refine ok_if0 (by omega) (ok_if0 (by omega) (ok_if0 (by omega) ?_))
  refine ok_nd (Within_m _ _) (fun h => absurd (by dsimp only; omega) h) fun _ => ok_nd (Within_m _ _) (fun h => absurd (by dsimp only; omega) h) fun _ => ok_nd (Within_m _ _) (fun h => absurd (by dsimp only; omega) h) fun _ => ?_
  rw [w64_eq (by omega : -9223372036854775808 ≤ i + 1 ∧ i + 1 ≤ 9223372036854775807)]
  exact hnext (cde, i + 1) ⟨by dsimp only; omega, by dsimp only; omega, by dsimp only; omega, by dsimp only; omega⟩ (by dsimp only; omega)
theorem ISets_ok {t : List Int} (ht : t.length ≤ 9223372036854775807) (n : Int) : law01_IntervalSets t n = some true := by
  refine Ok.eq (?_ : Ok _ _)
  unfold law01_IntervalSets
  refine ok_bde (gen_New_ok t) ?_
  refine ok_lp (fun (z : Int × Int) => 0 ≤ z.2 ∧ z.2 ≤ 5 ∧ 0 ≤ z.1 ∧ z.1 ≤ 20 * z.2) (fun z => (5 - z.2).toNat) ⟨by dsimp only; decide, by dsimp only; decide, Int.le_refl 0, Int.le_refl 0⟩ (by simp [big_eq]) ?_
  rintro ⟨c, i⟩ next ⟨i0, i1, c0, c1⟩ hnext
  dsimp only at i0 i1 c0 c1 ⊢
  refine ok_if (fun hi => ?_) (fun _ => ok_bde sane01 (ok_some rfl))
  have mk : ∀ c', 0 ≤ c' → c' ≤ 1000 → Mk (HumpgenMaker.mk t c') 900000000000000 := fun c' h1 h2 => ⟨h1, by dsimp only; omega, ht⟩
  have mk0 : ∀ c', 0 ≤ c' → c' ≤ 1000 → Mk (HumpgenMaker.mk t c') CM0 := fun c' h1 h2 => (mk c' h1 h2).up (by decide)
  refine ok_bd (MValid_ok (mk c (by omega) (by omega))) fun x ⟨hx, ex⟩ => ?_
  refine ok_bd (MValid_ok (mk x.2 (by dsimp only at ex; omega) (by dsimp only at ex; omega))) fun y ⟨hy, ey⟩ => ?_
  dsimp only at ex ey
  obtain ⟨x, cx⟩ := x
  obtain ⟨y, cy⟩ := y
  dsimp only at *
  have hh : hullM x.Lo x.Hi y.Lo y.Hi = (min x.Lo y.Lo, max x.Hi y.Hi, 0) := by unfold hullM; rw [if_pos (by omega)]
  refine ok_bde (Meet_m _ _) (ok_bde (Hull_m _ _) ?_)
  dsimp only
  rw [hh]
  dsimp only
  have hme : (∀ v, (Ivd x.Lo x.Hi ∧ x.Lo ≤ v ∧ v ≤ x.Hi) ∧ (Ivd y.Lo y.Hi ∧ y.Lo ≤ v ∧ v ≤ y.Hi) ↔ (meetM x.Lo x.Hi y.Lo y.Hi).2.2 = 0 ∧ Ivd (meetM x.Lo x.Hi y.Lo y.Hi).1 (meetM x.Lo x.Hi y.Lo y.Hi).2.1 ∧ (meetM x.Lo x.Hi y.Lo y.Hi).1 ≤ v ∧ v ≤ (meetM x.Lo x.Hi y.Lo y.Hi).2.1) := by
    intro v
    unfold meetM
    rw [if_pos (by omega)]
    by_cases h : min x.Hi y.Hi < max x.Lo y.Lo
    · rw [if_pos h]; dsimp only; omega
    · rw [if_neg h]; dsimp only; omega
  generalize meetM x.Lo x.Hi y.Lo y.Hi = me at hme
  refine ok_jp (fun _ => True) (fun _ _ => ?_) (fun k hk => ?_)
  · refine ok_bd (From_ok (mk0 cy (by omega) (by omega)) (by decide) (by decide)) fun nu ⟨hnu, enu⟩ => ?_
    dsimp only at enu
    refine ok_vl fun len hlen => ?_
    refine ok_lp (fun (z : Int) => 0 ≤ z) (fun z => (len - z).toNat) (Int.le_refl 0) (by simp at hlen; simp [big_eq, hlen]) ?_
    intro j next2 j0 hnext2
    refine ok_if (fun hj => ?_) (fun _ => ?_)
    · refine ok_ix j0 (by omega) fun v hv => ?_
      have fin : Ok (next2 (w64 (j + 1))) (fun b => b = true) := by
        simp at hlen
        rw [w64_eq (by omega)]
        exact hnext2 _ (by omega) (by omega)
      refine ok_jp (fun b => b = decide ((Ivd x.Lo x.Hi ∧ x.Lo ≤ v ∧ v ≤ x.Hi) ∧ (Ivd y.Lo y.Hi ∧ y.Lo ≤ v ∧ v ≤ y.Hi))) (fun b hb => ?_) (fun k2 hk2 => ?_)
      · replace hb : b = decide (me.2.2 = 0 ∧ Ivd me.1 me.2.1 ∧ me.1 ≤ v ∧ v ≤ me.2.1) := hb.trans (decide_eq_decide.2 (hme v))
        refine ok_if (fun h0 => ?_) (fun h0 => ?_)
        · refine ok_bde (Contains_m _ _) ?_
          rw [hb]
          dsimp only
          have : ((me.2.2 = 0 ∧ Ivd me.1 me.2.1 ∧ me.1 ≤ v ∧ v ≤ me.2.1) ↔ (Ivd me.1 me.2.1 ∧ me.1 ≤ v ∧ v ≤ me.2.1)) := ⟨fun h => h.2, fun h => ⟨h0, h⟩⟩
          rw [decide_eq_decide.2 this, beq_self_eq_true]
          exact fin
        · have : b = false := by rw [hb]; exact decide_eq_false (fun h => h0 h.1)
          rw [this]
          exact fin
      · refine ok_pd (Contains_m _ _) (fun h1 => ok_bde (Contains_m _ _) (hk2 _ ?_)) (fun h1 => hk2 _ ?_)
        · exact dd ⟨fun h => ⟨h1, h⟩, fun h => h.2⟩
        · exact df fun h => h1 h.1
    · rw [w64_eq (by omega : -9223372036854775808 ≤ i + 1 ∧ i + 1 ≤ 9223372036854775807)]
      exact hnext (_, i + 1) ⟨by dsimp only; omega, by dsimp only; omega, by dsimp only; omega, by dsimp only; omega⟩ (by dsimp only; omega)
  · refine ok_if0 (by omega) ?_
    refine ok_nd (Contains_m _ _) (fun h => absurd (by dsimp only; omega) h) fun _ => ok_nd (Contains_m _ _) (fun h => absurd (by dsimp only; omega) h) fun _ => ?_
    refine ok_if (fun h1 => ok_if0 (by omega) (ok_if (fun h2 => ok_if0 (by omega) (hk _ trivial)) (fun _ => hk _ trivial))) (fun h1 => ok_if (fun h2 => ok_if0 (by omega) (hk _ trivial)) (fun _ => hk _ trivial))
end Go.Hy
