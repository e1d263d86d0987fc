/-
  The exact statement of layer 1: the functions answer as the reference does.
-/
import Derived.Test.YtbbcpffbdadnoaaPIvMo
namespace Go.Hy
set_option linter.unusedVariables false
set_option linter.unusedSimpArgs false
set_option maxHeartbeats 2000000
set_option maxRecDepth 10000
open Go.Hy.Iv

theorem rRootDown_m {n : Int} (h0 : 0 ≤ n) (h1 : n < 1152921504606846976) : r01_RootDown n = some (isq n) := by
  have hq := isq_spec h0
  have hl := isq_le30 h0 h1
  refine Ok.eq (?_ : Ok _ _)
  unfold r01_RootDown
  refine ok_lp (fun (z : Int × Int) => 0 ≤ z.1 ∧ z.1 ≤ isq n ∧ isq n ≤ z.2 ∧ z.2 ≤ 1073741824) (fun z => (z.2 - z.1).toNat) ⟨by dsimp only; decide, hq.1, by dsimp only; omega, by dsimp only; decide⟩ (by simp [big_eq]) ?_
  rintro ⟨lo, hi⟩ next ⟨i0, i1, i2, i3⟩ hn
  dsimp only at i0 i1 i2 i3 ⊢
  refine ok_if (fun h => ?_) (fun h => ok_some (by omega))
  rw [w64_eq (by omega : -9223372036854775808 ≤ lo + hi ∧ lo + hi ≤ 9223372036854775807), w64_eq (by omega : -9223372036854775808 ≤ lo + hi + 1 ∧ lo + hi + 1 ≤ 9223372036854775807), Int.tdiv_eq_ediv_of_nonneg (by omega), w64_eq (by omega)]
  refine ok_vl fun x hx => ?_
  have hsq : 0 ≤ x * x ∧ x * x ≤ 1152921504606846976 := by
    have := sq_le (a := x) (b := 1073741824) (by omega) (by omega)
    have := Int.mul_nonneg (a := x) (b := x) (by omega) (by omega)
    omega
  rw [w64_eq (by omega)]
  refine ok_if (fun h2 => hn _ ⟨by dsimp only; omega, ?_, by dsimp only; omega, by dsimp only; omega⟩ (by dsimp only; omega)) (fun h2 => ?_)
  · dsimp only
    rcases Int.lt_or_le (isq n) x with hh | hh
    · have := sq_le (a := isq n + 1) (b := x) (by omega) (by omega); omega
    · exact hh
  · rw [w64_eq (by omega)]
    refine hn _ ⟨by dsimp only; omega, by dsimp only; omega, ?_, by dsimp only; omega⟩ (by dsimp only; omega)
    dsimp only
    rcases Int.lt_or_le (isq n) x with hh | hh
    · omega
    · have := sq_le (a := x) (b := isq n) (by omega) hh; omega
theorem rRootUp_m {n : Int} (h0 : 0 ≤ n) (h1 : n < 1152921504606846976) : r01_RootUp n = some (isu n) := by
  have hq := isq_spec h0
  have hl := isq_le30 h0 h1
  have hm := Int.mul_nonneg hq.1 hq.1
  refine Ok.eq (?_ : Ok _ _)
  unfold r01_RootUp isu
  refine ok_bde (rRootDown_m h0 h1) ?_
  rw [w64_eq (by omega)]
  exact ok_if (fun h => ok_some (by rw [if_pos h, w64_eq (by omega)])) (fun h => ok_some (by rw [if_neg h]))
theorem rRoot_m (x : Interval) : r01_Root x = some (i3 (rootM x.Lo x.Hi)) := by
  refine Ok.eq (?_ : Ok _ _)
  unfold r01_Root rootM
  refine ok_nd (rValid_m x) (fun h => ok_some (by rw [if_pos h])) (fun h => ?_)
  rw [if_neg (by omega)]
  refine ok_if (fun h1 => ok_some (by rw [if_pos h1])) (fun h1 => ?_)
  rw [if_neg h1]
  exact ok_bde (rRootDown_m (by omega) (by omega)) (ok_bde (rRootUp_m (by omega) (by omega)) (ok_some rfl))
theorem rScale_m (x : Interval) (num den : Int) : r01_Scale x num den = some (i3 (scaleM x.Lo x.Hi num den)) := by
  refine Ok.eq (?_ : Ok _ _)
  unfold r01_Scale scaleM
  refine ok_nd (rValid_m x) (fun h => ok_some (by rw [if_pos h])) (fun h => ?_)
  rw [if_neg (by omega)]
  refine ok_jp (fun z => z = decide (num < -1000000 ∨ 1000000 < num ∨ den < -1000000 ∨ 1000000 < den)) (fun z hz => ?_) (fun k hk => ?_)
  · subst hz
    refine ok_if (fun h1 => ok_some (by rw [if_pos h1])) (fun h1 => ?_)
    rw [if_neg h1]
    refine ok_if (fun h2 => ok_some (by rw [if_pos h2])) (fun h2 => ?_)
    rw [if_neg h2]
    have ha := mul_bd (x := x.Lo) (y := num) (by omega) (by omega)
    have hb := mul_bd (x := x.Hi) (y := num) (by omega) (by omega)
    have e1 : w64 (x.Lo * num) = x.Lo * num := w64_eq (by omega)
    have e2 : w64 (x.Hi * num) = x.Hi * num := w64_eq (by omega)
    rw [e1, e2]
    have i1 : I64 (x.Lo * num) := by omega
    have i2 : I64 (x.Hi * num) := by omega
    obtain ⟨⟨s1, s2⟩, ⟨s3, s4⟩, s5⟩ := scale_min (a := x.Lo) (b := x.Hi) (num := num) (den := den) (by omega) (by omega) (by omega) h2
    refine ok_bde (rDown_m i1 h2) (ok_bde (rDown_m i2 h2) (ok_bde (rUp_m i1 h2) (ok_bde (rUp_m i2 h2) (ok_bde (checked_m s5) (ok_some ?_)))))
    by_cases hc : num < 0 ∧ 0 ≤ den ∨ 0 ≤ num ∧ den < 0
    · rw [if_pos hc, s1 hc, s2 hc]
    · rw [if_neg hc, s3 hc, s4 hc]
  · refine ok_if (fun h1 => hk _ (decide_eq_true (by omega)).symm) (fun h1 => ok_if (fun h2 => hk _ (decide_eq_true (by omega)).symm) (fun h2 => ok_if (fun h3 => hk _ (decide_eq_true (by omega)).symm) (fun h3 => hk _ ?_)))
    rw [decide_eq_decide]; omega
theorem rMul_m (x y : Interval) : r01_Mul x y = some (i3 (mulM x.Lo x.Hi y.Lo y.Hi)) := by
  refine Ok.eq (?_ : Ok _ _)
  unfold r01_Mul mulM
  refine ok_nd (rValid_m x) (fun h => ok_some (by rw [if_neg (by omega)])) (fun h => ok_nd (rValid_m y) (fun h1 => ok_some (by rw [if_neg (by omega)])) (fun h1 => ?_))
  rw [if_pos ⟨h, h1⟩]
  have hx0 : Inr x.Lo := by omega
  have hx1 : Inr x.Hi := by omega
  have hy0 : Inr y.Lo := by omega
  have hy1 : Inr y.Hi := by omega
  have size : ∀ n : Int, Inr n → r01_size n = some (if n < 0 then -n else n) := fun n hn => by
    refine Ok.eq (?_ : Ok _ _)
    unfold r01_size
    exact ok_if (fun h => ok_some (by rw [if_pos h, w64_eq (by omega)])) (fun h => ok_some (by rw [if_neg h]))
  -- one product
  have one : ∀ (a b : Int) (k : Unit → Option (Interval × Int)) {Q : Interval × Int → Prop}, Inr a → Inr b → (Inr (a * b) → Ok (k ()) Q) → (¬ Inr (a * b) → Q (Interval.mk 0 0, 4)) →
      Ok (cond (decide (b ≠ 0)) (bd (r01_size a) fun v28 => bd (r01_size b) fun v29 => ck (decide (v29 ≠ 0)) <| vl (w64 (Int.tdiv 1000000000000 v29)) fun x31 => cond (decide (x31 < v28)) (some ((Interval.mk 0 0), 4)) (k ())) (k ())) Q := by
    intro a b k Q ha hb hk hbad
    obtain ⟨m1, m2⟩ := mul_test a b
    refine ok_if (fun h => ?_) (fun h => hk (by rw [m2 (by omega)]; decide))
    refine ok_bde (size a ha) (ok_bde (size b hb) (ok_ck (by split <;> omega) ?_))
    rw [Int.tdiv_eq_ediv_of_nonneg (by decide)]
    have hd : 0 ≤ 1000000000000 / (if b < 0 then -b else b) ∧ 1000000000000 / (if b < 0 then -b else b) ≤ 1000000000000 := ⟨Int.ediv_nonneg (by decide) (by split <;> omega), Int.ediv_le_self _ (by decide)⟩
    refine ok_vl fun x4 hx4 => ?_
    rw [w64_eq (by omega)] at hx4
    rw [hx4]
    refine ok_if (fun h2 => ok_some (hbad ((m1 h).1 h2))) (fun h2 => hk ?_)
    rcases Classical.em (Inr (a * b)) with h3 | h3
    · exact h3
    · exact absurd ((m1 h).2 h3) h2
  refine ok_vl fun n2 hn2 => ?_
  obtain rfl : n2 = 2 := hn2
  refine ok_lp (fun (z : Int × Int × Int) => (z.2.2 = 0 ∧ z.1 = 1000000000000 ∧ z.2.1 = -1000000000000) ∨
      (z.2.2 = 1 ∧ Inr (x.Lo * y.Lo) ∧ Inr (x.Lo * y.Hi) ∧ z.1 = min (min 1000000000000 (x.Lo * y.Lo)) (x.Lo * y.Hi) ∧ z.2.1 = max (max (-1000000000000) (x.Lo * y.Lo)) (x.Lo * y.Hi)) ∨
      (z.2.2 = 2 ∧ (Inr (x.Lo * y.Lo) ∧ Inr (x.Lo * y.Hi) ∧ Inr (x.Hi * y.Lo) ∧ Inr (x.Hi * y.Hi)) ∧ z.1 = min (min (min (min 1000000000000 (x.Lo * y.Lo)) (x.Lo * y.Hi)) (x.Hi * y.Lo)) (x.Hi * y.Hi) ∧ z.2.1 = max (max (max (max (-1000000000000) (x.Lo * y.Lo)) (x.Lo * y.Hi)) (x.Hi * y.Lo)) (x.Hi * y.Hi)))
    (fun z => (2 - z.2.2).toNat) (Or.inl ⟨rfl, rfl, rfl⟩) (by simp [big_eq]) ?_
  rintro ⟨lo, hi, i⟩ next hI hn
  dsimp only at hI ⊢
  refine ok_if (fun hi2 => ?_) (fun hi2 => ?_)
  rotate_left
  · rcases hI with ⟨e, _⟩ | ⟨e, _⟩ | ⟨e, hin, e1, e2⟩
    · omega
    · omega
    · rw [if_pos hin, e1, e2]; exact ok_some rfl
  have inner : ∀ (a lo0 hi0 : Int) (k : Int → Int → Option (Interval × Int)) {Q : Interval × Int → Prop}, Inr a → (Inr (a * y.Lo) → Inr (a * y.Hi) → Ok (k (min (min lo0 (a * y.Lo)) (a * y.Hi)) (max (max hi0 (a * y.Lo)) (a * y.Hi))) Q) →
      (¬ (Inr (a * y.Lo) ∧ Inr (a * y.Hi)) → Q (Interval.mk 0 0, 4)) →
      Ok (vl (([y.Lo, y.Hi] : List Int).length : Int) fun x16 =>
        lp (fun (z17 : (Int × Int × Int)) k19 =>
        cond (decide (z17.2.2 < x16))
        (ix ([y.Lo, y.Hi] : List Int) z17.2.2 fun x22 =>
        jp (fun (z24 : Unit) =>
        k19 (min z17.1 (w64 (a * x22)), max z17.2.1 (w64 (a * x22)), w64 (z17.2.2 + 1))) fun k26 =>
        cond (decide (x22 ≠ 0)) (bd (r01_size a) fun v28 =>
        bd (r01_size x22) fun v29 =>
        ck (decide (v29 ≠ 0)) <|
        vl (w64 (Int.tdiv 1000000000000 v29)) fun x31 =>
        cond (decide (x31 < v28))
        (some ((Interval.mk 0 0), 4))
        (k26 ())) (k26 ()))
        (k z17.1 z17.2.1)) big (lo0, hi0, 0)) Q := by
    intro a lo0 hi0 k Q ha hk hbad
    refine ok_vl fun n3 hn3 => ?_
    obtain rfl : n3 = 2 := hn3
    refine ok_lp (fun (z : Int × Int × Int) => (z.2.2 = 0 ∧ z.1 = lo0 ∧ z.2.1 = hi0) ∨ (z.2.2 = 1 ∧ Inr (a * y.Lo) ∧ z.1 = min lo0 (a * y.Lo) ∧ z.2.1 = max hi0 (a * y.Lo)) ∨
      (z.2.2 = 2 ∧ Inr (a * y.Lo) ∧ Inr (a * y.Hi) ∧ z.1 = min (min lo0 (a * y.Lo)) (a * y.Hi) ∧ z.2.1 = max (max hi0 (a * y.Lo)) (a * y.Hi))) (fun z => (2 - z.2.2).toNat) (Or.inl ⟨rfl, rfl, rfl⟩) (by simp [big_eq]) ?_
    rintro ⟨lo, hi, j⟩ next hJ hn
    dsimp only at hJ ⊢
    refine ok_if (fun hj2 => ?_) (fun hj2 => ?_)
    rotate_left
    · rcases hJ with ⟨e, _⟩ | ⟨e, _⟩ | ⟨e, g1, g2, e1, e2⟩
      · omega
      · omega
      · rw [e1, e2]; exact hk g1 g2
    rcases hJ with ⟨e, e1, e2⟩ | ⟨e, g1, e1, e2⟩ | ⟨e, _⟩
    · subst e e1 e2
      refine ok_ixe (a := y.Lo) (by decide) rfl (ok_jp (fun _ => Inr (a * y.Lo)) (fun _ hp => ?_) (fun k2 hk2 => one a y.Lo k2 ha hy0 (fun h => hk2 _ h) (fun h => hbad fun hh => h hh.1)))
      rw [w64_eq (by omega : -9223372036854775808 ≤ a * y.Lo ∧ a * y.Lo ≤ 9223372036854775807)]
      exact hn _ (Or.inr (Or.inl ⟨rfl, hp, rfl, rfl⟩)) (by dsimp only; decide)
    · subst e e1 e2
      refine ok_ixe (a := y.Hi) (by decide) rfl (ok_jp (fun _ => Inr (a * y.Hi)) (fun _ hp => ?_) (fun k2 hk2 => one a y.Hi k2 ha hy1 (fun h => hk2 _ h) (fun h => hbad fun hh => h hh.2)))
      rw [w64_eq (by omega : -9223372036854775808 ≤ a * y.Hi ∧ a * y.Hi ≤ 9223372036854775807)]
      exact hn _ (Or.inr (Or.inr ⟨rfl, g1, hp, rfl, rfl⟩)) (by dsimp only; decide)
    · omega
  rcases hI with ⟨e, e1, e2⟩ | ⟨e, g1, g2, e1, e2⟩ | ⟨e, _⟩
  · subst e e1 e2
    refine ok_ixe (a := x.Lo) (by decide) rfl ?_
    exact inner x.Lo _ _ (fun l u => next (l, u, w64 (0 + 1))) hx0 (fun p1 p2 => hn _ (Or.inr (Or.inl ⟨rfl, p1, p2, rfl, rfl⟩)) (by dsimp only; decide)) (fun h => by rw [if_neg (fun hh => h ⟨hh.1, hh.2.1⟩)])
  · subst e e1 e2
    refine ok_ixe (a := x.Hi) (by decide) rfl ?_
    exact inner x.Hi _ _ (fun l u => next (l, u, w64 (1 + 1))) hx1 (fun p1 p2 => hn _ (Or.inr (Or.inr ⟨rfl, ⟨g1, g2, p1, p2⟩, rfl, rfl⟩)) (by dsimp only; decide)) (fun h => by rw [if_neg (fun hh => h ⟨hh.2.2.1, hh.2.2.2⟩)])
  · omega
theorem exact01_ok (x y : Interval) (num den : Int) : law01_exact x y num den = some true := by
  refine Ok.eq (?_ : Ok _ _)
  unfold law01_exact
  refine ok_bde (Add_m _ _) (ok_bde (rAdd_m _ _) (ok_if0 (fun h => h ⟨rfl, rfl⟩) (ok_if0 (fun h => h rfl) ?_)))
  refine ok_bde (Valid_m _) (ok_bde (rValid_m _) ?_)
  rw [beq_self_eq_true]
  refine ok_bde (Contains_m _ _) (ok_bde (rContains_m _ _) ?_)
  rw [beq_self_eq_true]
  refine ok_bde (Within_m _ _) (ok_bde (rWithin_m _ _) ?_)
  rw [beq_self_eq_true]
  refine ok_bde (Sub_m _ _) (ok_bde (rSub_m _ _) (ok_bde (Mul_m _ _) (ok_bde (rMul_m _ _) ?_)))
  refine ok_if0 (fun h => h ⟨rfl, rfl⟩) (ok_if0 (fun h => h rfl) (ok_if0 (fun h => h ⟨rfl, rfl⟩) (ok_if0 (fun h => h rfl) ?_)))
  refine ok_bde (Scale_m _ _ _) (ok_bde (rScale_m _ _ _) (ok_bde (Root_m _) (ok_bde (rRoot_m _) ?_)))
  refine ok_if0 (fun h => h ⟨rfl, rfl⟩) (ok_if0 (fun h => h rfl) (ok_if0 (fun h => h ⟨rfl, rfl⟩) (ok_if0 (fun h => h rfl) ?_)))
  refine ok_bde (Hull_m _ _) (ok_bde (rHull_m _ _) (ok_bde (Meet_m _ _) (ok_bde (rMeet_m _ _) ?_)))
  exact ok_if1 ⟨rfl, rfl⟩ (ok_if1 rfl (ok_if1 ⟨rfl, rfl⟩ (ok_some (decide_eq_true rfl))))
theorem MInterval_ok {k : HumpgenMaker} (h : Mk k 900000000000000) : Ok (gen_Maker_Interval k) fun r => k.fn ≤ r.2 ∧ r.2 ≤ k.fn + 4 := by
  have c0 := h.c0
  have c1 := h.c1
  have mk : ∀ c', k.fn ≤ c' → c' ≤ k.fn + 10 → Mk (HumpgenMaker.mk k.fl c') CM0 := fun c' h1 h2 => h.to h1 (by unfold CM0; omega)
  unfold gen_Maker_Interval
  refine ok_bd (Pick_ok (h.up (by decide)) (by simp)) fun v1 ⟨_, e1⟩ => ?_
  refine ok_bd (Pick_ok (mk v1.2 (by omega) (by omega)) (by simp)) fun v2 ⟨_, e2⟩ => ?_
  dsimp only at e2
  refine ok_bd (Next_ok (mk v2.2 (by omega) (by omega)) (by decide)) fun v3 ⟨_, e3⟩ => ?_
  dsimp only at e3
  refine ok_if (fun h => ?_) (fun h => ok_some ⟨by dsimp only; omega, by dsimp only; omega⟩)
  refine ok_bd (Next_ok (mk v3.2 (by omega) (by omega)) (by decide)) fun v4 ⟨_, e4⟩ => ?_
  dsimp only at e4
  exact ok_some ⟨by dsimp only; omega, by dsimp only; omega⟩
theorem IExact_ok {t : List Int} (ht : t.length ≤ 9223372036854775807) (x y : Interval) (num den : Int) : law01_IntervalExact t x y num den = some true := by
  refine Ok.eq (?_ : Ok _ _)
  unfold law01_IntervalExact
  refine ok_bde (gen_New_ok t) ?_
  refine ok_jp (fun _ => True) (fun _ _ => ok_bde (exact01_ok _ _ _ _) (ok_bde sane01 (ok_some rfl))) (fun k hk => ?_)
  refine ok_lp (fun (z : Int × Int) => 0 ≤ z.2 ∧ z.2 ≤ 6 ∧ 0 ≤ z.1 ∧ z.1 ≤ 20 * z.2) (fun z => (6 - z.2).toNat) ⟨by dsimp only; decide, by dsimp only; decide, Int.le_refl 0, Int.le_refl 0⟩ (by simp [big_eq]) ?_
  rintro ⟨c, i⟩ next ⟨i0, i1, c0, c1⟩ hnext
  dsimp only at i0 i1 c0 c1 ⊢
  refine ok_if (fun hi => ?_) (fun _ => hk _ trivial)
  have mk : ∀ c', 0 ≤ c' → c' ≤ 1000 → Mk (HumpgenMaker.mk t c') 900000000000000 := fun c' h1 h2 => ⟨h1, by dsimp only; omega, ht⟩
  have mk0 : ∀ c', 0 ≤ c' → c' ≤ 1000 → Mk (HumpgenMaker.mk t c') CM0 := fun c' h1 h2 => (mk c' h1 h2).up (by decide)
  refine ok_bd (MInterval_ok (mk c (by omega) (by omega))) fun x ⟨ex1, ex2⟩ => ?_
  dsimp only at ex1 ex2
  refine ok_bd (MInterval_ok (mk x.2 (by omega) (by omega))) fun y ⟨ey1, ey2⟩ => ?_
  dsimp only at ey1 ey2
  refine ok_bd (Pick_ok (mk0 y.2 (by omega) (by omega)) (by simp)) fun nu ⟨_, enu⟩ => ?_
  dsimp only at enu
  refine ok_bd (Pick_ok (mk0 nu.2 (by omega) (by omega)) (by simp)) fun de ⟨_, ede⟩ => ?_
  dsimp only at ede
  refine ok_bde (exact01_ok _ _ _ _) ?_
  rw [w64_eq (by omega : -9223372036854775808 ≤ i + 1 ∧ i + 1 ≤ 9223372036854775807)]
  exact hnext (_, i + 1) ⟨by dsimp only; omega, by dsimp only; omega, by dsimp only; omega, by dsimp only; omega⟩ (by dsimp only; omega)
end Go.Hy
