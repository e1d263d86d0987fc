/-
  Made tables and weather; the laws ResistanceExact, ResistanceBetween, ResistanceWider.
-/
import Derived.Test.YtncgacgkeonfnaaPRes
namespace Go.Hy
set_option linter.unusedVariables false
set_option linter.unusedSimpArgs false
set_option maxHeartbeats 2000000
set_option maxRecDepth 10000
open Go.Hy.Iv

theorem From_ok {k : HumpgenMaker} {a b : Int} (h : Mk k CM0) (hab : a ≤ b ∧ -1000000 ≤ a ∧ b ≤ 1000000) : Ok (gen_Maker_From k a b) fun r => (a ≤ r.1 ∧ r.1 ≤ b) ∧ r.2 = k.fn + 1 := by
  unfold gen_Maker_From
  rw [w64_eq (n := b - a) (by omega), w64_eq (n := b - a + 1) (by omega)]
  refine ok_bd (Next_ok h (by omega)) fun v ⟨hv, ev⟩ => ok_some ?_
  rw [w64_eq (by omega)]
  exact ⟨⟨by dsimp only; omega, by dsimp only; omega⟩, ev⟩
theorem app_get {α : Type} {l : List α} {x a : α} {i : Nat} (h : (l ++ [x])[i]? = some a) : l[i]? = some a ∨ (i = l.length ∧ a = x) := by
  rcases Nat.lt_or_ge i l.length with h1 | h1
  · rw [List.getElem?_append_left h1] at h; exact .inl h
  · rw [List.getElem?_append_right h1] at h
    have e : i - l.length = 0 := by
      rcases Nat.eq_zero_or_pos (i - l.length) with h2 | h2
      · exact h2
      · rw [List.getElem?_eq_none (by simp; omega)] at h; cases h
    rw [e] at h
    simp only [List.getElem?_cons_zero, Option.some.injEq] at h
    exact .inr ⟨by omega, h.symm⟩
structure TabMade (l : List Resistance) : Prop where
  len : 1 ≤ l.length ∧ l.length ≤ 5
  ok : ∀ x ∈ l, 1 ≤ x.Mass ∧ x.Mass ≤ 410 ∧ 0 ≤ x.Lo ∧ x.Lo ≤ 90 ∧ x.Lo ≤ x.Hi ∧ x.Hi ≤ 290
  up : ∀ (i : Nat) x y, l[i]? = some x → l[i + 1]? = some y → x.Mass < y.Mass
theorem TabMade.tbl {l : List Resistance} (h : TabMade l) : Tbl l := ⟨by have := h.len; omega, fun x hx => by have := h.ok x hx; omega, h.up⟩
theorem Table_ok {k : HumpgenMaker} (h : Mk k 999999999999000) : Ok (gen_Maker_Table k) fun r => TabMade r.1 ∧ k.fn ≤ r.2 ∧ r.2 ≤ k.fn + 20 := by
  have c0 := h.c0
  have c1 := h.c1
  have mk : ∀ c', k.fn ≤ c' → c' ≤ k.fn + 100 → Mk (HumpgenMaker.mk k.fl c') CM0 := fun c' h1 h2 => h.to h1 (by unfold CM0; omega)
  unfold gen_Maker_Table
  refine ok_bd (From_ok (h.up (by decide)) (by omega)) fun v1 ⟨b1, e1⟩ => ?_
  refine ok_bd (Next_ok (mk v1.2 (by omega) (by omega)) (by omega)) fun v3 ⟨b3, e3⟩ => ?_
  dsimp only at e3
  rw [w64_eq (n := 1 + v3.1) (by omega)]
  refine ok_lp (fun (z : List Resistance × Int × Int × Int) => 0 ≤ z.2.2.1 ∧ z.1.length + z.2.2.1 = 1 + v3.1 ∧ (1 ≤ z.2.1 ∧ z.2.1 ≤ 60 + 70 * z.1.length) ∧ (∀ x ∈ z.1, 1 ≤ x.Mass ∧ x.Mass < z.2.1 ∧ x.Mass ≤ 410 ∧ 0 ≤ x.Lo ∧ x.Lo ≤ 90 ∧ x.Lo ≤ x.Hi ∧ x.Hi ≤ 290) ∧
      (∀ (i : Nat) x y, z.1[i]? = some x → z.1[i + 1]? = some y → x.Mass < y.Mass) ∧ k.fn ≤ z.2.2.2 ∧ z.2.2.2 ≤ k.fn + 2 + 3 * z.1.length) (fun z => z.2.2.1.toNat) ?_ (by simp only [big_eq]; omega) ?_
  · exact ⟨by dsimp only; omega, by dsimp only; simp, by dsimp only; simp; omega, by simp, fun i x y hx => by simp at hx, by dsimp only; omega, by dsimp only; simp; omega⟩
  rintro ⟨out, m, i, c⟩ next ⟨i0, il, hm, ho, hu, d0, d1⟩ hn
  dsimp only at i0 il hm ho hu d0 d1 ⊢
  refine ok_if (fun hi => ?_) (fun hi => ok_some ⟨⟨by dsimp only; omega, fun x hx => by have := ho x hx; omega, hu⟩, by dsimp only; omega, by dsimp only; omega⟩)
  refine ok_bd (Pick_ok (mk c (by omega) (by omega)) (by simp)) fun u1 ⟨m1, f1⟩ => ?_
  dsimp only at f1
  refine ok_bd (Pick_ok (mk u1.2 (by omega) (by omega)) (by simp)) fun u2 ⟨m2, f2⟩ => ?_
  dsimp only at f2
  simp only [List.mem_cons, List.not_mem_nil, or_false] at m1 m2
  rw [w64_eq (n := u1.1 + u2.1) (by omega)]
  refine ok_ck (by simp only [List.length_cons, List.length_nil]; omega) (ok_vl fun y hy => ?_)
  refine ok_bd (From_ok (mk u2.2 (by omega) (by omega)) (by omega)) fun u3 ⟨b4, f3⟩ => ?_
  dsimp only at f3
  rw [w64_eq (n := m + u3.1) (by omega), w64_eq (n := i - 1) (by omega)]
  have hyl : y.length = out.length + 1 := by rw [hy]; simp
  refine hn _ ⟨by dsimp only; omega, by dsimp only; omega, by dsimp only; omega, fun x hx => ?_, fun j a b ha hb => ?_, by dsimp only; omega, by dsimp only; omega⟩ (by dsimp only; omega)
  · dsimp only at hx ⊢
    rw [hy] at hx
    rcases List.mem_append.1 hx with hx | hx
    · have := ho x hx; omega
    · obtain rfl := List.mem_singleton.1 hx
      dsimp only
      omega
  · dsimp only at ha hb
    rw [hy] at ha hb
    rcases app_get hb with hb | ⟨e, rfl⟩
    · rcases app_get ha with ha | ⟨e, _⟩
      · exact hu j a b ha hb
      · have := sc_lt hb; omega
    · rcases app_get ha with ha | ⟨e2, _⟩
      · have := ho a (sc_mem ha); dsimp only; omega
      · omega
structure WMade (w : Weather) : Prop where
  a : -8000 ≤ w.Wind.Lo ∧ w.Wind.Lo ≤ w.Wind.Hi ∧ w.Wind.Hi ≤ 7000
  b : 0 ≤ w.Cold.Lo ∧ w.Cold.Lo ≤ w.Cold.Hi ∧ w.Cold.Hi ≤ 50
theorem Weather_ok {k : HumpgenMaker} (h : Mk k 999999999999000) : Ok (gen_Maker_Weather k) fun r => WMade r.1 ∧ r.2 = k.fn + 4 := by
  have c0 := h.c0
  have c1 := h.c1
  have mk : ∀ c', k.fn ≤ c' → c' ≤ k.fn + 100 → Mk (HumpgenMaker.mk k.fl c') CM0 := fun c' h1 h2 => h.to h1 (by unfold CM0; omega)
  unfold gen_Maker_Weather
  refine ok_bd (Pick_ok (h.up (by decide)) (by simp)) fun u1 ⟨m1, f1⟩ => ?_
  refine ok_bd (Pick_ok (mk u1.2 (by omega) (by omega)) (by simp)) fun u2 ⟨m2, f2⟩ => ?_
  dsimp only at f2
  refine ok_bd (Pick_ok (mk u2.2 (by omega) (by omega)) (by simp)) fun u3 ⟨m3, f3⟩ => ?_
  dsimp only at f3
  refine ok_bd (Pick_ok (mk u3.2 (by omega) (by omega)) (by simp)) fun u4 ⟨m4, f4⟩ => ok_some ?_
  dsimp only at f4
  simp only [List.mem_cons, List.not_mem_nil, or_false] at m1 m2 m3 m4
  rw [w64_eq (n := u1.1 + u3.1) (by omega), w64_eq (n := u2.1 + u4.1) (by omega)]
  exact ⟨⟨by dsimp only; omega, by dsimp only; omega⟩, by dsimp only; omega⟩

/-! ### Exact -/
theorem ResExact_ok {t : List Int} {ql : List Resistance} {qa qb : Int} {qw : Weather} (ht : t.length ≤ 9223372036854775807) : law19_ResistanceExact t ql qa qb qw = some true := by
  refine Ok.eq (?_ : Ok _ _)
  unfold law19_ResistanceExact
  refine ok_bde (gen_New_ok t) ?_
  have mk : ∀ c1, 0 ≤ c1 → c1 ≤ 1000000 → Mk (HumpgenMaker.mk t c1) 999999999999000 := fun c' h1 h2 => ⟨h1, by dsimp only; omega, ht⟩
  refine ok_jp (fun _ => True) (fun _ _ => ?_) (fun kk hk => ?_)
  · exact ok_if (fun _ => ok_some rfl) (fun _ => ok_bde exact19_m (ok_b (fun _ => ok_bde exact19_m (ok_b (fun _ => ok_bde sane19 (ok_some rfl)) (fun h => by cases h))) (fun h => by cases h)))
  refine ok_lp (fun (z : Int × Int) => 0 ≤ z.2 ∧ 0 ≤ z.1 ∧ z.1 ≤ 1000 * z.2) (fun z => (5 - z.2).toNat) ⟨Int.le_refl 0, Int.le_refl 0, by dsimp only; omega⟩ (by simp only [big_eq]; omega) ?_
  rintro ⟨c, i⟩ next ⟨i0, c0, c1⟩ hn
  dsimp only at i0 c0 c1 ⊢
  refine ok_if (fun hi => ?_) (fun _ => hk _ trivial)
  refine ok_bd (Table_ok (mk c c0 (by omega))) fun v ⟨hl, d0, d1⟩ => ?_
  obtain ⟨l, ct⟩ := v
  dsimp only at hl d0 d1 ⊢
  have hlen := hl.len
  refine ok_bd (Weather_ok (mk ct (by omega) (by omega))) fun v ⟨_, d2⟩ => ?_
  obtain ⟨w, cw⟩ := v
  dsimp only at d2 ⊢
  have up : ∀ c', c ≤ c' → c' ≤ c + 900 → Mk (HumpgenMaker.mk t c') CM0 := fun c' h1 h2 => (mk c' (by omega) (by omega)).up (by decide)
  refine ok_jp (fun (z : Int × List Resistance × Int × Int) => c ≤ z.1 ∧ z.1 ≤ c + 800) (fun z hz => ?_) (fun k2 hk2 => ?_)
  · refine ok_bd (Pick_ok (up z.1 (by omega) (by omega)) (by simp)) fun u1 ⟨_, e1⟩ => ?_
    dsimp only at e1
    refine ok_bd (Pick_ok (up u1.2 (by omega) (by omega)) (by simp)) fun u2 ⟨_, e2⟩ => ?_
    dsimp only at e2
    refine ok_bde exact19_m (ok_nb (fun h => by cases h) fun _ => ?_)
    rw [w64_eq (by omega)]
    exact hn _ ⟨by dsimp only; omega, by dsimp only; omega, by dsimp only; omega⟩ (by dsimp only; omega)
  refine ok_if (fun h2 => ?_) (fun h2 => ok_if (fun h3 => ?_) (fun h3 => ok_if (fun h4 => ?_) (fun h4 => hk2 _ ⟨by dsimp only; omega, by dsimp only; omega⟩)))
  · refine ok_bd (Next_ok (up cw (by omega) (by omega)) (by omega)) fun n ⟨hn1, hn2⟩ => ?_
    dsimp only at hn2
    refine ok_ix hn1.1 hn1.2 fun x1 q1 => ok_ixe hn1.1 q1 (ok_ixe hn1.1 q1 ?_)
    refine ok_bd (Pick_ok (up n.2 (by omega) (by omega)) (by simp)) fun u1 ⟨_, e1⟩ => ?_
    dsimp only at e1
    refine ok_bd (Pick_ok (up u1.2 (by omega) (by omega)) (by simp)) fun u2 ⟨_, e2⟩ => ?_
    dsimp only at e2
    refine ok_bd (Pick_ok (up u2.2 (by omega) (by omega)) (by simp)) fun u3 ⟨_, e3⟩ => ?_
    dsimp only at e3
    refine ok_ix hn1.1 hn1.2 fun y1 _ => ok_vl fun l1 e1 => ok_ix hn1.1 (by rw [e1, List.length_set]; exact hn1.2) fun y2 _ => ok_vl fun l2 e2 => ok_ix hn1.1 (by rw [e2, List.length_set, e1, List.length_set]; exact hn1.2) fun y3 _ => ok_vl fun l3 e3 => ?_
    exact hk2 _ ⟨by dsimp only; omega, by dsimp only; omega⟩
  · refine ok_bd (Pick_ok (up cw (by omega) (by omega)) (by simp)) fun u1 ⟨_, e1⟩ => ?_
    dsimp only at e1
    refine ok_bd (Pick_ok (up u1.2 (by omega) (by omega)) (by simp)) fun u2 ⟨_, e2⟩ => ?_
    dsimp only at e2
    exact hk2 _ ⟨by dsimp only; omega, by dsimp only; omega⟩
  · rw [w64_eq (n := (l.length : Int) - 1) (by omega)]
    exact ok_ix (by omega) (by omega) fun x _ => ok_vl fun y _ => hk2 _ ⟨by dsimp only; omega, by dsimp only; omega⟩

/-! ### Between -/
/-- A point of a line lies between its ends. -/
theorem seg {a b n d : Int} (hn : 0 ≤ n ∧ n ≤ d) (hd : 1 ≤ d) : (min a b - a) * d ≤ (b - a) * n ∧ (b - a) * n ≤ (max a b - a) * d := by
  rcases Int.lt_or_le b a with h | h
  · have e1 : min a b = b := Int.min_eq_right (by omega)
    have e2 : max a b = a := Int.max_eq_left (by omega)
    rw [e1, e2, Int.sub_self, Int.zero_mul]
    have h1 : (b - a) * d ≤ (b - a) * n := Int.mul_le_mul_of_nonpos_left (by omega) hn.2
    have h2 : (b - a) * n ≤ 0 := Int.mul_nonpos_of_nonpos_of_nonneg (by omega) hn.1
    exact ⟨h1, h2⟩
  · have e1 : min a b = a := Int.min_eq_left h
    have e2 : max a b = b := Int.max_eq_right h
    rw [e1, e2, Int.sub_self, Int.zero_mul]
    exact ⟨Int.mul_nonneg (by omega) hn.1, Int.mul_le_mul_of_nonneg_left hn.2 (by omega)⟩
theorem seg_div {a b n d : Int} (hn : 0 ≤ n ∧ n ≤ d) (hd : 1 ≤ d) : min a b ≤ a + (b - a) * n / d ∧ a + (b - a) * n / d ≤ max a b ∧ min a b ≤ a + -((-((b - a) * n)) / d) ∧ a + -((-((b - a) * n)) / d) ≤ max a b := by
  obtain ⟨h1, h2⟩ := seg (a := a) (b := b) hn hd
  have q1 : min a b - a ≤ (b - a) * n / d := (Int.le_ediv_iff_mul_le (by omega)).2 h1
  have q2 : (b - a) * n / d ≤ max a b - a := by
    have := Int.ediv_le_ediv (c := d) (by omega) h2
    rwa [Int.mul_ediv_cancel _ (by omega : d ≠ 0)] at this
  have q3 : -(max a b - a) ≤ (-((b - a) * n)) / d := (Int.le_ediv_iff_mul_le (by omega)).2 (by rw [Int.neg_mul]; omega)
  have q4 : (-((b - a) * n)) / d ≤ -(min a b - a) := by
    have := Int.ediv_le_ediv (c := d) (by omega) (show -((b - a) * n) ≤ -(min a b - a) * d by rw [Int.neg_mul]; omega)
    rwa [Int.mul_ediv_cancel _ (by omega : d ≠ 0)] at this
  omega
/-- Two lines, the one below the other. -/
theorem seg_mono {a b a' b' n d : Int} (hn : 0 ≤ n ∧ n ≤ d) (hd : 1 ≤ d) (ha : a ≤ a') (hb : b ≤ b') : a * d + (b - a) * n ≤ a' * d + (b' - a') * n := by
  have e1 : a * d + (b - a) * n = a * (d - n) + b * n := by rw [Int.sub_mul, Int.mul_sub]; omega
  have e2 : a' * d + (b' - a') * n = a' * (d - n) + b' * n := by rw [Int.sub_mul, Int.mul_sub]; omega
  have h1 : a * (d - n) ≤ a' * (d - n) := Int.mul_le_mul_of_nonneg_right ha (by omega)
  have h2 : b * n ≤ b' * n := Int.mul_le_mul_of_nonneg_right hb hn.1
  omega
theorem dn_shift {a x d : Int} (hd : 1 ≤ d) : a + x / d = (a * d + x) / d := by
  rw [Int.add_comm (a * d) x, Int.add_mul_ediv_right _ _ (by omega : d ≠ 0)]; omega
theorem up_shift {a x d : Int} (hd : 1 ≤ d) : a + -((-x) / d) = -((-(a * d + x)) / d) := by
  have : -(a * d + x) = -x + (-a) * d := by rw [Int.neg_mul]; omega
  rw [this, Int.add_mul_ediv_right _ _ (by omega : d ≠ 0)]; omega
theorem dnup {y z d : Int} (hd : 1 ≤ d) (h : y ≤ z) : y / d ≤ -((-z) / d) := by
  have h1 : y / d * d ≤ y := Int.ediv_mul_le _ (by omega)
  have h2 : (-z) / d * d ≤ -z := Int.ediv_mul_le _ (by omega)
  rcases Int.lt_or_le (-((-z) / d)) (y / d) with hlt | hle
  · exfalso
    have h3 : (y / d + (-z) / d) * d ≤ y - z := by rw [Int.add_mul]; omega
    have h4 : 1 * d ≤ (y / d + (-z) / d) * d := Int.mul_le_mul_of_nonneg_right (by omega) (by omega)
    omega
  · exact hle
/-- What the line between two entries is like. -/
theorem lnM_lo_hi {l : List Resistance} (ht : Tbl l) {m : Int} : (lnM l m).1 ≤ (lnM l m).2 := by
  have hl := ht.len
  have hul := ub_le l m
  have ha := List.getElem?_eq_getElem (show ub l m - 1 < l.length by omega)
  generalize l[ub l m - 1] = a at ha
  have hao := ht.ok a (sc_mem ha)
  unfold lnM
  rw [ha]
  dsimp only
  by_cases hz : ub l m = 0
  · rw [if_pos hz]; dsimp only; omega
  · rw [if_neg hz]
    have ham := ub_lo (m := m) _ a (by omega) ha
    cases hb : l[ub l m]? with
    | none => dsimp only; omega
    | some b =>
      dsimp only
      have hbo := ht.ok b (sc_mem hb)
      have hbm := ub_at b hb
      rw [dn_shift (by omega), up_shift (by omega)]
      exact dnup (by omega) (seg_mono (by omega) (by omega) (by omega) (by omega))
theorem lnM_end {l : List Resistance} (ht : Tbl l) {m : Int} : (ub l m = 0 → ∃ a, l[0]? = some a ∧ lnM l m = (a.Lo, a.Hi)) ∧ (∀ a, ub l m ≠ 0 → l[ub l m - 1]? = some a → (ub l m = l.length ∨ a.Mass = m) → lnM l m = (a.Lo, a.Hi)) := by
  have hl := ht.len
  refine ⟨fun hz => ?_, fun a hz ha hh => ?_⟩
  · have ha := List.getElem?_eq_getElem (show 0 < l.length by omega)
    refine ⟨_, ha, ?_⟩
    unfold lnM
    rw [hz, show 0 - 1 = 0 from rfl, ha]
    rfl
  · unfold lnM
    rw [ha]
    dsimp only
    rw [if_neg hz]
    rcases hh with hh | hh
    · rw [hh, List.getElem?_eq_none (Nat.le_refl _)]
    · cases hb : l[ub l m]? with
      | none => rfl
      | some b =>
        dsimp only
        rw [hh, Int.sub_self, Int.mul_zero, Int.mul_zero]
        simp
theorem lnM_mid {l : List Resistance} (ht : Tbl l) {m : Int} {a b : Resistance} (hz : ub l m ≠ 0) (ha : l[ub l m - 1]? = some a) (hb : l[ub l m]? = some b) :
    min a.Lo b.Lo ≤ (lnM l m).1 ∧ (lnM l m).2 ≤ max a.Hi b.Hi := by
  have ham := ub_lo (m := m) _ a (by omega) ha
  have hbm := ub_at b hb
  unfold lnM
  rw [ha]
  dsimp only
  rw [if_neg hz, hb]
  dsimp only
  have h1 := seg_div (a := a.Lo) (b := b.Lo) (n := m - a.Mass) (d := b.Mass - a.Mass) (by omega) (by omega)
  have h2 := seg_div (a := a.Hi) (b := b.Hi) (n := m - a.Mass) (d := b.Mass - a.Mass) (by omega) (by omega)
  exact ⟨h1.1, h2.2.2.2⟩
theorem ResBetween_ok {t : List Int} {qm : Int} (ht : t.length ≤ 9223372036854775807) : law19_ResistanceBetween t qm = some true := by
  refine Ok.eq (?_ : Ok _ _)
  unfold law19_ResistanceBetween
  refine ok_bde (gen_New_ok t) ?_
  refine ok_bd (Table_ok (Mk0 ht (by decide))) fun v ⟨hl, _, _⟩ => ?_
  obtain ⟨l, c⟩ := v
  dsimp only at hl ⊢
  have htb := hl.tbl
  have hlen := hl.len
  have r1 := Go.Hy.tmod_rng qm 400 (by decide)
  rw [w64_eq (n := Int.tmod qm 400 + 400) (by omega)]
  have r2 := tmod_nn (x := Int.tmod qm 400 + 400) (m := 400) (by omega) (by decide)
  refine ok_vl fun x5 h5 => ?_
  rw [← h5] at r2
  clear h5
  rw [w64_eq (n := 1 + x5) (by omega)]
  generalize hm : 1 + x5 = m
  refine ok_bde Rolling_m ?_
  have er : rollM l m 1 = ((lnM l m).1, (lnM l m).2, 0) := by
    unfold rollM
    rw [if_neg (by simp [tE_of htb]), if_pos (by omega), Int.ediv_one]
  rw [er]
  dsimp only [i3]
  refine ok_if0 (fun h => h rfl) ?_
  have hul := ub_le l m
  obtain ⟨hE0, hE1⟩ := lnM_end htb (m := m)
  have hin := lnM_in htb (m := m) (by omega)
  have hlh := lnM_lo_hi htb (m := m)
  refine ok_lp (fun (z : Int) => 0 ≤ z ∧ z ≤ ub l m ∧ (z < l.length) ∧ (∀ a, z = ub l m → ub l m ≠ 0 → l[ub l m - 1]? = some a → a.Mass ≠ m)) (fun z => ((l.length : Int) - z).toNat) ⟨Int.le_refl 0, by omega, by omega, fun a h1 h2 => by omega⟩ (by simp only [big_eq]; omega) ?_
  intro i next ⟨i0, i1, i2, i3'⟩ hn
  rw [w64_eq (n := (l.length : Int) - 1) (by omega), w64_eq (n := i + 1) (by omega)]
  refine ok_if (fun _ => ok_ix i0 i2 fun x hx => ?_) (fun h => absurd i2 h)
  refine ok_jp (fun (z : Bool) => z = true ↔ (m = x.Mass ∨ (i = 0 ∧ m < x.Mass) ∨ (i = (l.length : Int) - 1 ∧ x.Mass < m))) (fun z hz => ?_) (fun kk hk => ?_)
  rotate_left
  · refine ok_if (fun q => hk _ (by simp [q])) (fun q => ?_)
    have last : ¬ (i = 0 ∧ m < x.Mass) → Ok (cond (decide (i = (l.length : Int) - 1)) (kk (decide (x.Mass < m))) (kk false)) (fun v => v = true) := fun h0 =>
      ok_if (fun q2 => hk _ (by rw [decide_eq_true_iff]; omega)) (fun q2 => hk _ (by simp; omega))
    exact ok_if (fun q0 => ok_if (fun q1 => hk _ (by simp; omega)) (fun q1 => last (by omega))) (fun q0 => last (by omega))
  refine ok_b (fun hb => ?_) (fun hb => ?_)
  · have hend : (lnM l m) = (x.Lo, x.Hi) := by
      rcases hz.1 hb with h | h | h
      · have hiu : i.toNat < ub l m := by
          rcases Nat.lt_or_ge i.toNat (ub l m) with hlt | hge
          · exact hlt
          · have := ub_hi htb (m := m) hge hx; omega
        have hx1 : l[ub l m - 1]? = some x := by
          have hz2 := List.getElem?_eq_getElem (show ub l m - 1 < l.length by omega)
          by_cases e : i.toNat = ub l m - 1
          · rw [← e]; exact hx
          · have hxn := List.getElem?_eq_getElem (show i.toNat + 1 < l.length by omega)
            have h1 := htb.up i.toNat x _ hx hxn
            have h2 := ub_lo (m := m) (i.toNat + 1) _ (by omega) hxn
            omega
        exact hE1 x (by omega) hx1 (.inr h.symm)
      · have hu0 : ub l m = 0 := by
          rcases Nat.eq_zero_or_pos (ub l m) with h0 | h0
          · exact h0
          · have := ub_lo (m := m) i.toNat x (by omega) hx; omega
        obtain ⟨a, ha, hq⟩ := hE0 hu0
        rw [show i.toNat = 0 from by omega, ha] at hx
        cases hx
        exact hq
      · have hul2 : ub l m = l.length := by
          rcases Nat.lt_or_ge (ub l m) l.length with hlt | hge
          · have := ub_hi htb (m := m) (i := i.toNat) (by omega) hx; omega
          · omega
        exact hE1 x (by omega) (by rw [show ub l m - 1 = i.toNat from by omega]; exact hx) (.inl hul2)
    rw [hend]
    exact ok_if1 ⟨rfl, rfl⟩ (ok_bde sane19 (ok_some rfl))
  have hno : ¬ (m = x.Mass ∨ (i = 0 ∧ m < x.Mass) ∨ (i = (l.length : Int) - 1 ∧ x.Mass < m)) := fun h => by rw [hz.2 h] at hb; cases hb
  -- the next round
  have go : ¬ m < x.Mass → Ok (next (i + 1)) (fun v => v = true) := fun hlt => by
    have hiu : i.toNat < ub l m := by
      rcases Nat.lt_or_ge i.toNat (ub l m) with h1 | h1
      · exact h1
      · have := ub_hi htb (m := m) h1 hx; omega
    refine hn _ ⟨by omega, by omega, by omega, fun a h1 h2 ha => ?_⟩ (by omega)
    rw [show ub l m - 1 = i.toNat from by omega, hx] at ha
    cases ha
    omega
  refine ok_jp (fun (z : Bool) => z = true ↔ (0 < i ∧ ∃ a, l[(i - 1).toNat]? = some a ∧ a.Mass < m ∧ m < x.Mass)) (fun z2 hz2 => ?_) (fun kk hk => ?_)
  rotate_left
  · refine ok_if (fun q => ?_) (fun q => hk _ ⟨fun h => (by cases h), fun h => absurd h.1 q⟩)
    rw [w64_eq (n := i - 1) (by omega)]
    refine ok_ix (by omega) (by omega) fun a ha => ok_if (fun q2 => hk _ ?_) (fun q2 => hk _ ?_)
    · rw [decide_eq_true_iff]
      exact ⟨fun h => ⟨q, a, ha, q2, h⟩, fun ⟨_, _, _, _, h⟩ => h⟩
    · exact ⟨fun h => (by cases h), fun ⟨_, b, hb, h, _⟩ => by rw [ha] at hb; cases hb; exact absurd h q2⟩
  refine ok_b (fun hb2 => ?_) (fun hb2 => ?_)
  · obtain ⟨q, a, ha, q2, q3⟩ := hz2.1 hb2
    rw [w64_eq (n := i - 1) (by omega)]
    have hax := htb.ok a (sc_mem ha)
    have hxx := htb.ok x (sc_mem hx)
    have hiu : (i.toNat : Nat) = ub l m := by
      rcases Nat.lt_or_ge i.toNat (ub l m) with h1 | h1
      · have := ub_lo (m := m) i.toNat x h1 hx; omega
      · omega
    have hmid := lnM_mid htb (m := m) (a := a) (b := x) (by omega) (by rw [← hiu, show i.toNat - 1 = (i - 1).toNat from by omega]; exact ha) (by rw [← hiu]; exact hx)
    refine ok_ixe (by omega) ha (ok_ixe (by omega) ha (ok_bde (Hull_m _ _) ?_))
    have eh : hullM x.Lo x.Hi a.Lo a.Hi = (min x.Lo a.Lo, max x.Hi a.Hi, 0) := by unfold hullM; rw [if_pos (by omega)]
    dsimp only
    rw [eh]
    refine ok_if1 rfl (ok_bde (Within_m _ _) ?_)
    dsimp only [i3]
    rw [decide_eq_true (by omega)]
    exact ok_bde sane19 (ok_some rfl)
  · refine go fun hlt => ?_
    have hi0 : i ≠ 0 := fun h => hno (.inr (.inl ⟨h, hlt⟩))
    have ha := List.getElem?_eq_getElem (show (i - 1).toNat < l.length by omega)
    have hiu : (i.toNat : Nat) = ub l m := by
      rcases Nat.lt_or_ge i.toNat (ub l m) with h1 | h1
      · have := ub_lo (m := m) i.toNat x h1 hx; omega
      · omega
    have ham := ub_lo (m := m) (i - 1).toNat _ (by omega) ha
    have hne := i3' _ (by omega) (by omega) (by rw [← hiu, show i.toNat - 1 = (i - 1).toNat from by omega]; exact ha)
    rw [hz2.2 ⟨by omega, _, ha, by omega, hlt⟩] at hb2
    cases hb2
end Go.Hy
