/-
  Resistances: tables, the search in them, the line between two entries, the class. The program's answers and the reference's.
-/
import Derived.Test.YtncgacgkeonfnaaPIvS
import Derived.Test.YtncgacgkeonfnaaPScan
import Derived.Test.YtncgacgkeonfnaaPGen
namespace Go.Hy
set_option linter.unusedVariables false
set_option linter.unusedSimpArgs false
set_option maxHeartbeats 2000000
set_option maxRecDepth 10000
open Go.Hy.Iv

/-! ### Tables -/
def rowB (l : List Resistance) (i : Nat) : Bool := match l[i]? with
  | none => true
  | some x => decide (1 ≤ x.Mass ∧ x.Mass ≤ 2000 ∧ 0 ≤ x.Lo ∧ x.Lo ≤ x.Hi ∧ x.Hi ≤ 5000) && (match i with
    | 0 => true
    | j + 1 => match l[j]? with
      | none => true
      | some y => decide (y.Mass < x.Mass))
def tE (l : List Resistance) : Int := if 1 ≤ l.length ∧ l.length ≤ 16 then (if (List.range l.length).all (rowB l) = true then 0 else 1) else 3
structure Tbl (l : List Resistance) : Prop where
  len : 1 ≤ l.length ∧ l.length ≤ 16
  ok : ∀ x ∈ l, 1 ≤ x.Mass ∧ x.Mass ≤ 2000 ∧ 0 ≤ x.Lo ∧ x.Lo ≤ x.Hi ∧ x.Hi ≤ 5000
  up : ∀ (i : Nat) x y, l[i]? = some x → l[i + 1]? = some y → x.Mass < y.Mass
theorem rowB_ok {l : List Resistance} {i : Nat} {x : Resistance} (hx : l[i]? = some x) (h : rowB l i = true) : (1 ≤ x.Mass ∧ x.Mass ≤ 2000 ∧ 0 ≤ x.Lo ∧ x.Lo ≤ x.Hi ∧ x.Hi ≤ 5000) ∧ ∀ (j : Nat) y, i = j + 1 → l[j]? = some y → y.Mass < x.Mass := by
  unfold rowB at h
  rw [hx] at h
  dsimp only at h
  rw [Bool.and_eq_true] at h
  refine ⟨of_decide_eq_true h.1, fun j y e hy => ?_⟩
  subst e
  have := h.2
  dsimp only at this
  rw [hy] at this
  exact of_decide_eq_true this
theorem range_at {n i : Nat} (h : i < n) : (List.range n)[i]? = some i := List.getElem?_range h
theorem tE_ok {l : List Resistance} (h : tE l = 0) : Tbl l := by
  unfold tE at h
  split at h
  · rename_i hl
    split at h
    · rename_i ha
      rw [List.all_eq_true] at ha
      refine ⟨hl, fun x hx => ?_, fun i x y hx hy => ?_⟩
      · obtain ⟨i, hi⟩ := List.getElem?_of_mem hx
        exact (rowB_ok hi (ha i (List.mem_range.2 (sc_lt hi)))).1
      · exact (rowB_ok hy (ha _ (List.mem_range.2 (sc_lt hy)))).2 i x rfl hx
    · cases h
  · cases h
theorem tE_of {l : List Resistance} (h : Tbl l) : tE l = 0 := by
  unfold tE
  rw [if_pos h.len, if_pos]
  rw [List.all_eq_true]
  intro i hi
  unfold rowB
  have hx := List.getElem?_eq_getElem (List.mem_range.1 hi)
  rw [hx]
  dsimp only
  rw [Bool.and_eq_true]
  refine ⟨decide_eq_true (h.ok _ (sc_mem hx)), ?_⟩
  cases i with
  | zero => rfl
  | succ j =>
    dsimp only
    cases hy : l[j]? with
    | none => rfl
    | some y => exact decide_eq_true (h.up j y _ hy hx)
theorem TValid_m {l : List Resistance} : resistance_Valid l = some (tE l) := by
  refine Ok.eq (?_ : Ok _ _)
  unfold resistance_Valid
  have long : ¬ (1 ≤ l.length ∧ l.length ≤ 16) → (3 : Int) = tE l := fun h => by unfold tE; rw [if_neg h]
  refine ok_if (fun h => ok_some (long (by omega))) (fun h1 => ok_if (fun h => ok_some (long (by omega))) (fun h2 => ?_))
  have hl : 1 ≤ l.length ∧ l.length ≤ 16 := by omega
  refine ok_lp (fun (z : Int) => Scan (rowB l) (List.range l.length) z) (fun z => ((l.length : Int) - z).toNat) Scan.zero (by simp only [big_eq]; omega) ?_
  intro z next hz hn
  have z0 := hz.1
  refine ok_if (fun h => ok_ix z0 h fun x hx => ?_) (fun h => ok_some (by unfold tE; rw [if_pos hl, if_pos (hz.done (by simpa using h))]))
  have hr := range_at (n := l.length) (i := z.toNat) (by omega)
  have bad : rowB l z.toNat = false → Ok (some (1 : Int)) (· = tE l) := fun h => ok_some (by unfold tE; rw [if_pos hl, if_neg (by rw [scan_no hr h]; decide)])
  have badv : ¬ (1 ≤ x.Mass ∧ x.Mass ≤ 2000 ∧ 0 ≤ x.Lo ∧ x.Lo ≤ x.Hi ∧ x.Hi ≤ 5000) → Ok (some (1 : Int)) (· = tE l) := fun h => bad (by unfold rowB; rw [hx]; dsimp only; rw [decide_eq_false h]; rfl)
  rw [w64_eq (n := z + 1) (by omega)]
  refine ok_if (fun q => badv (by omega)) fun q1 => ok_if (fun q => badv (by omega)) fun q2 => ok_if (fun q3 => ?_) (fun q3 => ?_)
  · rw [w64_eq (n := z - 1) (by omega)]
    refine ok_ix (by omega) (by omega) fun y hy => ?_
    obtain ⟨j, hj⟩ : ∃ j, z.toNat = j + 1 := ⟨z.toNat - 1, by omega⟩
    have ej : (z - 1).toNat = j := by omega
    rw [ej] at hy
    have er : rowB l z.toNat = (decide (1 ≤ x.Mass ∧ x.Mass ≤ 2000 ∧ 0 ≤ x.Lo ∧ x.Lo ≤ x.Hi ∧ x.Hi ≤ 5000) && decide (y.Mass < x.Mass)) := by
      rw [hj] at hx ⊢
      unfold rowB
      rw [hx]
      dsimp only
      rw [hy]
    refine ok_if (fun q => bad (by rw [er, decide_eq_false (by omega : ¬ y.Mass < x.Mass), Bool.and_false])) fun q4 => ok_if (fun q => badv (by omega)) fun q5 => ok_if (fun q => badv (by omega)) fun q6 => ok_if (fun q => badv (by omega)) fun q7 => ?_
    exact hn _ (hz.step hr (by rw [er, decide_eq_true (by omega), decide_eq_true (by omega)]; rfl)) (by omega)
  · refine ok_if (fun q => badv (by omega)) fun q5 => ok_if (fun q => badv (by omega)) fun q6 => ok_if (fun q => badv (by omega)) fun q7 => ?_
    have e0 : z.toNat = 0 := by omega
    refine hn _ (hz.step hr ?_) (by omega)
    rw [e0] at hx ⊢
    unfold rowB
    rw [hx]
    dsimp only
    rw [decide_eq_true (by omega)]
    rfl
theorem rTValid_m {l : List Resistance} : r19_Valid l = some (tE l) := TValid_m

/-! ### The search -/
/-- How many entries have at most this mass. -/
def ub : List Resistance → Int → Nat
  | [], _ => 0
  | x :: l, m => if m < x.Mass then 0 else ub l m + 1
theorem ub_le (l : List Resistance) (m : Int) : ub l m ≤ l.length := by
  induction l with
  | nil => exact Nat.le_refl _
  | cons x l ih => unfold ub; split <;> simp <;> omega
theorem ub_lo {l : List Resistance} {m : Int} : ∀ (i : Nat) x, i < ub l m → l[i]? = some x → x.Mass ≤ m := by
  induction l with
  | nil => intro i x h; simp [ub] at h
  | cons y l ih =>
    intro i x h hx
    unfold ub at h
    split at h
    · omega
    · cases i with
      | zero => simp only [List.getElem?_cons_zero, Option.some.injEq] at hx; subst hx; omega
      | succ i => exact ih i x (by omega) (by simpa using hx)
theorem ub_at {l : List Resistance} {m : Int} : ∀ x, l[ub l m]? = some x → m < x.Mass := by
  induction l with
  | nil => intro x h; simp at h
  | cons y l ih =>
    intro x h
    unfold ub at h
    split at h
    · simp only [List.getElem?_cons_zero, Option.some.injEq] at h; subst h; assumption
    · exact ih x (by simpa using h)
theorem Tbl.mono {l : List Resistance} (h : Tbl l) : ∀ (k i : Nat) x y, l[i]? = some x → l[i + k]? = some y → x.Mass ≤ y.Mass := by
  intro k
  induction k with
  | zero => intro i x y hx hy; rw [Nat.add_zero, hx] at hy; cases hy; exact Int.le_refl _
  | succ k ih =>
    intro i x y hx hy
    have hlt := sc_lt hy
    have hz := List.getElem?_eq_getElem (show i + k < l.length by omega)
    have h1 := ih i x _ hx hz
    have h2 := h.up (i + k) _ y hz hy
    omega
theorem ub_hi {l : List Resistance} (h : Tbl l) {m : Int} {i : Nat} {x : Resistance} (hi : ub l m ≤ i) (hx : l[i]? = some x) : m < x.Mass := by
  have hlt := sc_lt hx
  have hz := List.getElem?_eq_getElem (show ub l m < l.length by omega)
  have h1 := ub_at _ hz
  have h2 := h.mono (i - ub l m) _ _ x hz (by rw [Nat.add_sub_cancel' hi]; exact hx)
  omega
theorem u64_wrap {n : Int} (h : 0 ≤ n ∧ n < 18446744073709551616) : IntKind.wrap .u64 n = n := by
  have hs : IntKind.u64.signed = false := rfl
  simp [IntKind.wrap, IntKind.bits, hs]
  omega
theorem i64_wrap {n : Int} (h : 0 ≤ n ∧ n < 9223372036854775808) : IntKind.wrap .i64 n = n := w64_eq (by omega)
theorem Search_m {n u : Int} {q : Int → Option Bool} (hu : 0 ≤ u ∧ u ≤ n) (hn : n ≤ 1000000000) (hq : ∀ i, 0 ≤ i → i < n → q i = some (decide (u ≤ i))) : sort_Search n q = some u := by
  refine Ok.eq (?_ : Ok _ _)
  unfold sort_Search
  refine ok_lp (fun (z : Int × Int) => 0 ≤ z.1 ∧ z.1 ≤ u ∧ u ≤ z.2 ∧ z.2 ≤ n) (fun z => (z.2 - z.1).toNat) ⟨Int.le_refl 0, hu.1, hu.2, Int.le_refl _⟩ (by simp only [big_eq]; omega) ?_
  rintro ⟨i, j⟩ next ⟨i0, i1, i2, i3⟩ hnx
  dsimp only at i0 i1 i2 i3 ⊢
  rw [w64_eq (n := i + j) (by omega), u64_wrap (by omega)]
  refine ok_if (fun h => ok_vl fun x hx => ?_) (fun h => ok_some (by omega))
  subst hx
  rw [i64_wrap (by omega)]
  refine ok_bde (hq _ (by omega) (by omega)) (ok_nb (fun h1 => ?_) (fun h1 => ?_))
  · have := of_decide_eq_false h1
    rw [w64_eq (by omega)]
    exact ok_vl fun x hx => hnx _ ⟨by dsimp only; omega, by dsimp only; omega, by dsimp only; omega, by dsimp only; omega⟩ (by dsimp only; omega)
  · have := of_decide_eq_true h1
    exact hnx _ ⟨by dsimp only; omega, by dsimp only; omega, by dsimp only; omega, by dsimp only; omega⟩ (by dsimp only; omega)

/-! ### Rolling -/
/-- The line between two entries. -/
def lnM (l : List Resistance) (m : Int) : Int × Int :=
  match l[ub l m - 1]? with
  | none => (0, 0)
  | some a => if ub l m = 0 then (a.Lo, a.Hi) else match l[ub l m]? with
    | none => (a.Lo, a.Hi)
    | some b => (a.Lo + (b.Lo - a.Lo) * (m - a.Mass) / (b.Mass - a.Mass), a.Hi + -((-((b.Hi - a.Hi) * (m - a.Mass))) / (b.Mass - a.Mass)))
abbrev MsOk (mass axles : Int) : Prop := 1 ≤ mass ∧ mass ≤ 192000 ∧ 1 ≤ axles ∧ axles ≤ 768
def rollM (l : List Resistance) (mass axles : Int) : Int × Int × Int := if tE l ≠ 0 then (0, 0, tE l) else if MsOk mass axles then ((lnM l (mass / axles)).1, (lnM l (mass / axles)).2, 0) else (0, 0, 2)
theorem prod_in {d n : Int} (hd : -5000 ≤ d ∧ d ≤ 5000) (hn : 0 ≤ n ∧ n ≤ 2000) : -10000000 ≤ d * n ∧ d * n ≤ 10000000 := by
  have h1 : d * n ≤ 5000 * n := Int.mul_le_mul_of_nonneg_right hd.2 hn.1
  have h2 : -5000 * n ≤ d * n := Int.mul_le_mul_of_nonneg_right hd.1 hn.1
  omega
theorem quo_in {x d : Int} (hx : -10000000 ≤ x ∧ x ≤ 10000000) (hd : 1 ≤ d) : -10000000 ≤ x / d ∧ x / d ≤ 10000000 := by
  have h1 : x / d ≤ 10000000 := by
    rcases Int.lt_or_le x 0 with h | h
    · have := Int.ediv_neg_of_neg_of_pos h (by omega : 0 < d); omega
    · have := Int.ediv_le_self d h; omega
  have h2 : -10000000 ≤ x / d := by
    rw [Int.le_ediv_iff_mul_le (by omega)]
    have : -10000000 * d ≤ -10000000 * 1 := by omega
    omega
  exact ⟨h2, h1⟩
theorem between_m {m m1 v1 m2 v2 : Int} (h : m1 ≤ m ∧ m < m2) (hm : 0 ≤ m1 ∧ m2 ≤ 2000) (hv : 0 ≤ v1 ∧ v1 ≤ 5000 ∧ 0 ≤ v2 ∧ v2 ≤ 5000) :
    resistance_between m m1 v1 m2 v2 = some ⟨v1 + (v2 - v1) * (m - m1) / (m2 - m1), v1 + -((-((v2 - v1) * (m - m1))) / (m2 - m1))⟩ := by
  refine Ok.eq (?_ : Ok _ _)
  unfold resistance_between
  rw [w64_eq (n := v2 - v1) (by omega), w64_eq (n := m - m1) (by omega), w64_eq (n := m2 - m1) (by omega)]
  refine ok_bde (Scale_m _ _ _) (ok_some ?_)
  have hp := prod_in (d := v2 - v1) (n := m - m1) (by omega) (by omega)
  have q1 := quo_in hp (d := m2 - m1) (by omega)
  have q2 := quo_in (x := -((v2 - v1) * (m - m1))) (d := m2 - m1) (by omega) (by omega)
  have e1 : dnm ((v2 - v1) * (m - m1)) (m2 - m1) = (v2 - v1) * (m - m1) / (m2 - m1) := dnm_pos (by omega) (by omega)
  have e2 : upm ((v2 - v1) * (m - m1)) (m2 - m1) = -((-((v2 - v1) * (m - m1))) / (m2 - m1)) := upm_pos (by omega) (by omega)
  have es : scaleM (v2 - v1) (v2 - v1) (m - m1) (m2 - m1) = ((v2 - v1) * (m - m1) / (m2 - m1), -((-((v2 - v1) * (m - m1))) / (m2 - m1)), 0) := by
    unfold scaleM
    rw [if_neg (by omega), if_neg (by omega), if_neg (by omega), if_neg (by omega), e1, e2]
    unfold resM
    rw [if_pos (by omega)]
  dsimp only
  rw [es]
  dsimp only [i3]
  rw [w64_eq (by omega), w64_eq (by omega)]
theorem Rolling_m {l : List Resistance} {mass axles : Int} : resistance_Rolling l mass axles = some (i3 (rollM l mass axles)) := by
  refine Ok.eq (?_ : Ok _ _)
  unfold resistance_Rolling rollM
  refine ok_bde TValid_m (ok_if (fun h => ok_some (by rw [if_pos h])) (fun h => ?_))
  rw [if_neg h]
  have ht := tE_ok (Decidable.not_not.1 h)
  have hl := ht.len
  have no : ¬ MsOk mass axles → Ok (some (Interval.mk 0 0, (2 : Int))) (· = i3 (if MsOk mass axles then ((lnM l (mass / axles)).1, (lnM l (mass / axles)).2, 0) else (0, 0, 2))) := fun h => ok_some (by rw [if_neg h])
  refine ok_if (fun q => no (by omega)) fun q1 => ok_if (fun q => no (by omega)) fun q2 => ok_if (fun q => no (by omega)) fun q3 => ok_if (fun q => no (by omega)) fun q4 => ok_ck (by omega) ?_
  have hms : MsOk mass axles := by omega
  rw [if_pos hms]
  have e1 : Int.tdiv mass axles = mass / axles := Int.tdiv_eq_ediv_of_nonneg (by omega)
  have h1 : 0 ≤ mass / axles := Int.ediv_nonneg (by omega) (by omega)
  have h2 : mass / axles ≤ mass := Int.ediv_le_self _ (by omega)
  rw [e1, w64_eq (n := mass / axles) (by omega)]
  generalize mass / axles = m at h1 h2
  have hul := ub_le l m
  refine ok_bde (Search_m (u := (ub l m : Int)) (by omega) (by omega) fun i i0 i1 => ?_) ?_
  · unfold resistance_Rolling_1
    have hx := List.getElem?_eq_getElem (show i.toNat < l.length by omega)
    refine Ok.eq (?_ : Ok _ _)
    refine ok_ixe i0 hx (ok_some ?_)
    refine decide_eq_decide.2 ⟨fun hh => ?_, fun hh => ub_hi ht (by omega) hx⟩
    rcases Int.lt_or_le i (ub l m) with hlt | hle
    · have := ub_lo (m := m) i.toNat _ (by omega) hx; omega
    · exact hle
  refine ok_if (fun hz => ?_) (fun hz => ?_)
  · have hx := List.getElem?_eq_getElem (show 0 < l.length by omega)
    refine ok_ixe (by decide) hx (ok_ixe (by decide) hx (ok_some ?_))
    have hu : ub l m = 0 := by omega
    unfold lnM
    rw [hu, show 0 - 1 = 0 from rfl, hx]
    rfl
  · rw [w64_eq (by omega)]
    refine ok_ix (by omega) (by omega) fun a ha => ?_
    have ea : ((ub l m : Int) - 1).toNat = ub l m - 1 := by omega
    rw [ea] at ha
    have hao := ht.ok a (sc_mem ha)
    have ham := ub_lo (m := m) _ a (by omega) ha
    refine ok_jp (fun (z : Bool) => z = true ↔ (ub l m = l.length ∨ a.Mass = m)) (fun z hzz => ?_) (fun k hk => ?_)
    rotate_left
    · refine ok_if (fun q => hk _ ⟨fun _ => .inl (by omega), fun _ => rfl⟩) (fun q => hk _ ?_)
      rw [decide_eq_true_iff]
      exact ⟨fun h => .inr h, fun h => h.resolve_left (by omega)⟩
    refine ok_b (fun hb => ok_some ?_) (fun hb => ?_)
    · unfold lnM
      rw [ha]
      dsimp only
      rw [if_neg (by omega)]
      rcases hzz.1 hb with h5 | h5
      · rw [h5, List.getElem?_eq_none (Nat.le_refl _)]
      · cases hbb : l[ub l m]? with
        | none => rfl
        | some b =>
          dsimp only
          rw [h5, Int.sub_self, Int.mul_zero, Int.mul_zero]
          simp [i3]
    · have hne : ¬ (ub l m = l.length ∨ a.Mass = m) := fun h => by rw [hzz.2 h] at hb; cases hb
      refine ok_ix (by omega) (by omega) fun b hb2 => ?_
      rw [show ((ub l m : Int)).toNat = ub l m from by omega] at hb2
      have hbo := ht.ok b (sc_mem hb2)
      have hbm := ub_at b hb2
      refine ok_bde (between_m (by omega) (by omega) (by omega)) (ok_bde (between_m (by omega) (by omega) (by omega)) (ok_some ?_))
      unfold lnM
      rw [ha]
      dsimp only
      rw [if_neg (by omega), hb2]
theorem rRolling_m {l : List Resistance} {mass axles : Int} : r19_Rolling l mass axles = some (i3 (rollM l mass axles)) := by
  refine Ok.eq (?_ : Ok _ _)
  unfold r19_Rolling rollM
  refine ok_bde rTValid_m (ok_if (fun h => ok_some (by rw [if_pos h])) (fun h => ?_))
  rw [if_neg h]
  have ht := tE_ok (Decidable.not_not.1 h)
  have hl := ht.len
  have no : ¬ MsOk mass axles → Ok (some (Interval.mk 0 0, (2 : Int))) (· = i3 (if MsOk mass axles then ((lnM l (mass / axles)).1, (lnM l (mass / axles)).2, 0) else (0, 0, 2))) := fun h => ok_some (by rw [if_neg h])
  refine ok_if (fun q => no (by omega)) fun q1 => ok_if (fun q => no (by omega)) fun q2 => ok_if (fun q => no (by omega)) fun q3 => ok_if (fun q => no (by omega)) fun q4 => ok_ck (by omega) ?_
  have hms : MsOk mass axles := by omega
  rw [if_pos hms]
  have e1 : Int.tdiv mass axles = mass / axles := Int.tdiv_eq_ediv_of_nonneg (by omega)
  have h1 : 0 ≤ mass / axles := Int.ediv_nonneg (by omega) (by omega)
  have h2 : mass / axles ≤ mass := Int.ediv_le_self _ (by omega)
  rw [e1, w64_eq (n := mass / axles) (by omega)]
  generalize mass / axles = m at h1 h2
  have hul := ub_le l m
  refine ok_jp (fun (z : Int) => z = (ub l m : Int)) (fun z hz => ?_) (fun k hk => ?_)
  rotate_left
  · refine ok_lp (fun (z : Int) => 0 ≤ z ∧ z ≤ ub l m) (fun z => ((l.length : Int) - z).toNat) ⟨Int.le_refl 0, by omega⟩ (by simp only [big_eq]; omega) ?_
    intro i next ⟨i0, i1⟩ hnx
    have fin : ∀ x, l[i.toNat]? = some x → ¬ x.Mass ≤ m → i = (ub l m : Int) := fun x hx hm => by
      rcases Int.lt_or_le i (ub l m) with hlt | hle
      · have := ub_lo (m := m) i.toNat x (by omega) hx; omega
      · omega
    refine ok_if (fun hi => ok_ix i0 hi fun x hx => ok_if (fun hm => ?_) (fun hm => hk _ (fin x hx hm))) (fun hi => hk _ (by omega))
    rw [w64_eq (by omega)]
    refine hnx _ ⟨by omega, ?_⟩ (by omega)
    rcases Int.lt_or_le i (ub l m) with hlt | hle
    · omega
    · have := ub_hi ht (m := m) (i := i.toNat) (by omega) hx; omega
  subst hz
  refine ok_if (fun hz => ?_) (fun hz => ?_)
  · have hx := List.getElem?_eq_getElem (show 0 < l.length by omega)
    refine ok_ixe (by decide) hx (ok_ixe (by decide) hx (ok_some ?_))
    have hu : ub l m = 0 := by omega
    unfold lnM
    rw [hu, show 0 - 1 = 0 from rfl, hx]
    rfl
  · rw [w64_eq (n := (ub l m : Int) - 1) (by omega)]
    have ea : ((ub l m : Int) - 1).toNat = ub l m - 1 := by omega
    have ha := List.getElem?_eq_getElem (show ub l m - 1 < l.length by omega)
    generalize l[ub l m - 1] = a at ha
    have hao := ht.ok a (sc_mem ha)
    have ham := ub_lo (m := m) _ a (by omega) ha
    refine ok_if (fun hb => ?_) (fun hb => ?_)
    · refine ok_ixe (by omega) (by rw [ea]; exact ha) (ok_ixe (by omega) (by rw [ea]; exact ha) (ok_some ?_))
      unfold lnM
      rw [ha]
      dsimp only
      rw [if_neg (by omega), List.getElem?_eq_none (by omega)]
    · have hb2 := List.getElem?_eq_getElem (show ub l m < l.length by omega)
      generalize l[ub l m] = b at hb2
      have hbo := ht.ok b (sc_mem hb2)
      have hbm := ub_at b hb2
      refine ok_jp0 ?_
      refine ok_ixe (by omega) (by rw [ea]; exact ha) (ok_ixe (by omega) (by rw [show ((ub l m : Int)).toNat = ub l m from by omega]; exact hb2) ?_)
      dsimp only
      have hp1 := prod_in (d := b.Lo - a.Lo) (n := m - a.Mass) (by omega) (by omega)
      have hp2 := prod_in (d := b.Hi - a.Hi) (n := m - a.Mass) (by omega) (by omega)
      rw [w64_eq (n := m - a.Mass) (by omega), w64_eq (n := b.Lo - a.Lo) (by omega), w64_eq (n := b.Mass - a.Mass) (by omega), w64_eq (n := b.Hi - a.Hi) (by omega)]
      refine ok_vl fun x20 h20 => ?_
      subst h20
      rw [w64_eq (n := (b.Lo - a.Lo) * (m - a.Mass)) (by omega)]
      refine ok_vl fun x21 h21 => ?_
      subst h21
      have g1 := quo_in hp1 (d := b.Mass - a.Mass) (by omega)
      have g2 := quo_in (x := -((b.Hi - a.Hi) * (m - a.Mass))) (d := b.Mass - a.Mass) (by omega) (by omega)
      refine ok_bde (rDown_m (by omega) (by omega)) (ok_vl fun x23 h23 => ?_)
      subst h23
      rw [w64_eq (n := (b.Hi - a.Hi) * (m - a.Mass)) (by omega)]
      refine ok_bde (rUp_m (by omega) (by omega)) (ok_some ?_)
      rw [dnm_pos (by omega) (by omega), upm_pos (by omega) (by omega), w64_eq (by omega), w64_eq (by omega)]
      unfold lnM
      rw [ha]
      dsimp only
      rw [if_neg (by omega), hb2]

/-! ### The class -/
def clp (x : Int) : Int := max 0 (min x 5000)
abbrev WOk (w : Weather) : Prop := Ivd w.Wind.Lo w.Wind.Hi ∧ Ivd w.Cold.Lo w.Cold.Hi ∧ -40000 ≤ w.Wind.Lo ∧ w.Wind.Hi ≤ 40000 ∧ 0 ≤ w.Cold.Lo ∧ w.Cold.Hi ≤ 1000
def clsM (l : List Resistance) (mass axles : Int) (w : Weather) : Int × Int × Int :=
  if (rollM l mass axles).2.2 ≠ 0 then (0, 0, (rollM l mass axles).2.2) else if WOk w then
    (clp ((rollM l mass axles).1 + w.Wind.Lo * 3 / 100 + w.Cold.Lo), clp ((rollM l mass axles).2.1 + -((-(w.Wind.Hi * 3)) / 100) + w.Cold.Hi), 0) else (0, 0, 1)
theorem scale3 {x : Interval} (h : Ivd x.Lo x.Hi) (h1 : -40000 ≤ x.Lo) (h2 : x.Hi ≤ 40000) : scaleM x.Lo x.Hi 3 100 = (x.Lo * 3 / 100, -((-(x.Hi * 3)) / 100), 0) := by
  unfold scaleM
  rw [if_neg (by omega), if_neg (by omega), if_neg (by omega), if_neg (by omega), dnm_pos (by omega) (by omega), upm_pos (by omega) (by omega)]
  unfold resM
  rw [if_pos (by omega)]
theorem lnM_in {l : List Resistance} (ht : Tbl l) {m : Int} (h1 : 0 ≤ m ∧ m ≤ 200000) : -10005000 ≤ (lnM l m).1 ∧ (lnM l m).1 ≤ 10005000 ∧ -10005000 ≤ (lnM l m).2 ∧ (lnM l m).2 ≤ 10005000 := by
  have hl := ht.len
  have hul := ub_le l m
  have ha := List.getElem?_eq_getElem (show ub l m - 1 < l.length by omega)
  generalize l[ub l m - 1] = a at ha
  have hao := ht.ok a (sc_mem ha)
  unfold lnM
  rw [ha]
  dsimp only
  by_cases hz : ub l m = 0
  · rw [if_pos hz]; dsimp only; omega
  · rw [if_neg hz]
    have ham := ub_lo (m := m) _ a (by omega) ha
    cases hb : l[ub l m]? with
    | none => dsimp only; omega
    | some b =>
      dsimp only
      have hbo := ht.ok b (sc_mem hb)
      have hbm := ub_at b hb
      have hp1 := prod_in (d := b.Lo - a.Lo) (n := m - a.Mass) (by omega) (by omega)
      have hp2 := prod_in (d := b.Hi - a.Hi) (n := m - a.Mass) (by omega) (by omega)
      have g1 := quo_in hp1 (d := b.Mass - a.Mass) (by omega)
      have g2 := quo_in (x := -((b.Hi - a.Hi) * (m - a.Mass))) (d := b.Mass - a.Mass) (by omega) (by omega)
      omega
theorem rollM_in {l : List Resistance} {mass axles : Int} (h : (rollM l mass axles).2.2 = 0) : -10005000 ≤ (rollM l mass axles).1 ∧ (rollM l mass axles).1 ≤ 10005000 ∧ -10005000 ≤ (rollM l mass axles).2.1 ∧ (rollM l mass axles).2.1 ≤ 10005000 := by
  unfold rollM at *
  by_cases ht : tE l ≠ 0
  · rw [if_pos ht]; dsimp only; omega
  · rw [if_neg ht]
    by_cases hm : MsOk mass axles
    · rw [if_pos hm]
      have h1 : 0 ≤ mass / axles := Int.ediv_nonneg (by omega) (by omega)
      have h2 : mass / axles ≤ mass := Int.ediv_le_self _ (by omega)
      exact lnM_in (tE_ok (Decidable.not_not.1 ht)) (by omega)
    · rw [if_neg hm]; dsimp only; omega
theorem inside19_m {x : Interval} {a b : Int} : resistance_inside x a b = some (decide (Ivd x.Lo x.Hi ∧ a ≤ x.Lo ∧ x.Hi ≤ b)) := by
  refine Ok.eq (?_ : Ok _ _)
  unfold resistance_inside
  exact ok_pd (Valid_m x) (fun h => ok_if (fun h1 => ok_some (dd (by omega))) (fun h1 => ok_some (df (by omega)))) (fun h => ok_some (df (by omega)))
theorem Class_m {l : List Resistance} {mass axles : Int} {w : Weather} : resistance_Class l mass axles w = some (i3 (clsM l mass axles w)) := by
  refine Ok.eq (?_ : Ok _ _)
  unfold resistance_Class clsM
  refine ok_bde Rolling_m (ok_if (fun h => ok_some (by rw [if_pos h])) (fun h => ?_))
  rw [if_neg h]
  have hr := rollM_in (Decidable.not_not.1 h)
  refine ok_nd inside19_m (fun q => ok_some (by rw [if_neg (by omega)])) fun q1 => ok_nd inside19_m (fun q => ok_some (by rw [if_neg (by omega)])) fun q2 => ok_bde (Scale_m _ _ _) ?_
  rw [if_pos (by omega), scale3 (by omega) (by omega) (by omega)]
  dsimp only [i3]
  have h1 : -2000 ≤ w.Wind.Lo * 3 / 100 ∧ w.Wind.Lo * 3 / 100 ≤ 2000 := by omega
  have h2 : -2000 ≤ -((-(w.Wind.Hi * 3)) / 100) ∧ -((-(w.Wind.Hi * 3)) / 100) ≤ 2000 := by omega
  rw [w64_eq (n := (rollM l mass axles).1 + w.Wind.Lo * 3 / 100) (by omega), w64_eq (n := (rollM l mass axles).2.1 + -((-(w.Wind.Hi * 3)) / 100)) (by omega), w64_eq (by omega), w64_eq (by omega)]
  refine ok_vl fun x9 h9 => ok_vl fun x10 h10 => ?_
  unfold resistance_clip
  refine ok_bde rfl (ok_some ?_)
  unfold clp
  simp only [Prod.mk.injEq, Interval.mk.injEq, and_true]
  omega
theorem rClass_m {l : List Resistance} {mass axles : Int} {w : Weather} : r19_Class l mass axles w = some (i3 (clsM l mass axles w)) := by
  refine Ok.eq (?_ : Ok _ _)
  unfold r19_Class clsM
  refine ok_bde rRolling_m (ok_if (fun h => ok_some (by rw [if_pos h])) (fun h => ?_))
  rw [if_neg h]
  have hr := rollM_in (Decidable.not_not.1 h)
  refine ok_nd (rValid_m _) (fun q => ok_some (by rw [if_neg (by omega)])) fun q1 => ok_nd (rValid_m _) (fun q => ok_some (by rw [if_neg (by omega)])) fun q2 => ok_if (fun q => ok_some (by rw [if_neg (by omega)])) fun q3 => ok_if (fun q => ok_some (by rw [if_neg (by omega)])) fun q4 => ok_if (fun q => ok_some (by rw [if_neg (by omega)])) fun q5 => ok_if (fun q => ok_some (by rw [if_neg (by omega)])) fun q6 => ok_bde (rScale_m _ _ _) ?_
  rw [if_pos (by omega), scale3 (by omega) (by omega) (by omega)]
  dsimp only [i3]
  have h1 : -2000 ≤ w.Wind.Lo * 3 / 100 ∧ w.Wind.Lo * 3 / 100 ≤ 2000 := by omega
  have h2 : -2000 ≤ -((-(w.Wind.Hi * 3)) / 100) ∧ -((-(w.Wind.Hi * 3)) / 100) ≤ 2000 := by omega
  rw [w64_eq (n := (rollM l mass axles).1 + w.Wind.Lo * 3 / 100) (by omega), w64_eq (n := (rollM l mass axles).2.1 + -((-(w.Wind.Hi * 3)) / 100)) (by omega), w64_eq (by omega), w64_eq (by omega)]
  refine ok_vl fun x9 h9 => ok_vl fun x10 h10 => ?_
  unfold r19_clip
  refine ok_bde rfl (ok_some ?_)
  unfold clp
  simp only [Prod.mk.injEq, Interval.mk.injEq, and_true]
  omega
theorem sane19 : law19_sane = some true := by kernel_rfl
theorem exact19_m {l : List Resistance} {mass axles : Int} {w : Weather} : law19_exact l mass axles w = some true := by
  refine Ok.eq (?_ : Ok _ _)
  unfold law19_exact
  refine ok_bde Rolling_m (ok_bde rRolling_m (ok_bde Class_m (ok_bde rClass_m (ok_bde TValid_m (ok_bde rTValid_m (ok_if1 rfl (ok_if1 ⟨rfl, rfl⟩ (ok_if1 rfl (ok_if1 ⟨rfl, rfl⟩ (ok_some (decide_eq_true rfl)))))))))))
end Go.Hy
