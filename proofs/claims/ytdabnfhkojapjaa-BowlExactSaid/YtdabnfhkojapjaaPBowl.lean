/-
  Stands: what the bowl's functions answer.
-/
import Derived.Test.YtdabnfhkojapjaaPScan
import Derived.Test.YtdabnfhkojapjaaPGen
import Derived.Test.YtdabnfhkojapjaaMap
namespace Go.Hy
set_option linter.unusedVariables false
set_option linter.unusedSimpArgs false
set_option maxHeartbeats 2000000
set_option maxRecDepth 10000

abbrev LenOk (l : List Int) : Prop := ∀ x ∈ l, 1 ≤ x ∧ x ≤ 400
abbrev vlS (s : Stand) : Prop := (0 ≤ s.Room ∧ s.Room ≤ 100000) ∧ s.Wagons.length ≤ 96 ∧ s.Lengths.length = s.Wagons.length ∧ (∀ x ∈ s.Wagons, 0 ≤ x) ∧ s.Wagons.Nodup ∧ LenOk s.Lengths
theorem nd_step {l : List Int} {i : Nat} {a : Int} (h : (l.take i).Nodup) (ha : l[i]? = some a) (hn : a ∉ l.take i) : (l.take (i + 1)).Nodup := by
  rw [sc_take ha, List.nodup_append]
  exact ⟨h, by simp, fun x hx y hy => by
    rw [List.mem_singleton] at hy
    rintro rfl
    exact hn (hy ▸ hx)⟩
theorem al_step {p : Int → Prop} {l : List Int} {i : Nat} {a : Int} (h : ∀ x ∈ l.take i, p x) (ha : l[i]? = some a) (hp : p a) : ∀ x ∈ l.take (i + 1), p x := fun x hx => by
  rw [sc_take ha] at hx
  rcases List.mem_append.1 hx with hx | hx
  · exact h x hx
  · rw [List.mem_singleton.1 hx]; exact hp
theorem ok_nck {β : Type} {Q : β → Prop} {b : Bool} {m : Option β} (h : b = false) (k : Ok m Q) : Ok (ck (!b) m) Q := by
  subst h
  unfold ck
  exact k
theorem bValid_m {s : Stand} : bowl_Valid s = some (decide (vlS s)) := by
  refine Ok.eq (?_ : Ok _ _)
  have no : ¬ vlS s → Ok (some false) (· = decide (vlS s)) := fun h => ok_some (decide_eq_false h).symm
  unfold bowl_Valid
  refine ok_if (fun h => no fun v => by have := v.1; omega) (fun h1 => ok_if (fun h => no fun v => by have := v.1; omega) (fun h2 => ok_if (fun h => no fun v => by have := v.2.1; omega) (fun h3 => ok_if (fun h => no fun v => by have := v.2.2.1; omega) (fun h4 => ?_))))
  obtain ⟨rm, w, l⟩ := s
  dsimp only at h1 h2 h3 h4 no ⊢
  refine ok_lp (fun (z : List Int × Int) => 0 ≤ z.2 ∧ z.1 = w.take z.2.toNat ∧ (∀ x ∈ w.take z.2.toNat, 0 ≤ x) ∧ (w.take z.2.toNat).Nodup ∧ LenOk (l.take z.2.toNat)) (fun z => ((w.length : Int) - z.2).toNat) ⟨Int.le_refl 0, rfl, by simp, by simp, by simp [LenOk]⟩ (by simp only [big_eq]; omega) ?_
  rintro ⟨sn, i⟩ next ⟨i0, hs, hp, hd, hl⟩ hnx
  dsimp only at i0 hs hp hd hl ⊢
  refine ok_if (fun hi => ok_ix i0 hi fun x hx => ?_) (fun hi => ok_some ?_)
  rotate_left
  · rw [List.take_of_length_le (by omega)] at hp hd hl
    exact (decide_eq_true ⟨by dsimp only; omega, by dsimp only; omega, by dsimp only; omega, hp, hd, hl⟩).symm
  refine ok_if (fun q => no fun v => by have := v.2.2.2.1 x (sc_mem hx); omega) (fun q1 => ok_b (fun q => no fun v => ?_) (fun q2 => ok_ix i0 (by omega) fun y hy => ok_if (fun q => no fun v => by have := v.2.2.2.2.2 y (sc_mem hy); omega) (fun q3 => ok_ixe i0 hy (ok_if (fun q => no fun v => by have := v.2.2.2.2.2 y (sc_mem hy); omega) (fun q4 => ok_nck q2 (ok_vl fun s2 hs2 => ?_))))))
  · rw [inS_iff, hs] at q
    exact nodup_at v.2.2.2.2.1 hx q
  · have hnm : x ∉ w.take i.toNat := fun hm => by rw [← hs, ← inS_iff] at hm; rw [hm] at q2; cases q2
    rw [w64_eq (n := i + 1) (by omega)]
    have e : (i + 1).toNat = i.toNat + 1 := by omega
    refine hnx _ ⟨by dsimp only; omega, ?_, ?_, ?_, ?_⟩ (by dsimp only; omega)
    · dsimp only; rw [hs2, hs, e, sc_take hx]
    · dsimp only; rw [e]; exact al_step hp hx (by omega)
    · dsimp only; rw [e]; exact nd_step hd hx hnm
    · dsimp only; rw [e]; exact al_step hl hy (by omega)
/-- How many stand foul, and the sum. -/
def fo : Int → List Int → Int
  | _, [] => 0
  | r, x :: l => (if r - x < 0 then 1 else 0) + fo (r - x) l
def sm (l : List Int) : Int := l.foldr (· + ·) 0
theorem sm_app (a b : List Int) : sm (a ++ b) = sm a + sm b := by
  induction a with
  | nil => simp [sm]
  | cons x a ih => simp only [sm, List.cons_append, List.foldr_cons] at ih ⊢; omega
theorem fo_app (a b : List Int) : ∀ r, fo r (a ++ b) = fo r a + fo (r - sm a) b := by
  induction a with
  | nil => intro r; simp [fo, sm]
  | cons x a ih =>
    intro r
    have e : r - x - sm a = r - sm (x :: a) := by simp only [sm, List.foldr_cons]; omega
    simp only [List.cons_append, fo, ih, e]
    omega
theorem sm_rng {l : List Int} (h : LenOk l) : 0 ≤ sm l ∧ sm l ≤ 400 * l.length := by
  induction l with
  | nil => simp [sm]
  | cons x l ih =>
    have h1 := h x (List.mem_cons_self ..)
    have h2 := ih fun y hy => h y (List.mem_cons_of_mem _ hy)
    simp only [sm, List.foldr_cons, List.length_cons] at h2 ⊢
    omega
theorem fo_rng (l : List Int) : ∀ r, 0 ≤ fo r l ∧ fo r l ≤ l.length := by
  induction l with
  | nil => intro r; simp [fo]
  | cons x l ih =>
    intro r
    have := ih (r - x)
    simp only [fo, List.length_cons]
    split <;> omega
theorem LenOk.take {l : List Int} (h : LenOk l) (i : Nat) : LenOk (l.take i) := fun x hx => h x (List.mem_of_mem_take hx)
theorem foul_m {s : Stand} (hr : 0 ≤ s.Room ∧ s.Room ≤ 100000) (hl : LenOk s.Lengths) (hn : s.Lengths.length ≤ 1000) : bowl_foul s = some (fo s.Room s.Lengths, s.Room - sm s.Lengths) := by
  obtain ⟨rm, w, l⟩ := s
  dsimp only at hr hl hn ⊢
  refine Ok.eq (?_ : Ok _ _)
  unfold bowl_foul
  dsimp only
  refine ok_lp (fun (z : Int × Int × Int) => 0 ≤ z.2.2 ∧ z.2.2 ≤ l.length ∧ z.1 = fo rm (l.take z.2.2.toNat) ∧ z.2.1 = rm - sm (l.take z.2.2.toNat)) (fun z => ((l.length : Int) - z.2.2).toNat) ⟨Int.le_refl 0, by dsimp only; omega, rfl, by dsimp only; simp [sm]⟩ (by simp only [big_eq]; omega) ?_
  rintro ⟨n, r, i⟩ next ⟨i0, i1, h1, h2⟩ hnx
  dsimp only at i0 i1 h1 h2 ⊢
  refine ok_if (fun hi => ok_ix i0 hi fun x hx => ?_) (fun hi => ok_some (by rw [h1, h2, List.take_of_length_le (by omega)]))
  have hx2 := hl x (sc_mem hx)
  have hs := sm_rng (hl.take i.toNat)
  have hf := fo_rng (l.take i.toNat) rm
  rw [List.length_take] at hs hf
  have e : (i + 1).toNat = i.toNat + 1 := by omega
  rw [w64_eq (n := r - x) (by omega), w64_eq (n := i + 1) (by omega)]
  have e1 : rm - sm (l.take (i + 1).toNat) = r - x := by rw [e, sc_take hx, sm_app, h2]; simp only [sm, List.foldr_cons, List.foldr_nil]; omega
  have e2 : fo rm (l.take (i + 1).toNat) = n + if r - x < 0 then 1 else 0 := by rw [e, sc_take hx, fo_app, ← h1, ← h2]; simp only [fo, Int.add_zero]
  refine ok_if (fun q => ?_) (fun q => ?_)
  · rw [w64_eq (n := n + 1) (by omega)]
    rw [if_pos q] at e2
    exact hnx _ ⟨by dsimp only; omega, by dsimp only; omega, e2.symm, e1.symm⟩ (by dsimp only; omega)
  · rw [if_neg q, Int.add_zero] at e2
    exact hnx _ ⟨by dsimp only; omega, by dsimp only; omega, e2.symm, e1.symm⟩ (by dsimp only; omega)
theorem Free_m {s : Stand} : bowl_Free s = some (if vlS s then s.Room - sm s.Lengths else 0) := by
  refine Ok.eq (?_ : Ok _ _)
  unfold bowl_Free
  refine ok_bde bValid_m (ok_nb (fun h => ok_some ?_) (fun h => ?_))
  · rw [if_neg (of_decide_eq_false h)]
  · have hv := of_decide_eq_true h
    rw [if_pos hv]
    exact ok_bde (foul_m hv.1 hv.2.2.2.2.2 (by have := hv.2.1; have := hv.2.2.1; omega)) (ok_some rfl)
/-! ### Slices -/
theorem Clone_m {l : List Int} (h : l.length ≤ 1000000000) : slices_Clone_int_int_ l = some l := by
  refine Ok.eq (?_ : Ok _ _)
  unfold slices_Clone_int_int_
  exact ok_ck (by simpa using h) (ok_vl fun y hy => ok_some (by rw [hy, List.nil_append]))
theorem Grow_m {n : Int} (h : 0 ≤ n ∧ n ≤ 1000000000) : slices_Grow_int_int_ n = some [] := by
  refine Ok.eq (?_ : Ok _ _)
  unfold slices_Grow_int_int_
  refine ok_if0 (by omega) (ok_vl fun x hx => ?_)
  rw [show w64 ((0 : Int) - 0) = 0 from rfl, w64_eq (by omega), Int.sub_zero] at hx
  subst hx
  refine ok_if (fun hp => ok_ck (by omega) (ok_vl fun y hy => ok_ck (by omega) (ok_some (by simp)))) (fun _ => ok_some rfl)
theorem Concat_m {a b : List Int} (h : a.length + b.length ≤ 1000000000) : slices_Concat_int_int_ [a, b] = some (a ++ b) := by
  refine Ok.eq (?_ : Ok _ _)
  unfold slices_Concat_int_int_
  have two : ∀ {z : Int}, 0 ≤ z → z < (([a, b] : List (List Int)).length : Int) → z = 0 ∨ z = 1 := fun h0 h1 => by simp only [List.length_cons, List.length_nil] at h1; omega
  refine ok_jp (fun (z : Int) => z = a.length + b.length) (fun z hz => ?_) (fun k hk => ?_)
  · subst hz
    refine ok_bde (Grow_m (by omega)) ?_
    refine ok_lp (fun (z : List Int × Int) => (0 ≤ z.2 ∧ z.2 ≤ 2) ∧ (z.2 = 0 → z.1 = []) ∧ (z.2 = 1 → z.1 = a) ∧ (z.2 = 2 → z.1 = a ++ b)) (fun z => (2 - z.2).toNat) ⟨by dsimp only; omega, fun _ => rfl, fun h => by dsimp only at h; omega, fun h => by dsimp only at h; omega⟩ (by simp only [big_eq]; omega) ?_
    rintro ⟨o, i⟩ next ⟨i0, h0, h1, h2⟩ hnx
    dsimp only at i0 h0 h1 h2 ⊢
    refine ok_if (fun hi => ?_) (fun hi => ok_some (h2 (by simp only [List.length_cons, List.length_nil] at hi; omega)))
    rcases two i0.1 hi with rfl | rfl
    · rw [h0 rfl]
      refine ok_ixe (a := a) (by decide) rfl (ok_ck (by simp only [List.length_nil]; omega) (ok_vl fun y hy => hnx (y, 1) ⟨by dsimp only; decide, fun h => absurd h (by dsimp only; decide), fun _ => hy, fun h => absurd h (by dsimp only; decide)⟩ (by dsimp only; decide)))
    · rw [h1 rfl]
      refine ok_ixe (a := b) (by decide) rfl (ok_ck h (ok_vl fun y hy => hnx (y, 2) ⟨by dsimp only; decide, fun h => absurd h (by dsimp only; decide), fun h => absurd h (by dsimp only; decide), fun _ => hy⟩ (by dsimp only; decide)))
  · refine ok_lp (fun (z : Int × Int) => (0 ≤ z.2 ∧ z.2 ≤ 2) ∧ (z.2 = 0 → z.1 = 0) ∧ (z.2 = 1 → z.1 = a.length) ∧ (z.2 = 2 → z.1 = a.length + b.length)) (fun z => (2 - z.2).toNat) ⟨by dsimp only; omega, fun _ => rfl, fun h => by dsimp only at h; omega, fun h => by dsimp only at h; omega⟩ (by simp only [big_eq]; omega) ?_
    rintro ⟨o, i⟩ next ⟨i0, h0, h1, h2⟩ hnx
    dsimp only at i0 h0 h1 h2 ⊢
    refine ok_if (fun hi => ?_) (fun hi => hk _ (h2 (by simp only [List.length_cons, List.length_nil] at hi; omega)))
    rcases two i0.1 hi with rfl | rfl
    · rw [h0 rfl]
      refine ok_ixe (a := a) (by decide) rfl (ok_vl fun y hy => ?_)
      rw [w64_eq (by omega)] at hy
      refine ok_if0 (by omega) (hnx (y, 1) ⟨by dsimp only; decide, fun h => absurd h (by dsimp only; decide), fun _ => by dsimp only; omega, fun h => absurd h (by dsimp only; decide)⟩ (by dsimp only; decide))
    · rw [h1 rfl]
      refine ok_ixe (a := b) (by decide) rfl (ok_vl fun y hy => ?_)
      rw [w64_eq (by omega)] at hy
      refine ok_if0 (by omega) (hnx (y, 2) ⟨by dsimp only; decide, fun h => absurd h (by dsimp only; decide), fun h => absurd h (by dsimp only; decide), fun _ => by dsimp only; omega⟩ (by dsimp only; decide))
/-! ### Arriving and leaving -/
def nilS : Stand := ⟨0, [], []⟩
abbrev arP (s : Stand) (w l : List Int) : Prop := vlS s ∧ w.length = l.length ∧ (∀ x ∈ w, 0 ≤ x) ∧ LenOk l
def addS (s : Stand) (w l : List Int) : Stand := ⟨s.Room, s.Wagons ++ w, s.Lengths ++ l⟩
def arE (s : Stand) (w l : List Int) : Stand × Int × Int :=
  if ¬ arP s w l then (nilS, 0, 1) else if 96 < s.Wagons.length + w.length then (nilS, 0, 3) else if vlS (addS s w l) then (addS s w l, fo s.Room (s.Lengths ++ l), 0) else (nilS, 0, 8)
theorem Arrive_m {s : Stand} {w l : List Int} (hw : w.length ≤ 9000000000000000000) : bowl_Arrive s w l = some (arE s w l) := by
  refine Ok.eq (?_ : Ok _ _)
  unfold bowl_Arrive arE
  have bad : ¬ arP s w l → Ok (some ((Stand.mk 0 ([] : List Int) ([] : List Int)), (0 : Int), (1 : Int))) (· = if ¬ arP s w l then (nilS, 0, 1) else if 96 < s.Wagons.length + w.length then (nilS, 0, 3) else if vlS (addS s w l) then (addS s w l, fo s.Room (s.Lengths ++ l), 0) else (nilS, 0, 8)) := fun h => ok_some (by rw [if_pos h]; rfl)
  refine ok_bde bValid_m (ok_nb (fun h => bad fun v => of_decide_eq_false h v.1) (fun h => ok_if (fun h2 => bad fun v => by have := v.2.1; omega) (fun h2 => ?_)))
  have hv := of_decide_eq_true h
  refine ok_jp (fun _ => (∀ x ∈ w, 0 ≤ x) ∧ LenOk l) (fun _ hq => ?_) (fun k hk => ?_)
  · have ha : arP s w l := ⟨hv, by omega, hq.1, hq.2⟩
    rw [if_neg (fun hh => hh ha)]
    have hs1 := hv.2.1
    have hs2 := hv.2.2.1
    refine ok_vl fun x8 hx8 => ?_
    rw [w64_eq (by omega)] at hx8
    refine ok_if (fun q => ok_some (by rw [if_pos (by omega)]; rfl)) (fun q => ?_)
    rw [if_neg (by omega)]
    refine ok_jp (fun z => z = (s.Wagons ++ w, s.Lengths ++ l)) (fun z hz => ?_) (fun k hk => ok_bde (Concat_m (by omega)) (ok_bde (Concat_m (by omega)) (hk _ rfl)))
    subst hz
    refine ok_bde bValid_m (ok_nb (fun h5 => ok_some ?_) (fun h5 => ?_))
    · have hv2 : ¬ vlS (addS s w l) := of_decide_eq_false h5
      rw [if_neg hv2]; rfl
    · have hv2 := of_decide_eq_true h5
      have hv2' : vlS (addS s w l) := hv2
      rw [if_pos hv2']
      exact ok_bde (foul_m hv2.1 hv2.2.2.2.2.2 (by have := hv2.2.1; have := hv2.2.2.1; omega)) (ok_some rfl)
  · refine ok_lp (fun (z : Int) => 0 ≤ z ∧ (∀ x ∈ w.take z.toNat, 0 ≤ x) ∧ LenOk (l.take z.toNat)) (fun z => ((w.length : Int) - z).toNat) ⟨Int.le_refl 0, by simp, by simp [LenOk]⟩ (by simp only [big_eq]; omega) ?_
    intro i next ⟨i0, hp, hl⟩ hnx
    refine ok_if (fun hi => ok_ix i0 hi fun x hx => ?_) (fun hi => hk _ ?_)
    rotate_left
    · rw [List.take_of_length_le (by omega)] at hp hl
      exact ⟨hp, hl⟩
    refine ok_if (fun q => bad fun v => by have := v.2.2.1 x (sc_mem hx); omega) (fun q1 => ok_ix i0 (by omega) fun y hy => ok_if (fun q => bad fun v => by have := v.2.2.2 y (sc_mem hy); omega) (fun q3 => ok_ixe i0 hy (ok_if (fun q => bad fun v => by have := v.2.2.2 y (sc_mem hy); omega) (fun q4 => ?_))))
    have e : (i + 1).toNat = i.toNat + 1 := by omega
    rw [w64_eq (by omega)]
    refine hnx _ ⟨by omega, ?_, ?_⟩ (by omega)
    · rw [e]; exact al_step hp hx (by omega)
    · rw [e]; exact al_step hl hy (by omega)
def cutS (s : Stand) (k : Nat) : Stand := ⟨s.Room, s.Wagons.take k, s.Lengths.take k⟩
def leE (s : Stand) (n : Int) : Stand × List Int × Int :=
  if ¬ vlS s then (nilS, [], 1) else if 0 ≤ n ∧ n ≤ s.Wagons.length then (cutS s (s.Wagons.length - n.toNat), s.Wagons.drop (s.Wagons.length - n.toNat), 0) else (nilS, [], 2)
theorem Leave_m {s : Stand} {n : Int} (hn : -9223372036854775808 ≤ n ∧ n ≤ 9223372036854775807) : bowl_Leave s n = some (leE s n) := by
  refine Ok.eq (?_ : Ok _ _)
  unfold bowl_Leave leE
  refine ok_bde bValid_m (ok_nb (fun h => ok_some (by rw [if_pos (of_decide_eq_false h)]; rfl)) (fun h => ?_))
  have hv := of_decide_eq_true h
  rw [if_neg (fun hh => hh hv)]
  have h1 := hv.2.1
  have h2 := hv.2.2.1
  refine ok_vl fun x hx => ok_if (fun q => ok_some (by rw [if_neg (by omega)]; rfl)) (fun q1 => ?_)
  rw [w64_eq (by omega)] at hx
  refine ok_if (fun q => ok_some (by rw [if_neg (by omega)]; rfl)) (fun q2 => ?_)
  rw [if_pos (by omega)]
  have e : s.Wagons.length - n.toNat = x.toNat := by omega
  rw [e]
  refine ok_jp (fun z => z = (s.Wagons.take x.toNat, s.Lengths.take x.toNat)) (fun z hz => ?_) (fun k hk => ok_ck (by omega) (ok_ck (by omega) (ok_bde (Clone_m (by rw [List.length_take]; omega)) (ok_bde (Clone_m (by rw [List.length_take]; omega)) (hk _ rfl)))))
  subst hz
  exact ok_ck (by omega) (ok_bde (Clone_m (by rw [List.length_drop]; omega)) (ok_some rfl))
theorem vlS.cut {s : Stand} (h : vlS s) (k : Nat) : vlS (cutS s k) := by
  obtain ⟨h1, h2, h3, h4, h5, h6⟩ := h
  refine ⟨h1, ?_, ?_, fun x hx => h4 x (List.mem_of_mem_take hx), h5.sublist (List.take_sublist ..), h6.take k⟩
  · unfold cutS; rw [List.length_take]; omega
  · unfold cutS; rw [List.length_take, List.length_take]; omega
end Go.Hy
