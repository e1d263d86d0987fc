/-
  What the reference's check of a layout answers.
-/
import Derived.Test.YtbojnnefpapamaaPLayD
namespace Go.Hy
set_option linter.unusedVariables false
set_option linter.unusedSimpArgs false
set_option maxHeartbeats 2000000
set_option maxRecDepth 10000
theorem rName_m {s : ByteArray} (hs : s.size ≤ 9223372036854775807) : r06_Name s = some (nmB s) := by
  refine Ok.eq (?_ : Ok _ _)
  unfold r06_Name
  refine ok_jp (fun _ => (bl s).all chB = true) (fun _ h => ?_) (fun k hk => ?_)
  · unfold nmB
    rw [h]
    refine ok_if (fun h1 => ok_some ?_) (fun h1 => ok_some ?_)
    · rw [Bool.and_true]; exact decide_eq_decide.2 (by omega)
    · rw [Bool.and_true]; exact (decide_eq_false (by omega)).symm
  have hbl := bl_len s
  refine ok_lp (fun (z : Int) => Scan chB (bl s) z) (fun z => ((s.size : Int) - z).toNat) Scan.zero (by simp only [big_eq]; omega) ?_
  intro z next hz hn
  have z0 := hz.1
  refine ok_if (fun h => ?_) (fun h => hk _ (hz.done (by rw [hbl]; exact h)))
  obtain ⟨b, hb, eb⟩ := bl_at z0 h
  rw [w64_eq (by omega), eb]
  have go : chB b = true → Ok (next (z + 1)) (· = nmB s) := fun h => hn _ (hz.step hb h) (by omega)
  have bad : chB b = false → Ok (some false) (· = nmB s) := fun h => ok_some (by unfold nmB; rw [scan_no hb h, Bool.and_false])
  have dig : ¬ (97 ≤ (b.toNat : Int) ∧ (b.toNat : Int) ≤ 122) → Ok (ck (decide ((0 : Int) ≤ z ∧ z < (s.size : Int))) <| cond (decide (48 ≤ (b.toNat : Int))) (ck (decide ((0 : Int) ≤ z ∧ z < (s.size : Int))) <| cond (!(decide ((b.toNat : Int) ≤ 57))) (some false) (next (z + 1))) (cond (!false) (some false) (next (z + 1)))) (· = nmB s) := fun hl =>
    ok_ck ⟨z0, h⟩ (ok_if (fun q => ok_ck ⟨z0, h⟩ (ok_nb (fun h2 => bad (decide_eq_false (by have := of_decide_eq_false h2; omega))) (fun h2 => go (decide_eq_true (by have := of_decide_eq_true h2; omega)))))
      (fun q => ok_nb (fun _ => bad (decide_eq_false (by omega))) (fun h2 => by cases h2)))
  refine ok_ck ⟨z0, h⟩ (ok_if (fun q1 => ok_ck ⟨z0, h⟩ (ok_if (fun q2 => ok_nb (fun h2 => by cases h2) (fun _ => go (decide_eq_true (by omega)))) (fun q2 => dig (by omega)))) (fun q1 => dig (by omega)))

theorem rsound_m {x : Element} (hx : x.Name.size ≤ 9223372036854775807) : r09_sound x = some (sdB x) := by
  refine Ok.eq (?_ : Ok _ _)
  unfold r09_sound sdB
  refine ok_bde (rName_m hx) (ok_nb (fun h => ok_some (by rw [h]; rfl)) (fun h => ?_))
  rw [h, Bool.true_and]
  refine ok_if (fun h0 => ?_) (fun h0 => ?_)
  · rw [if_pos h0]
    have no : ¬ (x.Parent = -1 ∧ x.Side = 0 ∧ x.Length = 0 ∧ x.Grade = 0 ∧ x.Curve = 0 ∧ x.Power = 0) → Ok (some false) (· = crB x) := fun h => ok_some (decide_eq_false h).symm
    refine ok_if (fun q1 => ok_if (fun q2 => ok_if (fun q3 => ok_if (fun q4 => ok_if (fun q5 => ok_some (decide_eq_decide.2 (by omega))) (fun q => no (by omega))) (fun q => no (by omega))) (fun q => no (by omega))) (fun q => no (by omega))) (fun q => no (by omega))
  · rw [if_neg h0]
    have no : ¬ ((1 ≤ x.Kind ∧ x.Kind ≤ 4) ∧ (1 ≤ x.Length ∧ x.Length ≤ 1000000) ∧ (-10000 ≤ x.Grade ∧ x.Grade ≤ 10000) ∧ (0 ≤ x.Curve ∧ x.Curve ≤ 5000) ∧ (0 ≤ x.Side ∧ x.Side ≤ 2)) → Ok (some false) (· = elB x) := fun h => ok_some (decide_eq_false (fun hh => h ⟨hh.1, hh.2.1, hh.2.2.1, hh.2.2.2.1, hh.2.2.2.2.1⟩)).symm
    refine ok_if (fun q => no (by omega)) fun q1 => ok_if (fun q => no (by omega)) fun q2 => ok_if (fun q => no (by omega)) fun q3 => ok_if (fun q => no (by omega)) fun q4 => ok_if (fun q => no (by omega)) fun q5 => ok_if (fun q => no (by omega)) fun q6 => ok_if (fun q => no (by omega)) fun q7 => ok_if (fun q => no (by omega)) fun q8 =>
      ok_if (fun q => no (by omega)) fun q9 => ok_if (fun q => no (by omega)) fun q10 => ok_if (fun q11 => ok_if (fun q12 => ok_some (decide_eq_decide.2 (by omega))) (fun q12 => ok_some (decide_eq_false (by omega)).symm)) (fun q11 => ok_some (decide_eq_decide.2 (by omega)))

theorem rfits_m {l : List Element} {i : Int} {x : Element} (hl : l.length ≤ 1000000000) (hn : Nms l) (h0 : 0 ≤ i) (hx : l[i.toNat]? = some x) : r09_fits l i = some (ftE l i.toNat) := by
  refine Ok.eq (?_ : Ok _ _)
  have hil := sc_lt hx
  have ei : (i.toNat : Int) = i := by omega
  unfold r09_fits ftE
  rw [hx]
  dsimp only
  refine ok_ixe h0 hx (ok_bde (rsound_m (hn x (sc_mem hx))) (ok_nb (fun h => ok_some ?_) (fun h => ok_nb (fun h2 => ok_some ?_) (fun h2 => ?_))))
  · rw [if_pos (fun hh => by rw [hh.1] at h; cases h)]
  · have : ¬ (x.Kind = 0 ↔ i = 0) := fun hh => by
      have e : decide (x.Kind = 0) = decide (i = 0) := decide_eq_decide.2 hh
      rw [e] at h2
      simp at h2
    rw [if_pos (fun hh => this (hh.2.trans ⟨fun h => by omega, fun h => by omega⟩))]
  have hk : x.Kind = 0 ↔ i = 0 := by
    have := LawfulBEq.eq_of_beq h2
    exact decide_eq_decide.1 this
  have hS : Snd i.toNat x := ⟨h, hk.trans ⟨fun h => by omega, fun h => by omega⟩⟩
  rw [if_neg (fun hh => hh hS)]
  refine ok_jp (fun _ => NmFree l i.toNat x) (fun _ hf => ?_) (fun k hk => ?_)
  rotate_left
  · refine ok_lp (fun (z : Int) => 0 ≤ z ∧ NmFree l z.toNat x) (fun z => (i - z).toNat) ⟨Int.le_refl 0, fun j hj => by simp at hj⟩ (by simp only [big_eq]; omega) ?_
    intro z next ⟨z0, hz⟩ hn
    refine ok_if (fun hzi => ok_ix z0 (by omega) fun a ha => ?_) (fun hzi => hk _ fun j hj => hz j (by omega))
    refine ok_if (fun he => ok_some ?_) (fun he => ?_)
    · have : ¬ NmFree l i.toNat x := fun hf => by
        have := hf z.toNat (by omega)
        rw [ha] at this
        exact this (by simp [he])
      rw [if_pos this]
    · rw [w64_eq (by omega)]
      refine hn _ ⟨by omega, fun j hj => ?_⟩ (by omega)
      by_cases e : j = z.toNat
      · subst e
        rw [ha]
        simpa using he
      · exact hz j (by omega)
  rw [if_neg (fun hh => hh hf)]
  refine ok_if (fun hi0 => ok_some (by rw [if_pos (by omega)])) (fun hi0 => ?_)
  rw [if_neg (by omega : ¬ i.toNat = 0), ei]
  refine ok_if (fun hp => ok_some (by rw [if_pos (.inl hp)])) (fun hp => ok_if (fun hp2 => ok_some (by rw [if_pos (.inr hp2)])) (fun hp2 => ?_))
  rw [if_neg (by omega)]
  refine ok_ix (by omega) (by omega) fun y hy => ?_
  rw [hy]
  dsimp only
  refine ok_if (fun h4 => ok_some (by rw [if_pos (.inl h4)])) (fun h4 => ok_b (fun h5 => ok_some ?_) (fun h5 => ?_))
  · have := decide_eq_decide.1 (LawfulBEq.eq_of_beq h5)
    rw [if_pos (.inr this)]
  have h6 : ¬ (y.Kind = 4 ∨ (y.Kind = 3 ↔ x.Side = 0)) := fun hh => by
    rcases hh with hh | hh
    · exact h4 hh
    · have e : decide (y.Kind = 3) = decide (x.Side = 0) := decide_eq_decide.2 hh
      rw [e] at h5
      simp at h5
  rw [if_neg h6]
  refine ok_lp (fun (z : Int) => 1 ≤ z ∧ PlFree l z.toNat x) (fun z => (i - z).toNat) ⟨Int.le_refl 1, fun j hj h1 => by simp at hj; omega⟩ (by simp only [big_eq]; omega) ?_
  intro z next ⟨z0, hz⟩ hn
  have stp : ∀ a, l[z.toNat]? = some a → ¬ (a.Parent = x.Parent ∧ a.Side = x.Side) → z < i → Ok (next (w64 (z + 1))) (fun v => v = if ¬ PlFree l i.toNat x then 17 else 0) := fun a ha hne hzi => by
    rw [w64_eq (by omega)]
    refine hn _ ⟨by omega, fun j hj h1 => ?_⟩ (by omega)
    by_cases e : j = z.toNat
    · subst e
      rw [ha]
      simpa using hne
    · exact hz j (by omega) h1
  refine ok_if (fun hzi => ok_ix (by omega) (by omega) fun a ha => ?_) (fun hzi => ok_some (by rw [if_neg (fun hh => hh fun j hj h1 => hz j (by omega) h1)]))
  refine ok_if (fun q1 => ok_ixe (by omega) ha (ok_if (fun q2 => ok_some ?_) (fun q2 => stp a ha (fun h => q2 h.2) hzi))) (fun q1 => stp a ha (fun h => q1 h.1) hzi)
  rw [if_pos]
  intro hf
  have := hf z.toNat (by omega) (by omega)
  rw [ha] at this
  exact this (by simp [q1, q2])

theorem rLayValid_e {l : List Element} (hn : Nms l) : r09_Valid l = some (lE l) := by
  refine Ok.eq (?_ : Ok _ _)
  unfold r09_Valid lE
  refine ok_if (fun h => ok_some (by rw [if_pos (by omega)])) (fun h1 => ok_if (fun h => ok_some (by rw [if_neg (by omega), if_pos (by omega)])) (fun h2 => ?_))
  rw [if_neg (by omega), if_neg (by omega)]
  refine ok_jp (fun (t : Int) => fE l l.length = 0 ∧ t = trk l l.length) (fun t ⟨hf, ht⟩ => ?_) (fun k hk => ?_)
  rotate_left
  · refine ok_lp (fun (z : Int × Int) => 0 ≤ z.2 ∧ z.2 ≤ l.length ∧ fE l z.2.toNat = 0 ∧ z.1 = trk l z.2.toNat) (fun z => ((l.length : Int) - z.2).toNat) ⟨Int.le_refl 0, by dsimp only; omega, rfl, rfl⟩ (by simp only [big_eq]; omega) ?_
    rintro ⟨t, i⟩ next ⟨i0, i1, hf, ht⟩ hnx
    dsimp only at i0 i1 hf ht ⊢
    refine ok_if (fun hi => ?_) (fun hi => ?_)
    rotate_left
    · have e : i.toNat = l.length := by omega
      rw [e] at hf ht
      exact hk _ ⟨hf, ht⟩
    have hii : i.toNat < l.length := by omega
    have hx := List.getElem?_eq_getElem hii
    generalize l[i.toNat] = x at hx
    have ei : (i + 1).toNat = i.toNat + 1 := by omega
    have hfs : fE l (i.toNat + 1) = ftE l i.toNat := by unfold fE; rw [if_neg (by simp [hf])]
    have htl := trk_le l i.toNat
    refine ok_bde (rfits_m (by omega) hn i0 hx) (ok_if (fun he => ok_some ?_) (fun he => ok_ixe i0 hx ?_))
    · have h5 : fE l l.length = ftE l i.toNat := by
        have : l.length = (i.toNat + 1) + (l.length - (i.toNat + 1)) := by omega
        rw [this, fE_stays (by rw [hfs]; exact he), hfs]
      rw [h5, if_pos he]
    · rw [w64_eq (n := i + 1) (by omega)]
      refine ok_if (fun h4 => ?_) (fun h4 => ?_)
      · rw [w64_eq (n := t + 1) (by omega)]
        refine hnx _ ⟨by dsimp only; omega, by dsimp only; omega, ?_, ?_⟩ (by dsimp only; omega)
        · dsimp only; rw [ei, hfs]; exact Decidable.not_not.1 he
        · dsimp only; rw [ei, trk, hx, if_pos (by simp [h4])]; omega
      · refine hnx _ ⟨by dsimp only; omega, by dsimp only; omega, ?_, ?_⟩ (by dsimp only; omega)
        · dsimp only; rw [ei, hfs]; exact Decidable.not_not.1 he
        · dsimp only; rw [ei, trk, hx, if_neg (by simp [h4])]; omega
  rw [if_neg (by simp [hf])]
  refine ok_lp (fun (z : Int) => 0 ≤ z ∧ ∀ i, i < z.toNat → Kidd l i) (fun z => ((l.length : Int) - z).toNat) ⟨Int.le_refl 0, fun i hi => by simp at hi⟩ (by simp only [big_eq]; omega) ?_
  intro z next ⟨z0, hz⟩ hnx
  refine ok_if (fun hi => ?_) (fun hi => ?_)
  rotate_left
  · rw [if_neg (fun hh => hh fun i hi2 => hz i (by omega))]
    exact ok_if (fun h => ok_some (by rw [if_pos (by omega)])) (fun h => ok_some (by rw [if_neg (by omega)]))
  have hii : z.toNat < l.length := by omega
  have hx := List.getElem?_eq_getElem hii
  generalize l[z.toNat] = x at hx
  have ez : ((z.toNat : Nat) : Int) = z := by omega
  have hkl := kds_le l z l.length
  refine ok_jp (fun (n : Int) => n = kds l z l.length) (fun n en => ?_) (fun k hk => ?_)
  · rw [w64_eq (n := z + 1) (by omega)]
    have go : wantK x ≤ kds l z l.length → Ok (next (z + 1)) (fun v => v = if ¬ (∀ i, i < l.length → Kidd l i) then 13 else if 32 < trk l l.length then 3 else 0) := fun h => hnx _ ⟨by omega, fun i hi2 => by
      by_cases e : i = z.toNat
      · subst e
        intro y hy
        rw [hx] at hy
        cases hy
        rw [ez]; exact h
      · exact hz i (by omega)⟩ (by omega)
    have bad : ¬ wantK x ≤ kds l z l.length → Ok (some (13 : Int)) (fun v => v = if ¬ (∀ i, i < l.length → Kidd l i) then 13 else if 32 < trk l l.length then 3 else 0) := fun h => ok_some (by
      rw [if_pos]
      intro hh
      have := hh z.toNat (by omega) x hx
      rw [ez] at this
      exact h this)
    refine ok_ixe z0 hx (ok_if (fun h3 => ?_) (fun h3 => ok_if (fun h4 => ?_) (fun h4 => ?_)))
    · have e : wantK x = 2 := by unfold wantK; rw [if_pos h3]
      exact ok_if (fun h => bad (by omega)) (fun h => go (by omega))
    · have e : wantK x = 0 := by unfold wantK; rw [if_neg h3, if_pos h4]
      exact ok_if (fun h => bad (by omega)) (fun h => go (by omega))
    · have e : wantK x = 1 := by unfold wantK; rw [if_neg h3, if_neg h4]
      exact ok_if (fun h => bad (by omega)) (fun h => go (by omega))
  · refine ok_lp (fun (y : Int × Int) => 1 ≤ y.2 ∧ y.2 ≤ l.length ∧ y.1 = kds l z y.2.toNat) (fun y => ((l.length : Int) - y.2).toNat) ⟨Int.le_refl 1, by dsimp only; omega, by dsimp only; simp [kds]⟩ (by simp only [big_eq]; omega) ?_
    rintro ⟨n, j⟩ nx ⟨j0, j1, hj⟩ hnx2
    dsimp only at j0 j1 hj ⊢
    refine ok_if (fun hjl => ok_ix (by omega) hjl fun a ha => ?_) (fun hjl => ?_)
    rotate_left
    · have e : j.toNat = l.length := by omega
      exact hk _ (by rw [hj, e])
    have ej : (j + 1).toNat = j.toNat + 1 := by omega
    have hkj := kds_le l z j.toNat
    rw [w64_eq (n := j + 1) (by omega)]
    refine ok_if (fun h => ?_) (fun h => ?_)
    · rw [w64_eq (n := n + 1) (by omega)]
      exact hnx2 _ ⟨by dsimp only; omega, by dsimp only; omega, by dsimp only; rw [ej, kds, ha, if_pos ⟨by omega, by simp [h]⟩]; omega⟩ (by dsimp only; omega)
    · exact hnx2 _ ⟨by dsimp only; omega, by dsimp only; omega, by dsimp only; rw [ej, kds, ha, if_neg (by simp [h])]; omega⟩ (by dsimp only; omega)
end Go.Hy
