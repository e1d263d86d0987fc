/-
  The law BowlExact.
-/
import Derived.Test.YtdabnfhkojapjaaPBowlC
namespace Go.Hy
set_option linter.unusedVariables false
set_option linter.unusedSimpArgs false
set_option maxHeartbeats 2000000
set_option maxRecDepth 10000
open Go.Hy.Iv

theorem rlengths_m {l : List Int} (hl : l.length ≤ 9223372036854775807) : r32_lengths l = some (decide (LenOk l)) := by
  refine Ok.eq (?_ : Ok _ _)
  have no : ¬ LenOk l → Ok (some false) (· = decide (LenOk l)) := fun h => ok_some (decide_eq_false h).symm
  unfold r32_lengths
  refine ok_lp (fun (z : Int) => 0 ≤ z ∧ LenOk (l.take z.toNat)) (fun z => ((l.length : Int) - z).toNat) ⟨Int.le_refl 0, by simp [LenOk]⟩ (by simp only [big_eq]; omega) ?_
  intro z next ⟨z0, hz⟩ hnx
  refine ok_if (fun h => ok_ix z0 h fun x hx => ok_if (fun q => no fun v => by have := v x (sc_mem hx); omega) (fun q1 => ok_ixe z0 hx (ok_if (fun q => no fun v => by have := v x (sc_mem hx); omega) (fun q2 => ?_)))) (fun h => ok_some ?_)
  · rw [w64_eq (by omega)]
    refine hnx _ ⟨by omega, ?_⟩ (by omega)
    rw [show (z + 1).toNat = z.toNat + 1 from by omega]
    exact al_step hz hx (by omega)
  · rw [List.take_of_length_le (by omega)] at hz
    exact (decide_eq_true hz).symm
theorem rhas_m {l : List Int} {n : Int} (hl : l.length ≤ 9223372036854775807) : r32_has l n = some (decide (n ∈ l)) := by
  refine Ok.eq (?_ : Ok _ _)
  unfold r32_has
  refine ok_lp (fun (z : Int) => 0 ≤ z ∧ n ∉ l.take z.toNat) (fun z => ((l.length : Int) - z).toNat) ⟨Int.le_refl 0, by simp⟩ (by simp only [big_eq]; omega) ?_
  intro z next ⟨z0, hz⟩ hnx
  refine ok_if (fun h => ok_ix z0 h fun x hx => ok_if (fun q => ok_some ?_) (fun q1 => ?_)) (fun h => ok_some ?_)
  · exact (decide_eq_true (q ▸ sc_mem hx)).symm
  · rw [w64_eq (by omega)]
    refine hnx _ ⟨by omega, ?_⟩ (by omega)
    rw [show (z + 1).toNat = z.toNat + 1 from by omega, sc_take hx, List.mem_append, List.mem_singleton]
    exact fun h => h.elim hz fun e => q1 e.symm
  · rw [List.take_of_length_le (by omega)] at hz
    exact (decide_eq_false hz).symm
theorem r32Valid_m {s : Stand} (hl : s.Lengths.length ≤ 9223372036854775807) : r32_Valid s = some (decide (vlS s)) := by
  refine Ok.eq (?_ : Ok _ _)
  have no : ¬ vlS s → Ok (some false) (· = decide (vlS s)) := fun h => ok_some (decide_eq_false h).symm
  unfold r32_Valid
  refine ok_if (fun h => no fun v => by have := v.1; omega) (fun h1 => ok_if (fun h => no fun v => by have := v.1; omega) (fun h2 => ok_if (fun h => no fun v => by have := v.2.1; omega) (fun h3 => ok_if (fun h => no fun v => by have := v.2.2.1; omega) (fun h4 => ok_bde (rlengths_m hl) (ok_nb (fun h => no fun v => of_decide_eq_false h v.2.2.2.2.2) (fun h5 => ?_))))))
  have h5 := of_decide_eq_true h5
  obtain ⟨rm, w, l⟩ := s
  dsimp only at h1 h2 h3 h4 h5 no ⊢
  refine ok_lp (fun (z : Int) => 0 ≤ z ∧ (∀ x ∈ w.take z.toNat, 0 ≤ x) ∧ (w.take z.toNat).Nodup) (fun z => ((w.length : Int) - z).toNat) ⟨Int.le_refl 0, by simp, by simp⟩ (by simp only [big_eq]; omega) ?_
  intro i next ⟨i0, hp, hd⟩ hnx
  refine ok_if (fun hi => ok_ix i0 hi fun x hx => ?_) (fun hi => ok_some ?_)
  rotate_left
  · rw [List.take_of_length_le (by omega)] at hp hd
    exact (decide_eq_true ⟨by dsimp only; omega, by dsimp only; omega, by dsimp only; omega, hp, hd, h5⟩).symm
  refine ok_if (fun q => no fun v => by have := v.2.2.2.1 x (sc_mem hx); omega) (fun q1 => ok_ck (by omega) (ok_ixe i0 hx (ok_bde (rhas_m (by rw [List.length_take]; omega)) (ok_if (fun q => no fun v => nodup_at v.2.2.2.2.1 hx q) (fun q2 => ?_)))))
  have e : (i + 1).toNat = i.toNat + 1 := by omega
  rw [w64_eq (n := i + 1) (by omega)]
  refine hnx _ ⟨by omega, ?_, ?_⟩ (by omega)
  · rw [e]; exact al_step hp hx (by omega)
  · rw [e]; exact nd_step hd hx q2
theorem rFoul_m {s : Stand} (hr : 0 ≤ s.Room ∧ s.Room ≤ 100000) (hl : LenOk s.Lengths) (hn : s.Lengths.length ≤ 1000) : r32_Foul s = some (fo s.Room s.Lengths) := by
  obtain ⟨rm, w, l⟩ := s
  dsimp only at hr hl hn ⊢
  refine Ok.eq (?_ : Ok _ _)
  unfold r32_Foul
  dsimp only
  refine ok_lp (fun (z : Int × Int × Int) => 0 ≤ z.2.2 ∧ z.2.2 ≤ l.length ∧ z.1 = fo rm (l.take z.2.2.toNat) ∧ z.2.1 = sm (l.take z.2.2.toNat)) (fun z => ((l.length : Int) - z.2.2).toNat) ⟨Int.le_refl 0, by dsimp only; omega, rfl, by dsimp only; simp [sm]⟩ (by simp only [big_eq]; omega) ?_
  rintro ⟨n, r, i⟩ next ⟨i0, i1, h1, h2⟩ hnx
  dsimp only at i0 i1 h1 h2 ⊢
  refine ok_if (fun hi => ok_ix i0 hi fun x hx => ?_) (fun hi => ok_some (by rw [h1, List.take_of_length_le (by omega)]))
  have hx2 := hl x (sc_mem hx)
  have hs := sm_rng (hl.take i.toNat)
  have hf := fo_rng (l.take i.toNat) rm
  rw [List.length_take] at hs hf
  have e : (i + 1).toNat = i.toNat + 1 := by omega
  rw [w64_eq (n := r + x) (by omega), w64_eq (n := i + 1) (by omega)]
  have e1 : sm (l.take (i + 1).toNat) = r + x := by rw [e, sc_take hx, sm_app, h2]; simp only [sm, List.foldr_cons, List.foldr_nil]; omega
  have e2 : fo rm (l.take (i + 1).toNat) = n + if rm - r - x < 0 then 1 else 0 := by rw [e, sc_take hx, fo_app, ← h1, ← h2]; simp only [fo, Int.add_zero]
  refine ok_if (fun q => ?_) (fun q => ?_)
  · rw [w64_eq (n := n + 1) (by omega)]
    rw [if_pos (by omega)] at e2
    exact hnx _ ⟨by dsimp only; omega, by dsimp only; omega, e2.symm, e1.symm⟩ (by dsimp only; omega)
  · rw [if_neg (by omega), Int.add_zero] at e2
    exact hnx _ ⟨by dsimp only; omega, by dsimp only; omega, e2.symm, e1.symm⟩ (by dsimp only; omega)
theorem rArrive_m {s : Stand} {w l : List Int} (hw : w.length ≤ 9000000000000000000) (hl : l.length ≤ 9223372036854775807) (hs : s.Lengths.length ≤ 9223372036854775807) : r32_Arrive s w l = some (arE s w l) := by
  refine Ok.eq (?_ : Ok _ _)
  unfold r32_Arrive
  refine ok_jp (fun (z : Bool) => z = decide (vlS s ∧ w.length = l.length ∧ LenOk l)) (fun z hz => ?_) (fun k hk => ?_)
  rotate_left
  · refine ok_bde (r32Valid_m hs) (ok_if (fun h1 => ok_if (fun h2 => ok_bde (rlengths_m hl) (hk _ (decide_eq_decide.2 ⟨fun h => ⟨h1, by omega, h⟩, fun h => h.2.2⟩))) (fun h2 => hk _ (decide_eq_false fun h => h2 (by have := h.2.1; omega)).symm)) (fun h1 => hk _ (decide_eq_false fun h => h1 h.1).symm))
  refine ok_jp (fun (z : Bool) => z = decide (arP s w l)) (fun z2 hz2 => ?_) (fun k hk => ?_)
  rotate_left
  · refine ok_lp (fun (y : Bool × Int) => 0 ≤ y.2 ∧ (y.1 = true ↔ z = true ∧ ∀ x ∈ w.take y.2.toNat, 0 ≤ x)) (fun y => ((w.length : Int) - y.2).toNat) ⟨Int.le_refl 0, by simp⟩ (by simp only [big_eq]; omega) ?_
    rintro ⟨b, i⟩ next ⟨i0, hb⟩ hnx
    dsimp only at i0 hb ⊢
    refine ok_if (fun hi => ?_) (fun hi => hk _ ?_)
    · rw [w64_eq (n := i + 1) (by omega)]
      have hii : i.toNat < w.length := by omega
      have hx := List.getElem?_eq_getElem hii
      generalize w[i.toNat] = x at hx
      refine ok_b (fun q => ok_ixe i0 hx (hnx _ ⟨by dsimp only; omega, ?_⟩ (by dsimp only; omega))) (fun q => hnx _ ⟨by dsimp only; omega, ?_⟩ (by dsimp only; omega))
      · dsimp only
        rw [decide_eq_true_iff, show (i + 1).toNat = i.toNat + 1 from by omega, sc_take hx]
        have hb1 := hb.1 q
        exact ⟨fun h => ⟨hb1.1, fun y hy => (List.mem_append.1 hy).elim (hb1.2 y) fun hy => by rw [List.mem_singleton.1 hy]; exact h⟩, fun h => h.2 x (by simp)⟩
      · dsimp only
        refine ⟨fun h => (by cases h), fun h => ?_⟩
        have : b = true := hb.2 ⟨h.1, fun y hy => h.2 y (by
          rw [show (i + 1).toNat = i.toNat + 1 from by omega, sc_take hx]
          exact List.mem_append_left _ hy)⟩
        rw [this] at q; cases q
    · rw [List.take_of_length_le (by omega)] at hb
      have : b = true ↔ arP s w l := by
        rw [hb, hz, decide_eq_true_iff]
        exact ⟨fun h => ⟨h.1.1, h.1.2.1, h.2, h.1.2.2⟩, fun h => ⟨⟨h.1, h.2.1, h.2.2.2⟩, h.2.2.1⟩⟩
      cases b with
      | true => exact (decide_eq_true (this.1 rfl)).symm
      | false => exact (decide_eq_false fun h => by have := this.2 h; cases this).symm
  subst hz2
  unfold arE
  refine ok_nb (fun h => ok_some (by rw [if_pos (of_decide_eq_false h)]; rfl)) (fun h => ?_)
  have ha := of_decide_eq_true h
  rw [if_neg (fun hh => hh ha)]
  obtain ⟨hv, hwl, hw0, hlo⟩ := ha
  have hs1 := hv.2.1
  have hs2 := hv.2.2.1
  refine ok_vl fun x8 hx8 => ?_
  rw [w64_eq (by omega)] at hx8
  refine ok_if (fun q => ok_some (by rw [if_pos (by omega)]; rfl)) (fun q => ?_)
  rw [if_neg (by omega)]
  refine ok_jp (fun z => z = (s.Wagons, s.Lengths)) (fun z hz => ?_) (fun k hk => ok_ck (by simp; omega) (ok_vl fun y hy => ok_ck (by simp; omega) (ok_vl fun y2 hy2 => hk _ (by rw [hy, hy2]; rfl))))
  subst hz
  have nd : ∀ i : Nat, (s.Wagons ++ w.take i).Nodup ∨ ¬ vlS (addS s w l) := fun i => by
    by_cases hn : (s.Wagons ++ w).Nodup
    · refine .inl (hn.sublist ?_)
      exact List.Sublist.append (List.Sublist.refl _) (List.take_sublist ..)
    · exact .inr fun v => hn v.2.2.2.2.1
  refine ok_lp (fun (z : List Int × List Int × Int) => 0 ≤ z.2.2 ∧ z.2.2 ≤ w.length ∧ z.1 = s.Wagons ++ w.take z.2.2.toNat ∧ z.2.1 = s.Lengths ++ l.take z.2.2.toNat ∧ (s.Wagons ++ w.take z.2.2.toNat).Nodup) (fun z => ((w.length : Int) - z.2.2).toNat) ⟨Int.le_refl 0, by dsimp only; omega, by simp, by simp, by simpa using hv.2.2.2.2.1⟩ (by simp only [big_eq]; omega) ?_
  rintro ⟨a, b, i⟩ next ⟨i0, i1, h1, h2, h3⟩ hnx
  dsimp only at i0 i1 h1 h2 h3 ⊢
  have hal : a.length ≤ 96 := by rw [h1]; simp; omega
  have hbl : b.length ≤ 96 := by rw [h2]; simp; omega
  refine ok_if (fun hi => ok_ix i0 hi fun x hx => ok_bde (rhas_m (by omega)) (ok_if (fun q => ok_some ?_) (fun q => ?_))) (fun hi => ?_)
  · have hnv : ¬ vlS (addS s w l) := fun v => by
      have h4 : (s.Wagons ++ w.take (i.toNat + 1)).Nodup := (v.2.2.2.2.1 : (s.Wagons ++ w).Nodup).sublist (List.Sublist.append (List.Sublist.refl _) (List.take_sublist ..))
      rw [sc_take hx, ← List.append_assoc, ← h1, List.nodup_append] at h4
      exact h4.2.2 x q x (List.mem_singleton.2 rfl) rfl
    rw [if_neg hnv]; rfl
  · have hy : i.toNat < l.length := by omega
    have hy := List.getElem?_eq_getElem hy
    generalize l[i.toNat] = y at hy
    refine ok_ixe i0 hx (ok_ixe i0 hy (ok_ck (by simp; omega) (ok_vl fun a2 ha2 => ok_ck (by simp; omega) (ok_vl fun b2 hb2 => ?_))))
    rw [w64_eq (n := i + 1) (by omega)]
    have e : (i + 1).toNat = i.toNat + 1 := by omega
    have h4 : s.Wagons ++ w.take (i.toNat + 1) = a2 := by rw [sc_take hx, ← List.append_assoc, ← h1, ha2]
    refine hnx _ ⟨by dsimp only; omega, by dsimp only; omega, ?_, ?_, ?_⟩ (by dsimp only; omega)
    · dsimp only; rw [e, h4]
    · dsimp only; rw [e, sc_take hy, ← List.append_assoc, ← h2, hb2]
    · dsimp only
      rw [e, h4, ha2, List.nodup_append]
      refine ⟨by rw [h1]; exact h3, by simp, fun u hu v hv => ?_⟩
      rw [List.mem_singleton.1 hv]
      rintro rfl
      exact q hu
  · have e1 : a = s.Wagons ++ w := by rw [h1, List.take_of_length_le (by omega)]
    have e2 : b = s.Lengths ++ l := by rw [h2, List.take_of_length_le (by omega)]
    rw [List.take_of_length_le (by omega)] at h3
    have hvv : vlS (addS s w l) := by
      refine ⟨hv.1, ?_, ?_, fun x hx => ?_, h3, hv.2.2.2.2.2.app hlo⟩
      · unfold addS; simp; omega
      · unfold addS; simp; omega
      · unfold addS at hx
        exact (List.mem_append.1 hx).elim (hv.2.2.2.1 x) (hw0 x)
    rw [if_pos hvv, e1, e2]
    exact ok_bde (rFoul_m hvv.1 hvv.2.2.2.2.2 (by have := hvv.2.1; have := hvv.2.2.1; unfold addS at *; dsimp only at *; omega)) (ok_some rfl)
theorem rLeave_m {s : Stand} {n : Int} (hn : -9223372036854775808 ≤ n ∧ n ≤ 9223372036854775807) (hs : s.Lengths.length ≤ 9223372036854775807) : r32_Leave s n = some (leE s n) := by
  refine Ok.eq (?_ : Ok _ _)
  unfold r32_Leave leE
  refine ok_bde (r32Valid_m hs) (ok_nb (fun h => ok_some (by rw [if_pos (of_decide_eq_false h)]; rfl)) (fun h => ?_))
  have hv := of_decide_eq_true h
  rw [if_neg (fun hh => hh hv)]
  have h1 := hv.2.1
  have h2 := hv.2.2.1
  refine ok_vl fun x hx => ok_if (fun q => ok_some (by rw [if_neg (by omega)]; rfl)) (fun q1 => ?_)
  rw [w64_eq (by omega)] at hx
  refine ok_if (fun q => ok_some (by rw [if_neg (by omega)]; rfl)) (fun q2 => ?_)
  rw [if_pos (by omega)]
  have e : s.Wagons.length - n.toNat = x.toNat := by omega
  rw [e]
  refine ok_ck (by omega) (ok_ck (by omega) (ok_ck (by omega) (ok_ck (by simp; omega) (ok_vl fun y1 hy1 => ok_ck (by simp; omega) (ok_vl fun y2 hy2 => ok_ck (by simp; omega) (ok_vl fun y3 hy3 => ok_some ?_))))))
  rw [hy1, hy2, hy3]
  rfl
theorem rFree_m {s : Stand} (hs : s.Lengths.length ≤ 9223372036854775807) : r32_Free s = some (if vlS s then s.Room - sm s.Lengths else 0) := by
  refine Ok.eq (?_ : Ok _ _)
  unfold r32_Free
  refine ok_bde (r32Valid_m hs) (ok_nb (fun h => ok_some ?_) (fun h => ?_))
  · rw [if_neg (of_decide_eq_false h)]
  have hv := of_decide_eq_true h
  rw [if_pos hv]
  obtain ⟨hr, h1, h2, _, _, hl⟩ := hv
  obtain ⟨rm, w, l⟩ := s
  dsimp only at hr hl h1 h2 ⊢
  refine ok_lp (fun (z : Int × Int) => 0 ≤ z.2 ∧ z.1 = rm - sm (l.take z.2.toNat)) (fun z => ((l.length : Int) - z.2).toNat) ⟨Int.le_refl 0, by simp [sm]⟩ (by simp only [big_eq]; omega) ?_
  rintro ⟨r, i⟩ next ⟨i0, hi0⟩ hnx
  dsimp only at i0 hi0 ⊢
  refine ok_if (fun hi => ok_ix i0 hi fun x hx => ?_) (fun hi => ok_some (by rw [hi0, List.take_of_length_le (by omega)]))
  have hx2 := hl x (sc_mem hx)
  have hs := sm_rng (hl.take i.toNat)
  rw [List.length_take] at hs
  rw [w64_eq (n := r - x) (by omega), w64_eq (n := i + 1) (by omega)]
  refine hnx _ ⟨by dsimp only; omega, ?_⟩ (by dsimp only; omega)
  dsimp only
  rw [show (i + 1).toNat = i.toNat + 1 from by omega, sc_take hx, sm_app, hi0]
  simp only [sm, List.foldr_cons, List.foldr_nil]
  omega
theorem arE_le {s : Stand} {w l : List Int} : (arE s w l).1.Wagons.length ≤ 1000000000 ∧ (arE s w l).1.Lengths.length ≤ 1000000000 := by
  unfold arE
  split
  · exact ⟨by decide, by decide⟩
  split
  · exact ⟨by decide, by decide⟩
  split
  · rename_i hv
    have h1 := hv.2.1
    have h2 := hv.2.2.1
    dsimp only
    omega
  · exact ⟨by decide, by decide⟩
theorem leE_le {s : Stand} {n : Int} : (leE s n).1.Wagons.length ≤ 1000000000 ∧ (leE s n).1.Lengths.length ≤ 1000000000 ∧ (leE s n).2.1.length ≤ 1000000000 := by
  unfold leE
  split
  · exact ⟨by decide, by decide, by decide⟩
  rename_i hv
  have hv := Decidable.not_not.1 hv
  have h1 := hv.2.1
  have h2 := hv.2.2.1
  split
  · unfold cutS
    dsimp only
    rw [List.length_take, List.length_take, List.length_drop]
    omega
  · exact ⟨by decide, by decide, by decide⟩
theorem exact32_m {s : Stand} {w l : List Int} {n : Int} (hw : w.length ≤ 9000000000000000000) (hl : l.length ≤ 9223372036854775807) (hs : s.Lengths.length ≤ 9223372036854775807) (hn : -9223372036854775808 ≤ n ∧ n ≤ 9223372036854775807) : law32_exact s w l n = some true := by
  refine Ok.eq (?_ : Ok _ _)
  unfold law32_exact
  refine ok_bde (Arrive_m hw) (ok_bde (rArrive_m hw hl hs) (ok_bde (Leave_m hn) (ok_bde (rLeave_m hn hs) ?_)))
  refine ok_bde (Same_self arE_le.1 arE_le.2) (ok_b (fun _ => ok_if1 rfl (ok_if1 rfl (ok_bde (Same_self leE_le.1 leE_le.2.1) (ok_b (fun _ => ?_) (fun h => by cases h))))) (fun h => by cases h))
  refine ok_bde (Ints_self leE_le.2.2) (ok_b (fun _ => ok_if1 rfl (ok_bde bValid_m (ok_bde (r32Valid_m hs) (ok_b (fun _ => ?_) (fun h => by simp at h))))) (fun h => by cases h))
  exact ok_bde Free_m (ok_bde (rFree_m hs) (ok_some (decide_eq_true rfl)))
theorem Pieces_self {l : List Piece} (hl : l.length ≤ 1000000000) : gen_Pieces l l = some true := by
  refine Ok.eq (?_ : Ok _ _)
  unfold gen_Pieces
  refine ok_if0 (by simp) ?_
  refine ok_lp (fun (z : Int) => 0 ≤ z) (fun z => ((l.length : Int) - z).toNat) (Int.le_refl 0) (by simp only [big_eq]; omega) ?_
  intro z next z0 hn
  refine ok_if (fun h => ok_ix z0 h fun a ha => ok_ixe z0 ha (ok_if0 (by simp) ?_)) (fun _ => ok_some rfl)
  rw [w64_eq (by omega)]
  exact hn _ (by omega) (by omega)
theorem shE_le {ps : List Piece} {f : Int} : (shE ps f).1.length ≤ 1000000000 := by
  unfold shE
  split
  · exact Nat.zero_le _
  · rename_i h
    have hl := (vE_ok (Decidable.not_not.1 h)).len
    have hx : ps[ps.length - 1]? = some ps[ps.length - 1] := List.getElem?_eq_getElem (by omega)
    generalize ps[ps.length - 1] = x at hx
    rw [hx]
    dsimp only
    split
    · exact Nat.zero_le _
    · dsimp only
      rw [(setL_get hx hl.1).1]; omega
theorem rolls32_m {ps : List Piece} {m : Motion} {f : Int} : law32_rolls ps m f = some true := by
  refine Ok.eq (?_ : Ok _ _)
  unfold law32_rolls
  refine ok_bde Shorten_m (ok_bde rShorten_m (ok_bde Coupling_m (ok_bde rCoupling_m (ok_bde (Pieces_self shE_le) (ok_b (fun _ => ok_if1 rfl (ok_if1 ⟨rfl, rfl⟩ (ok_some (decide_eq_true rfl)))) (fun h => by cases h))))))
theorem BowlExact_ok {t : List Int} {s : Stand} {w l : List Int} {n : Int} (ht : t.length ≤ 9223372036854775807) (hw : w.length ≤ 9000000000000000000) (hl : l.length ≤ 9223372036854775807) (hs : s.Lengths.length ≤ 9223372036854775807) (hn : I64 n) : law32_BowlExact t s w l n = some true := by
  have hn2 : -9223372036854775808 ≤ n ∧ n ≤ 9223372036854775807 := hn
  refine Ok.eq (?_ : Ok _ _)
  unfold law32_BowlExact
  refine ok_bde (gen_New_ok t) ?_
  have mk : ∀ c1, 0 ≤ c1 → c1 ≤ 1000000 → Mk (HumpgenMaker.mk t c1) 900000000000000 := fun c' h1 h2 => ⟨h1, by dsimp only; omega, ht⟩
  refine ok_jp (fun _ => True) (fun _ _ => ?_) (fun kk hk => ?_)
  · exact ok_if (fun _ => ok_some rfl) (fun _ => ok_if (fun _ => ok_some rfl) (fun _ => ok_if (fun _ => ok_some rfl) (fun _ => ok_if (fun _ => ok_some rfl) (fun _ => ok_bde (exact32_m hw hl hs hn2) (ok_b (fun _ => ok_bde sane32 (ok_some rfl)) (fun h => by cases h))))))
  refine ok_lp (fun (z : Int × Int) => 0 ≤ z.2 ∧ 0 ≤ z.1 ∧ z.1 ≤ 1000 * z.2) (fun z => (3 - z.2).toNat) ⟨Int.le_refl 0, Int.le_refl 0, by dsimp only; omega⟩ (by simp only [big_eq]; omega) ?_
  rintro ⟨c, i⟩ next ⟨i0, c0, c1⟩ hnx
  dsimp only at i0 c0 c1 ⊢
  refine ok_if (fun hi => ?_) (fun _ => hk _ trivial)
  have up : ∀ c', c ≤ c' → c' ≤ c + 900 → Mk (HumpgenMaker.mk t c') CM0 := fun c' h1 h2 => (mk c' (by omega) (by omega)).up (by decide)
  refine ok_bd (stand_ok (mk c c0 (by omega))) fun r ⟨hst, d0, d1⟩ => ?_
  obtain ⟨x, ca⟩ := r
  dsimp only at hst d0 d1 ⊢
  refine ok_bd (more_ok (mk ca (by omega) (by omega))) fun r ⟨hmo, d2, d3⟩ => ?_
  obtain ⟨u, v, cb⟩ := r
  dsimp only at hmo d2 d3 ⊢
  have hx1 := hst.n
  have hx2 := hst.l
  have hu1 := hmo.n
  have hu2 := hmo.l
  refine ok_jp (fun (z : Int × List Int × List Int) => c ≤ z.1 ∧ z.1 ≤ c + 100 ∧ z.2.1.length ≤ 10 ∧ z.2.2.length ≤ 10) (fun z hz => ?_) (fun k2 hk2 => ?_)
  rotate_left
  · refine ok_if (fun _ => ?_) (fun _ => hk2 _ ⟨by dsimp only; omega, by dsimp only; omega, by dsimp only; omega, by dsimp only; omega⟩)
    refine ok_bd (Pick_ok (up cb (by omega) (by omega)) (by simp)) fun u1 ⟨_, e1⟩ => ok_ck (by simp; omega) (ok_vl fun y1 hy1 => ?_)
    dsimp only at e1
    refine ok_bd (Pick_ok (up u1.2 (by omega) (by omega)) (by simp)) fun u2 ⟨_, e2⟩ => ok_ck (by simp; omega) (ok_vl fun y2 hy2 => hk2 _ ⟨?_, ?_, ?_, ?_⟩)
    · dsimp only at e2 ⊢; omega
    · dsimp only at e2 ⊢; omega
    · dsimp only; rw [hy1]; simp; omega
    · dsimp only; rw [hy2]; simp; omega
  obtain ⟨cc, u, v⟩ := z
  dsimp only at hz ⊢
  refine ok_jp (fun (z : Int × Int × List Int × List Int) => c ≤ z.1 ∧ z.1 ≤ c + 200 ∧ z.2.2.1.length ≤ 10 ∧ z.2.2.2.length ≤ 10) (fun z hz2 => ?_) (fun k2 hk2 => ?_)
  rotate_left
  · refine ok_if (fun _ => ?_) (fun _ => hk2 _ ⟨by dsimp only; omega, by dsimp only; omega, by dsimp only; omega, by dsimp only; omega⟩)
    refine ok_bd (Pick_ok (up cc (by omega) (by omega)) (by simp)) fun u1 ⟨_, e1⟩ => ?_
    dsimp only at e1
    refine ok_bd (Pick_ok (up u1.2 (by omega) (by omega)) (by simp)) fun u2 ⟨_, e2⟩ => ok_ck (by simp; omega) (ok_vl fun y1 hy1 => ?_)
    dsimp only at e2
    refine ok_bd (Pick_ok (up u2.2 (by omega) (by omega)) (by simp)) fun u3 ⟨_, e3⟩ => ok_ck (by simp; omega) (ok_vl fun y2 hy2 => hk2 _ ⟨?_, ?_, ?_, ?_⟩)
    · dsimp only at e3 ⊢; omega
    · dsimp only at e3 ⊢; omega
    · dsimp only; rw [hy2]; simp; omega
    · dsimp only; rw [hy1]; simp; omega
  obtain ⟨cd, rm, xw, xl⟩ := z
  dsimp only at hz2 ⊢
  refine ok_bd (Pieces_ok (n := 5) (mk cd (by omega) (by omega)) (by omega)) fun r ⟨⟨⟨n0, n1⟩, hp⟩, _, c2, c3⟩ => ?_
  obtain ⟨ps, cp⟩ := r
  dsimp only at n0 n1 hp c2 c3 ⊢
  refine ok_bd (Motion_ok ((mk cp (by omega) (by omega)).up (by decide)) (fun p h => (hp p h).c) (by omega)) fun r ⟨hm, _, _, _, _, c4, c5⟩ => ?_
  obtain ⟨m, cm⟩ := r
  dsimp only at hm c4 c5 ⊢
  refine ok_bd (Next_ok (up cm (by omega) (by omega)) (by omega)) fun q ⟨hq, eq⟩ => ?_
  dsimp only at eq
  rw [w64_eq (n := q.1 - 1) (by omega), w64_eq (n := (ps.length : Int) - 1) (by omega)]
  refine ok_bde (exact32_m (by omega) (by omega) (by dsimp only; omega) (by omega)) (ok_nb (fun h => by cases h) fun _ => ok_bde (exact32_m hw hl (by dsimp only; omega) hn2) (ok_nb (fun h => by cases h) fun _ => ?_))
  refine ok_ix (by omega) (by omega) fun x1 hx1 => ok_ixe (by omega) hx1 ?_
  refine ok_bd (Pick_ok (up q.2 (by omega) (by omega)) (by simp)) fun f ⟨_, ef⟩ => ?_
  dsimp only at ef
  refine ok_bde rolls32_m (ok_nb (fun h => by cases h) fun _ => ok_bde rolls32_m (ok_nb (fun h => by cases h) fun _ => ?_))
  rw [w64_eq (by omega)]
  exact hnx _ ⟨by dsimp only; omega, by dsimp only; omega, by dsimp only; omega⟩ (by dsimp only; omega)
end Go.Hy
