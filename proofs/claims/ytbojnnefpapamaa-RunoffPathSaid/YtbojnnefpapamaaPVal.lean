/-
  What the check of a layout answers, with its sets of names and places.
-/
import Derived.Test.YtbojnnefpapamaaPLayD
namespace Go.Hy
set_option linter.unusedVariables false
set_option linter.unusedSimpArgs false
set_option maxHeartbeats 2000000
set_option maxRecDepth 10000

theorem ok_nck {β : Type} {Q : β → Prop} {b : Bool} {m : Option β} (h : b = false) (k : Ok m Q) : Ok (ck (!b) m) Q := by
  subst h
  unfold ck
  exact k
theorem name_m {s : ByteArray} (hs : s.size ≤ 9223372036854775807) : layout_name s = some (nmB s) := by
  refine Ok.eq (?_ : Ok _ _)
  unfold layout_name
  refine ok_jp (fun _ => (bl s).all chB = true) (fun _ h => ?_) (fun k hk => ?_)
  · unfold nmB
    rw [h]
    refine ok_if (fun h1 => ok_some ?_) (fun h1 => ok_some ?_)
    · rw [Bool.and_true]; exact decide_eq_decide.2 (by omega)
    · rw [Bool.and_true]; exact (decide_eq_false (by omega)).symm
  have hbl := bl_len s
  refine ok_lp (fun (z : Int) => Scan chB (bl s) z) (fun z => ((s.size : Int) - z).toNat) Scan.zero (by simp only [big_eq]; omega) ?_
  intro z next hz hn
  have z0 := hz.1
  refine ok_if (fun h => ?_) (fun h => hk _ (hz.done (by rw [hbl]; exact h)))
  obtain ⟨b, hb, eb⟩ := bl_at z0 h
  rw [w64_eq (by omega), eb]
  have go : chB b = true → Ok (next (z + 1)) (· = nmB s) := fun h => hn _ (hz.step hb h) (by omega)
  have bad : chB b = false → Ok (some false) (· = nmB s) := fun h => ok_some (by unfold nmB; rw [scan_no hb h, Bool.and_false])
  exact ok_ck ⟨z0, h⟩ (ok_if
    (fun q1 => ok_if (fun q2 => bad (decide_eq_false (by omega))) (fun q2 => ok_if (fun q3 => bad (decide_eq_false (by omega))) (fun q3 => go (decide_eq_true (by omega)))))
    (fun q1 => ok_if (fun q2 => ok_if (fun q3 => bad (decide_eq_false (by omega))) (fun q3 => ok_if (fun q4 => bad (decide_eq_false (by omega))) (fun q4 => go (decide_eq_true (by omega))))) (fun q2 => go (decide_eq_true (by omega)))))
theorem sound_m {x : Element} (hx : x.Name.size ≤ 9223372036854775807) : layout_sound x = some (sdB x) := by
  refine Ok.eq (?_ : Ok _ _)
  unfold layout_sound sdB
  have out : ¬ (0 ≤ x.Kind ∧ x.Kind ≤ 4) → Ok (some false) (· = (nmB x.Name && (if x.Kind = 0 then crB x else elB x))) := fun h => ok_some (by
    rw [if_neg (by omega), show elB x = false from decide_eq_false (by omega), Bool.and_false])
  refine ok_if (fun h => out (by omega)) (fun h1 => ok_if (fun h => out (by omega)) (fun h2 => ok_bde (name_m hx) (ok_nb (fun h => ok_some (by rw [h]; rfl)) (fun h => ?_))))
  rw [h, Bool.true_and]
  refine ok_if (fun h0 => ?_) (fun h0 => ?_)
  · rw [if_pos h0]
    exact ok_some (decide_eq_decide.2 ⟨fun h => h.2.2, fun h => ⟨h0, rfl, h⟩⟩)
  · rw [if_neg h0]
    have no : ¬ ((1 ≤ x.Length ∧ x.Length ≤ 1000000) ∧ (-10000 ≤ x.Grade ∧ x.Grade ≤ 10000) ∧ (0 ≤ x.Curve ∧ x.Curve ≤ 5000) ∧ (0 ≤ x.Side ∧ x.Side ≤ 2) ∧ (x.Kind = 2 → 1 ≤ x.Power ∧ x.Power ≤ 1000000000) ∧ (x.Kind ≠ 2 → x.Power = 0)) → Ok (some false) (· = elB x) := fun h => ok_some (decide_eq_false (fun hh => h hh.2)).symm
    refine ok_jp (fun z => z = decide ((x.Kind = 2 → 1 ≤ x.Power ∧ x.Power ≤ 1000000000) ∧ (x.Kind ≠ 2 → x.Power = 0))) (fun z hz => ?_) (fun k hk => ?_)
    · subst hz
      refine ok_b (fun q => ?_) (fun q => no (fun hh => of_decide_eq_false q hh.2.2.2.2))
      have q := of_decide_eq_true q
      exact ok_if (fun q1 => ok_if (fun q2 => ok_if (fun q3 => ok_if (fun q4 => ok_if (fun q5 => ok_if (fun q6 => ok_if (fun q7 => ok_some (decide_eq_decide.2 ⟨fun q8 => ⟨by omega, by omega, by omega, by omega, by omega, q.1, q.2⟩, fun q8 => q8.2.2.2.2.1.2⟩)) (fun q => no (by omega))) (fun q => no (by omega))) (fun q => no (by omega))) (fun q => no (by omega))) (fun q => no (by omega))) (fun q => no (by omega))) (fun q => no (by omega))
    · exact ok_if (fun h2 => ok_if (fun q => hk _ (decide_eq_decide.2 (by omega))) (fun q => hk _ (decide_eq_false (by omega)).symm)) (fun h2 => hk _ (decide_eq_decide.2 (by omega)))

/-! ### The sets -/
def nmsOf (l : List Element) (i : Nat) : List ByteArray := (l.take i).map (·.Name)
def plsOf (l : List Element) (i : Nat) : List LayoutPlace := ((l.take i).drop 1).map fun x => ⟨x.Parent, x.Side⟩
theorem nmsOf_in {l : List Element} {i : Nat} {x : Element} : inS x.Name (nmsOf l i) = true ↔ ¬ NmFree l i x := by
  rw [inS_iff]
  unfold nmsOf
  constructor
  · intro h hf
    obtain ⟨a, ha, e⟩ := List.mem_map.1 h
    obtain ⟨j, hj⟩ := List.getElem?_of_mem ha
    rw [List.getElem?_take] at hj
    split at hj
    · rename_i hji
      refine hf j hji ?_
      rw [hj, ← e]; rfl
    · cases hj
  · intro h
    apply Classical.byContradiction
    intro hn
    refine h fun j hj e => hn ?_
    cases ha : l[j]? with
    | none => rw [ha] at e; cases e
    | some a =>
      rw [ha] at e
      refine List.mem_map.2 ⟨a, ?_, Option.some.inj e⟩
      refine List.mem_of_getElem? (i := j) ?_
      rw [List.getElem?_take, if_pos hj]; exact ha
theorem plsOf_in {l : List Element} {i : Nat} {x : Element} : inS (LayoutPlace.mk x.Parent x.Side) (plsOf l i) = true ↔ ¬ PlFree l i x := by
  rw [inS_iff]
  unfold plsOf
  constructor
  · intro h hf
    obtain ⟨a, ha, e⟩ := List.mem_map.1 h
    obtain ⟨j, hj⟩ := List.getElem?_of_mem ha
    rw [List.getElem?_drop, List.getElem?_take] at hj
    split at hj
    · rename_i hji
      refine hf (1 + j) hji (by omega) ?_
      rw [hj]
      simp only [LayoutPlace.mk.injEq] at e
      simp [e]
    · cases hj
  · intro h
    apply Classical.byContradiction
    intro hn
    refine h fun j hj j1 e => hn ?_
    cases ha : l[j]? with
    | none => rw [ha] at e; cases e
    | some a =>
      rw [ha] at e
      simp only [Option.map_some, Option.some.injEq, Prod.mk.injEq] at e
      refine List.mem_map.2 ⟨a, ?_, by rw [e.1, e.2]⟩
      refine List.mem_of_getElem? (i := j - 1) ?_
      rw [List.getElem?_drop, List.getElem?_take, if_pos (by omega), show 1 + (j - 1) = j from by omega]; exact ha
theorem nmsOf_step {l : List Element} {i : Nat} {x : Element} (hx : l[i]? = some x) : nmsOf l (i + 1) = nmsOf l i ++ [x.Name] := by
  unfold nmsOf
  rw [sc_take hx, List.map_append]; rfl
theorem plsOf_step {l : List Element} {i : Nat} {x : Element} (hx : l[i]? = some x) (h : 1 ≤ i) : plsOf l (i + 1) = plsOf l i ++ [⟨x.Parent, x.Side⟩] := by
  have := sc_lt hx
  unfold plsOf
  rw [sc_take hx, List.drop_append_of_le_length (by rw [List.length_take]; omega), List.map_append]; rfl
theorem plsOf_one {l : List Element} {x : Element} (hx : l[0]? = some x) : plsOf l 1 = [] := by
  unfold plsOf
  rw [List.drop_eq_nil_of_le (by rw [List.length_take]; omega)]; rfl
/-- The numbers of children, as the check keeps them. -/
abbrev ChOf (l : List Element) (i : Nat) (c : List Int) : Prop := c.length = l.length ∧ ∀ k, k < l.length → c[k]? = some (kds l k i : Int)
theorem ChOf.one {l : List Element} {c : List Int} (h : ChOf l 0 c) : ChOf l 1 c := by
  refine ⟨h.1, fun k hk => ?_⟩
  rw [h.2 k hk]
  simp [kds]
theorem ChOf.step {l : List Element} {c : List Int} {i : Nat} {x : Element} (h : ChOf l i c) (hx : l[i]? = some x) (hi : 1 ≤ i) (hp : 0 ≤ x.Parent ∧ x.Parent < i) : ChOf l (i + 1) (c.set x.Parent.toNat (kds l x.Parent i + 1 : Int)) := by
  have hlt := sc_lt hx
  refine ⟨by rw [List.length_set]; exact h.1, fun k hk => ?_⟩
  rw [List.getElem?_set]
  by_cases e : x.Parent.toNat = k
  · rw [if_pos e, if_pos (by rw [h.1]; omega)]
    have e2 : (k : Int) = x.Parent := by omega
    rw [kds, hx, if_pos ⟨hi, by simp [e2]⟩, e2]
    simp
  · rw [if_neg e, h.2 k hk, kds, hx, if_neg]
    · rfl
    · rintro ⟨_, q⟩
      simp only [Option.map_some, Option.some.injEq] at q
      omega
theorem Valid_e {l : List Element} (hn : Nms l) : layout_Valid l = some (lE l) := by
  refine Ok.eq (?_ : Ok _ _)
  unfold layout_Valid lE
  refine ok_if (fun h => ok_some (by rw [if_pos (by omega)])) (fun h1 => ok_if (fun h => ok_some (by rw [if_neg (by omega), if_pos (by omega)])) (fun h2 => ?_))
  rw [if_neg (by omega), if_neg (by omega)]
  refine ok_ck (by omega) (ok_vl fun y3 hy3 => ?_)
  refine ok_jp (fun (z : List Int × Int) => fE l l.length = 0 ∧ ChOf l l.length z.1 ∧ z.2 = trk l l.length) (fun t ⟨hf, hc, ht⟩ => ?_) (fun k hk => ?_)
  rotate_left
  · refine ok_lp (fun (z : List ByteArray × List LayoutPlace × List Int × Int × Int) => 0 ≤ z.2.2.2.2 ∧ z.2.2.2.2 ≤ l.length ∧ fE l z.2.2.2.2.toNat = 0 ∧ z.1 = nmsOf l z.2.2.2.2.toNat ∧ z.2.1 = plsOf l z.2.2.2.2.toNat ∧ ChOf l z.2.2.2.2.toNat z.2.2.1 ∧ z.2.2.2.1 = trk l z.2.2.2.2.toNat) (fun z => ((l.length : Int) - z.2.2.2.2).toNat) ?_ (by simp only [big_eq]; omega) ?_
    · refine ⟨Int.le_refl 0, by dsimp only; omega, rfl, rfl, rfl, ?_, rfl⟩
      dsimp only
      rw [hy3]
      refine ⟨by simp, fun k hk => ?_⟩
      simp [kds, hk]
    rintro ⟨ns, ps, c, t, i⟩ next ⟨i0, i1, hf, hns, hps, hc, ht⟩ hnx
    dsimp only at i0 i1 hf hns hps hc ht ⊢
    refine ok_if (fun hi => ?_) (fun hi => ?_)
    rotate_left
    · have e : i.toNat = l.length := by omega
      rw [e] at hf ht hc
      exact hk _ ⟨hf, hc, ht⟩
    have hii : i.toNat < l.length := by omega
    have hx := List.getElem?_eq_getElem hii
    generalize l[i.toNat] = x at hx
    have ei : (i + 1).toNat = i.toNat + 1 := by omega
    have ei0 : (i.toNat : Int) = i := by omega
    have hfs : fE l (i.toNat + 1) = ftE l i.toNat := by unfold fE; rw [if_neg (by simp [hf])]
    have htl := trk_le l i.toNat
    have bad : ∀ e : Int, e ≠ 0 → ftE l i.toNat = e → Ok (some e) (fun v => v = if fE l l.length ≠ 0 then fE l l.length else if ¬ (∀ i, i < l.length → Kidd l i) then 13 else if 32 < trk l l.length then 3 else 0) := fun e he hfe => ok_some (by
      have h5 : fE l l.length = e := by
        have : l.length = (i.toNat + 1) + (l.length - (i.toNat + 1)) := by omega
        rw [this, fE_stays (by rw [hfs, hfe]; exact he), hfs, hfe]
      rw [h5, if_pos he])
    have hft : ftE l i.toNat = (if ¬ Snd i.toNat x then 1
      else if ¬ NmFree l i.toNat x then 8
      else if i.toNat = 0 then 0
      else if x.Parent < 0 ∨ (i.toNat : Int) ≤ x.Parent then 12
      else match l[x.Parent.toNat]? with
        | none => 0
        | some y => if y.Kind = 4 ∨ (y.Kind = 3 ↔ x.Side = 0) then 17 else if ¬ PlFree l i.toNat x then 17 else 0) := by unfold ftE; rw [hx]; rfl
    refine ok_ixe i0 hx (ok_bde (sound_m (hn x (sc_mem hx))) (ok_nb (fun h => bad 1 (by decide) ?_) (fun h => ok_nb (fun h2 => bad 1 (by decide) ?_) (fun h2 => ?_))))
    · rw [hft, if_pos (fun hh => by rw [hh.1] at h; cases h)]
    · have : ¬ (x.Kind = 0 ↔ i = 0) := fun hh => by
        have e : decide (x.Kind = 0) = decide (i = 0) := decide_eq_decide.2 hh
        rw [e] at h2
        simp at h2
      rw [hft, if_pos (fun hh => this (hh.2.trans ⟨fun h => by omega, fun h => by omega⟩))]
    have hk0 : x.Kind = 0 ↔ i = 0 := by
      have := LawfulBEq.eq_of_beq h2
      exact decide_eq_decide.1 this
    have hS : Snd i.toNat x := ⟨h, hk0.trans ⟨fun h => by omega, fun h => by omega⟩⟩
    rw [if_neg (fun hh => hh hS)] at hft
    rw [hns]
    refine ok_b (fun h3 => bad 8 (by decide) ?_) (fun h3 => ?_)
    · rw [hft, if_pos (nmsOf_in.1 h3)]
    have hnf : NmFree l i.toNat x := Decidable.not_not.1 fun hh => by rw [nmsOf_in.2 hh] at h3; cases h3
    rw [if_neg (fun hh => hh hnf)] at hft
    refine ok_nck h3 (ok_vl fun y32 hy32 => ?_)
    rw [← nmsOf_step hx] at hy32
    rw [w64_eq (n := i + 1) (by omega)]
    refine ok_if (fun hi0 => ?_) (fun hi0 => ?_)
    · refine hnx _ ⟨by dsimp only; omega, by dsimp only; omega, ?_, ?_, ?_, ?_, ?_⟩ (by dsimp only; omega)
      · dsimp only; rw [ei, hfs, hft, if_pos (by omega)]
      · dsimp only; rw [ei]; exact hy32
      · subst hi0
        rw [hps]
        exact (plsOf_one hx).symm
      · subst hi0
        exact ChOf.one hc
      · dsimp only; rw [ei, trk, hx, if_neg (by have := hk0.2 hi0; simp [this])]; omega
    rw [if_neg (by omega), ei0] at hft
    refine ok_if (fun q => bad 12 (by decide) (by rw [hft, if_pos (.inl q)])) (fun hp => ok_if (fun q => bad 12 (by decide) (by rw [hft, if_pos (.inr q)])) (fun hp2 => ?_))
    rw [if_neg (by omega)] at hft
    refine ok_ix (by omega) (by omega) fun y hy => ?_
    rw [hy] at hft
    dsimp only at hft
    refine ok_if (fun q => bad 17 (by decide) (by rw [hft, if_pos (.inl q)])) (fun h4 => ok_nb (fun h5 => bad 17 (by decide) ?_) (fun h5 => ?_))
    · rw [hft, if_pos]
      right
      have : ¬ (y.Kind = 3 ↔ x.Side ≠ 0) := fun hh => by
        have e : decide (y.Kind = 3) = decide (x.Side ≠ 0) := decide_eq_decide.2 hh
        rw [e] at h5
        simp at h5
      omega
    have h6 : y.Kind = 3 ↔ x.Side ≠ 0 := decide_eq_decide.1 (LawfulBEq.eq_of_beq h5)
    rw [if_neg (by omega)] at hft
    rw [hps]
    refine ok_b (fun h7 => bad 17 (by decide) (by rw [hft, if_pos (plsOf_in.1 h7)])) (fun h7 => ?_)
    have hpf : PlFree l i.toNat x := Decidable.not_not.1 fun hh => by rw [plsOf_in.2 hh] at h7; cases h7
    rw [if_neg (fun hh => hh hpf)] at hft
    refine ok_nck h7 (ok_vl fun y36 hy36 => ?_)
    rw [← plsOf_step hx (by omega)] at hy36
    have hcp := hc.2 x.Parent.toNat (by omega)
    rw [show ((x.Parent.toNat : Nat) : Int) = x.Parent from by omega] at hcp
    have hkl := kds_le l x.Parent i.toNat
    refine ok_ixe (by omega) hcp (ok_ixe (by omega) hcp (ok_vl fun y41 hy41 => ?_))
    rw [w64_eq (by omega)] at hy41
    have hcs := hc.step hx (by omega) (by omega)
    rw [← hy41] at hcs
    refine ok_if (fun h8 => ?_) (fun h8 => ?_)
    · rw [w64_eq (n := t + 1) (by omega)]
      refine hnx _ ⟨by dsimp only; omega, by dsimp only; omega, ?_, ?_, ?_, ?_, ?_⟩ (by dsimp only; omega)
      · dsimp only; rw [ei, hfs, hft]
      · dsimp only; rw [ei]; exact hy32
      · dsimp only; rw [ei]; exact hy36
      · dsimp only; rw [ei]; exact hcs
      · dsimp only; rw [ei, trk, hx, if_pos (by simp [h8])]; omega
    · refine hnx _ ⟨by dsimp only; omega, by dsimp only; omega, ?_, ?_, ?_, ?_, ?_⟩ (by dsimp only; omega)
      · dsimp only; rw [ei, hfs, hft]
      · dsimp only; rw [ei]; exact hy32
      · dsimp only; rw [ei]; exact hy36
      · dsimp only; rw [ei]; exact hcs
      · dsimp only; rw [ei, trk, hx, if_neg (by simp [h8])]; omega
  rw [if_neg (by simp [hf])]
  refine ok_lp (fun (z : Int) => 0 ≤ z ∧ ∀ i, i < z.toNat → Kidd l i) (fun z => ((l.length : Int) - z).toNat) ⟨Int.le_refl 0, fun i hi => by simp at hi⟩ (by simp only [big_eq]; omega) ?_
  intro z next ⟨z0, hz⟩ hnx
  refine ok_if (fun hi => ?_) (fun hi => ?_)
  rotate_left
  · rw [if_neg (fun hh => hh fun i hi2 => hz i (by omega))]
    exact ok_if (fun h => ok_some (by rw [if_pos (by omega)])) (fun h => ok_some (by rw [if_neg (by omega)]))
  have hii : z.toNat < l.length := by omega
  have hx := List.getElem?_eq_getElem hii
  generalize l[z.toNat] = x at hx
  have ez : ((z.toNat : Nat) : Int) = z := by omega
  have hcz := hc.2 z.toNat hii
  rw [ez] at hcz
  have go : wantK x ≤ kds l z l.length → Ok (next (w64 (z + 1))) (fun v => v = if ¬ (∀ i, i < l.length → Kidd l i) then 13 else if 32 < trk l l.length then 3 else 0) := fun h => by
    rw [w64_eq (n := z + 1) (by omega)]
    exact hnx _ ⟨by omega, fun i hi2 => by
      by_cases e : i = z.toNat
      · subst e
        intro y hy
        rw [hx] at hy
        cases hy
        rw [ez]; exact h
      · exact hz i (by omega)⟩ (by omega)
  have bad : ¬ wantK x ≤ kds l z l.length → Ok (some (13 : Int)) (fun v => v = if ¬ (∀ i, i < l.length → Kidd l i) then 13 else if 32 < trk l l.length then 3 else 0) := fun h => ok_some (by
    rw [if_pos]
    intro hh
    have := hh z.toNat (by omega) x hx
    rw [ez] at this
    exact h this)
  have w3 : wantK x = if x.Kind = 3 then 2 else if x.Kind = 4 then 0 else 1 := rfl
  refine ok_ixe z0 hx (ok_if (fun h3 => ok_ixe z0 hcz (ok_if (fun q => bad ?_) (fun q => ok_if (fun h4 => ok_ixe z0 hcz (ok_if (fun q2 => bad ?_) (fun q2 => go ?_))) (fun h4 => go ?_))))
    (fun h3 => ok_if (fun h4 => ok_ixe z0 hcz (ok_if (fun q2 => bad ?_) (fun q2 => go ?_))) (fun h4 => go ?_)))
  · rw [w3, if_pos h3]; omega
  · omega
  · rw [w3, if_pos h3]; omega
  · omega
  · rw [w3, if_neg h3, if_neg h4]; omega
  · rw [w3, if_neg h3, if_neg h4]; omega
  · rw [w3, if_neg h3, if_pos (Decidable.not_not.1 h4)]; omega
end Go.Hy
