/-
  The way from the crest to an element, and the pieces on it.
-/
import Derived.Test.YtjeegociagchnaaPMade
import Derived.Test.YtjeegociagchnaaPBase
namespace Go.Hy
set_option linter.unusedVariables false
set_option linter.unusedSimpArgs false
set_option maxHeartbeats 2000000
set_option maxRecDepth 10000

/-- A valid layout. -/
structure VL (l : List Element) : Prop where
  len : 1 ≤ l.length ∧ l.length ≤ 128
  ft : ∀ i, ftE l i = 0
  kid : ∀ i, i < l.length → Kidd l i
  trk : trk l l.length ≤ 32
theorem fE_all {l : List Element} {k : Nat} (h : fE l k = 0) : ∀ i, i < k → ftE l i = 0 := by
  induction k with
  | zero => intro i hi; omega
  | succ k ih =>
    unfold fE at h
    split at h
    · rename_i h1; exact absurd h h1
    · rename_i h1
      intro i hi
      by_cases e : i = k
      · subst e; exact h
      · exact ih (Decidable.not_not.1 h1) i (by omega)
theorem ftE_out {l : List Element} {i : Nat} (h : l.length ≤ i) : ftE l i = 0 := by
  unfold ftE; rw [List.getElem?_eq_none h]
theorem lE_ok {l : List Element} (h : lE l = 0) : VL l := by
  unfold lE at h
  split at h
  · cases h
  split at h
  · cases h
  split at h
  · rename_i h1; exact absurd h h1
  split at h
  · cases h
  split at h
  · cases h
  rename_i h1 h2 h3 h4 h5
  refine ⟨by omega, fun i => ?_, Decidable.not_not.1 h4, by omega⟩
  rcases Nat.lt_or_ge i l.length with hi | hi
  · exact fE_all (Decidable.not_not.1 h3) i hi
  · exact ftE_out hi
theorem VL.el {l : List Element} (h : VL l) {i : Nat} {x : Element} (hx : l[i]? = some x) : (i = 0 → x.Kind = 0 ∧ x.Parent = -1 ∧ x.Side = 0) ∧ (i ≠ 0 → elB x = true ∧ x.Kind ≠ 0 ∧ 0 ≤ x.Parent ∧ x.Parent < i) := by
  obtain ⟨s1, s2⟩ := ftE_snd (h.ft i) hx
  unfold sdB at s1
  rw [Bool.and_eq_true] at s1
  refine ⟨fun h0 => ?_, fun h0 => ?_⟩
  · have hk := s2.2 h0
    have := s1.2
    rw [if_pos hk] at this
    have := of_decide_eq_true this
    exact ⟨hk, this.1, this.2.1⟩
  · have hk : x.Kind ≠ 0 := fun hk => h0 (s2.1 hk)
    have := s1.2
    rw [if_neg hk] at this
    exact ⟨this, hk, ftE_parent (h.ft i) hx h0⟩
theorem VL.par {l : List Element} (h : VL l) {i : Nat} {x : Element} (hx : l[i]? = some x) : -1 ≤ x.Parent ∧ x.Parent < i := by
  have := h.el hx
  by_cases h0 : i = 0
  · have := this.1 h0; omega
  · have := this.2 h0; omega

/-! ### Ways -/
def wayF (l : List Element) : Nat → Int → List Int
  | 0, _ => []
  | n + 1, i => if i < 0 then [] else match l[i.toNat]? with
    | none => []
    | some x => wayF l n x.Parent ++ [i]
def way (l : List Element) (i : Int) : List Int := wayF l (i.toNat + 2) i
theorem wayF_eq {l : List Element} (h : VL l) : ∀ (n m : Nat) (i : Int), i < n → i < m → wayF l (n + 1) i = wayF l (m + 1) i := by
  intro n
  induction n with
  | zero => intro m i h1 h2; unfold wayF; rw [if_pos (by omega), if_pos (by omega)]
  | succ n ih =>
    intro m i h1 h2
    unfold wayF
    by_cases h0 : i < 0
    · rw [if_pos h0, if_pos h0]
    · rw [if_neg h0, if_neg h0]
      cases hx : l[i.toNat]? with
      | none => rfl
      | some x =>
        dsimp only
        have hp := h.par hx
        obtain ⟨m', rfl⟩ : ∃ m', m = m' + 1 := ⟨m - 1, by omega⟩
        rw [ih m' x.Parent (by omega) (by omega)]
theorem way_neg {l : List Element} {i : Int} (h : i < 0) : way l i = [] := by unfold way wayF; rw [if_pos h]
theorem way_at {l : List Element} (h : VL l) {i : Int} {x : Element} (h0 : 0 ≤ i) (hx : l[i.toNat]? = some x) : way l i = way l x.Parent ++ [i] := by
  have hp := h.par hx
  have e : way l i = wayF l (i.toNat + 1) x.Parent ++ [i] := by
    unfold way
    rw [wayF, if_neg (by omega), hx]
  rw [e]
  unfold way
  rw [wayF_eq h i.toNat (x.Parent.toNat + 1) x.Parent (by omega) (by omega)]
theorem way_len {l : List Element} (h : VL l) : ∀ (n : Nat) (i : Int), i < n → (way l i).length ≤ n := by
  intro n
  induction n with
  | zero => intro i hi; rw [way_neg (by omega)]; simp
  | succ n ih =>
    intro i hi
    by_cases h0 : i < 0
    · rw [way_neg h0]; simp
    · cases hx : l[i.toNat]? with
      | none => unfold way wayF; rw [if_neg h0, hx]; simp
      | some x =>
        rw [way_at h (by omega) hx, List.length_append, List.length_singleton]
        have := h.par hx
        have := ih x.Parent (by omega)
        omega
theorem Way_m {l : List Element} (h : VL l) : ∀ (n : Nat) (i : Int), i < n → i < l.length → r10_Way_n (n + 1) l i = some (way l i) := by
  intro n
  induction n with
  | zero =>
    intro i h1 h2
    refine Ok.eq (?_ : Ok _ _)
    unfold r10_Way_n
    exact ok_if1 (by omega) (ok_some (way_neg (by omega)).symm)
  | succ n ih =>
    intro i h1 h2
    refine Ok.eq (?_ : Ok _ _)
    unfold r10_Way_n
    refine ok_if (fun h0 => ok_some (way_neg h0).symm) (fun h0 => ok_ix (by omega) h2 fun x hx => ?_)
    have hp := h.par hx
    have hl := way_len h (i.toNat + 1) x.Parent (by omega)
    have hlen := h.len
    refine ok_bde (ih x.Parent (by omega) (by omega)) (ok_ck (by simp only [List.length_cons, List.length_nil]; omega) (ok_vl fun y hy => ok_some ?_))
    rw [hy, way_at h (by omega) hx]
theorem way_m {l : List Element} (h : VL l) {i : Int} (hi : i < l.length) : r10_Way l i = some (way l i) := by
  have hlen := h.len
  unfold r10_Way
  exact Way_m h 18446744073709551615 i (by omega) hi
/-- Everything on a way. -/
theorem way_mem {l : List Element} (h : VL l) : ∀ (n : Nat) (i : Int), i < n → ∀ e ∈ way l i, 0 ≤ e ∧ e ≤ i ∧ e < l.length := by
  intro n
  induction n with
  | zero => intro i hi e he; rw [way_neg (by omega)] at he; cases he
  | succ n ih =>
    intro i hi e he
    by_cases h0 : i < 0
    · rw [way_neg h0] at he; cases he
    · cases hx : l[i.toNat]? with
      | none => unfold way wayF at he; rw [if_neg h0, hx] at he; cases he
      | some x =>
        rw [way_at h (by omega) hx] at he
        have hp := h.par hx
        have hlt := sc_lt hx
        rcases List.mem_append.1 he with he | he
        · have := ih x.Parent (by omega) e he; omega
        · have := List.mem_singleton.1 he; omega
/-- A way begins with the crest, and each element on it is the parent of the next. -/
theorem way_step {l : List Element} (h : VL l) : ∀ (n : Nat) (i : Int), i < n → 0 ≤ i → i < l.length → (way l i)[0]? = some 0 ∧ (way l i)[(way l i).length - 1]? = some i ∧ 1 ≤ (way l i).length ∧
    ∀ (k : Nat) (e : Int), (way l i)[k + 1]? = some e → 1 ≤ e ∧ ∃ x : Element, l[e.toNat]? = some x ∧ (way l i)[k]? = some x.Parent := by
  intro n
  induction n with
  | zero => intro i h1 h2; omega
  | succ n ih =>
    intro i h1 h2 h3
    have hx : l[i.toNat]? = some l[i.toNat] := List.getElem?_eq_getElem (by omega)
    generalize l[i.toNat] = x at hx
    have hel := h.el hx
    rw [way_at h h2 hx]
    by_cases h0 : i = 0
    · subst h0
      have := (hel.1 rfl).2.1
      rw [this, way_neg (by decide)]
      refine ⟨rfl, rfl, by simp, fun k e he => by simp at he⟩
    · have hp := (hel.2 (by omega)).2.2
      obtain ⟨a1, a2, a3, a4⟩ := ih x.Parent (by omega) hp.1 (by omega)
      refine ⟨by rw [List.getElem?_append_left (by omega)]; exact a1, by simp, by simp, fun k e he => ?_⟩
      rcases Nat.lt_or_ge (k + 1) (way l x.Parent).length with hk | hk
      · rw [List.getElem?_append_left hk] at he
        rw [List.getElem?_append_left (by omega)]
        exact a4 k e he
      · rcases get_app he with he | ⟨e1, rfl⟩
        · rw [List.getElem?_eq_none hk] at he; cases he
        · refine ⟨by omega, x, hx, ?_⟩
          rw [List.getElem?_append_left (by omega)]
          rw [← e1] at a2
          exact a2

/-! ### Pieces on a way -/
def pcOf (l : List Element) (e : Int) : Piece := match l[e.toNat]? with
  | none => ⟨0, 0, 0, 0, 0⟩
  | some x => ⟨e, x.Length, x.Grade, x.Curve, x.Power⟩
def pth (l : List Element) (t : Int) : List Piece := (way l t).tail.map (pcOf l)
abbrev IsTr (l : List Element) (t : Int) : Prop := 0 ≤ t ∧ ∃ x : Element, l[t.toNat]? = some x ∧ x.Kind = 4
instance {l : List Element} {t : Int} : Decidable (IsTr l t) := by
  unfold IsTr
  cases h : l[t.toNat]? with
  | none => exact .isFalse fun hh => by obtain ⟨_, x, hx, _⟩ := hh; cases hx
  | some y => exact decidable_of_iff (0 ≤ t ∧ y.Kind = 4) ⟨fun hh => ⟨hh.1, y, rfl, hh.2⟩, fun hh => by obtain ⟨h0, x, hx, hk⟩ := hh; cases hx; exact ⟨h0, hk⟩⟩
def ptE (l : List Element) (t : Int) : List Piece × Int := if lE l ≠ 0 then ([], lE l) else if IsTr l t then (pth l t, 0) else ([], 2)
theorem rPath_m {l : List Element} {t : Int} (hn : Nms l) : r20_Path l t = some (ptE l t) := by
  refine Ok.eq (?_ : Ok _ _)
  unfold r20_Path ptE
  refine ok_bde (rLayValid_e hn) (ok_if (fun h => ok_some (by rw [if_pos h])) (fun h => ?_))
  rw [if_neg h]
  have hv := lE_ok (Decidable.not_not.1 h)
  have hlen := hv.len
  refine ok_if (fun q => ok_some (by rw [if_neg (fun hh => by omega)])) (fun q0 => ok_if (fun q => ok_some ?_) (fun q1 => ok_ix (by omega) (by omega) fun x hx => ok_if (fun q => ok_some ?_) (fun q2 => ?_)))
  · rw [if_neg]
    rintro ⟨_, x, hx, _⟩
    have := sc_lt hx
    omega
  · rw [if_neg]
    rintro ⟨_, y, hy, hk⟩
    rw [hx] at hy
    cases hy
    exact q hk
  have hk4 := Decidable.not_not.1 q2
  rw [if_pos ⟨by omega, x, hx, hk4⟩]
  refine ok_bde (way_m hv (by omega)) ?_
  have hwl := way_len hv (t.toNat + 1) t (by omega)
  have hmem := way_mem hv (t.toNat + 1) t (by omega)
  refine ok_lp (fun (z : List Piece × Int) => 1 ≤ z.2 ∧ z.2 ≤ (way l t).length + 1 ∧ z.1.length + 1 = z.2 ∧ z.1 = ((way l t).tail.take (z.2.toNat - 1)).map (pcOf l)) (fun z => ((way l t).length - z.2).toNat) ⟨by decide, by dsimp only; omega, rfl, rfl⟩ (by simp only [big_eq]; omega) ?_
  rintro ⟨out, i⟩ next ⟨i0, i1, ol, ho⟩ hnx
  dsimp only at i0 i1 ol ho ⊢
  refine ok_if (fun hi => ?_) (fun hi => ok_some ?_)
  rotate_left
  · rw [ho, List.take_of_length_le (by rw [List.length_tail]; omega)]
    rfl
  refine ok_ix (by omega) hi fun e he => ?_
  have hm := hmem e (sc_mem he)
  refine ok_ix hm.1 hm.2.2 fun y hy => ok_ixe (by omega) he (ok_ck (by simp only [List.length_cons, List.length_nil]; omega) (ok_vl fun o ho2 => ?_))
  rw [w64_eq (by omega)]
  refine hnx _ ⟨by dsimp only; omega, by dsimp only; omega, by dsimp only; rw [ho2]; simp; omega, ?_⟩ (by dsimp only; omega)
  dsimp only
  have e1 : (i + 1).toNat - 1 = (i.toNat - 1) + 1 := by omega
  have e2 : (way l t).tail[i.toNat - 1]? = some e := by
    rw [List.getElem?_tail, ← he]
    congr 1
    omega
  rw [ho2, e1, sc_take e2, List.map_append, ← ho]
  simp only [List.map_cons, List.map_nil, pcOf, hy]
theorem pc_ok {l : List Element} (h : VL l) {e : Int} (h0 : 1 ≤ e) (h1 : e < l.length) : PieceOk (pcOf l e) ∧ (pcOf l e).Element = e := by
  have hx : l[e.toNat]? = some l[e.toNat] := List.getElem?_eq_getElem (by omega)
  generalize l[e.toNat] = x at hx
  have hlen := h.len
  have := of_decide_eq_true ((h.el hx).2 (by omega)).1
  unfold pcOf
  rw [hx]
  dsimp only
  refine ⟨⟨by dsimp only; omega, by dsimp only; omega, by dsimp only; omega, by dsimp only; omega, ?_⟩, rfl⟩
  dsimp only
  by_cases hk : x.Kind = 2
  · have := this.2.2.2.2.2.1 hk; omega
  · have := this.2.2.2.2.2.2 hk; omega
theorem pth_get {l : List Element} {t : Int} {k : Nat} {p : Piece} (h : (pth l t)[k]? = some p) : ∃ e, (way l t)[k + 1]? = some e ∧ p = pcOf l e := by
  unfold pth at h
  rw [List.getElem?_map, List.getElem?_tail] at h
  cases hh : (way l t)[k + 1]? with
  | none => rw [hh] at h; cases h
  | some e => rw [hh] at h; exact ⟨e, rfl, (Option.some.inj h).symm⟩
theorem pth_len {l : List Element} {t : Int} : (pth l t).length = (way l t).length - 1 := by unfold pth; rw [List.length_map, List.length_tail]
theorem pth_ok {l : List Element} (h : VL l) {t : Int} (ht : IsTr l t) : PsOk (pth l t) ∧ (∀ p ∈ pth l t, 1 ≤ p.Element ∧ p.Element < l.length ∧ p = pcOf l p.Element) ∧ (pth l t)[(pth l t).length - 1]? = some (pcOf l t) := by
  obtain ⟨t0, x, hx, hk⟩ := ht
  have hlt := sc_lt hx
  have hlen := h.len
  have hel := h.el hx
  have ht1 : t ≠ 0 := fun e => by subst e; have := (hel.1 rfl).1; omega
  have hwl := way_len h (t.toNat + 1) t (by omega)
  have hmem := way_mem h (t.toNat + 1) t (by omega)
  obtain ⟨a1, a2, a3, a4⟩ := way_step h (t.toNat + 1) t (by omega) t0 (by omega)
  have hw2 : 2 ≤ (way l t).length := by
    rcases Nat.lt_or_ge (way l t).length 2 with hh | hh
    · have : (way l t).length = 1 := by omega
      rw [this] at a2
      rw [a1] at a2
      exact absurd (Option.some.inj a2).symm ht1
    · exact hh
  have all : ∀ p ∈ pth l t, ∃ e, 1 ≤ e ∧ e < (l.length : Int) ∧ p = pcOf l e := fun p hp => by
    obtain ⟨k, hk⟩ := List.getElem?_of_mem hp
    obtain ⟨e, he, rfl⟩ := pth_get hk
    exact ⟨e, (a4 k e he).1, (hmem e (sc_mem he)).2.2, rfl⟩
  refine ⟨⟨by rw [pth_len]; omega, fun p hp => ?_⟩, fun p hp => ?_, ?_⟩
  · obtain ⟨e, e1, e2, rfl⟩ := all p hp
    exact (pc_ok h e1 e2).1
  · obtain ⟨e, e1, e2, rfl⟩ := all p hp
    rw [(pc_ok h e1 e2).2]
    exact ⟨e1, e2, rfl⟩
  · unfold pth
    rw [List.getElem?_map, List.getElem?_tail, List.length_map, List.length_tail]
    have : (way l t).length - 1 - 1 + 1 = (way l t).length - 1 := by omega
    rw [this, a2]
    rfl
end Go.Hy
