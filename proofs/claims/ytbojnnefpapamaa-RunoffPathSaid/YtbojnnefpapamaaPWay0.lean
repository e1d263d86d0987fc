/-
  The way from the crest to an element.
-/
import Derived.Test.YtbojnnefpapamaaPMade
namespace Go.Hy
set_option linter.unusedVariables false
set_option linter.unusedSimpArgs false
set_option maxHeartbeats 2000000
set_option maxRecDepth 10000

/-- A valid layout. -/
structure VL (l : List Element) : Prop where
  len : 1 ≤ l.length ∧ l.length ≤ 128
  ft : ∀ i, ftE l i = 0
  kid : ∀ i, i < l.length → Kidd l i
  trk : trk l l.length ≤ 32
theorem fE_all {l : List Element} {k : Nat} (h : fE l k = 0) : ∀ i, i < k → ftE l i = 0 := by
  induction k with
  | zero => intro i hi; omega
  | succ k ih =>
    unfold fE at h
    split at h
    · rename_i h1; exact absurd h h1
    · rename_i h1
      intro i hi
      by_cases e : i = k
      · subst e; exact h
      · exact ih (Decidable.not_not.1 h1) i (by omega)
theorem ftE_out {l : List Element} {i : Nat} (h : l.length ≤ i) : ftE l i = 0 := by
  unfold ftE; rw [List.getElem?_eq_none h]
theorem lE_ok {l : List Element} (h : lE l = 0) : VL l := by
  unfold lE at h
  split at h
  · cases h
  split at h
  · cases h
  split at h
  · rename_i h1; exact absurd h h1
  split at h
  · cases h
  split at h
  · cases h
  rename_i h1 h2 h3 h4 h5
  refine ⟨by omega, fun i => ?_, Decidable.not_not.1 h4, by omega⟩
  rcases Nat.lt_or_ge i l.length with hi | hi
  · exact fE_all (Decidable.not_not.1 h3) i hi
  · exact ftE_out hi
theorem VL.el {l : List Element} (h : VL l) {i : Nat} {x : Element} (hx : l[i]? = some x) : (i = 0 → x.Kind = 0 ∧ x.Parent = -1 ∧ x.Side = 0) ∧ (i ≠ 0 → elB x = true ∧ x.Kind ≠ 0 ∧ 0 ≤ x.Parent ∧ x.Parent < i) := by
  obtain ⟨s1, s2⟩ := ftE_snd (h.ft i) hx
  unfold sdB at s1
  rw [Bool.and_eq_true] at s1
  refine ⟨fun h0 => ?_, fun h0 => ?_⟩
  · have hk := s2.2 h0
    have := s1.2
    rw [if_pos hk] at this
    have := of_decide_eq_true this
    exact ⟨hk, this.1, this.2.1⟩
  · have hk : x.Kind ≠ 0 := fun hk => h0 (s2.1 hk)
    have := s1.2
    rw [if_neg hk] at this
    exact ⟨this, hk, ftE_parent (h.ft i) hx h0⟩
theorem VL.par {l : List Element} (h : VL l) {i : Nat} {x : Element} (hx : l[i]? = some x) : -1 ≤ x.Parent ∧ x.Parent < i := by
  have := h.el hx
  by_cases h0 : i = 0
  · have := this.1 h0; omega
  · have := this.2 h0; omega

/-! ### Ways -/
def wayF (l : List Element) : Nat → Int → List Int
  | 0, _ => []
  | n + 1, i => if i < 0 then [] else match l[i.toNat]? with
    | none => []
    | some x => wayF l n x.Parent ++ [i]
def way (l : List Element) (i : Int) : List Int := wayF l (i.toNat + 2) i
theorem wayF_eq {l : List Element} (h : VL l) : ∀ (n m : Nat) (i : Int), i < n → i < m → wayF l (n + 1) i = wayF l (m + 1) i := by
  intro n
  induction n with
  | zero => intro m i h1 h2; unfold wayF; rw [if_pos (by omega), if_pos (by omega)]
  | succ n ih =>
    intro m i h1 h2
    unfold wayF
    by_cases h0 : i < 0
    · rw [if_pos h0, if_pos h0]
    · rw [if_neg h0, if_neg h0]
      cases hx : l[i.toNat]? with
      | none => rfl
      | some x =>
        dsimp only
        have hp := h.par hx
        obtain ⟨m', rfl⟩ : ∃ m', m = m' + 1 := ⟨m - 1, by omega⟩
        rw [ih m' x.Parent (by omega) (by omega)]
theorem way_neg {l : List Element} {i : Int} (h : i < 0) : way l i = [] := by unfold way wayF; rw [if_pos h]
theorem way_at {l : List Element} (h : VL l) {i : Int} {x : Element} (h0 : 0 ≤ i) (hx : l[i.toNat]? = some x) : way l i = way l x.Parent ++ [i] := by
  have hp := h.par hx
  have e : way l i = wayF l (i.toNat + 1) x.Parent ++ [i] := by
    unfold way
    rw [wayF, if_neg (by omega), hx]
  rw [e]
  unfold way
  rw [wayF_eq h i.toNat (x.Parent.toNat + 1) x.Parent (by omega) (by omega)]
theorem way_len {l : List Element} (h : VL l) : ∀ (n : Nat) (i : Int), i < n → (way l i).length ≤ n := by
  intro n
  induction n with
  | zero => intro i hi; rw [way_neg (by omega)]; simp
  | succ n ih =>
    intro i hi
    by_cases h0 : i < 0
    · rw [way_neg h0]; simp
    · cases hx : l[i.toNat]? with
      | none => unfold way wayF; rw [if_neg h0, hx]; simp
      | some x =>
        rw [way_at h (by omega) hx, List.length_append, List.length_singleton]
        have := h.par hx
        have := ih x.Parent (by omega)
        omega
/-- Everything on a way. -/
theorem way_mem {l : List Element} (h : VL l) : ∀ (n : Nat) (i : Int), i < n → ∀ e ∈ way l i, 0 ≤ e ∧ e ≤ i ∧ e < l.length := by
  intro n
  induction n with
  | zero => intro i hi e he; rw [way_neg (by omega)] at he; cases he
  | succ n ih =>
    intro i hi e he
    by_cases h0 : i < 0
    · rw [way_neg h0] at he; cases he
    · cases hx : l[i.toNat]? with
      | none => unfold way wayF at he; rw [if_neg h0, hx] at he; cases he
      | some x =>
        rw [way_at h (by omega) hx] at he
        have hp := h.par hx
        have hlt := sc_lt hx
        rcases List.mem_append.1 he with he | he
        · have := ih x.Parent (by omega) e he; omega
        · have := List.mem_singleton.1 he; omega
/-- A way begins with the crest, and each element on it is the parent of the next. -/
theorem way_step {l : List Element} (h : VL l) : ∀ (n : Nat) (i : Int), i < n → 0 ≤ i → i < l.length → (way l i)[0]? = some 0 ∧ (way l i)[(way l i).length - 1]? = some i ∧ 1 ≤ (way l i).length ∧
    ∀ (k : Nat) (e : Int), (way l i)[k + 1]? = some e → 1 ≤ e ∧ ∃ x : Element, l[e.toNat]? = some x ∧ (way l i)[k]? = some x.Parent := by
  intro n
  induction n with
  | zero => intro i h1 h2; omega
  | succ n ih =>
    intro i h1 h2 h3
    have hx : l[i.toNat]? = some l[i.toNat] := List.getElem?_eq_getElem (by omega)
    generalize l[i.toNat] = x at hx
    have hel := h.el hx
    rw [way_at h h2 hx]
    by_cases h0 : i = 0
    · subst h0
      have := (hel.1 rfl).2.1
      rw [this, way_neg (by decide)]
      refine ⟨rfl, rfl, by simp, fun k e he => by simp at he⟩
    · have hp := (hel.2 (by omega)).2.2
      obtain ⟨a1, a2, a3, a4⟩ := ih x.Parent (by omega) hp.1 (by omega)
      refine ⟨by rw [List.getElem?_append_left (by omega)]; exact a1, by simp, by simp, fun k e he => ?_⟩
      rcases Nat.lt_or_ge (k + 1) (way l x.Parent).length with hk | hk
      · rw [List.getElem?_append_left hk] at he
        rw [List.getElem?_append_left (by omega)]
        exact a4 k e he
      · rcases get_app he with he | ⟨e1, rfl⟩
        · rw [List.getElem?_eq_none hk] at he; cases he
        · refine ⟨by omega, x, hx, ?_⟩
          rw [List.getElem?_append_left (by omega)]
          rw [← e1] at a2
          exact a2

theorem Made.vl {l : List Element} {n : Nat} (h : Made l n) (hn : n ≤ 12) : VL l := lE_ok (h.lE hn)
/-- A track. -/
abbrev IsT (l : List Element) (t : Int) : Prop := 0 ≤ t ∧ ∃ x : Element, l[t.toNat]? = some x ∧ x.Kind = 4
end Go.Hy
