/-
  What occupancy.Clear answers, and the statement on it.
-/
import Derived.Test.YtjeegociagchnaaPGen
namespace Go.Hy
set_option linter.unusedVariables false
set_option linter.unusedSimpArgs false
set_option maxHeartbeats 2000000
set_option maxRecDepth 10000

/-- The lengths of the first pieces, added up. -/
def psum (l : List Piece) (k : Nat) : Int := ((l.take k).map (·.Length)).sum
theorem psum_zero (l : List Piece) : psum l 0 = 0 := rfl
theorem psum_succ {l : List Piece} {k : Nat} {a : Piece} (h : l[k]? = some a) : psum l (k + 1) = psum l k + a.Length := by
  unfold psum
  have hk : k < l.length := (List.getElem?_eq_some_iff.1 h).1
  have ha : l[k] = a := (List.getElem?_eq_some_iff.1 h).2
  rw [List.take_succ_eq_append_getElem hk, List.map_append, List.sum_append, ha]
  simp
theorem psum_le {l : List Piece} (h : ∀ p ∈ l, 0 ≤ p.Length) {i j : Nat} (hij : i ≤ j) : psum l i ≤ psum l j := by
  induction j with
  | zero => obtain rfl : i = 0 := by omega
            exact Int.le_refl _
  | succ j ih =>
    by_cases e : i = j + 1
    · subst e; exact Int.le_refl _
    · rcases Nat.lt_or_ge j l.length with hj | hj
      · have h1 := psum_succ (List.getElem?_eq_getElem hj)
        have h2 := h _ (List.getElem_mem hj)
        have := ih (by omega)
        omega
      · have : psum l (j + 1) = psum l j := by unfold psum; rw [List.take_of_length_le (by omega), List.take_of_length_le (by omega)]
        rw [this]; exact ih (by omega)
theorem psum_bd {l : List Piece} (h : ∀ p ∈ l, 0 ≤ p.Length ∧ p.Length ≤ 1000000) (k : Nat) : 0 ≤ psum l k ∧ psum l k ≤ 1000000 * k := by
  induction k with
  | zero => simp [psum]
  | succ k ih =>
    rcases Nat.lt_or_ge k l.length with hk | hk
    · have h1 := psum_succ (List.getElem?_eq_getElem hk)
      have h2 := h _ (List.getElem_mem hk)
      omega
    · have : psum l (k + 1) = psum l k := by unfold psum; rw [List.take_of_length_le (by omega), List.take_of_length_le (by omega)]
      omega
/-- The answer of Clear: the least piece up to which the pieces behind i are long enough. -/
structure ClearAt (l : List Piece) (i len v : Int) : Prop where
  neg : v < 0 → v = -1 ∧ psum l l.length - psum l (i.toNat + 1) < len
  pos : 0 ≤ v → i ≤ v ∧ v < l.length ∧ len ≤ psum l (v.toNat + 1) - psum l (i.toNat + 1) ∧ ∀ m, i.toNat ≤ m → m < v.toNat → psum l (m + 1) - psum l (i.toNat + 1) < len
theorem mem_at {α : Type} {l : List α} {i : Nat} {a : α} (h : l[i]? = some a) : a ∈ l := List.mem_of_getElem? h
theorem Clear_ok {l : List Piece} {i len : Int} (hl : ∀ p ∈ l, 1 ≤ p.Length ∧ p.Length ≤ 1000000) (hn : l.length ≤ 1000000000) (hi : 0 ≤ i ∧ i < l.length) (hlen : 0 ≤ len ∧ len ≤ 1000000) :
    Ok (occupancy_Clear l i len) (ClearAt l i len) := by
  have hb := psum_bd (l := l) (fun p hp => by have := hl p hp; omega)
  unfold occupancy_Clear
  refine ok_if0 (by omega) (ok_if0 (by omega) (ok_if0 (by omega) (ok_if0 (by omega) ?_)))
  refine ok_jp (fun _ => True) (fun _ _ => ?_) (fun k hk => ?_)
  · refine ok_lp (fun (z : Int × Int) => i ≤ z.1 ∧ z.1 < l.length ∧ z.2 = psum l (z.1.toNat + 1) - psum l (i.toNat + 1) ∧ ∀ m, i.toNat ≤ m → m < z.1.toNat → psum l (m + 1) - psum l (i.toNat + 1) < len) (fun z => ((l.length : Int) - z.1).toNat) ?_ ?_ ?_
    · exact ⟨by dsimp only; omega, by dsimp only; omega, by dsimp only; omega, fun m h1 h2 => by dsimp only at h2; omega⟩
    · simp only [big_eq]; omega
    rintro ⟨j, s⟩ next ⟨j0, j1, j2, j3⟩ hnext
    dsimp only at j0 j1 j2 j3 ⊢
    have hw : w64 (j + 1) = j + 1 := w64_eq (by omega)
    have hbj := hb (j.toNat + 1)
    have hbj1 := hb (j.toNat + 1 + 1)
    have hbi := hb (i.toNat + 1)
    have hbl := hb l.length
    refine ok_if (fun h => ?_) (fun h => ?_)
    · rw [hw]
      refine ok_if (fun h1 => ok_some ⟨fun _ => ⟨rfl, ?_⟩, fun h => by omega⟩) (fun h1 => ?_)
      · have : j.toNat + 1 = l.length := by omega
        rw [this] at j2; omega
      · refine ok_ix (by omega) (by omega) fun a ha => ?_
        have e : (j + 1).toNat = j.toNat + 1 := by omega
        rw [e] at ha
        have hs := psum_succ ha
        have hla := hl a (mem_at ha)
        rw [w64_eq (by omega)]
        refine hnext _ ⟨by dsimp only; omega, by dsimp only; omega, by dsimp only; rw [e]; omega, fun m h1 h2 => ?_⟩ (by dsimp only; omega)
        dsimp only at h2
        by_cases em : m = j.toNat
        · subst em; omega
        · exact j3 m h1 (by omega)
    · exact ok_some ⟨fun h => by omega, fun _ => ⟨j0, j1, by omega, j3⟩⟩
  · refine ok_lp (fun (z : Int) => 0 ≤ z) (fun z => ((l.length : Int) - z).toNat) (Int.le_refl 0) (by simp only [big_eq]; omega) ?_
    intro z next z0 hnext
    refine ok_if (fun h => ok_ix z0 h fun a ha => ?_) (fun _ => hk _ trivial)
    have := hl a (mem_at ha)
    refine ok_if0 (by omega) (ok_if0 (by omega) ?_)
    rw [w64_eq (by omega)]
    exact hnext _ (by omega) (by omega)
theorem sane22 : law22_sane = some true := by kernel_rfl
theorem Clears_ok {t : List Int} (ht : t.length ≤ 9223372036854775807) (i len : Int) : law22_OccupancyClears t i len = some true := by
  refine Ok.eq (?_ : Ok _ _)
  unfold law22_OccupancyClears
  refine ok_bde (gen_New_ok t) ?_
  refine ok_bd (Pieces_ok (n := 9) (Mk0 ht (by decide)) (by omega)) fun v ⟨⟨⟨n0, n1⟩, hp⟩, hp2, _, _⟩ => ?_
  obtain ⟨l, c⟩ := v
  dsimp only at n0 n1 hp hp2 ⊢
  refine ok_bd (Place_ok (by omega)) fun i hi => ?_
  refine ok_bd (Place_ok (by omega)) fun len hlen => ?_
  have hl : ∀ p ∈ l, 1 ≤ p.Length ∧ p.Length ≤ 1000000 := fun p h => (hp p h).l
  have hb := psum_bd (l := l) (fun p h => by have := hl p h; omega)
  refine ok_bd (Clear_ok hl (by omega) hi (by omega)) fun j hj => ?_
  have hj0 : -1 ≤ j ∧ j < l.length := by
    rcases Int.lt_or_le j 0 with h | h
    · have := (hj.neg h).1; omega
    · have := (hj.pos h); omega
  refine ok_jp (fun s => if j < 0 then s = psum l l.length - psum l (i.toNat + 1) else s = psum l (j.toNat + 1) - psum l (i.toNat + 1)) (fun s hs => ?_) (fun k hk => ?_)
  · refine ok_if (fun h => ?_) (fun h => ?_)
    · rw [if_pos h] at hs
      have := (hj.neg h).2
      refine ok_if1 (by omega) (ok_bde sane22 (ok_some rfl))
    · rw [if_neg h] at hs
      have := hj.pos (by omega)
      refine ok_if1 (by omega) (ok_if1 (by omega) (ok_if1 (by omega) (ok_bde sane22 (ok_some rfl))))
  · rw [w64_eq (by omega)]
    refine ok_lp (fun (z : Int × Int) => i + 1 ≤ z.2 ∧ z.2 ≤ l.length ∧ (0 ≤ j → z.2 ≤ j + 1) ∧ z.1 = psum l z.2.toNat - psum l (i.toNat + 1)) (fun z => ((l.length : Int) - z.2).toNat) ?_ ?_ ?_
    · exact ⟨by dsimp only; omega, by dsimp only; omega, fun h => by have := hj.pos h; dsimp only; omega, by
        have : (i + 1).toNat = i.toNat + 1 := by omega
        dsimp only; rw [this]; omega⟩
    · simp only [big_eq]; omega
    rintro ⟨s, m⟩ next ⟨m0, m1, m2, m3⟩ hnext
    dsimp only at m0 m1 m2 m3 ⊢
    have hbm := hb m.toNat
    have hbi := hb (i.toNat + 1)
    have hend : (j < 0 → m = l.length) → (0 ≤ j → m = j + 1) → Ok (k s) (fun b => b = true) := fun h1 h2 => hk s (by
      by_cases h : j < 0
      · rw [if_pos h, m3, h1 h]; simp
      · rw [if_neg h, m3, h2 (by omega)]
        have : (j + 1).toNat = j.toNat + 1 := by omega
        rw [this])
    refine ok_if (fun h => ?_) (fun h => hend (fun _ => by omega) (fun hj0 => by have := m2 hj0; have := hj.pos hj0; omega))
    refine ok_jp (fun _ => 0 ≤ j → m ≤ j) (fun _ hmj => ?_) (fun k2 hk2 => ?_)
    · refine ok_jp (fun _ => True) (fun _ _ => ?_) (fun k3 hk3 => ?_)
      · refine ok_ix (by omega) h fun a ha => ?_
        have hs := psum_succ ha
        have hla := hl a (mem_at ha)
        have hw : w64 (m + 1) = m + 1 := w64_eq (by omega)
        rw [hw, w64_eq (by omega)]
        have e : (m + 1).toNat = m.toNat + 1 := by omega
        exact hnext _ ⟨by dsimp only; omega, by dsimp only; omega, fun h0 => by have := hmj h0; dsimp only; omega, by dsimp only; rw [e]; omega⟩ (by dsimp only; omega)
      · refine ok_if (fun h1 => ?_) (fun _ => hk3 _ trivial)
        refine ok_if (fun h2 => ?_) (fun _ => hk3 _ trivial)
        exfalso
        have hp := hj.pos (by omega)
        rcases Int.lt_or_le (i + 1) m with hm | hm
        · have := hp.2.2.2 (m - 1).toNat (by omega) (by omega)
          have e : (m - 1).toNat + 1 = m.toNat := by omega
          rw [e] at this
          omega
        · obtain rfl : m = i + 1 := by omega
          have e : (i + 1).toNat = i.toNat + 1 := by omega
          rw [e] at m3
          have := hp.2.2.2 i.toNat (by omega) (by omega)
          omega
    · refine ok_if (fun h1 => ?_) (fun h1 => hk2 _ (fun h => by omega))
      refine ok_if (fun h2 => hend (fun h => by omega) (fun _ => ?_)) (fun h2 => hk2 _ (fun _ => by omega))
      have := m2 h1
      omega
end Go.Hy
