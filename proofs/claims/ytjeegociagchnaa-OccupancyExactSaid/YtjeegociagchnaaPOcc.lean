/-
  What the functions of occupancy answer, and those of its reference: the same.
-/
import Derived.Test.YtjeegociagchnaaPWay
import Derived.Test.YtjeegociagchnaaPRef
import Derived.Test.YtjeegociagchnaaPPiece
namespace Go.Hy
set_option linter.unusedVariables false
set_option linter.unusedSimpArgs false
set_option maxHeartbeats 2000000
set_option maxRecDepth 10000
open Go.Hy.Iv

theorem sane22 : law22_sane = some true := by kernel_rfl

/-! ### Approach -/
def setL (ps : List Piece) (n : Int) : List Piece := match ps[ps.length - 1]? with
  | none => ps
  | some x => ps.set (ps.length - 1) ⟨x.Element, n, x.Grade, x.Curve, x.Power⟩
def apE (ps : List Piece) (n : Int) : List Piece × Int :=
  if vE ps ≠ 0 then ([], vE ps) else if n < 1 ∨ 1000000 < n then ([], 2) else match ps[ps.length - 1]? with
    | none => ([], 0)
    | some x => if x.Length < n then ([], 14) else (setL ps n, 0)
theorem Approach_e {ps : List Piece} {n : Int} : occupancy_Approach ps n = some (apE ps n) := by
  refine Ok.eq (?_ : Ok _ _)
  unfold occupancy_Approach apE
  refine ok_bde PValid_e (ok_if (fun h => ok_some (by rw [if_pos h])) (fun h => ?_))
  rw [if_neg h]
  have hl := (vE_ok (Decidable.not_not.1 h)).len
  refine ok_if (fun q => ok_some (by rw [if_pos (by omega)])) (fun q1 => ok_if (fun q => ok_some (by rw [if_pos (by omega)])) (fun q2 => ?_))
  rw [if_neg (by omega), w64_eq (by omega)]
  have e : ((ps.length : Int) - 1).toNat = ps.length - 1 := by omega
  refine ok_ix (by omega) (by omega) fun x hx => ?_
  rw [e] at hx
  rw [hx]
  dsimp only
  refine ok_if (fun q => ok_some (by rw [if_pos q])) (fun q => ?_)
  rw [if_neg q]
  refine ok_ck (by simp only [List.length_nil]; omega) (ok_vl fun y hy => ?_)
  rw [List.nil_append] at hy
  subst hy
  refine ok_ixe (by omega) (by rw [e]; exact hx) (ok_vl fun z hz => ok_some ?_)
  rw [hz, e]
  unfold setL
  rw [hx]
theorem rApproach_e {ps : List Piece} {n : Int} : r22_Approach ps n = some (apE ps n) := by
  refine Ok.eq (?_ : Ok _ _)
  unfold r22_Approach apE
  refine ok_bde r20Valid_e (ok_if (fun h => ok_some (by rw [if_pos h])) (fun h => ?_))
  rw [if_neg h]
  have hl := (vE_ok (Decidable.not_not.1 h)).len
  refine ok_if (fun q => ok_some (by rw [if_pos (by omega)])) (fun q1 => ok_if (fun q => ok_some (by rw [if_pos (by omega)])) (fun q2 => ?_))
  rw [if_neg (by omega), w64_eq (by omega)]
  have e : ((ps.length : Int) - 1).toNat = ps.length - 1 := by omega
  refine ok_ix (by omega) (by omega) fun x hx => ?_
  rw [e] at hx
  rw [hx]
  dsimp only
  refine ok_if (fun q => ok_some (by rw [if_pos q])) (fun q => ?_)
  rw [if_neg q]
  refine ok_ck (by simp only [List.length_nil]; omega) (ok_vl fun y hy => ?_)
  rw [List.nil_append] at hy
  subst hy
  refine ok_ixe (by omega) (by rw [e]; exact hx) (ok_vl fun z hz => ok_some ?_)
  rw [hz, e]
  unfold setL
  rw [hx]

/-! ### Clear -/
def clN (ps : List Piece) (n : Int) : Nat → Int → Int → Int
  | 0, _, _ => -1
  | f + 1, j, s => if n ≤ s then j else match ps[(j + 1).toNat]? with
    | none => -1
    | some p => clN ps n f (j + 1) (s + p.Length)
def clr (ps : List Piece) (i n : Int) : Int := clN ps n (ps.length + 1) i 0
def lB (p : Piece) : Bool := decide (1 ≤ p.Length ∧ p.Length ≤ 1000000)
def clE (ps : List Piece) (i n : Int) : Int := if 0 ≤ i ∧ i < ps.length ∧ 0 ≤ n ∧ n ≤ 1000000 ∧ ps.all lB = true then clr ps i n else -1
theorem clN_more {ps : List Piece} {n : Int} : ∀ (f g : Nat) (j s : Int), 0 ≤ j → (ps.length : Int) ≤ f + j → (ps.length : Int) ≤ g + j → 1 ≤ f → 1 ≤ g → clN ps n f j s = clN ps n g j s := by
  intro f
  induction f with
  | zero => intro g j s h0 h1 h2 h3; omega
  | succ f ih =>
    intro g j s h0 h1 h2 _ h4
    obtain ⟨g, rfl⟩ : ∃ g', g = g' + 1 := ⟨g - 1, by omega⟩
    unfold clN
    by_cases h : n ≤ s
    · rw [if_pos h, if_pos h]
    · rw [if_neg h, if_neg h]
      cases hx : ps[(j + 1).toNat]? with
      | none => rfl
      | some p =>
        dsimp only
        have := sc_lt hx
        exact ih g (j + 1) _ (by omega) (by omega) (by omega) (by omega) (by omega)
theorem Clear_e {ps : List Piece} {i n : Int} (hl : ps.length ≤ 1000000000) : occupancy_Clear ps i n = some (clE ps i n) := by
  refine Ok.eq (?_ : Ok _ _)
  unfold occupancy_Clear clE
  refine ok_if (fun q => ok_some (by rw [if_neg (by omega)])) (fun q1 => ok_if (fun q => ok_some (by rw [if_neg (by omega)])) (fun q2 => ok_if (fun q => ok_some (by rw [if_neg (by omega)])) (fun q3 => ok_if (fun q => ok_some (by rw [if_neg (by omega)])) (fun q4 => ?_))))
  refine ok_jp (fun _ => ps.all lB = true) (fun _ ha => ?_) (fun k hk => ?_)
  rotate_left
  · refine ok_lp (fun (z : Int) => Scan lB ps z) (fun z => ((ps.length : Int) - z).toNat) Scan.zero (by simp only [big_eq]; omega) ?_
    intro z next hz hn
    have z0 := hz.1
    refine ok_if (fun h => ok_ix z0 h fun a ha => ?_) (fun h => hk _ (hz.done h))
    have bad : lB a = false → Ok (some (-1 : Int)) (fun v => v = if 0 ≤ i ∧ i < ps.length ∧ 0 ≤ n ∧ n ≤ 1000000 ∧ ps.all lB = true then clr ps i n else -1) := fun h => ok_some (by rw [if_neg (by rw [scan_no ha h]; simp)])
    refine ok_if (fun q => bad (decide_eq_false (by omega))) (fun q5 => ok_if (fun q => bad (decide_eq_false (by omega))) (fun q6 => ?_))
    rw [w64_eq (by omega)]
    exact hn _ (hz.step ha (decide_eq_true (by omega))) (by omega)
  rw [if_pos ⟨by omega, by omega, by omega, by omega, ha⟩]
  rw [List.all_eq_true] at ha
  refine ok_lp (fun (z : Int × Int) => i ≤ z.1 ∧ z.1 < ps.length ∧ 0 ≤ z.2 ∧ z.2 ≤ 2000000 ∧ clN ps n (ps.length + 1) z.1 z.2 = clr ps i n) (fun z => ((ps.length : Int) - z.1).toNat) ⟨by dsimp only; omega, by dsimp only; omega, by dsimp only; omega, by dsimp only; omega, rfl⟩ (by simp only [big_eq]; omega) ?_
  rintro ⟨j, s⟩ next ⟨j0, j1, s0, s1, hc⟩ hn
  dsimp only at j0 j1 s0 s1 hc ⊢
  rw [w64_eq (n := j + 1) (by omega)]
  have hce := hc
  unfold clN at hc
  refine ok_if (fun h => ?_) (fun h => ok_some (by rw [if_pos (by omega)] at hc; exact hc))
  rw [if_neg (by omega)] at hc
  refine ok_if (fun h1 => ok_some ?_) (fun h1 => ok_ix (by omega) (by omega) fun p hp => ?_)
  · rw [List.getElem?_eq_none (by omega)] at hc
    exact hc
  rw [hp] at hc
  dsimp only at hc
  have hpl := of_decide_eq_true (ha p (sc_mem hp))
  rw [w64_eq (n := s + p.Length) (by omega)]
  refine hn _ ⟨by dsimp only; omega, by dsimp only; omega, by dsimp only; omega, by dsimp only; omega, ?_⟩ (by dsimp only; omega)
  dsimp only
  rw [← hc]
  exact clN_more _ _ _ _ (by omega) (by omega) (by omega) (by omega) (by omega)
theorem rClear_e {ps : List Piece} {i n : Int} (hl : ps.length ≤ 1000000000) : r22_Clear ps i n = some (clE ps i n) := by
  refine Ok.eq (?_ : Ok _ _)
  unfold r22_Clear clE
  refine ok_if (fun q => ok_some (by rw [if_neg (by omega)])) (fun q1 => ok_if (fun q => ok_some (by rw [if_neg (by omega)])) (fun q2 => ok_if (fun q => ok_some (by rw [if_neg (by omega)])) (fun q3 => ok_if (fun q => ok_some (by rw [if_neg (by omega)])) (fun q4 => ?_))))
  refine ok_jp (fun _ => ps.all lB = true) (fun _ ha => ?_) (fun k hk => ?_)
  rotate_left
  · refine ok_lp (fun (z : Int) => Scan lB ps z) (fun z => ((ps.length : Int) - z).toNat) Scan.zero (by simp only [big_eq]; omega) ?_
    intro z next hz hn
    have z0 := hz.1
    refine ok_if (fun h => ok_ix z0 h fun a ha => ?_) (fun h => hk _ (hz.done h))
    have bad : lB a = false → Ok (some (-1 : Int)) (fun v => v = if 0 ≤ i ∧ i < ps.length ∧ 0 ≤ n ∧ n ≤ 1000000 ∧ ps.all lB = true then clr ps i n else -1) := fun h => ok_some (by rw [if_neg (by rw [scan_no ha h]; simp)])
    refine ok_if (fun q => bad (decide_eq_false (by omega))) (fun q5 => ok_ixe z0 ha (ok_if (fun q => bad (decide_eq_false (by omega))) (fun q6 => ?_)))
    rw [w64_eq (by omega)]
    exact hn _ (hz.step ha (decide_eq_true (by omega))) (by omega)
  rw [if_pos ⟨by omega, by omega, by omega, by omega, ha⟩]
  rw [List.all_eq_true] at ha
  refine ok_lp (fun (z : Int × Int) => i ≤ z.2 ∧ z.2 ≤ ps.length ∧ 0 ≤ z.1 ∧ z.1 ≤ 2000000 ∧ (z.2 = i → z.1 = 0) ∧ (i < z.2 → z.1 < n ∧ clN ps n (ps.length + 1) (z.2 - 1) z.1 = clr ps i n)) (fun z => ((ps.length : Int) - z.2).toNat) ⟨by dsimp only; omega, by dsimp only; omega, by dsimp only; omega, by dsimp only; omega, fun _ => rfl, fun h => by dsimp only at h; omega⟩ (by simp only [big_eq]; omega) ?_
  rintro ⟨s, j⟩ next ⟨j0, j1, s0, s1, hz, hc⟩ hn
  dsimp only at j0 j1 s0 s1 hz hc ⊢
  rw [w64_eq (n := j + 1) (by omega)]
  refine ok_if (fun h => ?_) (fun h => ok_some ?_)
  rotate_left
  · obtain ⟨c1, c2⟩ := hc (by omega)
    unfold clN at c2
    rw [if_neg (by omega), List.getElem?_eq_none (by omega)] at c2
    exact c2
  refine ok_if (fun h1 => ok_ix (by omega) h fun p hp => ?_) (fun h1 => ?_)
  · obtain ⟨c1, c2⟩ := hc h1
    unfold clN at c2
    have ej : j - 1 + 1 = j := by omega
    rw [if_neg (by omega), ej, hp] at c2
    dsimp only at c2
    have hpl := of_decide_eq_true (ha p (sc_mem hp))
    rw [w64_eq (n := s + p.Length) (by omega)]
    have c3 : clN ps n (ps.length + 1) j (s + p.Length) = clr ps i n := by
      rw [← c2]
      exact clN_more _ _ _ _ (by omega) (by omega) (by omega) (by omega) (by omega)
    refine ok_if (fun h2 => ok_some ?_) (fun h2 => ?_)
    · unfold clN at c3; rw [if_pos h2] at c3; exact c3
    · refine hn _ ⟨by dsimp only; omega, by dsimp only; omega, by dsimp only; omega, by dsimp only; omega, fun h => by dsimp only at h; omega, fun _ => ⟨by dsimp only; omega, ?_⟩⟩ (by dsimp only; omega)
      dsimp only
      rw [show j + 1 - 1 = j from by omega]
      exact c3
  · have eji : j = i := by omega
    have es := hz eji
    refine ok_if (fun h2 => ok_some ?_) (fun h2 => ?_)
    · unfold clr clN; rw [if_pos (by omega)]; exact eji
    · refine hn _ ⟨by dsimp only; omega, by dsimp only; omega, by dsimp only; omega, by dsimp only; omega, fun h => by dsimp only at h; omega, fun _ => ⟨by dsimp only; omega, ?_⟩⟩ (by dsimp only; omega)
      dsimp only
      rw [show j + 1 - 1 = j from by omega, es, eji]
      rfl
theorem clN_rng {ps : List Piece} {n : Int} : ∀ (f : Nat) (j s : Int), 0 ≤ j → j < ps.length → clN ps n f j s = -1 ∨ (j ≤ clN ps n f j s ∧ clN ps n f j s < ps.length) := by
  intro f
  induction f with
  | zero => intro j s _ _; left; rfl
  | succ f ih =>
    intro j s h0 h1
    unfold clN
    by_cases h : n ≤ s
    · rw [if_pos h]; right; omega
    · rw [if_neg h]
      cases hx : ps[(j + 1).toNat]? with
      | none => left; rfl
      | some p =>
        dsimp only
        have := sc_lt hx
        rcases ih (j + 1) (s + p.Length) (by omega) (by omega) with h | h
        · exact .inl h
        · right; omega
theorem PsOk.lb {ps : List Piece} (h : PsOk ps) : ps.all lB = true := by
  rw [List.all_eq_true]
  exact fun p hp => decide_eq_true (h.ok p hp).l
theorem clE_eq {ps : List Piece} {i n : Int} (hp : PsOk ps) (hi : 0 ≤ i ∧ i < ps.length) (hn : 0 ≤ n ∧ n ≤ 1000000) : clE ps i n = clr ps i n := by
  unfold clE; rw [if_pos ⟨hi.1, hi.2, hn.1, hn.2, hp.lb⟩]
theorem clr_rng {ps : List Piece} {i n : Int} (hi : 0 ≤ i ∧ i < ps.length) : clr ps i n = -1 ∨ (i ≤ clr ps i n ∧ clr ps i n < ps.length) := clN_rng _ i 0 hi.1 hi.2

/-! ### The check -/
def bhs (ps : List Piece) (n : Int) : List Int := (List.range (ps.length - 1)).map fun (i : Nat) => clr ps i n
def inB (l : List Element) (p : Piece) : Bool := decide (p.Element < l.length)
def nnB (v : Int) : Bool := decide (0 ≤ v)
def bE (l : List Element) (ps : List Piece) (ok : Bool) (n : Int) : Int :=
  if vE ps ≠ 0 then vE ps else if n < 1 ∨ 1000000 < n then 2 else if ok = true ∧ ps.all (inB l) = true then (if (bhs ps n).all nnB = true then 0 else 14) else 1
theorem bhs_get {ps : List Piece} {n : Int} {i : Nat} (h : i + 1 < ps.length) : (bhs ps n)[i]? = some (clr ps i n) := by
  unfold bhs
  rw [List.getElem?_map, List.getElem?_range (by omega)]
  rfl
theorem bhs_len {ps : List Piece} {n : Int} : (bhs ps n).length = ps.length - 1 := by unfold bhs; simp
theorem behind_e {l : List Element} {ps : List Piece} {pts least n : Int} : occupancy_behind l ps pts least n = some (if bE l ps (decide (least ≤ pts ∧ pts ≤ ps.length + 1)) n ≠ 0 then ([], bE l ps (decide (least ≤ pts ∧ pts ≤ ps.length + 1)) n) else (bhs ps n, 0)) := by
  refine Ok.eq (?_ : Ok _ _)
  generalize hE : bE l ps (decide (least ≤ pts ∧ pts ≤ ps.length + 1)) n = E
  unfold bE at hE
  unfold occupancy_behind
  refine ok_bde PValid_e (ok_if (fun h => ok_some ?_) (fun h => ?_))
  · rw [if_pos h] at hE; rw [← hE, if_pos h]
  rw [if_neg h] at hE
  have hp := vE_ok (Decidable.not_not.1 h)
  have hl := hp.len
  have e2 : n < 1 ∨ 1000000 < n → Ok (some (([] : List Int), (2 : Int))) (fun v => v = if E ≠ 0 then ([], E) else (bhs ps n, 0)) := fun h => ok_some (by rw [if_pos h] at hE; rw [← hE]; rfl)
  refine ok_if (fun q => e2 (by omega)) (fun q1 => ok_if (fun q => e2 (by omega)) (fun q2 => ?_))
  rw [if_neg (by omega)] at hE
  have e1 : ¬ (decide (least ≤ pts ∧ pts ≤ (ps.length : Int) + 1) = true ∧ ps.all (inB l) = true) → Ok (some (([] : List Int), (1 : Int))) (fun v => v = if E ≠ 0 then ([], E) else (bhs ps n, 0)) := fun h => ok_some (by rw [if_neg h] at hE; rw [← hE]; rfl)
  rw [w64_eq (n := (ps.length : Int) + 1) (by omega)]
  refine ok_if (fun q => e1 (fun hh => by have := of_decide_eq_true hh.1; omega)) (fun q3 => ok_if (fun q => e1 (fun hh => by have := of_decide_eq_true hh.1; omega)) (fun q4 => ?_))
  refine ok_jp (fun _ => ps.all (inB l) = true) (fun _ ha => ?_) (fun k hk => ?_)
  rotate_left
  · refine ok_lp (fun (z : Int) => Scan (inB l) ps z) (fun z => ((ps.length : Int) - z).toNat) Scan.zero (by simp only [big_eq]; omega) ?_
    intro z next hz hn
    have z0 := hz.1
    refine ok_if (fun h => ok_ix z0 h fun a ha => ?_) (fun h => hk _ (hz.done h))
    have hae := (hp.ok a (sc_mem ha)).e
    refine ok_if0 (by omega) (ok_if (fun q => e1 (fun hh => by rw [scan_no ha (decide_eq_false (by omega))] at hh; cases hh.2)) (fun q => ?_))
    rw [w64_eq (by omega)]
    exact hn _ (hz.step ha (decide_eq_true (by omega))) (by omega)
  rw [if_pos ⟨decide_eq_true (by omega), ha⟩] at hE
  refine ok_lp (fun (z : List Int × Int) => 0 ≤ z.2 ∧ z.2 ≤ ps.length - 1 ∧ z.1 = (bhs ps n).take z.2.toNat ∧ ((bhs ps n).take z.2.toNat).all nnB = true) (fun z => ((ps.length : Int) - z.2).toNat) ⟨Int.le_refl 0, by dsimp only; omega, by simp, by simp⟩ (by simp only [big_eq]; omega) ?_
  rintro ⟨out, i⟩ next ⟨i0, i1, ho, hnn⟩ hn
  dsimp only at i0 i1 ho hnn ⊢
  have hbl := bhs_len (ps := ps) (n := n)
  rw [w64_eq (n := i + 1) (by omega)]
  refine ok_if (fun hi => ?_) (fun hi => ok_some ?_)
  rotate_left
  · rw [List.take_of_length_le (by omega)] at ho hnn
    rw [if_pos hnn] at hE
    rw [← hE, ho]
    rfl
  have hg := bhs_get (ps := ps) (n := n) (i := i.toNat) (by omega)
  rw [show ((i.toNat : Nat) : Int) = i from by omega] at hg
  refine ok_bde (Clear_e (by omega)) ?_
  rw [clE_eq hp (by omega) (by omega)]
  refine ok_if (fun hc => ok_some ?_) (fun hc => ?_)
  · have : ¬ (bhs ps n).all nnB = true := fun hh => by
      rw [scan_no hg (decide_eq_false (by omega))] at hh; cases hh
    rw [if_neg this] at hE
    rw [← hE]
    rfl
  · refine ok_ck (by rw [ho]; simp only [List.length_take, List.length_cons, List.length_nil]; omega) (ok_vl fun y hy => ?_)
    have ei : (i + 1).toNat = i.toNat + 1 := by omega
    refine hn _ ⟨by dsimp only; omega, by dsimp only; omega, by dsimp only; rw [hy, ei, sc_take hg, ho], ?_⟩ (by dsimp only; omega)
    dsimp only
    rw [ei, sc_take hg, List.all_append, hnn]
    simp only [List.all_cons, List.all_nil, Bool.and_true, Bool.true_and]
    exact decide_eq_true (by omega)
theorem rcheck_e {l : List Element} {ps : List Piece} {ok : Bool} {n : Int} : r22_check l ps ok n = some (bE l ps ok n) := by
  refine Ok.eq (?_ : Ok _ _)
  unfold r22_check bE
  refine ok_bde r20Valid_e (ok_if (fun h => ok_some (by rw [if_pos h])) (fun h => ?_))
  rw [if_neg h]
  have hp := vE_ok (Decidable.not_not.1 h)
  have hl := hp.len
  refine ok_if (fun q => ok_some (by rw [if_pos (by omega)])) (fun q1 => ok_if (fun q => ok_some (by rw [if_pos (by omega)])) (fun q2 => ?_))
  rw [if_neg (by omega)]
  refine ok_jp (fun (b : Bool) => b = true ↔ (ok = true ∧ ps.all (inB l) = true)) (fun b hb => ?_) (fun k hk => ?_)
  rotate_left
  · refine ok_lp (fun (y : Bool × Int) => 0 ≤ y.2 ∧ (y.1 = true ↔ ok = true ∧ (ps.take y.2.toNat).all (inB l) = true)) (fun y => ((ps.length : Int) - y.2).toNat) ⟨Int.le_refl 0, by simp⟩ (by simp only [big_eq]; omega) ?_
    rintro ⟨b, i⟩ next ⟨i0, hb⟩ hn
    dsimp only at i0 hb ⊢
    refine ok_if (fun hi => ?_) (fun hi => ?_)
    rotate_left
    · rw [List.take_of_length_le (by omega)] at hb
      exact hk _ hb
    rw [w64_eq (by omega)]
    have hii : i.toNat < ps.length := by omega
    have ha := List.getElem?_eq_getElem hii
    generalize ps[i.toNat] = a at ha
    have ei : (i + 1).toNat = i.toNat + 1 := by omega
    have nx : ∀ c : Bool, (c = true ↔ b = true ∧ inB l a = true) → Ok (next (c, i + 1)) (fun v => v = if ok = true ∧ ps.all (inB l) = true then (if (bhs ps n).all nnB = true then 0 else 14) else 1) := fun c hc => hn _ ⟨by dsimp only; omega, by
      dsimp only
      rw [hc, hb, ei, sc_take ha, List.all_append]
      simp [and_assoc]⟩ (by dsimp only; omega)
    refine ok_b (fun h => ok_ixe i0 ha (nx _ ?_)) (fun h => nx _ ?_)
    · unfold inB; simp [h]
    · simp [h]
  refine ok_nb (fun h => ok_some ?_) (fun h => ?_)
  · rw [if_neg]
    intro hh
    rw [hb.2 hh] at h; cases h
  rw [if_pos (hb.1 h)]
  refine ok_lp (fun (z : Int) => 0 ≤ z ∧ z ≤ ps.length - 1 ∧ ((bhs ps n).take z.toNat).all nnB = true) (fun z => ((ps.length : Int) - z).toNat) ⟨Int.le_refl 0, by omega, by simp⟩ (by simp only [big_eq]; omega) ?_
  intro i next ⟨i0, i1, hnn⟩ hn
  have hbl := bhs_len (ps := ps) (n := n)
  rw [w64_eq (n := i + 1) (by omega)]
  refine ok_if (fun hi => ?_) (fun hi => ok_some ?_)
  rotate_left
  · rw [List.take_of_length_le (by omega)] at hnn
    rw [if_pos hnn]
  have hg := bhs_get (ps := ps) (n := n) (i := i.toNat) (by omega)
  rw [show ((i.toNat : Nat) : Int) = i from by omega] at hg
  refine ok_bde (rClear_e (by omega)) ?_
  rw [clE_eq hp (by omega) (by omega)]
  refine ok_if (fun hc => ok_some ?_) (fun hc => ?_)
  · rw [if_neg]
    intro hh
    rw [scan_no hg (decide_eq_false (by omega))] at hh; cases hh
  · have ei : (i + 1).toNat = i.toNat + 1 := by omega
    refine hn _ ⟨by omega, by omega, ?_⟩ (by omega)
    rw [ei, sc_take hg, List.all_append, hnn]
    simp only [List.all_cons, List.all_nil, Bool.and_true, Bool.true_and]
    exact decide_eq_true (by omega)

/-! ### Spans -/
def sdOf (l : List Element) (ps : List Piece) (i : Nat) : Int := match ps[i]? with
  | none => 0
  | some p => match l[p.Element.toNat]? with
    | none => 0
    | some x => if x.Kind = 3 then (match ps[i + 1]? with
      | none => 0
      | some q => match l[q.Element.toNat]? with
        | none => 0
        | some y => y.Side) else 0
def elOf (ps : List Piece) (i : Nat) : Int := match ps[i]? with
  | none => 0
  | some p => p.Element
def toP2 (p : List Passage) (j : Int) : Int := match p[j.toNat]? with
  | none => 1000000000
  | some q => if q.Stops = true then 1000000000 else q.Time.Hi
def spF (l : List Element) (ps : List Piece) (p : List Passage) (n : Int) (i : Nat) : Option Span := match p[i]? with
  | none => none
  | some x => if x.Stops = true then none else some ⟨elOf ps i, sdOf l ps i, x.Time.Lo, toP2 p (clr ps i n + 1)⟩
def toM (m : List Moment) (j : Int) : Int := match m[j.toNat]? with
  | none => 1000000000
  | some q => q.Time
def exF (l : List Element) (ps : List Piece) (m : List Moment) (n : Int) (i : Nat) : Option Span := match m[i]? with
  | none => none
  | some x => some ⟨elOf ps i, sdOf l ps i, x.Time, toM m (clr ps i n + 1)⟩
/-- As long as there are some. -/
def rows (f : Nat → Option Span) : Nat → Nat → List Span
  | 0, _ => []
  | k + 1, i => match f i with
    | none => []
    | some s => s :: rows f k (i + 1)
theorem rows_none {f : Nat → Option Span} {k i : Nat} (h : f i = none) : rows f k i = [] := by
  cases k with
  | zero => rfl
  | succ k => unfold rows; rw [h]
theorem rows_some {f : Nat → Option Span} {k i : Nat} {s : Span} (h : f i = some s) : rows f (k + 1) i = s :: rows f k (i + 1) := by rw [rows, h]
def spE (l : List Element) (ps : List Piece) (p : List Passage) (n : Int) : List Span × Int :=
  if bE l ps (decide (p.length = ps.length + 1)) n ≠ 0 then ([], bE l ps (decide (p.length = ps.length + 1)) n) else (rows (spF l ps p n) (ps.length - 1) 0, 0)
def exE (l : List Element) (ps : List Piece) (m : List Moment) (n : Int) : List Span × Int :=
  if bE l ps (decide (1 ≤ m.length ∧ m.length ≤ ps.length + 1)) n ≠ 0 then ([], bE l ps (decide (1 ≤ m.length ∧ m.length ≤ ps.length + 1)) n) else (rows (exF l ps m n) (ps.length - 1) 0, 0)
/-- What the check means. -/
structure Chk (l : List Element) (ps : List Piece) (n : Int) : Prop where
  p : PsOk ps
  nb : 1 ≤ n ∧ n ≤ 1000000
  e : ∀ p ∈ ps, 0 ≤ p.Element ∧ p.Element < l.length
  c : ∀ i : Nat, i + 1 < ps.length → (i : Int) ≤ clr ps i n ∧ clr ps i n < ps.length
theorem bE_ok {l : List Element} {ps : List Piece} {ok : Bool} {n : Int} (h : bE l ps ok n = 0) : Chk l ps n ∧ ok = true := by
  unfold bE at h
  split at h
  · rename_i h1; exact absurd h h1
  rename_i h1
  have hp := vE_ok (Decidable.not_not.1 h1)
  split at h
  · cases h
  rename_i h2
  split at h
  · rename_i h3
    split at h
    · rename_i h4
      rw [List.all_eq_true] at h4
      have h5 := List.all_eq_true.1 h3.2
      refine ⟨⟨hp, by omega, fun p hp2 => ⟨(hp.ok p hp2).e.1, of_decide_eq_true (h5 p hp2)⟩, fun i hi => ?_⟩, h3.1⟩
      have := of_decide_eq_true (h4 _ (sc_mem (bhs_get (n := n) hi)))
      rcases clr_rng (ps := ps) (i := i) (n := n) (by omega) with h | h <;> omega
    · cases h
  · cases h
theorem span_m {l : List Element} {ps : List Piece} {n : Int} (h : Chk l ps n) {i : Int} (i0 : 0 ≤ i) (i1 : i + 1 < ps.length) : occupancy_span l ps i = some ⟨elOf ps i.toNat, sdOf l ps i.toNat, 0, 1000000000⟩ := by
  refine Ok.eq (?_ : Ok _ _)
  have hl := h.p.len
  unfold occupancy_span elOf sdOf
  have e : (i + 1).toNat = i.toNat + 1 := by omega
  refine ok_ix i0 (by omega) fun p hp => ?_
  have hpe := h.e p (sc_mem hp)
  rw [hp]
  refine ok_ix hpe.1 hpe.2 fun x hx => ?_
  dsimp only
  rw [hx]
  dsimp only
  refine ok_if (fun hk => ?_) (fun hk => ok_some (by rw [if_neg hk]))
  rw [if_pos hk, w64_eq (by omega)]
  refine ok_ix (by omega) i1 fun q hq => ?_
  have hqe := h.e q (sc_mem hq)
  refine ok_ix hqe.1 hqe.2 fun y hy => ok_some ?_
  rw [e] at hq
  rw [hq]
  dsimp only
  rw [hy]
theorem rSide_m {l : List Element} {ps : List Piece} {n : Int} (h : Chk l ps n) {i : Int} (i0 : 0 ≤ i) (i1 : i + 1 < ps.length) : r22_Side l ps i = some (sdOf l ps i.toNat) := by
  refine Ok.eq (?_ : Ok _ _)
  have hl := h.p.len
  unfold r22_Side sdOf
  have e : (i + 1).toNat = i.toNat + 1 := by omega
  refine ok_ix i0 (by omega) fun p hp => ?_
  have hpe := h.e p (sc_mem hp)
  rw [hp]
  refine ok_ix hpe.1 hpe.2 fun x hx => ?_
  dsimp only
  rw [hx]
  dsimp only
  refine ok_if (fun hk => ok_some (by rw [if_neg hk])) (fun hk => ?_)
  rw [if_pos (Decidable.not_not.1 hk), w64_eq (by omega)]
  refine ok_ix (by omega) i1 fun q hq => ?_
  have hqe := h.e q (sc_mem hq)
  refine ok_ix hqe.1 hqe.2 fun y hy => ok_some ?_
  rw [e] at hq
  rw [hq]
  dsimp only
  rw [hy]
theorem Spans_e {l : List Element} {ps : List Piece} {p : List Passage} {n : Int} (hpl : p.length ≤ 1000000000) : occupancy_Spans l ps p n = some (spE l ps p n) := by
  refine Ok.eq (?_ : Ok _ _)
  have eok : ps.length ≤ 1000000000 → decide (w64 ((ps.length : Int) + 1) ≤ (p.length : Int) ∧ (p.length : Int) ≤ (ps.length : Int) + 1) = decide (p.length = ps.length + 1) := fun h => by
    rw [w64_eq (by omega)]; exact decide_eq_decide.2 (by omega)
  have eqE : bE l ps (decide (w64 ((ps.length : Int) + 1) ≤ (p.length : Int) ∧ (p.length : Int) ≤ (ps.length : Int) + 1)) n = bE l ps (decide (p.length = ps.length + 1)) n := by
    by_cases hv : vE ps ≠ 0
    · unfold bE; rw [if_pos hv, if_pos hv]
    · have := (vE_ok (Decidable.not_not.1 hv)).len
      rw [eok (by omega)]
  unfold occupancy_Spans spE
  refine ok_bde behind_e ?_
  rw [eqE]
  refine ok_if (fun h => ?_) (fun h => ?_)
  · by_cases hb : bE l ps (decide (p.length = ps.length + 1)) n ≠ 0
    · rw [if_pos hb, if_pos hb] at *; exact ok_some rfl
    · rw [if_neg hb] at h; exact absurd rfl h
  have hb : ¬ bE l ps (decide (p.length = ps.length + 1)) n ≠ 0 := fun hb => by rw [if_pos hb] at h; exact h hb
  rw [if_neg hb, if_neg hb]
  obtain ⟨hc, hok⟩ := bE_ok (Decidable.not_not.1 hb)
  have hpp : p.length = ps.length + 1 := of_decide_eq_true hok
  have hl := hc.p.len
  have hbl := bhs_len (ps := ps) (n := n)
  dsimp only
  refine ok_lp (fun (z : List Span × Int) => 0 ≤ z.2 ∧ z.2 ≤ ps.length - 1 ∧ z.1.length = z.2.toNat ∧ z.1 ++ rows (spF l ps p n) (ps.length - 1 - z.2.toNat) z.2.toNat = rows (spF l ps p n) (ps.length - 1) 0) (fun z => ((ps.length : Int) - z.2).toNat) ⟨Int.le_refl 0, by dsimp only; omega, rfl, rfl⟩ (by simp only [big_eq]; omega) ?_
  rintro ⟨out, i⟩ next ⟨i0, i1, ol, hf⟩ hn
  dsimp only at i0 i1 ol hf ⊢
  refine ok_if (fun hi => ?_) (fun hi => ok_some ?_)
  rotate_left
  · rw [show ps.length - 1 - i.toNat = 0 from by omega] at hf
    simp only [rows, List.append_nil] at hf
    rw [hf]
  have hg := bhs_get (ps := ps) (n := n) (i := i.toNat) (by omega)
  have ez : ((i.toNat : Nat) : Int) = i := by omega
  have hcr := hc.c i.toNat (by omega)
  refine ok_ixe i0 hg (ok_ix i0 (by omega) fun x hx => ok_b (fun hs => ok_some ?_) (fun hs => ?_))
  · have : spF l ps p n i.toNat = none := by unfold spF; rw [hx]; dsimp only; rw [if_pos hs]
    rw [rows_none this, List.append_nil] at hf
    rw [hf]
  refine ok_bde (span_m hc i0 (by omega)) (ok_ixe i0 hx ?_)
  rw [w64_eq (n := clr ps i.toNat n + 1) (by omega), w64_eq (n := i + 1) (by omega)]
  have ei : (i + 1).toNat = i.toNat + 1 := by omega
  have go : ∀ t, t = toP2 p (clr ps i.toNat n + 1) → Ok (ck (decide (out.length + ([Span.mk (elOf ps i.toNat) (sdOf l ps i.toNat) x.Time.Lo t] : List Span).length ≤ 1000000000)) <| vl (out ++ ([Span.mk (elOf ps i.toNat) (sdOf l ps i.toNat) x.Time.Lo t] : List Span)) fun y => next (y, i + 1)) (fun v => v = (rows (spF l ps p n) (ps.length - 1) 0, 0)) := fun t ht => by
    refine ok_ck (by simp only [List.length_cons, List.length_nil]; omega) (ok_vl fun y hy => ?_)
    have hsf : spF l ps p n i.toNat = some (Span.mk (elOf ps i.toNat) (sdOf l ps i.toNat) x.Time.Lo t) := by
      unfold spF; rw [hx]; dsimp only; rw [if_neg (by rw [hs]; decide), ht]
    rw [show ps.length - 1 - i.toNat = (ps.length - 1 - (i.toNat + 1)) + 1 from by omega, rows_some hsf] at hf
    refine hn _ ⟨by dsimp only; omega, by dsimp only; omega, by dsimp only; rw [hy]; simp; omega, ?_⟩ (by dsimp only; omega)
    dsimp only
    rw [hy, ei, List.append_assoc]
    exact hf
  refine ok_ix (by omega) (by omega) fun q hq => ok_nb (fun hqs => ok_ixe (by omega) hq (go _ ?_)) (fun hqs => go _ ?_)
  · unfold toP2; rw [hq]; dsimp only; rw [if_neg (by rw [hqs]; decide)]
  · unfold toP2; rw [hq]; dsimp only; rw [if_pos hqs]
theorem rSpans_e {l : List Element} {ps : List Piece} {p : List Passage} {n : Int} (hpl : p.length ≤ 1000000000) : r22_Spans l ps p n = some (spE l ps p n) := by
  refine Ok.eq (?_ : Ok _ _)
  have eqE : bE l ps (decide ((p.length : Int) = w64 ((ps.length : Int) + 1))) n = bE l ps (decide (p.length = ps.length + 1)) n := by
    by_cases hv : vE ps ≠ 0
    · unfold bE; rw [if_pos hv, if_pos hv]
    · have := (vE_ok (Decidable.not_not.1 hv)).len
      rw [w64_eq (by omega)]
      congr 1
      exact decide_eq_decide.2 (by omega)
  unfold r22_Spans spE
  refine ok_bde rcheck_e ?_
  rw [eqE]
  refine ok_if (fun h => ok_some (by rw [if_pos h])) (fun hb => ?_)
  rw [if_neg hb]
  obtain ⟨hc, hok⟩ := bE_ok (Decidable.not_not.1 hb)
  have hpp : p.length = ps.length + 1 := of_decide_eq_true hok
  have hl := hc.p.len
  refine ok_lp (fun (z : List Span × Int) => 0 ≤ z.2 ∧ z.2 ≤ ps.length - 1 ∧ z.1.length = z.2.toNat ∧ z.1 ++ rows (spF l ps p n) (ps.length - 1 - z.2.toNat) z.2.toNat = rows (spF l ps p n) (ps.length - 1) 0) (fun z => ((ps.length : Int) - z.2).toNat) ⟨Int.le_refl 0, by dsimp only; omega, rfl, rfl⟩ (by simp only [big_eq]; omega) ?_
  rintro ⟨out, i⟩ next ⟨i0, i1, ol, hf⟩ hn
  dsimp only at i0 i1 ol hf ⊢
  rw [w64_eq (n := i + 1) (by omega)]
  refine ok_if (fun hi => ?_) (fun hi => ok_some ?_)
  rotate_left
  · rw [show ps.length - 1 - i.toNat = 0 from by omega] at hf
    simp only [rows, List.append_nil] at hf
    rw [hf]
  have ez : ((i.toNat : Nat) : Int) = i := by omega
  have hcr := hc.c i.toNat (by omega)
  refine ok_ix i0 (by omega) fun x hx => ok_nb (fun hs => ok_ix i0 (by omega) fun pc hpc => ?_) (fun hs => ok_some ?_)
  rotate_left
  · have : spF l ps p n i.toNat = none := by unfold spF; rw [hx]; dsimp only; rw [if_pos hs]
    rw [rows_none this, List.append_nil] at hf
    rw [hf]
  have epc : pc.Element = elOf ps i.toNat := by unfold elOf; rw [hpc]
  refine ok_bde (rSide_m hc i0 (by omega)) (ok_ixe i0 hx (ok_bde (rClear_e (by omega)) ?_))
  have ecl : clr ps i n = clr ps (i.toNat : Int) n := by rw [ez]
  rw [clE_eq hc.p (by omega) (by have := hc.nb; omega), epc, ecl]
  rw [w64_eq (n := clr ps i.toNat n + 1) (by omega)]
  have ei : (i + 1).toNat = i.toNat + 1 := by omega
  have go : ∀ t, t = toP2 p (clr ps i.toNat n + 1) → Ok (ck (decide (out.length + ([Span.mk (elOf ps i.toNat) (sdOf l ps i.toNat) x.Time.Lo t] : List Span).length ≤ 1000000000)) <| vl (out ++ ([Span.mk (elOf ps i.toNat) (sdOf l ps i.toNat) x.Time.Lo t] : List Span)) fun y => next (y, i + 1)) (fun v => v = (rows (spF l ps p n) (ps.length - 1) 0, 0)) := fun t ht => by
    refine ok_ck (by simp only [List.length_cons, List.length_nil]; omega) (ok_vl fun y hy => ?_)
    have hsf : spF l ps p n i.toNat = some (Span.mk (elOf ps i.toNat) (sdOf l ps i.toNat) x.Time.Lo t) := by
      unfold spF; rw [hx]; dsimp only; rw [if_neg (by rw [hs]; decide), ht]
    rw [show ps.length - 1 - i.toNat = (ps.length - 1 - (i.toNat + 1)) + 1 from by omega, rows_some hsf] at hf
    refine hn _ ⟨by dsimp only; omega, by dsimp only; omega, by dsimp only; rw [hy]; simp; omega, ?_⟩ (by dsimp only; omega)
    dsimp only
    rw [hy, ei, List.append_assoc]
    exact hf
  refine ok_ix (by omega) (by omega) fun q hq => ok_nb (fun hqs => go _ ?_) (fun hqs => go _ ?_)
  · unfold toP2; rw [hq]; dsimp only; rw [if_neg (by rw [hqs]; decide)]
  · unfold toP2; rw [hq]; dsimp only; rw [if_pos hqs]
theorem Exact_e {l : List Element} {ps : List Piece} {m : List Moment} {n : Int} (hml : m.length ≤ 1000000000) : occupancy_Exact l ps m n = some (exE l ps m n) := by
  refine Ok.eq (?_ : Ok _ _)
  have eqE : decide ((1 : Int) ≤ (m.length : Int) ∧ (m.length : Int) ≤ (ps.length : Int) + 1) = decide (1 ≤ m.length ∧ m.length ≤ ps.length + 1) := decide_eq_decide.2 (by omega)
  unfold occupancy_Exact exE
  refine ok_bde behind_e ?_
  rw [eqE]
  refine ok_if (fun h => ?_) (fun h => ?_)
  · by_cases hb : bE l ps (decide (1 ≤ m.length ∧ m.length ≤ ps.length + 1)) n ≠ 0
    · rw [if_pos hb, if_pos hb] at *; exact ok_some rfl
    · rw [if_neg hb] at h; exact absurd rfl h
  have hb : ¬ bE l ps (decide (1 ≤ m.length ∧ m.length ≤ ps.length + 1)) n ≠ 0 := fun hb => by rw [if_pos hb] at h; exact h hb
  rw [if_neg hb, if_neg hb]
  obtain ⟨hc, hok⟩ := bE_ok (Decidable.not_not.1 hb)
  have hpp := of_decide_eq_true hok
  have hl := hc.p.len
  have hbl := bhs_len (ps := ps) (n := n)
  dsimp only
  refine ok_lp (fun (z : List Span × Int) => 0 ≤ z.2 ∧ z.2 ≤ ps.length - 1 ∧ z.1.length = z.2.toNat ∧ z.1 ++ rows (exF l ps m n) (ps.length - 1 - z.2.toNat) z.2.toNat = rows (exF l ps m n) (ps.length - 1) 0) (fun z => ((ps.length : Int) - z.2).toNat) ⟨Int.le_refl 0, by dsimp only; omega, rfl, rfl⟩ (by simp only [big_eq]; omega) ?_
  rintro ⟨out, i⟩ next ⟨i0, i1, ol, hf⟩ hn
  dsimp only at i0 i1 ol hf ⊢
  refine ok_if (fun hi => ?_) (fun hi => ok_some ?_)
  rotate_left
  · rw [show ps.length - 1 - i.toNat = 0 from by omega] at hf
    simp only [rows, List.append_nil] at hf
    rw [hf]
  have hg := bhs_get (ps := ps) (n := n) (i := i.toNat) (by omega)
  have hcr := hc.c i.toNat (by omega)
  refine ok_ixe i0 hg (ok_if (fun hs => ok_some ?_) (fun hs => ?_))
  · have : exF l ps m n i.toNat = none := by unfold exF; rw [List.getElem?_eq_none (by omega)]
    rw [rows_none this, List.append_nil] at hf
    rw [hf]
  refine ok_bde (span_m hc i0 (by omega)) (ok_ix i0 (by omega) fun x hx => ?_)
  rw [w64_eq (n := clr ps i.toNat n + 1) (by omega), w64_eq (n := i + 1) (by omega)]
  have ei : (i + 1).toNat = i.toNat + 1 := by omega
  have go : ∀ t, t = toM m (clr ps i.toNat n + 1) → Ok (ck (decide (out.length + ([Span.mk (elOf ps i.toNat) (sdOf l ps i.toNat) x.Time t] : List Span).length ≤ 1000000000)) <| vl (out ++ ([Span.mk (elOf ps i.toNat) (sdOf l ps i.toNat) x.Time t] : List Span)) fun y => next (y, i + 1)) (fun v => v = (rows (exF l ps m n) (ps.length - 1) 0, 0)) := fun t ht => by
    refine ok_ck (by simp only [List.length_cons, List.length_nil]; omega) (ok_vl fun y hy => ?_)
    have hsf : exF l ps m n i.toNat = some (Span.mk (elOf ps i.toNat) (sdOf l ps i.toNat) x.Time t) := by
      unfold exF; rw [hx, ht]
    rw [show ps.length - 1 - i.toNat = (ps.length - 1 - (i.toNat + 1)) + 1 from by omega, rows_some hsf] at hf
    refine hn _ ⟨by dsimp only; omega, by dsimp only; omega, by dsimp only; rw [hy]; simp; omega, ?_⟩ (by dsimp only; omega)
    dsimp only
    rw [hy, ei, List.append_assoc]
    exact hf
  refine ok_if (fun h1 => ok_ix (by omega) h1 fun q hq => go _ ?_) (fun h1 => go _ ?_)
  · unfold toM; rw [hq]
  · unfold toM; rw [List.getElem?_eq_none (by omega)]
theorem rExact_e {l : List Element} {ps : List Piece} {m : List Moment} {n : Int} (hml : m.length ≤ 1000000000) : r22_Exact l ps m n = some (exE l ps m n) := by
  refine Ok.eq (?_ : Ok _ _)
  unfold r22_Exact
  refine ok_jp (fun _ => bE l ps (decide (1 ≤ m.length ∧ m.length ≤ ps.length + 1)) n = 0) (fun _ hb => ?_) (fun k hk => ?_)
  rotate_left
  · refine ok_if (fun h1 => ok_bde rcheck_e ?_) (fun h1 => ok_bde rcheck_e ?_)
    · have eqE : bE l ps (decide ((m.length : Int) ≤ w64 ((ps.length : Int) + 1))) n = bE l ps (decide (1 ≤ m.length ∧ m.length ≤ ps.length + 1)) n := by
        by_cases hv : vE ps ≠ 0
        · unfold bE; rw [if_pos hv, if_pos hv]
        · have := (vE_ok (Decidable.not_not.1 hv)).len
          rw [w64_eq (by omega)]
          congr 1
          exact decide_eq_decide.2 (by omega)
      rw [eqE]
      refine ok_if (fun h => ok_some ?_) (fun h => hk _ (Decidable.not_not.1 h))
      unfold exE; rw [if_pos h]
    · have eqE : decide (1 ≤ m.length ∧ m.length ≤ ps.length + 1) = false := decide_eq_false (by omega)
      refine ok_if (fun h => ok_some ?_) (fun h => hk _ ?_)
      · unfold exE; rw [eqE, if_pos h]
      · rw [eqE]; exact Decidable.not_not.1 h
  unfold exE
  rw [if_neg (fun h => h hb)]
  obtain ⟨hc, hok⟩ := bE_ok hb
  have hpp := of_decide_eq_true hok
  have hl := hc.p.len
  refine ok_lp (fun (z : List Span × Int) => 0 ≤ z.2 ∧ z.2 ≤ ps.length - 1 ∧ z.1.length = z.2.toNat ∧ z.1 ++ rows (exF l ps m n) (ps.length - 1 - z.2.toNat) z.2.toNat = rows (exF l ps m n) (ps.length - 1) 0) (fun z => ((ps.length : Int) - z.2).toNat) ⟨Int.le_refl 0, by dsimp only; omega, rfl, rfl⟩ (by simp only [big_eq]; omega) ?_
  rintro ⟨out, i⟩ next ⟨i0, i1, ol, hf⟩ hn
  dsimp only at i0 i1 ol hf ⊢
  rw [w64_eq (n := i + 1) (by omega)]
  have ez : ((i.toNat : Nat) : Int) = i := by omega
  refine ok_if (fun hi => ok_if (fun hs => ok_ix i0 (by omega) fun pc hpc => ?_) (fun hs => ok_some ?_)) (fun hi => ok_some ?_)
  rotate_left
  · have : exF l ps m n i.toNat = none := by unfold exF; rw [List.getElem?_eq_none (by omega)]
    rw [rows_none this, List.append_nil] at hf
    rw [hf]
  · rw [show ps.length - 1 - i.toNat = 0 from by omega] at hf
    simp only [rows, List.append_nil] at hf
    rw [hf]
  have hcr := hc.c i.toNat (by omega)
  have epc : pc.Element = elOf ps i.toNat := by unfold elOf; rw [hpc]
  refine ok_bde (rSide_m hc i0 (by omega)) (ok_ix i0 hs fun x hx => (ok_bde (rClear_e (by omega)) ?_))
  have ecl : clr ps i n = clr ps (i.toNat : Int) n := by rw [ez]
  rw [clE_eq hc.p (by omega) (by have := hc.nb; omega), epc, ecl]
  rw [w64_eq (n := clr ps i.toNat n + 1) (by omega)]
  have ei : (i + 1).toNat = i.toNat + 1 := by omega
  have go : ∀ t, t = toM m (clr ps i.toNat n + 1) → Ok (ck (decide (out.length + ([Span.mk (elOf ps i.toNat) (sdOf l ps i.toNat) x.Time t] : List Span).length ≤ 1000000000)) <| vl (out ++ ([Span.mk (elOf ps i.toNat) (sdOf l ps i.toNat) x.Time t] : List Span)) fun y => next (y, i + 1)) (fun v => v = (rows (exF l ps m n) (ps.length - 1) 0, 0)) := fun t ht => by
    refine ok_ck (by simp only [List.length_cons, List.length_nil]; omega) (ok_vl fun y hy => ?_)
    have hsf : exF l ps m n i.toNat = some (Span.mk (elOf ps i.toNat) (sdOf l ps i.toNat) x.Time t) := by
      unfold exF; rw [hx, ht]
    rw [show ps.length - 1 - i.toNat = (ps.length - 1 - (i.toNat + 1)) + 1 from by omega, rows_some hsf] at hf
    refine hn _ ⟨by dsimp only; omega, by dsimp only; omega, by dsimp only; rw [hy]; simp; omega, ?_⟩ (by dsimp only; omega)
    dsimp only
    rw [hy, ei, List.append_assoc]
    exact hf
  refine ok_if (fun h1 => ok_ix (by omega) h1 fun q hq => go _ ?_) (fun h1 => go _ ?_)
  · unfold toM; rw [hq]
  · unfold toM; rw [List.getElem?_eq_none (by omega)]
end Go.Hy
