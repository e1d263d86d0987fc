/-
  The law ResistanceSpreads.
-/
import Derived.Test.YtncgacgkeonfnaaPMeas
namespace Go.Hy
set_option linter.unusedVariables false
set_option linter.unusedSimpArgs false
set_option maxHeartbeats 2000000
set_option maxRecDepth 10000
open Go.Hy.Iv

def cvB (p : Piece) : Bool := decide (0 ≤ p.Curve ∧ p.Curve ≤ 5000)
def clpI (c : Interval) (p : Piece) : Interval := ⟨clp (c.Lo + p.Curve), clp (c.Hi + p.Curve)⟩
def spM (c : Interval) (ps : List Piece) : List Interval × Int := if ¬ Ivd c.Lo c.Hi then ([], 1) else if 128 < ps.length then ([], 3) else if ps.all cvB = true then (ps.map (clpI c), 0) else ([], 2)
theorem Spread_m {c : Interval} {ps : List Piece} : resistance_Spread c ps = some (spM c ps) := by
  refine Ok.eq (?_ : Ok _ _)
  unfold resistance_Spread spM
  refine ok_nd (Valid_m c) (fun h => ok_some (by rw [if_pos h])) fun hc => ?_
  rw [if_neg (fun h => h hc)]
  refine ok_if (fun h => ok_some (by rw [if_pos (by omega)])) (fun h1 => ?_)
  rw [if_neg (by omega)]
  refine ok_lp (fun (z : List Interval × Int) => Scan cvB ps z.2 ∧ z.2 ≤ ps.length ∧ z.1 = (ps.take z.2.toNat).map (clpI c)) (fun z => ((ps.length : Int) - z.2).toNat) ⟨Scan.zero, by dsimp only; omega, rfl⟩ (by simp only [big_eq]; omega) ?_
  rintro ⟨out, i⟩ next ⟨hs, i1, ho⟩ hn
  have i0 := hs.1
  dsimp only at hs i0 i1 ho ⊢
  refine ok_if (fun h => ok_ix i0 h fun x hx => ?_) (fun h => ok_some (by rw [if_pos (hs.done h), ho, List.take_of_length_le (by omega)]))
  have bad : ¬ (0 ≤ x.Curve ∧ x.Curve ≤ 5000) → Ok (some (([] : List Interval), (2 : Int))) (· = if ps.all cvB = true then (ps.map (clpI c), 0) else ([], 2)) := fun h => ok_some (by rw [if_neg (by rw [scan_no hx (decide_eq_false h)]; decide)])
  refine ok_if (fun q => bad (by omega)) fun q1 => ok_if (fun q => bad (by omega)) fun q2 => ?_
  rw [w64_eq (n := c.Lo + x.Curve) (by omega), w64_eq (n := c.Hi + x.Curve) (by omega)]
  have ec : resistance_clip ⟨c.Lo + x.Curve, c.Hi + x.Curve⟩ = some (clpI c x) := by
    unfold resistance_clip clpI clp
    simp only [Option.some.injEq, Interval.mk.injEq]
    omega
  have ei : (i + 1).toNat = i.toNat + 1 := by omega
  refine ok_bde ec (ok_ck (by rw [ho]; simp only [List.length_map, List.length_take, List.length_cons, List.length_nil]; omega) (ok_vl fun y hy => ?_))
  rw [w64_eq (by omega)]
  exact hn _ ⟨hs.step hx (decide_eq_true (by omega)), by dsimp only; omega, by dsimp only; rw [hy, ei, sc_take hx, List.map_append, ho]; rfl⟩ (by dsimp only; omega)
theorem rSpread_m {c : Interval} {ps : List Piece} : r19_Spread c ps = some (spM c ps) := by
  refine Ok.eq (?_ : Ok _ _)
  unfold r19_Spread spM
  refine ok_nd (rValid_m c) (fun h => ok_some (by rw [if_pos h])) fun hc => ?_
  rw [if_neg (fun h => h hc)]
  refine ok_if (fun h => ok_some (by rw [if_pos (by omega)])) (fun h1 => ?_)
  rw [if_neg (by omega)]
  refine ok_lp (fun (z : List Interval × Int) => Scan cvB ps z.2 ∧ z.2 ≤ ps.length ∧ z.1 = (ps.take z.2.toNat).map (clpI c)) (fun z => ((ps.length : Int) - z.2).toNat) ⟨Scan.zero, by dsimp only; omega, rfl⟩ (by simp only [big_eq]; omega) ?_
  rintro ⟨out, i⟩ next ⟨hs, i1, ho⟩ hn
  have i0 := hs.1
  dsimp only at hs i0 i1 ho ⊢
  refine ok_if (fun h => ok_ix i0 h fun x hx => ?_) (fun h => ok_some (by rw [if_pos (hs.done h), ho, List.take_of_length_le (by omega)]))
  have bad : ¬ (0 ≤ x.Curve ∧ x.Curve ≤ 5000) → Ok (some (([] : List Interval), (2 : Int))) (· = if ps.all cvB = true then (ps.map (clpI c), 0) else ([], 2)) := fun h => ok_some (by rw [if_neg (by rw [scan_no hx (decide_eq_false h)]; decide)])
  refine ok_if (fun q => bad (by omega)) fun q1 => ok_if (fun q => bad (by omega)) fun q2 => ?_
  rw [w64_eq (n := c.Lo + x.Curve) (by omega), w64_eq (n := c.Hi + x.Curve) (by omega)]
  have ec : r19_clip ⟨c.Lo + x.Curve, c.Hi + x.Curve⟩ = some (clpI c x) := rfl
  have ei : (i + 1).toNat = i.toNat + 1 := by omega
  refine ok_bde ec (ok_ck (by rw [ho]; simp only [List.length_map, List.length_take, List.length_cons, List.length_nil]; omega) (ok_vl fun y hy => ?_))
  rw [w64_eq (by omega)]
  exact hn _ ⟨hs.step hx (decide_eq_true (by omega)), by dsimp only; omega, by dsimp only; rw [hy, ei, sc_take hx, List.map_append, ho]; rfl⟩ (by dsimp only; omega)
theorem Intervals_refl {l : List Interval} (hl : l.length ≤ 1000000000) : gen_Intervals l l = some true := by
  refine Ok.eq (?_ : Ok _ _)
  unfold gen_Intervals
  refine ok_if0 (by simp) ?_
  refine ok_lp (fun (z : Int) => 0 ≤ z) (fun z => ((l.length : Int) - z).toNat) (Int.le_refl 0) (by simp only [big_eq]; omega) ?_
  intro z next z0 hn
  refine ok_if (fun h => ok_ix z0 h fun a ha => ok_ixe z0 ha (ok_if0 (by simp) ?_)) (fun _ => ok_some rfl)
  rw [w64_eq (by omega)]
  exact hn _ (by omega) (by omega)
theorem spM_len {c : Interval} {ps : List Piece} : (spM c ps).1.length ≤ 1000000000 := by
  unfold spM
  split
  · simp
  split
  · simp
  rename_i h
  split
  · simp only [List.length_map]; omega
  · simp
theorem ResSpreads_ok {t : List Int} {qc : Interval} {qp : List Piece} {qs : List Sample} (ht : t.length ≤ 9223372036854775807) : law19_ResistanceSpreads t qc qp qs = some true := by
  refine Ok.eq (?_ : Ok _ _)
  unfold law19_ResistanceSpreads
  refine ok_bde (gen_New_ok t) ?_
  have mk : ∀ c1, 0 ≤ c1 → c1 ≤ 1000000 → Mk (HumpgenMaker.mk t c1) 900000000000000 := fun c' h1 h2 => ⟨h1, by dsimp only; omega, ht⟩
  refine ok_lp (fun (z : Int × Int) => 0 ≤ z.2 ∧ 0 ≤ z.1 ∧ z.1 ≤ 2000 * z.2) (fun z => (4 - z.2).toNat) ⟨Int.le_refl 0, Int.le_refl 0, by dsimp only; omega⟩ (by simp only [big_eq]; omega) ?_
  rintro ⟨c, i⟩ next ⟨i0, c0, c1⟩ hn
  dsimp only at i0 c0 c1 ⊢
  refine ok_if (fun hi => ?_) (fun _ => ok_bde sane19 (ok_some rfl))
  have up : ∀ c', c ≤ c' → c' ≤ c + 1900 → Mk (HumpgenMaker.mk t c') CM0 := fun c' h1 h2 => (mk c' (by omega) (by omega)).up (by decide)
  unfold gen_Maker_Valid
  refine ok_bd (R := fun (r : Interval × Int) => c ≤ r.2 ∧ r.2 ≤ c + 10) ?_ fun v9 ⟨d0, d1⟩ => ?_
  · refine ok_bd (From_ok (up c (by omega) (by omega)) (by omega)) fun v2 ⟨b2, e2⟩ => ?_
    dsimp only at e2
    refine ok_bd (Next_ok (up v2.2 (by omega) (by omega)) (by omega)) fun v4 ⟨b4, e4⟩ => ok_some ?_
    dsimp only at e4
    exact ⟨by dsimp only; omega, by dsimp only; omega⟩
  refine ok_bd (Pieces_ok (n := 6) (mk v9.2 (by omega) (by omega)) (by omega)) fun v11 ⟨⟨⟨n0, n1⟩, _⟩, _, d2, d3⟩ => ?_
  dsimp only at d2 d3
  refine ok_bd (samples_ok ((mk v11.2 (by omega) (by omega)).up (by decide)) (by omega)) fun v13 ⟨⟨hl, _⟩, d4, d5⟩ => ?_
  dsimp only at d4 d5
  have cmp : ∀ (x : Interval) (ps : List Piece) (s : List Sample) (k : Int), 0 ≤ k → k ≤ c + 1900 →
      Ok (bd (resistance_Spread x ps) fun v33 => bd (r19_Spread x ps) fun v35 => bd (resistance_Measured s) fun v37 => bd (r19_Measured s) fun v39 => bd (gen_Intervals v33.1 v35.1) fun v41 =>
        cond (!v41) (some false) (cond (decide (v33.2 ≠ v35.2)) (some false) (cond (decide (¬ (v37.1.Lo = v39.1.Lo ∧ v37.1.Hi = v39.1.Hi))) (some false) (cond (decide (v37.2 ≠ v39.2)) (some false) (next (k, w64 (i + 1))))))) (fun v => v = true) := fun x ps s k k0 k1 => by
    refine ok_bde Spread_m (ok_bde rSpread_m (ok_bde Meas_m (ok_bde rMeas_m (ok_bde (Intervals_refl spM_len) (ok_nb (fun h => by cases h) fun _ => ?_)))))
    refine ok_if0 (fun h => h rfl) (ok_if0 (fun h => h ⟨rfl, rfl⟩) (ok_if0 (fun h => h rfl) ?_))
    rw [w64_eq (by omega)]
    exact hn _ ⟨by dsimp only; omega, by dsimp only; omega, by dsimp only; omega⟩ (by dsimp only; omega)
  refine ok_jp (fun (z : Int × Int × Int × List Piece × List Sample) => c ≤ z.1 ∧ z.1 ≤ c + 1800) (fun z hz => ?_) (fun k2 hk2 => ?_)
  · refine ok_jp (fun _ => True) (fun b _ => ?_) (fun k3 hk3 => ?_)
    · exact ok_b (fun _ => cmp _ _ _ _ (by omega) (by omega)) (fun _ => cmp _ _ _ _ (by omega) (by omega))
    · exact ok_if (fun _ => ok_if (fun _ => hk3 _ trivial) (fun _ => hk3 _ trivial)) (fun _ => hk3 _ trivial)
  refine ok_if (fun h2 => ?_) (fun h2 => hk2 _ ⟨by dsimp only; omega, by dsimp only; omega⟩)
  unfold gen_Maker_Interval
  refine ok_bd (R := fun (r : Interval × Int) => v13.2 ≤ r.2 ∧ r.2 ≤ v13.2 + 10) ?_ fun v42 ⟨d6, d7⟩ => ?_
  · refine ok_bd (Pick_ok (up v13.2 (by omega) (by omega)) (by simp)) fun u1 ⟨_, e1⟩ => ?_
    dsimp only at e1
    refine ok_bd (Pick_ok (up u1.2 (by omega) (by omega)) (by simp)) fun u2 ⟨_, e2⟩ => ?_
    dsimp only at e2
    refine ok_bd (Next_ok (up u2.2 (by omega) (by omega)) (by omega)) fun u3 ⟨_, e3⟩ => ?_
    dsimp only at e3
    refine ok_if (fun _ => ?_) (fun _ => ok_some ⟨by dsimp only; omega, by dsimp only; omega⟩)
    refine ok_bd (Next_ok (up u3.2 (by omega) (by omega)) (by omega)) fun u4 ⟨_, e4⟩ => ok_some ?_
    dsimp only at e4
    exact ⟨by dsimp only; omega, by dsimp only; omega⟩
  refine ok_bd (Next_ok (up v42.2 (by omega) (by omega)) (by omega)) fun v44 ⟨b44, e44⟩ => ?_
  dsimp only at e44
  refine ok_bd (Pick_ok (up v44.2 (by omega) (by omega)) (by simp)) fun v47 ⟨_, e47⟩ => ?_
  dsimp only at e47
  refine ok_ix b44.1 b44.2 fun x49 _ => ok_vl fun y51 _ => ok_if (fun h3 => ?_) (fun h3 => hk2 _ ⟨by dsimp only; omega, by dsimp only; omega⟩)
  refine ok_bd (Next_ok (up v47.2 (by omega) (by omega)) (by omega)) fun v52 ⟨b52, e52⟩ => ?_
  dsimp only at e52
  refine ok_bd (Pick_ok (up v52.2 (by omega) (by omega)) (by simp)) fun v55 ⟨_, e55⟩ => ?_
  dsimp only at e55
  exact ok_ix b52.1 b52.2 fun x57 _ => ok_vl fun y59 _ => hk2 _ ⟨by dsimp only; omega, by dsimp only; omega⟩
end Go.Hy
