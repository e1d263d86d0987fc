/-
  The law OccupancyExact.
-/
import Derived.Test.YtjeegociagchnaaPOccL
namespace Go.Hy
set_option linter.unusedVariables false
set_option linter.unusedSimpArgs false
set_option maxHeartbeats 2000000
set_option maxRecDepth 10000
open Go.Hy.Iv

def inF (z : Span × Span) : Bool := decide (z.1.Element = z.2.Element ∧ z.1.Side = z.2.Side ∧ z.2.From ≤ z.1.From ∧ z.1.To ≤ z.2.To)
def insB (a b : List Span) : Bool := decide (a.length ≤ b.length) && (a.zip b).all inF
theorem zip_at {a b : List Span} {i : Nat} {s t : Span} (hs : a[i]? = some s) (ht : b[i]? = some t) : (a.zip b)[i]? = some (s, t) := by
  rw [List.getElem?_zip_eq_some]; exact ⟨hs, ht⟩
theorem Inside_e {a b : List Span} (hb : a.length ≤ 1000000000) : occupancy_Inside a b = some (insB a b) := by
  refine Ok.eq (?_ : Ok _ _)
  unfold occupancy_Inside insB
  refine ok_if (fun h => ok_some (by rw [decide_eq_false (by omega)]; rfl)) (fun h => ?_)
  rw [decide_eq_true (by omega : a.length ≤ b.length), Bool.true_and]
  have hz : (a.zip b).length = a.length := by rw [List.length_zip]; omega
  refine ok_lp (fun (z : Int) => Scan inF (a.zip b) z) (fun z => ((a.length : Int) - z).toNat) Scan.zero (by simp only [big_eq]; omega) ?_
  intro i next hi hn
  have i0 := hi.1
  refine ok_if (fun hl => ok_ix i0 hl fun s hs => ok_ix i0 (by omega) fun t ht => ?_) (fun hl => ok_some (hi.done (by omega)).symm)
  have hg := zip_at hs ht
  have bad : ¬ (s.Element = t.Element ∧ s.Side = t.Side ∧ t.From ≤ s.From ∧ s.To ≤ t.To) → Ok (some false) (fun v => v = (a.zip b).all inF) := fun h => ok_some (scan_no hg (decide_eq_false h)).symm
  refine ok_if (fun q => bad (fun hh => q hh.1)) (fun q1 => ok_if (fun q => bad (fun hh => q hh.2.1)) (fun q2 => ok_if (fun q => bad (fun hh => by omega)) (fun q3 => ok_if (fun q => bad (fun hh => by omega)) (fun q4 => ?_))))
  rw [w64_eq (by omega)]
  exact hn _ (hi.step hg (decide_eq_true ⟨Decidable.not_not.1 q1, Decidable.not_not.1 q2, by dsimp only; omega, by dsimp only; omega⟩)) (by omega)
theorem rInside_e {a b : List Span} (hb : a.length ≤ 1000000000) : r22_Inside a b = some (insB a b) := by
  refine Ok.eq (?_ : Ok _ _)
  unfold r22_Inside insB
  refine ok_if (fun h => ok_some (by rw [decide_eq_false (by omega)]; rfl)) (fun h => ?_)
  rw [decide_eq_true (by omega : a.length ≤ b.length), Bool.true_and]
  have hz : (a.zip b).length = a.length := by rw [List.length_zip]; omega
  refine ok_lp (fun (z : Int) => Scan inF (a.zip b) z) (fun z => ((a.length : Int) - z).toNat) Scan.zero (by simp only [big_eq]; omega) ?_
  intro i next hi hn
  have i0 := hi.1
  refine ok_if (fun hl => ok_ix i0 hl fun s hs => ok_ix i0 (by omega) fun t ht => ?_) (fun hl => ok_some (hi.done (by omega)).symm)
  have hg := zip_at hs ht
  have bad : ¬ (s.Element = t.Element ∧ s.Side = t.Side ∧ t.From ≤ s.From ∧ s.To ≤ t.To) → Ok (some false) (fun v => v = (a.zip b).all inF) := fun h => ok_some (scan_no hg (decide_eq_false h)).symm
  refine ok_if (fun q => bad (fun hh => q hh.1)) (fun q1 => ok_ixe i0 hs (ok_ixe i0 ht (ok_if (fun q => bad (fun hh => q hh.2.1)) (fun q2 => ok_ixe i0 hs (ok_ixe i0 ht (ok_if (fun q => bad (fun hh => by omega)) (fun q3 => ok_ixe i0 hs (ok_ixe i0 ht (ok_if (fun q => bad (fun hh => by omega)) (fun q4 => ?_))))))))))
  rw [w64_eq (by omega)]
  exact hn _ (hi.step hg (decide_eq_true ⟨Decidable.not_not.1 q1, Decidable.not_not.1 q2, by dsimp only; omega, by dsimp only; omega⟩)) (by omega)
theorem SameSpans_refl {l : List Span} (hl : l.length ≤ 1000000000) : yardgen_SameSpans l l = some true := by
  refine Ok.eq (?_ : Ok _ _)
  unfold yardgen_SameSpans
  refine ok_if0 (by simp) ?_
  refine ok_lp (fun (z : Int) => 0 ≤ z) (fun z => ((l.length : Int) - z).toNat) (Int.le_refl 0) (by simp only [big_eq]; omega) ?_
  intro z next z0 hn
  refine ok_if (fun h => ok_ix z0 h fun a ha => ok_ixe z0 ha (ok_if0 (by simp) ?_)) (fun _ => ok_some rfl)
  rw [w64_eq (by omega)]
  exact hn _ (by omega) (by omega)
theorem Pieces_refl {l : List Piece} (hl : l.length ≤ 1000000000) : gen_Pieces l l = some true := by
  refine Ok.eq (?_ : Ok _ _)
  unfold gen_Pieces
  refine ok_if0 (by simp) ?_
  refine ok_lp (fun (z : Int) => 0 ≤ z) (fun z => ((l.length : Int) - z).toNat) (Int.le_refl 0) (by simp only [big_eq]; omega) ?_
  intro z next z0 hn
  refine ok_if (fun h => ok_ix z0 h fun a ha => ok_ixe z0 ha (ok_if0 (by simp) ?_)) (fun _ => ok_some rfl)
  rw [w64_eq (by omega)]
  exact hn _ (by omega) (by omega)
theorem apE_len {ps : List Piece} {n : Int} : (apE ps n).1.length ≤ ps.length := by
  unfold apE
  split
  · simp
  split
  · simp
  split
  · simp
  split
  · simp
  · unfold setL
    split
    · exact Nat.le_refl _
    · simp
theorem spE_len {l : List Element} {ps : List Piece} {p : List Passage} {n : Int} : (spE l ps p n).1.length ≤ ps.length := by
  unfold spE
  split
  · simp
  · have := rows_len (f := spF l ps p n) (ps.length - 1) 0
    dsimp only
    omega
theorem exE_len {l : List Element} {ps : List Piece} {m : List Moment} {n : Int} : (exE l ps m n).1.length ≤ ps.length := by
  unfold exE
  split
  · simp
  · have := rows_len (f := exF l ps m n) (ps.length - 1) 0
    dsimp only
    omega
theorem exact22_m {l : List Element} {ps : List Piece} {p : List Passage} {m : List Moment} {i n : Int} (h1 : ps.length ≤ 1000000) (h2 : p.length ≤ 1000000) (h3 : m.length ≤ 1000000) : law22_exact l ps p m i n = some true := by
  refine Ok.eq (?_ : Ok _ _)
  unfold law22_exact
  have a1 := apE_len (ps := ps) (n := n)
  have a2 := spE_len (l := l) (ps := ps) (p := p) (n := n)
  have a3 := exE_len (l := l) (ps := ps) (m := m) (n := n)
  refine ok_bde Approach_e (ok_bde rApproach_e (ok_bde (Spans_e (by omega)) (ok_bde (rSpans_e (by omega)) (ok_bde (Exact_e (by omega)) (ok_bde (rExact_e (by omega)) (ok_bde (Pieces_refl (by omega)) ?_))))))
  refine ok_if1 rfl (ok_bde (Clear_e (by omega)) (ok_bde (rClear_e (by omega)) (ok_if1 rfl (ok_bde (SameSpans_refl (by omega)) (ok_if1 rfl (ok_bde (SameSpans_refl (by omega)) (ok_if1 rfl ?_)))))))
  refine ok_bde (Inside_e (by omega)) (ok_bde (rInside_e (by omega)) (ok_b (fun _ => ?_) (fun h => by simp at h)))
  exact ok_bde (Inside_e (by omega)) (ok_bde (rInside_e (by omega)) (ok_some (by simp)))
theorem OExact_ok {t : List Int} {ql : List Element} {qp : List Piece} {qi qn : Int} (ht : t.length ≤ 9223372036854775807) : law22_OccupancyExact t ql qp qi qn = some true := by
  refine Ok.eq (?_ : Ok _ _)
  unfold law22_OccupancyExact
  refine ok_bde (gen_New_ok t) ?_
  have mk : ∀ c1, 0 ≤ c1 → c1 ≤ 1000000 → Mk (HumpgenMaker.mk t c1) 900000000000000 := fun c' h1 h2 => ⟨h1, by dsimp only; omega, ht⟩
  refine ok_jp (fun _ => True) (fun _ _ => ?_) (fun kk hk => ?_)
  · refine ok_if (fun _ => ok_bde sane22 (ok_some rfl)) (fun _ => ok_if (fun _ => ok_bde sane22 (ok_some rfl)) (fun h => ?_))
    rw [w64_eq (n := (qp.length : Int) + 1) (by omega)]
    refine ok_ck (by omega) (ok_vl fun y hy => ok_bde (exact22_m (by omega) (by rw [hy, List.length_replicate]; omega) (by rw [List.length_replicate]; decide)) (ok_b (fun _ => ok_bde sane22 (ok_some rfl)) (fun h => by cases h)))
  refine ok_lp (fun (z : Int × Int) => 0 ≤ z.2 ∧ 0 ≤ z.1 ∧ z.1 ≤ 100000 * z.2) (fun z => (3 - z.2).toNat) ⟨Int.le_refl 0, Int.le_refl 0, by dsimp only; omega⟩ (by simp only [big_eq]; omega) ?_
  rintro ⟨c, i⟩ next ⟨i0, c0, c1⟩ hn
  dsimp only at i0 c0 c1 ⊢
  refine ok_if (fun hi => ?_) (fun _ => hk _ trivial)
  refine ok_bd (path22_ok (mk c c0 (by omega))) fun v ⟨⟨tr, hw⟩, _, hll, d0, d1⟩ => ?_
  obtain ⟨l, ps, z, cp⟩ := v
  dsimp only at hw hll d0 d1 ⊢
  obtain ⟨hp, he⟩ := hw.ps
  have hl := hp.len
  have hvl := hw.v.len
  have hnr := nret_le ps
  refine ok_bd (Motion_ok ((mk cp (by omega) (by omega)).up (by decide)) (bent hp) (by omega)) fun v ⟨hmo, _, _, _, _, c2, c3⟩ => ?_
  obtain ⟨mo, cm⟩ := v
  dsimp only at hmo c2 c3 ⊢
  refine ok_bde rPass_e ?_
  rw [psOut_eq hp hmo]
  dsimp only
  have hpl := psAll_len (ps := ps) (m := mo)
  generalize psAll ps mo = p at hpl
  refine ok_bd (Run_ok ((mk cm (by omega) (by omega)).up (by decide)) hmo (by omega)) fun v ⟨hr, _, c4, c5⟩ => ?_
  obtain ⟨r, cr⟩ := v
  dsimp only at hr c4 c5 ⊢
  refine ok_bde rPoint_e ?_
  rw [ptOut_eq hp hr]
  dsimp only
  have hml : 1 ≤ (ptAll ps r).length ∧ (ptAll ps r).length ≤ ps.length + 1 := by
    have := ptRun_le (ps := ps) (ws := r.Resist) (ts := r.Targets) (x := pt0 r)
    unfold ptAll
    rw [List.length_cons]; omega
  generalize ptAll ps r = m at hml
  have up : ∀ c', c ≤ c' → c' ≤ c + 9000 → Mk (HumpgenMaker.mk t c') CM0 := fun c' h1 h2 => (mk c' (by omega) (by omega)).up (by decide)
  refine ok_jp (fun (z : Int × List Element × Int × List Passage × List Moment) => c ≤ z.1 ∧ z.1 ≤ c + 8000 ∧ z.2.2.2.1.length ≤ 1000 ∧ z.2.2.2.2.length ≤ 1000) (fun z ⟨z0, z1, z2, z3⟩ => ?_) (fun k2 hk2 => ?_)
  · rw [w64_eq (n := (ps.length : Int) + 2) (by omega)]
    refine ok_vl fun x309 h309 => ?_
    refine ok_bd (Next_ok (up z.1 (by omega) (by omega)) (by omega)) fun u ⟨hu, eu⟩ => ?_
    dsimp only at eu
    refine ok_bde (exact22_m (by omega) (by omega) (by omega)) (ok_nb (fun h => by cases h) fun _ => ?_)
    refine ok_bde (exact22_m (by omega) (by omega) (by omega)) (ok_nb (fun h => by cases h) fun _ => ?_)
    rw [w64_eq (n := i + 1) (by omega)]
    exact hn _ ⟨by dsimp only; omega, by dsimp only; omega, by dsimp only; omega⟩ (by dsimp only; omega)
  refine ok_if (fun h2 => ?_) (fun h2 => hk2 _ ⟨by dsimp only; omega, by dsimp only; omega, by dsimp only; omega, by dsimp only; omega⟩)
  refine ok_bd (Pick_ok (up cr (by omega) (by omega)) (by simp)) fun u1 ⟨_, e1⟩ => ?_
  dsimp only at e1
  refine ok_bd (Next_ok (up u1.2 (by omega) (by omega)) (by omega)) fun u2 ⟨n2, e2⟩ => ?_
  dsimp only at e2
  rw [w64_eq (n := (p.length : Int) - u2.1) (by omega)]
  refine ok_vl fun x1 h1 => ok_ck (by omega) ?_
  refine ok_bd (Next_ok (up u2.2 (by omega) (by omega)) (by omega)) fun u3 ⟨n3, e3⟩ => ?_
  dsimp only at e3
  rw [w64_eq (n := (m.length : Int) - u3.1) (by omega)]
  refine ok_vl fun x2 h2 => ok_ck (by omega) ?_
  refine ok_bd (Next_ok (up u3.2 (by omega) (by omega)) (by omega)) fun u4 ⟨n4, e4⟩ => ?_
  dsimp only at e4
  rw [w64_eq (n := (l.length : Int) - u4.1) (by omega)]
  refine ok_vl fun x3 h3 => ok_ck (by omega) ?_
  exact hk2 _ ⟨by dsimp only; omega, by dsimp only; omega, by dsimp only; rw [List.length_take]; omega, by dsimp only; rw [List.length_take]; omega⟩
end Go.Hy
