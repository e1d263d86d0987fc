/-
  The way to the standing wagons, and the speeds with which cuts meet them.
-/
import Derived.Test.YtdabnfhkojapjaaPBowlL
import Derived.Test.YtdabnfhkojapjaaPTgt
import Derived.Test.YtdabnfhkojapjaaPExP
import Derived.Test.YtdabnfhkojapjaaPPiece
namespace Go.Hy
set_option linter.unusedVariables false
set_option linter.unusedSimpArgs false
set_option maxHeartbeats 2000000
set_option maxRecDepth 10000
open Go.Hy.Iv

def shE (ps : List Piece) (f : Int) : List Piece × Int :=
  if vE ps ≠ 0 then ([], vE ps) else match ps[ps.length - 1]? with
  | none => ([], 0)
  | some x => if f < 1 ∨ x.Length < f then ([], 14) else (setL ps f, 0)
theorem CloneP_m {l : List Piece} (h : l.length ≤ 1000000000) : slices_Clone_api_Piece_api_Piece_ l = some l := by
  refine Ok.eq (?_ : Ok _ _)
  unfold slices_Clone_api_Piece_api_Piece_
  exact ok_ck (by simpa using h) (ok_vl fun y hy => ok_some (by rw [hy, List.nil_append]))
theorem Shorten_m {ps : List Piece} {f : Int} : bowl_Shorten ps f = some (shE ps f) := by
  refine Ok.eq (?_ : Ok _ _)
  unfold bowl_Shorten shE
  refine ok_bde PValid_e (ok_if (fun h => ok_some (by rw [if_pos h])) (fun h => ?_))
  rw [if_neg h]
  have hl := (vE_ok (Decidable.not_not.1 h)).len
  refine ok_bde (CloneP_m (by omega)) ?_
  rw [w64_eq (by omega)]
  refine ok_ix (by omega) (by omega) fun x hx => ?_
  rw [show ((ps.length : Int) - 1).toNat = ps.length - 1 from by omega] at hx ⊢
  rw [hx]
  dsimp only
  refine ok_if (fun q => ok_some (by rw [if_pos (.inl q)])) (fun q1 => ok_if (fun q => ok_some (by rw [if_pos (.inr q)])) (fun q2 => ok_vl fun y hy => ok_some ?_))
  rw [if_neg (by omega), hy]
  unfold setL
  rw [hx]
theorem rShorten_m {ps : List Piece} {f : Int} : r32_Shorten ps f = some (shE ps f) := by
  refine Ok.eq (?_ : Ok _ _)
  unfold r32_Shorten shE
  refine ok_bde r20Valid_e (ok_if (fun h => ok_some (by rw [if_pos h])) (fun h => ?_))
  rw [if_neg h]
  have hl := (vE_ok (Decidable.not_not.1 h)).len
  have hx : ps[ps.length - 1]? = some ps[ps.length - 1] := List.getElem?_eq_getElem (by omega)
  generalize ps[ps.length - 1] = x at hx
  have hx2 : ps[((ps.length : Int) - 1).toNat]? = some x := by rw [show ((ps.length : Int) - 1).toNat = ps.length - 1 from by omega]; exact hx
  rw [hx]
  dsimp only
  refine ok_if (fun q => ok_some (by rw [if_pos (.inl q)])) (fun q1 => ?_)
  rw [w64_eq (by omega)]
  refine ok_ixe (by omega) hx2 (ok_if (fun q => ok_some (by rw [if_pos (.inr q)])) (fun q2 => ok_ck (by simp; omega) (ok_vl fun y hy => ?_)))
  rw [List.nil_append] at hy
  rw [hy]
  refine ok_ixe (by omega) hx2 (ok_vl fun y hy => ok_some ?_)
  rw [if_neg (by omega), hy]
  unfold setL
  rw [hx, show ((ps.length : Int) - 1).toNat = ps.length - 1 from by omega]
theorem broot_m {n : Int} (h0 : 0 ≤ n) (h1 : n ≤ 1000000000000) : bowl_root n = some (isq n) := by
  refine Ok.eq (?_ : Ok _ _)
  unfold bowl_root
  have sq : ∀ x : Int, 0 ≤ x → x ≤ 2000000 → 0 ≤ x * x ∧ x * x ≤ 4000000000000 := fun x a b => by
    have := sq_le (a := x) (b := 2000000) a b
    have := Int.mul_nonneg a a
    omega
  refine ok_jp (fun (z : Int) => 1 ≤ z ∧ z ≤ 2000000 ∧ n < z * z) (fun z ⟨z1, z2, z3⟩ => ?_) (fun k hk => ?_)
  · refine ok_lp (fun (y : Int × Int) => 0 ≤ y.1 ∧ y.1 < y.2 ∧ y.2 ≤ 2000000 ∧ y.1 * y.1 ≤ n ∧ n < y.2 * y.2) (fun y => (y.2 - y.1).toNat) ⟨by dsimp only; omega, by dsimp only; omega, by dsimp only; omega, by simpa using h0, z3⟩ (by simp [big_eq]; omega) ?_
    rintro ⟨lo, hi⟩ next ⟨i0, i1, i2, i3, i4⟩ hn
    dsimp only at i0 i1 i2 i3 i4 ⊢
    rw [w64_eq (n := lo + 1) (by omega)]
    refine ok_if (fun h => ?_) (fun h => ok_some ?_)
    · rw [w64_eq (by omega : -9223372036854775808 ≤ lo + hi ∧ lo + hi ≤ 9223372036854775807), Int.tdiv_eq_ediv_of_nonneg (by omega), w64_eq (by omega)]
      refine ok_vl fun x hx => ?_
      have hsq := sq x (by omega) (by omega)
      rw [w64_eq (by omega)]
      refine ok_if (fun h2 => hn _ ⟨by dsimp only; omega, by dsimp only; omega, by dsimp only; omega, h2, i4⟩ (by dsimp only; omega)) (fun h2 => hn _ ⟨by dsimp only; omega, by dsimp only; omega, by dsimp only; omega, i3, by dsimp only; omega⟩ (by dsimp only; omega))
    · have : hi = lo + 1 := by omega
      subst this
      exact isq_unique i0 i3 i4
  · refine ok_lp (fun (z : Int) => 1 ≤ z ∧ z ≤ 2000000) (fun z => (2000000 - z).toNat) ⟨Int.le_refl 1, by omega⟩ (by simp [big_eq]) ?_
    intro z next ⟨z1, z2⟩ hn
    have hsq := sq z (by omega) z2
    rw [w64_eq (n := z * z) (by omega), w64_eq (n := z * 2) (by omega)]
    refine ok_if (fun h => ?_) (fun h => hk _ ⟨z1, z2, by omega⟩)
    have hz : z ≤ 1000000 := by
      rcases Int.lt_or_le 1000000 z with hz | hz
      · have := sq_le (a := 1000001) (b := z) (by omega) (by omega)
        omega
      · exact hz
    exact hn _ ⟨by omega, by omega⟩ (by omega)
def cpOf (q : Passage) : Interval × Int := if q.Slow = true ∨ q.Stops = true then (⟨0, 0⟩, 24) else (⟨isq q.Energy.Lo, isu q.Energy.Hi⟩, 0)
def cpE (ps : List Piece) (m : Motion) (f : Int) : Interval × Int :=
  if (shE ps f).2 ≠ 0 then (⟨0, 0⟩, (shE ps f).2) else if (psOut (shE ps f).1 m).2 ≠ 0 then (⟨0, 0⟩, (psOut (shE ps f).1 m).2) else cpOf (lastP (psOut (shE ps f).1 m).1)
theorem Coupling_m {ps : List Piece} {m : Motion} {f : Int} : bowl_Coupling ps m f = some (cpE ps m f) := by
  refine Ok.eq (?_ : Ok _ _)
  unfold bowl_Coupling cpE
  refine ok_bde Shorten_m (ok_if (fun h => ok_some (by rw [if_pos h])) (fun h => ?_))
  rw [if_neg h]
  refine ok_bde Pass_e (ok_if (fun h => ok_some (by rw [if_pos h])) (fun h => ?_))
  rw [if_neg h]
  obtain ⟨hp, hm, e⟩ := psOut_ok (Decidable.not_not.1 h)
  rw [e]
  dsimp only
  have hpl := hp.len
  have hl := psAll_len (ps := (shE ps f).1) (m := m)
  rw [hl, w64_eq (by omega)]
  have hla := last_at (ps := (shE ps f).1) (m := m)
  have hb := psAll_bd hp hm _ (sc_mem hla)
  generalize lastP (psAll (shE ps f).1 m) = q at *
  refine ok_ixe (by omega) (by rw [← hla]; congr 1; omega) ?_
  unfold cpOf
  refine ok_b (fun q1 => ok_some (by rw [if_pos (.inl q1)])) (fun q1 => ok_b (fun q2 => ok_some (by rw [if_pos (.inr q2)])) (fun q2 => ?_))
  rw [if_neg (by rw [q1, q2]; simp)]
  have h0 := isq_le (n := q.Energy.Hi) (by omega) (by omega)
  have h1 := isq_spec (n := q.Energy.Hi) (by omega)
  have h2 := Int.mul_nonneg h1.1 h1.1
  refine ok_bde (broot_m hb.1 (by omega)) (ok_bde (broot_m (by omega) hb.2.2) ?_)
  rw [w64_eq (by omega), w64_eq (by omega)]
  unfold isu
  exact ok_if (fun q => ok_some (by rw [if_pos q])) (fun q => ok_some (by rw [if_neg q]))
theorem rCoupling_m {ps : List Piece} {m : Motion} {f : Int} : r32_Coupling ps m f = some (cpE ps m f) := by
  refine Ok.eq (?_ : Ok _ _)
  unfold r32_Coupling cpE
  refine ok_bde rShorten_m (ok_if (fun h => ok_some (by rw [if_pos h])) (fun h => ?_))
  rw [if_neg h]
  refine ok_bde rPass_e (ok_if (fun h => ok_some (by rw [if_pos h])) (fun h => ?_))
  rw [if_neg h]
  obtain ⟨hp, hm, e⟩ := psOut_ok (Decidable.not_not.1 h)
  rw [e]
  dsimp only
  have hpl := hp.len
  have hl := psAll_len (ps := (shE ps f).1) (m := m)
  rw [hl, w64_eq (by omega)]
  have hla := last_at (ps := (shE ps f).1) (m := m)
  have hb := psAll_bd hp hm _ (sc_mem hla)
  generalize lastP (psAll (shE ps f).1 m) = q at *
  refine ok_ixe (by omega) (by rw [← hla]; congr 1; omega) ?_
  unfold cpOf
  refine ok_b (fun q1 => ok_some (by rw [if_pos (.inl q1)])) (fun q1 => ok_b (fun q2 => ok_some (by rw [if_pos (.inr q2)])) (fun q2 => ?_))
  rw [if_neg (by rw [q1, q2]; simp)]
  exact ok_bde (rRootDown_m hb.1 (by omega)) (ok_bde (rRootUp_m (by omega) (by omega)) (ok_some rfl))
theorem shE_ok {ps : List Piece} {f : Int} {x : Piece} (hp : PsOk ps) (hx : ps[ps.length - 1]? = some x) (hf : 1 ≤ f ∧ f ≤ x.Length) : shE ps f = (setL ps f, 0) ∧ PsOk (setL ps f) ∧ (setL ps f).length = ps.length := by
  have hl := hp.len
  have := (hp.ok x (sc_mem hx)).l
  refine ⟨?_, setL_ok hp (by omega), (setL_get hx hl.1).1⟩
  unfold shE
  rw [if_neg (by simp [vE_zero hp]), hx]
  dsimp only
  rw [if_neg (by omega)]
theorem cpE_ok {ps : List Piece} {f : Int} {x : Piece} {m : Motion} (hp : PsOk ps) (hm : MotOk ps m) (hx : ps[ps.length - 1]? = some x) (hf : 1 ≤ f ∧ f ≤ x.Length) : cpE ps m f = cpOf (lastP (psAll (setL ps f) m)) := by
  obtain ⟨e1, e2, e3⟩ := shE_ok hp hx hf
  unfold cpE
  rw [e1]
  dsimp only
  rw [psOut_eq e2 (setL_mot hp.len.1 hm)]
  rw [if_neg (by simp), if_neg (by simp)]
theorem BowlCouples_ok {t : List Int} {a : Int} (ht : t.length ≤ 9223372036854775807) : law32_BowlCouples t a = some true := by
  refine Ok.eq (?_ : Ok _ _)
  unfold law32_BowlCouples
  refine ok_bde (gen_New_ok t) ?_
  dsimp only
  refine ok_bd (Pieces_ok (Mk0 ht (by decide)) (by omega)) fun r ⟨hmp, _, d0, d1⟩ => ?_
  obtain ⟨ps, c⟩ := r
  dsimp only at hmp d0 d1 ⊢
  have hp : PsOk ps := ⟨by have := hmp.len; omega, hmp.ok⟩
  have hl := hp.len
  rw [w64_eq (n := (ps.length : Int) - 1) (by omega)]
  refine ok_ix (by omega) (by omega) fun x hx => ?_
  rw [show ((ps.length : Int) - 1).toNat = ps.length - 1 from by omega] at hx
  have hxo := (hp.ok x (sc_mem hx)).l
  refine ok_bd (Place_ok (by omega)) fun v hv => ?_
  rw [w64_eq (n := 1 + v) (by omega)]
  refine ok_bd (Motion_ok (ps := ps) (k := HumpgenMaker.mk t c) ⟨by dsimp only; omega, by dsimp only; omega, ht⟩ (bent hp) (by omega)) fun r hm => ?_
  obtain ⟨m, cm⟩ := r
  obtain ⟨hmo, d2, d3⟩ := hm
  dsimp only at hmo d2 d3 ⊢
  obtain ⟨e1, e2, e3⟩ := shE_ok hp hx (f := 1 + v) (by omega)
  have hmo2 : MotOk (setL ps (1 + v)) m := setL_mot hl.1 hmo
  refine ok_bde Coupling_m (ok_bde Shorten_m ?_)
  rw [cpE_ok hp hmo hx (by omega), e1]
  dsimp only
  generalize setL ps (1 + v) = qs at *
  have hla := last_at (ps := qs) (m := m)
  have hb := psAll_bd e2 hmo2 _ (sc_mem hla)
  generalize lastP (psAll qs m) = q at *
  refine ok_jp (fun (z : Bool) => z = decide (q.Slow = true ∨ q.Stops = true)) (fun z hz => ?_) (fun k hk => ok_if0 (fun h => h rfl) (hk _ ?_))
  rotate_left
  · unfold cpOf
    by_cases h : q.Slow = true ∨ q.Stops = true
    · rw [if_pos h, decide_eq_true h]; rfl
    · rw [if_neg h, decide_eq_false h]; rfl
  subst hz
  refine ok_if (fun h => ?_) (fun h => ?_)
  · unfold cpOf
    rw [if_pos h]
    exact ok_if1 rfl (ok_if1 rfl (ok_bde sane32 (ok_some rfl)))
  · unfold cpOf
    rw [if_neg h]
    dsimp only
    refine ok_lp (fun (z : Int × Int) => 0 ≤ z.2 ∧ cm ≤ z.1 ∧ z.1 ≤ cm + 1000 * z.2) (fun z => (3 - z.2).toNat) ⟨Int.le_refl 0, Int.le_refl _, by dsimp only; omega⟩ (by simp only [big_eq]; omega) ?_
    rintro ⟨d, i⟩ next ⟨i0, f0, f1⟩ hnx
    dsimp only at i0 f0 f1 ⊢
    refine ok_if (fun hi => ?_) (fun _ => ok_bde sane32 (ok_some rfl))
    refine ok_bd (Run_ok (k := HumpgenMaker.mk t d) ⟨by dsimp only; omega, by dsimp only; omega, ht⟩ hmo2 (by omega)) fun v ⟨hr, hri, c4, c5⟩ => ?_
    obtain ⟨r, cr⟩ := v
    dsimp only at hr hri c4 c5 ⊢
    refine ok_bde rPoint_e ?_
    rw [ptOut_eq e2 hr]
    dsimp only
    have hin := all_in e2 hmo2 hr hri
    have hlen : (ptAll qs r).length = qs.length + 1 := by
      have h1 := (ptAll_len (ps := qs) (r := r)).2
      rcases Nat.lt_or_ge qs.length (ptAll qs r).length with h2 | h2
      · omega
      · exact absurd (hin.rest qs.length q h2 hla) (fun hh => h hh.symm)
    have hst : ptStop qs r = -1 := by
      have h1 := ptStop_all (ps := qs) (r := r)
      have h2 := h1.1.2 hlen
      unfold ptStop at h2 ⊢
      split
      · rfl
      · rename_i hne; rw [if_neg hne] at h2; omega
    refine ok_if0 (fun h => h rfl) (ok_if0 (by omega) (ok_if0 ?_ ?_))
    · rw [hlen, w64_eq (by omega)]; simp
    have hy : (ptAll qs r)[qs.length]? = some (ptAll qs r)[qs.length] := List.getElem?_eq_getElem (by omega)
    generalize (ptAll qs r)[qs.length] = y at hy
    have hyq := (hin.get qs.length y q hy hla).e.2
    have hy2 : (ptAll qs r)[((qs.length : Int)).toNat]? = some y := by rw [Int.toNat_natCast]; exact hy
    refine ok_ixe (by omega) hy2 (ok_bde (rRootDown_m (by omega) (by omega)) (ok_if0 ?_ (ok_ixe (by omega) hy2 (ok_bde (rRootUp_m (by omega) (by omega)) (ok_if0 ?_ ?_)))))
    · have := isq_mono (a := q.Energy.Lo) (b := y.Energy) (by omega) (by omega)
      omega
    · have := isu_mono (a := y.Energy) (b := q.Energy.Hi) (by omega) (by omega)
      omega
    · rw [w64_eq (by omega)]
      exact hnx _ ⟨by dsimp only; omega, by dsimp only; omega, by dsimp only; omega⟩ (by dsimp only; omega)
end Go.Hy
