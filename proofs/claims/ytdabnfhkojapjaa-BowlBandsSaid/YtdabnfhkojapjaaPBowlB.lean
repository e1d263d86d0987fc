/-
  Coupling speeds in a band.
-/
import Derived.Test.YtdabnfhkojapjaaPBowlC
import Derived.Test.YtdabnfhkojapjaaPWin
namespace Go.Hy
set_option linter.unusedVariables false
set_option linter.unusedSimpArgs false
set_option maxHeartbeats 2000000
set_option maxRecDepth 10000
open Go.Hy.Iv

theorem isq_sq {v : Int} (h : 0 ≤ v) : isq (v * v) = v := by
  have : v * v < (v + 1) * (v + 1) := by
    rw [Int.add_mul, Int.mul_add]
    omega
  exact (isq_unique h (Int.le_refl _) this).symm
theorem isu_sq {v : Int} (h : 0 ≤ v) : isu (v * v) = v := by
  unfold isu
  rw [isq_sq h, if_neg (by omega)]
theorem nret_app (a b : List Piece) : nret (a ++ b) = nret a + nret b := by
  induction a with
  | nil => simp [nret]
  | cons p a ih => simp only [List.cons_append, nret, ih]; omega
theorem setT_mot {ps : List Piece} {f : Int} {m : Motion} (hl : 1 ≤ ps.length) (h : MotOk ps m) : MotOk (setL ps f) m := setL_mot hl h
theorem BowlBands_ok {t : List Int} {a b : Int} (ht : t.length ≤ 9223372036854775807) : law32_BowlBands t a b = some true := by
  refine Ok.eq (?_ : Ok _ _)
  unfold law32_BowlBands
  refine ok_bde (gen_New_ok t) ?_
  dsimp only
  refine ok_bd (Pieces_ok (Mk0 ht (by decide)) (by omega)) fun r ⟨hmp, _, d0, d1⟩ => ?_
  obtain ⟨ps0', c⟩ := r
  dsimp only at hmp d0 d1 ⊢
  have hl0 := hmp.len
  refine ok_bd (Pick_ok (k := HumpgenMaker.mk t c) ⟨by dsimp only; omega, by unfold CM0; dsimp only; omega, ht⟩ (by simp)) fun g ⟨mg, eg⟩ => ok_ck (by simp only [List.length_cons, List.length_nil]; omega) (ok_vl fun ps hps => ?_)
  dsimp only at eg
  simp only [List.mem_cons, List.not_mem_nil, or_false] at mg
  have hlen : ps.length = ps0'.length + 2 := by rw [hps]; simp
  have hp : PsOk ps := by
    refine ⟨by omega, fun p hp => ?_⟩
    rw [hps] at hp
    rcases List.mem_append.1 hp with hp | hp
    · exact hmp.ok p hp
    · simp only [List.mem_cons, List.not_mem_nil, or_false] at hp
      rcases hp with rfl | rfl
      · exact ⟨by decide, by decide, by decide, by decide, by decide⟩
      · exact ⟨by dsimp only; omega, by dsimp only; omega, by dsimp only; omega, by dsimp only; omega, by dsimp only; omega⟩
  have hx : ps[ps.length - 1]? = some (Piece.mk 91 400000 g.1 0 0) := by
    rw [hlen, hps, List.getElem?_append_right (by omega), show ps0'.length + 2 - 1 - ps0'.length = 1 from by omega]
    rfl
  have hnr : 1 ≤ nret ps := by
    rw [hps, nret_app]
    simp only [nret]
    split <;> omega
  refine ok_bd (Place_ok (by omega)) fun v hv => ?_
  refine ok_bd (Motion_ok (ps := ps) (k := HumpgenMaker.mk t g.2) ⟨by dsimp only; omega, by dsimp only; omega, ht⟩ (bent hp) (by omega)) fun r hm => ?_
  obtain ⟨m, cm⟩ := r
  obtain ⟨hmo, d2, d3⟩ := hm
  dsimp only at hmo d2 d3 ⊢
  refine ok_bd (Band_ok (k := HumpgenMaker.mk t cm) ⟨by dsimp only; omega, by dsimp only; omega, ht⟩) fun r ⟨hbd, _, _⟩ => ?_
  obtain ⟨bd', cb⟩ := r
  dsimp only at hbd ⊢
  have hnl := nret_le ps
  have htl := hmo.tgs
  rw [w64_eq (n := 1 + v) (by omega)]
  obtain ⟨e1, e2, e3⟩ := shE_ok hp hx (f := 1 + v) (by dsimp only; omega)
  have hmo2 : MotOk (setL ps (1 + v)) m := setL_mot (by omega) hmo
  refine ok_bde Shorten_m ?_
  rw [e1]
  dsimp only
  refine ok_if0 (fun h => h rfl) (ok_vl fun k hk => ?_)
  rw [w64_eq (by omega)] at hk
  refine ok_bd (rWindow_m (by omega)) fun x hw => ?_
  refine ok_if (fun _ => ok_bde sane32 (ok_some rfl)) (fun hx0 => ?_)
  have hx0 := Decidable.not_not.1 hx0
  have hkk : 0 ≤ k ∧ k < m.Targets.length := by omega
  have hB : BdOk bd' := Decidable.byContradiction fun h => by rw [hw.w1 h] at hx0; cases hx0
  have hps0 : (psOut (setL ps (1 + v)) (setT m k.toNat 0)).2 = 0 := by rw [psOut_eq e2 (setT_ok hmo2 (by omega))]
  obtain ⟨lo, hi, ⟨hlo, hhi⟩, er⟩ := hw.w4 hB hkk hps0
  have hlh : ¬ hi ≤ lo := fun h => by rw [er, if_pos h] at hx0; cases hx0
  rw [if_neg hlh] at er
  subst er
  dsimp only
  have hlr := hlo.r
  have hhr := hhi.r
  refine ok_jp (fun (z : Int × Int × Int) => z.2.2 = 0 ∧ bd'.Lo ≤ z.1 ∧ z.2.1 ≤ bd'.Hi ∧ z.1 ≤ z.2.1) (fun z ⟨z1, z2, z3, z4⟩ => ok_if1 z1 (ok_if1 z2 (ok_if1 z3 (ok_if1 z4 (ok_bde sane32 (ok_some rfl)))))) (fun kk hkk2 => ?_)
  refine ok_vl fun y hy => ?_
  rw [w64_eq (n := hi - 1 - lo) (by omega), w64_eq (by omega)] at hy
  refine ok_bd (Place_ok (by omega)) fun u hu => ?_
  rw [w64_eq (n := lo + u) (by omega)]
  refine ok_bde (rWith_m hkk (by omega)) ?_
  have eta : (Motion.mk (setT m k.toNat (lo + u)).Speed m.Class (setT m k.toNat (lo + u)).Error (setT m k.toNat (lo + u)).Targets) = setT m k.toNat (lo + u) := rfl
  rw [eta]
  refine ok_bde Coupling_m (hkk2 _ ?_)
  rw [cpE_ok hp (setT_ok hmo (by omega)) hx (by dsimp only; omega)]
  have hE := (hlo.i (lo + u) (by omega) (by omega)).2 (by omega)
  have hG : Gen (lastP (psAll (setL ps (1 + v)) (setT m k.toNat (lo + u)))) bd'.Hi := Decidable.byContradiction fun h => by
    have := (hhi.i (lo + u) (by omega) (by omega)).1 h
    omega
  have hb := psAll_bd e2 (setT_ok (k := k.toNat) (v := lo + u) hmo2 (by omega)) _ (sc_mem last_at)
  generalize lastP (psAll (setL ps (1 + v)) (setT m k.toNat (lo + u))) = q at *
  obtain ⟨h1, h2, h3⟩ := hE
  have h4 : q.Energy.Hi ≤ bd'.Hi * bd'.Hi := hG.resolve_left (by rw [h2]; simp)
  unfold cpOf
  rw [if_neg (by rw [h1, h2]; simp)]
  have s1 := isq_mono (a := bd'.Lo * bd'.Lo) (b := q.Energy.Lo) (bsq (by omega)).1 h3
  have s2 := isu_mono (a := q.Energy.Hi) (b := bd'.Hi * bd'.Hi) (by omega) h4
  have s3 := isq_mono (a := q.Energy.Lo) (b := q.Energy.Hi) hb.1 hb.2.1
  have s4 := isq_isu (a := q.Energy.Hi) (by omega)
  rw [isq_sq (by omega)] at s1
  rw [isu_sq (by omega)] at s2
  exact ⟨rfl, s1, s2, by dsimp only; omega⟩
end Go.Hy
