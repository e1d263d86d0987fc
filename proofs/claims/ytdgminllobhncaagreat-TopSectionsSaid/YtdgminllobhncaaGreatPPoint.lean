/-
  What the function Point of package runoff answers.
-/
import Derived.Test.YtdgminllobhncaaGreatPBase
namespace Go.Hy
set_option linter.unusedVariables false
set_option linter.unusedSimpArgs false
set_option maxHeartbeats 2000000
set_option maxRecDepth 10000
open Go.Hy.Iv

theorem Point_m {ps : List Piece} {r : Run} (hp : PsOk ps) (hr : RunOk ps r) : runoff_Point ps r = some (ptAll ps r, ptStop ps r, 0) := by
  refine Ok.eq (?_ : Ok _ _)
  have hl := hp.len
  have hnr := nret_le ps
  obtain ⟨h1, h2, h3, h4, h5⟩ := hr
  unfold runoff_Point
  refine ok_bde (PValid_ok hp) (ok_if0 (by decide) (ok_if0 (by omega) (ok_bde (retarders_m (by omega)) (ok_if0 (by omega) ?_))))
  refine ok_jp (fun _ => True) (fun _ _ => ?_) (fun k hk => ?_)
  rotate_left
  · refine ok_lp (fun (z : Int) => 0 ≤ z) (fun z => ((r.Resist.length : Int) - z).toNat) (Int.le_refl 0) (by simp only [big_eq]; omega) ?_
    intro z next z0 hn
    refine ok_if (fun h => ok_ix z0 h fun a ha => ?_) (fun _ => hk _ trivial)
    refine ok_nd (in_m _ _ _) (fun h => absurd (h4 a (memat ha)) h) fun _ => ?_
    rw [w64_eq (by omega)]
    exact hn _ (by omega) (by omega)
  refine ok_nd (in_m _ _ _) (fun h => absurd h3 h) fun _ => ?_
  refine ok_bde (targets_m (by omega) h5) ?_
  have hq := sq_bd (v := r.Speed) (by omega)
  have hq2 : r.Speed * r.Speed ≤ 400000000 := sq_le (b := 20000) h3.1 h3.2
  rw [w64_eq (n := r.Speed * r.Speed) (by omega)]
  refine ok_lp (fun (z : Int × Int × List Moment × Int × Int) => ∃ x, MomOk x z.2.2.2.2.toNat ∧ z.1 = x.Time ∧ z.2.1 = x.Energy ∧ 0 ≤ z.2.2.2.1 ∧ 0 ≤ z.2.2.2.2 ∧ z.2.2.2.2 ≤ ps.length ∧ z.2.2.1.length = z.2.2.2.2.toNat + 1 ∧
      z.2.2.2.1.toNat + nret (ps.drop z.2.2.2.2.toNat) = r.Targets.length ∧ z.2.2.1 ++ ptRun (ps.drop z.2.2.2.2.toNat) (r.Resist.drop z.2.2.2.2.toNat) (r.Targets.drop z.2.2.2.1.toNat) x = ptAll ps r)
    (fun z => ((ps.length : Int) - z.2.2.2.2).toNat) ?_ ?_ ?_
  · exact ⟨pt0 r, ⟨by dsimp only [pt0]; omega, by dsimp only [pt0]; omega, by dsimp only [pt0]; omega, by dsimp only [pt0]; omega⟩, rfl, rfl, by dsimp only; omega, by dsimp only; omega, by dsimp only; omega, rfl, by dsimp only; simp [h2], rfl⟩
  · simp only [big_eq]; omega
  rintro ⟨t, e, out, k, i⟩ next ⟨x, hx, e1, e2, k0, i0, i1, ol, kn, hf⟩ hn
  dsimp only at hx e1 e2 k0 i0 i1 ol kn hf ⊢
  subst e1 e2
  have hlen : (ptAll ps r).length = 1 + (ptRun ps r.Resist r.Targets (pt0 r)).length := by simp [ptAll]; omega
  refine ok_if (fun hi => ?_) (fun hi => ok_some ?_)
  rotate_left
  · have : ps.drop i.toNat = [] := List.drop_eq_nil_of_le (by omega)
    rw [this] at hf
    simp only [ptRun, List.append_nil] at hf
    rw [hf] at ol ⊢
    unfold ptStop
    rw [if_pos (by omega)]
  refine ok_ix i0 hi fun p hpi => ?_
  have hpo := hp.ok p (memat hpi)
  obtain ⟨m0, m1, m2, m3⟩ := hx
  have stop : ∀ w, r.Resist[i.toNat]? = some w → ptStep p w (tgOf p (r.Targets.drop k.toNat)) x = none → (out, i, (0 : Int)) = (ptAll ps r, ptStop ps r, 0) := fun w hw hs => by
    rw [drop_at hpi, drop_at hw, ptRun_none (by simpa using hs), List.append_nil] at hf
    rw [hf] at ol ⊢
    unfold ptStop
    rw [if_neg (by omega)]
    simp only [Prod.mk.injEq, true_and, and_true]
    omega
  have go : ∀ w y k', r.Resist[i.toNat]? = some w → Wr w → ptStep p w (tgOf p (r.Targets.drop k.toNat)) x = some y → (0 < p.Power → k' = k + 1) → (¬ 0 < p.Power → k' = k) →
      Ok (ck (decide (out.length + ([(Moment.mk y.Time y.Energy)] : List Moment).length ≤ 1000000000)) <| vl (out ++ ([(Moment.mk y.Time y.Energy)] : List Moment)) fun o => next (y.Time, y.Energy, o, k', w64 (i + 1))) (fun v => v = (ptAll ps r, ptStop ps r, 0)) := by
    intro w y k' hw hwr hs hk1 hk2
    have hy := ptStep_ok (i := i.toNat) hpo hwr ⟨m0, m1, m2, m3⟩ hs
    have ei : (i + 1).toNat = i.toNat + 1 := by omega
    refine ok_ck (by simp; omega) (ok_vl fun o ho => ?_)
    subst ho
    rw [w64_eq (by omega)]
    rw [drop_at hpi, drop_at hw, ptRun_some (by simpa using hs)] at hf
    rw [drop_at hpi] at kn
    simp only [nret] at kn
    refine hn _ ⟨y, by dsimp only; rw [ei]; exact hy, rfl, rfl, ?_, by dsimp only; omega, by dsimp only; omega, by simp; omega, ?_, ?_⟩ (by dsimp only; omega)
    · dsimp only; by_cases h : 0 < p.Power
      · have := hk1 h; omega
      · have := hk2 h; omega
    · dsimp only
      rw [ei]
      by_cases h : 0 < p.Power
      · rw [if_pos h] at kn; have := hk1 h; omega
      · rw [if_neg h] at kn; have := hk2 h; omega
    · dsimp only
      rw [ei, ← hf, List.append_assoc]
      congr 1
      simp only [List.singleton_append, List.cons.injEq, true_and, List.tail_cons, tsOf]
      by_cases h : 0 < p.Power
      · rw [if_pos h, hk1 h, List.tail_drop]
        congr 3
        omega
      · rw [if_neg h, hk2 h]
  refine ok_bde (roots_m m0 (by omega)) ?_
  have hiw : i.toNat < r.Resist.length := by omega
  refine ok_ix i0 (by omega) fun w hw => ?_
  have hwr := h4 w (memat hw)
  have hg := gd_bd hpo hwr
  have b0 := isu_le m0 (by omega)
  refine ok_bde (gain_m hpo hwr) ?_
  dsimp only
  rw [w64_eq (n := x.Energy + gd p w) (by omega)]
  refine ok_if (fun hs => ok_some (stop w hw (by unfold ptStep; rw [if_pos hs]))) (fun hs => ?_)
  have b1 := isu_le (n := x.Energy + gd p w) (by omega) (by omega)
  refine ok_bde (roots_m (by omega) (by omega)) ?_
  dsimp only
  rw [w64_eq (n := isq x.Energy + isq (x.Energy + gd p w)) (by omega)]
  refine ok_if (fun hz => ok_some (stop w hw (by unfold ptStep; rw [if_neg hs, if_pos hz]))) (fun hz => ?_)
  have hpl := hpo.l
  have hpw := hpo.p
  have hu := up_nn (x := 2000 * p.Length) (d := isq x.Energy + isq (x.Energy + gd p w)) (by omega) (by omega)
  rw [w64_eq (n := 2000 * p.Length) (by omega), w64_eq (n := 2000 * p.Length + isq x.Energy) (by omega)]
  refine ok_vl fun x25 hx25 => ?_
  have e25 : x25 + isq (x.Energy + gd p w) - 1 = 2000 * p.Length + (isq x.Energy + isq (x.Energy + gd p w)) - 1 := by omega
  rw [w64_eq (n := x25 + isq (x.Energy + gd p w)) (by omega), w64_eq (n := x25 + isq (x.Energy + gd p w) - 1) (by omega), e25]
  refine ok_ck hz ?_
  rw [Int.tdiv_eq_ediv_of_nonneg (by omega), ← up_eq (by omega) (by omega), w64_eq (n := up (2000 * p.Length) (isq x.Energy + isq (x.Energy + gd p w))) (by omega)]
  refine ok_vl fun x27 hx27 => ?_
  rw [w64_eq (n := x.Time + x27) (by omega), Int.min_comm, hx27]
  refine ok_vl fun x28 hx28 => ?_
  have st : ∀ E, E = bk p (tgOf p (r.Targets.drop k.toNat)) (x.Energy + gd p w) → ptStep p w (tgOf p (r.Targets.drop k.toNat)) x = some ⟨x28, E⟩ := fun E hE => by
    unfold ptStep; rw [if_neg hs, if_neg hz, hx28, hE]
  rw [drop_at hpi] at kn
  simp only [nret] at kn
  refine ok_if (fun hpp => ?_) (fun hpp => ?_)
  · rw [if_pos hpp] at kn
    refine ok_ix k0 (by omega) fun tg htg => ?_
    have htt := h5 tg (memat htg)
    have etg : tgOf p (r.Targets.drop k.toNat) = tg := by unfold tgOf; rw [if_pos hpp, drop_at htg]; rfl
    rw [w64_eq (n := k + 1) (by omega)]
    refine ok_if (fun ht => ?_) (fun ht => ?_)
    · have hsq := sq_bd (v := tg) (by omega)
      rw [w64_eq (n := tg * tg) (by omega), w64_eq (by omega)]
      refine ok_vl fun x31 hx31 => ok_vl fun x32 hx32 => ?_
      exact go w ⟨x28, max x31 x32⟩ (k + 1) hw hwr (st _ (by rw [etg]; unfold bk; rw [if_pos ⟨hpp, ht⟩, hx31, hx32])) (fun _ => rfl) (fun h => absurd hpp h)
    · exact go w ⟨x28, x.Energy + gd p w⟩ (k + 1) hw hwr (st _ (by rw [etg]; unfold bk; rw [if_neg (by omega)])) (fun _ => rfl) (fun h => absurd hpp h)
  · exact go w ⟨x28, x.Energy + gd p w⟩ k hw hwr (st _ (by unfold bk; rw [if_neg (by omega)])) (fun h => absurd h hpp) (fun _ => rfl)
end Go.Hy
