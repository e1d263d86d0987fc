/-
  The reference's passages and runs.
-/
import Derived.Test.YtdabnfhkojapjaaPExact
namespace Go.Hy
set_option linter.unusedVariables false
set_option linter.unusedSimpArgs false
set_option maxHeartbeats 2000000
set_option maxRecDepth 10000
open Go.Hy.Iv

/-- What the reference's loop over a run answers. -/
theorem rPoint_e {ps : List Piece} {r : Run} : r20_Point ps r = some (ptOut ps r) := by
  refine Ok.eq (?_ : Ok _ _)
  unfold r20_Point
  refine ok_bde r20Valid_e (ok_if (fun h => ok_some (ptOut0 h).symm) (fun h => ?_))
  have hv : vE ps = 0 := Decidable.not_not.1 h
  have hp := vE_ok hv
  have hl := hp.len
  have hnr := nret_le ps
  refine ok_if (fun h => ok_some (ptOut1 hv (by omega)).symm) fun a1 => ok_bde (Retarders_m (by omega)) (ok_if (fun h => ok_some (ptOut1 hv (by omega)).symm) fun a2 => ?_)
  have hA : RA ps r := ⟨by omega, by omega⟩
  refine ok_jp (fun (z : Bool) => z = true ↔ ((0 ≤ r.Speed ∧ r.Speed ≤ 20000) ∧ r.Targets.all tB = true)) (fun z hz => ?_) (fun k hk => ?_)
  rotate_left
  · have no : ¬ (0 ≤ r.Speed ∧ r.Speed ≤ 20000) → Ok (k false) (· = ptOut ps r) := fun h => hk _ ⟨fun h => (by cases h), fun hh => absurd hh.1 h⟩
    refine ok_if (fun q1 => ok_if (fun q2 => ok_bde (rtargets_e (by omega)) (hk _ ⟨fun h => ⟨⟨q1, q2⟩, h⟩, fun h => h.2⟩)) (fun h => no (by omega))) (fun h => no (by omega))
  refine ok_jp (fun (y : Bool) => y = true ↔ RB r) (fun y hy => ?_) (fun k hk => ?_)
  rotate_left
  · refine ok_lp (fun (y : Bool × Int) => 0 ≤ y.2 ∧ (y.1 = true ↔ z = true ∧ (r.Resist.take y.2.toNat).all wB = true)) (fun y => ((ps.length : Int) - y.2).toNat) ⟨Int.le_refl 0, by simp⟩ (by simp only [big_eq]; omega) ?_
    rintro ⟨b, i⟩ next ⟨i0, hb⟩ hn
    dsimp only at i0 hb ⊢
    refine ok_if (fun hi => ?_) (fun hi => ?_)
    rotate_left
    · rw [List.take_of_length_le (by omega), hz] at hb
      exact hk _ (hb.trans ⟨fun h => ⟨h.2, h.1⟩, fun h => ⟨h.2, h.1⟩⟩)
    rw [w64_eq (by omega)]
    have hii : i.toNat < r.Resist.length := by omega
    have ha := List.getElem?_eq_getElem hii
    generalize r.Resist[i.toNat] = a at ha
    have ei : (i + 1).toNat = i.toNat + 1 := by omega
    have nx : ∀ c : Bool, (c = true ↔ b = true ∧ wB a = true) → Ok (next (c, i + 1)) (· = ptOut ps r) := fun c hc => hn _ ⟨by dsimp only; omega, by
      dsimp only
      rw [hc, hb, ei, take_at ha, List.all_append]
      simp [and_assoc]⟩ (by dsimp only; omega)
    refine ok_b (fun h => ok_ixe i0 ha (ok_if (fun h1 => ok_ixe i0 ha (nx _ ?_)) (fun h1 => nx _ ?_))) (fun h => nx _ ?_)
    · unfold wB; simp only [decide_eq_true_eq, h, true_and]; omega
    · unfold wB; simp only [decide_eq_true_eq, h, true_and]; exact ⟨fun h => (by cases h), fun hh => absurd hh.1 h1⟩
    · simp [h]
  refine ok_nb (fun h => ok_some ?_) (fun h => ?_)
  · rw [ptOut2 hv hA]
    intro hh
    rw [hy.2 hh] at h; cases h
  have hB := hy.1 h
  rw [ptOut3 hv hA hB]
  obtain ⟨h1, h2, h3, h4, h5⟩ := rE_ok hA hB
  have hq := sq_bd (v := r.Speed) (by omega)
  have hq2 : r.Speed * r.Speed ≤ 400000000 := sq_le (b := 20000) h3.1 h3.2
  rw [w64_eq (n := r.Speed * r.Speed) (by omega)]
  refine ok_lp (fun (z : Int × Int × List Moment × Int × Int) => ∃ x, MomOk x z.2.2.2.2.toNat ∧ z.1 = x.Time ∧ z.2.1 = x.Energy ∧ 0 ≤ z.2.2.2.1 ∧ 0 ≤ z.2.2.2.2 ∧ z.2.2.2.2 ≤ ps.length ∧ z.2.2.1.length = z.2.2.2.2.toNat + 1 ∧
      z.2.2.2.1.toNat + nret (ps.drop z.2.2.2.2.toNat) = r.Targets.length ∧ z.2.2.1 ++ ptRun (ps.drop z.2.2.2.2.toNat) (r.Resist.drop z.2.2.2.2.toNat) (r.Targets.drop z.2.2.2.1.toNat) x = ptAll ps r)
    (fun z => ((ps.length : Int) - z.2.2.2.2).toNat) ?_ ?_ ?_
  · exact ⟨pt0 r, ⟨by dsimp only [pt0]; omega, by dsimp only [pt0]; omega, by dsimp only [pt0]; omega, by dsimp only [pt0]; omega⟩, rfl, rfl, by dsimp only; omega, by dsimp only; omega, by dsimp only; omega, rfl, by dsimp only; simp [h2], rfl⟩
  · simp only [big_eq]; omega
  rintro ⟨t, e, out, k, i⟩ next ⟨x, hx, e1, e2, k0, i0, i1, ol, kn, hf⟩ hn
  dsimp only at hx e1 e2 k0 i0 i1 ol kn hf ⊢
  subst e1 e2
  have hlen : (ptAll ps r).length = 1 + (ptRun ps r.Resist r.Targets (pt0 r)).length := by simp [ptAll]; omega
  refine ok_if (fun hi => ?_) (fun hi => ok_some ?_)
  rotate_left
  · have : ps.drop i.toNat = [] := List.drop_eq_nil_of_le (by omega)
    rw [this] at hf
    simp only [ptRun, List.append_nil] at hf
    rw [hf] at ol ⊢
    unfold ptStop
    rw [if_pos (by omega)]
  refine ok_ix i0 hi fun p hpi => ?_
  have hpo := hp.ok p (memat hpi)
  obtain ⟨m0, m1, m2, m3⟩ := hx
  have stop : ∀ w, r.Resist[i.toNat]? = some w → ptStep p w (tgOf p (r.Targets.drop k.toNat)) x = none → (out, i, (0 : Int)) = (ptAll ps r, ptStop ps r, 0) := fun w hw hs => by
    rw [drop_at hpi, drop_at hw, ptRun_none (by simpa using hs), List.append_nil] at hf
    rw [hf] at ol ⊢
    unfold ptStop
    rw [if_neg (by omega)]
    simp only [Prod.mk.injEq, true_and, and_true]
    omega
  have go : ∀ w y k', r.Resist[i.toNat]? = some w → Wr w → ptStep p w (tgOf p (r.Targets.drop k.toNat)) x = some y → (0 < p.Power → k' = k + 1) → (¬ 0 < p.Power → k' = k) →
      Ok (ck (decide (out.length + ([(Moment.mk y.Time y.Energy)] : List Moment).length ≤ 1000000000)) <| vl (out ++ ([(Moment.mk y.Time y.Energy)] : List Moment)) fun o => next (y.Time, y.Energy, o, k', w64 (i + 1))) (fun v => v = (ptAll ps r, ptStop ps r, 0)) := by
    intro w y k' hw hwr hs hk1 hk2
    have hy := ptStep_ok (i := i.toNat) hpo hwr ⟨m0, m1, m2, m3⟩ hs
    have ei : (i + 1).toNat = i.toNat + 1 := by omega
    refine ok_ck (by simp; omega) (ok_vl fun o ho => ?_)
    subst ho
    rw [w64_eq (by omega)]
    rw [drop_at hpi, drop_at hw, ptRun_some (by simpa using hs)] at hf
    rw [drop_at hpi] at kn
    simp only [nret] at kn
    refine hn _ ⟨y, by dsimp only; rw [ei]; exact hy, rfl, rfl, ?_, by dsimp only; omega, by dsimp only; omega, by simp; omega, ?_, ?_⟩ (by dsimp only; omega)
    · dsimp only; by_cases h : 0 < p.Power
      · have := hk1 h; omega
      · have := hk2 h; omega
    · dsimp only
      rw [ei]
      by_cases h : 0 < p.Power
      · rw [if_pos h] at kn; have := hk1 h; omega
      · rw [if_neg h] at kn; have := hk2 h; omega
    · dsimp only
      rw [ei, ← hf, List.append_assoc]
      congr 1
      simp only [List.singleton_append, List.cons.injEq, true_and, List.tail_cons, tsOf]
      by_cases h : 0 < p.Power
      · rw [if_pos h, hk1 h, List.tail_drop]
        congr 3
        omega
      · rw [if_neg h, hk2 h]
  have hiw : i.toNat < r.Resist.length := by omega
  refine ok_ix i0 (by omega) fun w hw => ?_
  have hwr := h4 w (memat hw)
  have hg := gd_bd hpo hwr
  have b0 := isu_le m0 (by omega)
  refine ok_bde (r20gain_m hpo hwr) (ok_bde (rdown_gn hpo hwr) ?_)
  rw [w64_eq (n := x.Energy + gd p w) (by omega)]
  refine ok_if (fun hs => ok_some (stop w hw (by unfold ptStep; rw [if_pos hs]))) (fun hs => ?_)
  have b1 := isu_le (n := x.Energy + gd p w) (by omega) (by omega)
  refine ok_bde (rRootDown_m m0 (by omega)) (ok_bde (rRootDown_m (by omega) (by omega)) ?_)
  rw [w64_eq (n := isq x.Energy + isq (x.Energy + gd p w)) (by omega)]
  refine ok_if (fun hz => ok_some (stop w hw (by unfold ptStep; rw [if_neg hs, if_pos hz]))) (fun hz => ?_)
  have hpl := hpo.l
  have hpw := hpo.p
  have hu := up_nn (x := 2000 * p.Length) (d := isq x.Energy + isq (x.Energy + gd p w)) (by omega) (by omega)
  refine ok_ixe i0 hpi ?_
  rw [w64_eq (n := 2000 * p.Length) (by omega)]
  refine ok_bde (rUp_m (by omega) hz) ?_
  have eu : upm (2000 * p.Length) (isq x.Energy + isq (x.Energy + gd p w)) = up (2000 * p.Length) (isq x.Energy + isq (x.Energy + gd p w)) := upm_pos (by omega) (by omega)
  rw [eu, w64_eq (n := x.Time + up (2000 * p.Length) (isq x.Energy + isq (x.Energy + gd p w))) (by omega)]
  refine ok_vl fun x28 hx28 => ok_ixe i0 hpi ?_
  have st : ∀ E, E = bk p (tgOf p (r.Targets.drop k.toNat)) (x.Energy + gd p w) → ptStep p w (tgOf p (r.Targets.drop k.toNat)) x = some ⟨x28, E⟩ := fun E hE => by
    unfold ptStep; rw [if_neg hs, if_neg hz, hx28, hE]
  rw [drop_at hpi] at kn
  simp only [nret] at kn
  refine ok_if (fun hpp => ?_) (fun hpp => ?_)
  · rw [if_pos hpp] at kn
    refine ok_ix k0 (by omega) fun tg htg => ?_
    have htt := h5 tg (memat htg)
    have etg : tgOf p (r.Targets.drop k.toNat) = tg := by unfold tgOf; rw [if_pos hpp, drop_at htg]; rfl
    rw [w64_eq (n := k + 1) (by omega)]
    refine ok_if (fun ht => ?_) (fun ht => ?_)
    · have hsq := sq_bd (v := tg) (by omega)
      rw [w64_eq (n := tg * tg) (by omega)]
      refine ok_vl fun x31 hx31 => ok_ixe i0 hpi ?_
      rw [w64_eq (n := x.Energy + gd p w - p.Power) (by omega)]
      refine ok_vl fun x32 hx32 => ?_
      exact go w ⟨x28, max x31 x32⟩ (k + 1) hw hwr (st _ (by rw [etg]; unfold bk; rw [if_pos ⟨hpp, ht⟩, hx31, hx32])) (fun _ => rfl) (fun h => absurd hpp h)
    · exact go w ⟨x28, x.Energy + gd p w⟩ (k + 1) hw hwr (st _ (by rw [etg]; unfold bk; rw [if_neg (by omega)])) (fun _ => rfl) (fun h => absurd hpp h)
  · exact go w ⟨x28, x.Energy + gd p w⟩ k hw hwr (st _ (by unfold bk; rw [if_neg (by omega)])) (fun h => absurd h hpp) (fun _ => rfl)

/-! ### Passages -/
def oP : Option RunoffState → Passage
  | none => stopP
  | some s => toP s
def psO (err : Int) (ps : List Piece) (cs : List Interval) (ts : List Int) : Option RunoffState → List Passage
  | none => List.replicate ps.length stopP
  | some s => psRun err ps cs ts s
theorem psO_cons {err : Int} {p : Piece} {ps : List Piece} {cs : List Interval} {ts : List Int} {q : Option RunoffState} :
    psO err (p :: ps) cs ts q = oP (q.bind (psNext p (cs.headD ⟨0, 0⟩) (tgOf p ts) err)) :: psO err ps cs.tail (tsOf p ts) (q.bind (psNext p (cs.headD ⟨0, 0⟩) (tgOf p ts) err)) := by
  cases q with
  | none => rfl
  | some s =>
    cases h : psNext p (cs.headD ⟨0, 0⟩) (tgOf p ts) err s with
    | none => simp only [psO, Option.bind_some, h, oP, psRun_none h, List.replicate_succ]
    | some s' => simp only [psO, Option.bind_some, h, oP, psRun_some h]
theorem rstep_m {p : Piece} {c : Interval} {x : Passage} {s : RunoffState} {i : Nat} (hx : s = ⟨x.Time, x.Energy, x.Slow⟩) (hp : PieceOk p) (hc : ClsOk c) (hs : StOk s i) (hi : i ≤ 128) : r20_step x p c = some (oP (psStep p c s)) := by
  refine Ok.eq (?_ : Ok _ _)
  have a1 : x.Energy = s.fenergy := by rw [hx]
  have a2 : x.Time = s.ftime := by rw [hx]
  have a3 : x.Slow = s.fslow := by rw [hx]
  have hs0 := hs
  obtain ⟨e0, e1, e2, t0, t1, t2⟩ := hs
  have hw := cls_wr hc
  have hg := gd_bd hp hw.2
  have hu := gu_bd hp hw.1
  have hl := hp.l
  have hgu : gd p c.Hi ≤ gu p c.Lo := Int.le_trans (dn_mono' (by decide) (gn_anti hp hc.2.1)) gd_le
  unfold r20_step
  rw [a1, a2, a3]
  clear hx a1 a2 a3
  refine ok_bde (r20gain_m hp hw.2) (ok_bde (rdown_gn hp hw.2) (ok_bde (r20gain_m hp hw.1) (ok_bde (rup_gn hp hw.1) ?_)))
  rw [w64_eq (n := s.fenergy.Hi + gu p c.Lo) (by omega), w64_eq (n := s.fenergy.Lo + gd p c.Hi) (by omega)]
  have eh : s.fenergy.Hi + gu p c.Lo = hiE p c s := rfl
  rw [eh]
  refine ok_if (fun h => ok_some ?_) (fun h => ?_)
  · unfold psStep; rw [if_pos h]; rfl
  have hlo : 0 ≤ loE p c s ∧ loE p c s ≤ hiE p c s := by unfold loE hiE at *; omega
  have hhi : hiE p c s ≤ 400000000 + 3924000000 * ((i : Int) + 1) := by unfold hiE; omega
  have r1 := isu_le e0 (by omega)
  have r2 := isu_le (n := s.fenergy.Hi) (by omega) (by omega)
  have r3 := isu_le hlo.1 (by omega)
  have r4 := isu_le (n := hiE p c s) (by omega) (by omega)
  refine ok_bde (rRootUp_m (by omega) (by omega)) (ok_bde (rRootUp_m (by omega) (by omega)) ?_)
  rw [w64_eq (n := isu s.fenergy.Hi + isu (hiE p c s)) (by omega)]
  refine ok_if (fun h2 => ok_some ?_) (fun h2 => ?_)
  · unfold psStep; rw [if_neg h, if_pos h2]; rfl
  refine ok_jp (fun (z : Bool) => z = true ↔ s.fslow = true ∨ s.fenergy.Lo + gd p c.Hi < 0) (fun z z1 => ?_) (fun kk hk => ?_)
  rotate_left
  · refine ok_b (fun h3 => hk _ ?_) (fun h3 => hk _ ?_)
    · simp [h3]
    · simp [h3]
  have el : max (s.fenergy.Lo + gd p c.Hi) 0 = loE p c s := Int.max_comm _ _
  refine ok_vl fun x15 hx15 => ?_
  rw [el] at hx15
  subst hx15
  refine ok_bde (rRootDown_m e0 (by omega)) (ok_bde (rRootDown_m hlo.1 (by omega)) ?_)
  rw [w64_eq (n := isq s.fenergy.Lo + isq (loE p c s)) (by omega), w64_eq (n := 2000 * p.Length) (by omega)]
  refine ok_jp (fun (z : Bool) => z = true ↔ SlowP p c s) (fun z hz => ?_) (fun kk hk => ?_)
  rotate_left
  · refine ok_b (fun h3 => hk _ ?_) (fun h3 => hk _ ?_)
    · have := z1.1 h3
      unfold SlowP
      simp only [true_iff]
      rcases this with h4 | h4
      · exact .inl h4
      · exact .inr (.inl h4)
    · have : ¬ (s.fslow = true ∨ s.fenergy.Lo + gd p c.Hi < 0) := fun h => by rw [z1.2 h] at h3; cases h3
      unfold SlowP
      rw [decide_eq_true_iff]
      exact ⟨fun h => .inr (.inr h), fun h => by
        rcases h with h | h | h
        · exact absurd (.inl h) this
        · exact absurd (.inr h) this
        · exact h⟩
  refine ok_ck h2 ?_
  have d1 := dn_nn (x := 2000 * p.Length) (d := isu s.fenergy.Hi + isu (hiE p c s)) (by omega) (by omega)
  have ed : (2000 * p.Length).tdiv (isu s.fenergy.Hi + isu (hiE p c s)) = dn (2000 * p.Length) (isu s.fenergy.Hi + isu (hiE p c s)) := Int.tdiv_eq_ediv_of_nonneg (by omega)
  rw [ed, w64_eq (n := dn (2000 * p.Length) (isu s.fenergy.Hi + isu (hiE p c s))) (by omega)]
  refine ok_vl fun y15 hy15 => ?_
  rw [w64_eq (n := s.ftime.Lo + y15) (by omega), hy15]
  refine ok_vl fun x16 hx16 => ?_
  have fin : ∀ th, th = (if SlowP p c s then 1000000000 else min 1000000000 (s.ftime.Hi + up (2000 * p.Length) (isq s.fenergy.Lo + isq (loE p c s)))) →
      Passage.mk (Interval.mk x16 th) (Interval.mk (loE p c s) (hiE p c s)) z false = oP (psStep p c s) := by
    intro th hth
    have ezs : z = decide (SlowP p c s) := by
      by_cases hsl : SlowP p c s
      · rw [decide_eq_true hsl]; exact hz.2 hsl
      · rw [decide_eq_false hsl]; exact Bool.eq_false_iff.2 fun h => hsl (hz.1 h)
    unfold psStep
    rw [if_neg h, if_neg h2, hx16, hth, ezs]
    rfl
  refine ok_nb (fun hzf => ?_) (fun hzt => ok_some (fin _ (by rw [if_pos (hz.1 hzt)])))
  have hns : ¬ SlowP p c s := fun h => by rw [hz.2 h] at hzf; cases hzf
  have hz3 : ¬ isq s.fenergy.Lo + isq (loE p c s) = 0 := fun h => hns (.inr (.inr h))
  have hup := up_nn (x := 2000 * p.Length) (d := isq s.fenergy.Lo + isq (loE p c s)) (by omega) (by omega)
  refine ok_bde (rUp_m (by omega) hz3) ?_
  have eu : upm (2000 * p.Length) (isq s.fenergy.Lo + isq (loE p c s)) = up (2000 * p.Length) (isq s.fenergy.Lo + isq (loE p c s)) := upm_pos (by omega) (by omega)
  rw [eu, w64_eq (n := s.ftime.Hi + up (2000 * p.Length) (isq s.fenergy.Lo + isq (loE p c s))) (by omega)]
  exact ok_vl fun x26 hx26 => ok_some (fin _ (by rw [if_neg hns, hx26]))
theorem rbrake_m {e : Interval} {pw t er : Int} (hp : 0 ≤ pw ∧ pw ≤ 1000000000) (ht : 0 ≤ t ∧ t ≤ 20000) (he : 0 ≤ er ∧ er ≤ 1000) (h0 : 0 ≤ e.Hi ∧ e.Hi ≤ 1000000000000) :
    r20_brake e pw t er = some ⟨min e.Lo (max 0 (t - er) * max 0 (t - er)), max (min e.Hi ((t + er) * (t + er))) (e.Hi - pw)⟩ := by
  refine Ok.eq (?_ : Ok _ _)
  unfold r20_brake
  have q1 := sq_bd (v := max 0 (t - er)) (by omega)
  have q2 := sq_bd (v := t + er) (by omega)
  rw [w64_eq (n := t - er) (by omega), w64_eq (n := t + er) (by omega), w64_eq (n := max 0 (t - er) * max 0 (t - er)) (by omega), w64_eq (n := (t + er) * (t + er)) (by omega), w64_eq (n := e.Hi - pw) (by omega)]
  exact ok_vl fun x hx => ok_vl fun y hy => ok_vl fun z hz => ok_some (by rw [hx, hz, hy])
def psOut (ps : List Piece) (m : Motion) : List Passage × Int := if vE ps ≠ 0 then ([], vE ps) else if mE ps m ≠ 0 then ([], mE ps m) else (psAll ps m, 0)
theorem rPass_e {ps : List Piece} {m : Motion} : r20_Pass ps m = some (psOut ps m) := by
  refine Ok.eq (?_ : Ok _ _)
  unfold r20_Pass psOut
  refine ok_bde r20Valid_e (ok_if (fun h => ok_some (by rw [if_pos h])) (fun h => ?_))
  have hv : vE ps = 0 := Decidable.not_not.1 h
  have hp := vE_ok hv
  have hl := hp.len
  have hnr := nret_le ps
  rw [if_neg h]
  refine ok_bde (rMotion_e hl.2) (ok_if (fun h => ok_some (by rw [if_pos h])) (fun h => ?_))
  have hm : mE ps m = 0 := Decidable.not_not.1 h
  rw [if_neg h]
  have hmo := mE_ok hm
  obtain ⟨hsp, hcl, hc, her, htl, ht⟩ := hmo
  have q1 := sq_bd (v := m.Speed.Lo) (by omega)
  have q2 : m.Speed.Hi * m.Speed.Hi ≤ 400000000 := sq_le (b := 20000) (by omega) hsp.2.2
  have q3 := sq_le hsp.1 hsp.2.1
  rw [w64_eq (n := m.Speed.Lo * m.Speed.Lo) (by omega), w64_eq (n := m.Speed.Hi * m.Speed.Hi) (by omega)]
  refine ok_vl fun x4 hx4 => ok_vl fun x5 hx5 => ?_
  refine ok_lp (fun (z : Int × Int × Int × Int × Bool × Bool × List Passage × Int × Int) => ∃ q, (∀ s, q = some s → StOk s z.2.2.2.2.2.2.2.2.toNat) ∧ Passage.mk ⟨z.1, z.2.1⟩ ⟨z.2.2.1, z.2.2.2.1⟩ z.2.2.2.2.1 z.2.2.2.2.2.1 = oP q ∧ 0 ≤ z.2.2.2.2.2.2.2.1 ∧ 0 ≤ z.2.2.2.2.2.2.2.2 ∧ z.2.2.2.2.2.2.2.2 ≤ ps.length ∧ z.2.2.2.2.2.2.1.length = z.2.2.2.2.2.2.2.2.toNat + 1 ∧
      z.2.2.2.2.2.2.2.1.toNat + nret (ps.drop z.2.2.2.2.2.2.2.2.toNat) = m.Targets.length ∧ z.2.2.2.2.2.2.1 ++ psO m.Error (ps.drop z.2.2.2.2.2.2.2.2.toNat) (m.Class.drop z.2.2.2.2.2.2.2.2.toNat) (m.Targets.drop z.2.2.2.2.2.2.2.1.toNat) q = psAll ps m)
    (fun z => ((ps.length : Int) - z.2.2.2.2.2.2.2.2).toNat) ?_ ?_ ?_
  · refine ⟨some (ps0 m), fun s hs => ?_, by dsimp only; rw [hx4, hx5]; rfl, by dsimp only; omega, by dsimp only; omega, by dsimp only; omega, rfl, by dsimp only; simp [htl], by dsimp only; rw [hx4, hx5]; rfl⟩
    obtain rfl := Option.some.inj hs
    exact ps0_ok ⟨hsp, hcl, hc, her, htl, ht⟩
  · simp only [big_eq]; omega
  rintro ⟨tl, th, el, eh, sl, so, out, k, i⟩ next ⟨q, hq, gq, k0, i0, i1, ol, kn, hf⟩ hn
  dsimp only at hq gq k0 i0 i1 ol kn hf ⊢
  refine ok_if (fun hi => ?_) (fun hi => ok_some ?_)
  rotate_left
  · have : ps.drop i.toNat = [] := List.drop_eq_nil_of_le (by omega)
    rw [this] at hf
    have e0 : psO m.Error [] (m.Class.drop i.toNat) (m.Targets.drop k.toNat) q = [] := by cases q <;> rfl
    rw [e0, List.append_nil] at hf
    rw [hf]
  have hip : i.toNat < ps.length := by omega
  have hpi := List.getElem?_eq_getElem hip
  generalize ps[i.toNat] = p at hpi
  have hpo := hp.ok p (memat hpi)
  have ei : (i + 1).toNat = i.toNat + 1 := by omega
  have hki := kn
  rw [drop_at hpi] at hki
  simp only [nret] at hki
  have hic : i.toNat < m.Class.length := by omega
  have hci := List.getElem?_eq_getElem hic
  generalize m.Class[i.toNat] = c at hci
  have hco := hc _ (memat hci)
  rw [drop_at hpi, drop_at hci, psO_cons] at hf
  have go : ∀ (q2 : Option RunoffState) (a b c1 d : Int) (e f : Bool) (k' : Int), q.bind (psNext p c (tgOf p (m.Targets.drop k.toNat)) m.Error) = q2 → Passage.mk ⟨a, b⟩ ⟨c1, d⟩ e f = oP q2 → (k' = if 0 < p.Power then k + 1 else k) →
      Ok (ck (decide (out.length + ([(Passage.mk (Interval.mk a b) (Interval.mk c1 d) e f)] : List Passage).length ≤ 1000000000)) <| vl (out ++ ([(Passage.mk (Interval.mk a b) (Interval.mk c1 d) e f)] : List Passage)) fun y => next (a, b, c1, d, e, f, y, k', w64 (i + 1))) (fun v => v = (psAll ps m, 0)) := by
    intro q2 a b c1 d e f k' hb hP hk'
    refine ok_ck (by simp; omega) (ok_vl fun y hy => ?_)
    subst hy
    rw [w64_eq (by omega)]
    refine hn _ ⟨q2, fun s2 hs2 => ?_, hP, by dsimp only; rw [hk']; split <;> omega, by dsimp only; omega, by dsimp only; omega, by simp; omega, ?_, ?_⟩ (by dsimp only; omega)
    · dsimp only
      rw [ei]
      cases q with
      | none => rw [← hb] at hs2; cases hs2
      | some s =>
        rw [← hb] at hs2
        have htg : Tg (tgOf p (m.Targets.drop k.toNat)) := by
          unfold tgOf
          split
          · rename_i hpp
            rw [if_pos hpp] at hki
            have hkk : k.toNat < m.Targets.length := by omega
            rw [drop_at (List.getElem?_eq_getElem hkk)]
            exact ht _ (List.getElem_mem hkk)
          · exact ⟨by decide, by decide⟩
        exact psNext_ok hpo hco htg her (hq s rfl) hs2
    · dsimp only
      rw [ei, hk']
      by_cases h : 0 < p.Power
      · rw [if_pos h] at hki ⊢; omega
      · rw [if_neg h] at hki ⊢; omega
    · dsimp only
      have e1 : (c :: List.drop (i.toNat + 1) m.Class).headD ⟨0, 0⟩ = c := rfl
      rw [e1, hb] at hf
      rw [ei, hP, ← hf, List.append_assoc]
      congr 1
      simp only [List.singleton_append, List.tail_cons, tsOf]
      by_cases h : 0 < p.Power
      · rw [if_pos h, hk', if_pos h, List.tail_drop]
        have : (k + 1).toNat = k.toNat + 1 := by omega
        rw [this]
      · rw [if_neg h, hk', if_neg h]
  refine ok_jp (fun (z : Int × Int × Int × Int × Bool × Bool) => Passage.mk ⟨z.1, z.2.1⟩ ⟨z.2.2.1, z.2.2.2.1⟩ z.2.2.2.2.1 z.2.2.2.2.2 = oP (q.bind (psStep p c))) (fun z hz => ?_) (fun kk hk => ?_)
  rotate_left
  · refine ok_nb (fun hs => ok_ixe i0 hpi (ok_ixe i0 hci ?_)) (fun hs => hk _ ?_)
    · cases q with
      | none => rw [oP] at gq; unfold stopP at gq; simp only [Passage.mk.injEq] at gq; rw [gq.2.2.2] at hs; cases hs
      | some s =>
        rw [gq]
        refine ok_bde (rstep_m (s := s) rfl hpo hco (hq s rfl) (by omega)) (hk _ ?_)
        rfl
    · cases q with
      | none => exact gq
      | some s => unfold oP toP at gq; simp only [Passage.mk.injEq] at gq; rw [gq.2.2.2] at hs; cases hs
  obtain ⟨a, b, c1, d, e, f⟩ := z
  dsimp only at hz ⊢
  have nxE : ∀ s, q.bind (psStep p c) = some s → q.bind (psNext p c (tgOf p (m.Targets.drop k.toNat)) m.Error) = some ⟨s.ftime, brk p (tgOf p (m.Targets.drop k.toNat)) m.Error s.fenergy, s.fslow⟩ := fun s hs => by
    cases q with
    | none => cases hs
    | some s0 => rw [Option.bind_some] at hs ⊢; unfold psNext; rw [hs]; rfl
  have nxN : q.bind (psStep p c) = none → q.bind (psNext p c (tgOf p (m.Targets.drop k.toNat)) m.Error) = none := fun hs => by
    cases q with
    | none => rfl
    | some s0 => rw [Option.bind_some] at hs ⊢; unfold psNext; rw [hs]; rfl
  have same : (¬ (0 < p.Power ∧ 0 ≤ tgOf p (m.Targets.drop k.toNat))) → q.bind (psNext p c (tgOf p (m.Targets.drop k.toNat)) m.Error) = q.bind (psStep p c) := fun hh => by
    cases hs : q.bind (psStep p c) with
    | none => exact nxN hs
    | some s =>
      have eb : brk p (tgOf p (m.Targets.drop k.toNat)) m.Error s.fenergy = s.fenergy := by unfold brk; rw [if_neg hh]
      rw [nxE s hs, eb]
  refine ok_ixe i0 hpi (ok_if (fun hpp => ?_) (fun hpp => ?_))
  rotate_left
  · exact go _ a b c1 d e f k (same (by omega)) hz (by rw [if_neg hpp])
  rw [if_pos hpp] at hki
  have hkk : k.toNat < m.Targets.length := by omega
  have htk := List.getElem?_eq_getElem hkk
  generalize m.Targets[k.toNat] = tg at htk
  have htt := ht tg (memat htk)
  have etg : tgOf p (m.Targets.drop k.toNat) = tg := by unfold tgOf; rw [if_pos hpp, drop_at htk]; rfl
  rw [w64_eq (n := k + 1) (by omega)]
  refine ok_jp (fun (z : Bool) => z = true ↔ f = false ∧ 0 ≤ tg) (fun z hzz => ?_) (fun kk hk => ?_)
  rotate_left
  · refine ok_nb (fun hs => ok_ixe k0 htk (hk _ ?_)) (fun hs => hk _ ?_)
    · rw [decide_eq_true_iff]; exact ⟨fun h => ⟨hs, h⟩, fun h => h.2⟩
    · simp [hs]
  refine ok_b (fun hb => ?_) (fun hb => ?_)
  · obtain ⟨hf0, ht0⟩ := hzz.1 hb
    refine ok_ixe i0 hpi (ok_ixe k0 htk ?_)
    cases hs : q.bind (psStep p c) with
    | none => rw [hs] at hz; unfold oP stopP at hz; simp only [Passage.mk.injEq] at hz; rw [hz.2.2.2] at hf0; cases hf0
    | some s =>
      have hso : StOk s (i.toNat + 1) := by
        cases q with
        | none => cases hs
        | some s0 => exact psStep_ok hpo hco (hq s0 rfl) hs
      obtain ⟨a0, a1, a2, a3, a4, a5⟩ := hso
      have nx := nxE s hs
      rw [hs] at hz
      unfold oP toP at hz
      simp only [Passage.mk.injEq] at hz
      obtain ⟨z1, z2, z3, z4⟩ := hz
      have hpw := hpo.p
      rw [z2]
      refine ok_bde (rbrake_m hpw ⟨ht0, htt.2⟩ her ⟨by omega, by omega⟩) ?_
      refine go _ a b _ _ e f (k + 1) nx ?_ (by rw [if_pos hpp])
      rw [etg]
      unfold oP toP brk
      rw [if_pos ⟨hpp, ht0⟩, ← z1, z3, z4]
  · by_cases hf1 : f = true
    · have hs : q.bind (psStep p c) = none := by
        cases hs : q.bind (psStep p c) with
        | none => rfl
        | some s => rw [hs] at hz; unfold oP toP at hz; simp only [Passage.mk.injEq] at hz; rw [hz.2.2.2] at hf1; cases hf1
      rw [hs] at hz
      exact go _ a b c1 d e f (k + 1) (nxN hs) hz (by rw [if_pos hpp])
    · refine go _ a b c1 d e f (k + 1) (same fun hh => ?_) hz (by rw [if_pos hpp])
      rw [etg] at hh
      rw [hzz.2 ⟨by simpa using hf1, hh.2⟩] at hb
      cases hb

theorem ptRun_le : ∀ {ps : List Piece} {ws ts : List Int} {x : Moment}, (ptRun ps ws ts x).length ≤ ps.length := by
  intro ps
  induction ps with
  | nil => intro ws ts x; simp [ptRun]
  | cons p ps ih =>
    intro ws ts x
    cases h : ptStep p (ws.headD 0) (tgOf p ts) x with
    | none => rw [ptRun_none h]; simp
    | some y => rw [ptRun_some h, List.length_cons, List.length_cons]; have := ih (ws := ws.tail) (ts := tsOf p ts) (x := y); omega
theorem psOut_le {ps : List Piece} {m : Motion} : (psOut ps m).1.length ≤ 1000000000 := by
  unfold psOut
  split
  · simp
  · rename_i h
    have hl := (vE_ok (Decidable.not_not.1 h)).len
    split
    · simp
    · rw [psAll_len]; omega
theorem ptOut_le {ps : List Piece} {r : Run} : (ptOut ps r).1.length ≤ 1000000000 := by
  unfold ptOut
  split
  · simp
  · rename_i h
    have hl := (vE_ok (Decidable.not_not.1 h)).len
    split
    · simp
    · unfold ptAll
      have := ptRun_le (ps := ps) (ws := r.Resist) (ts := r.Targets) (x := pt0 r)
      rw [List.length_cons]; omega
end Go.Hy
