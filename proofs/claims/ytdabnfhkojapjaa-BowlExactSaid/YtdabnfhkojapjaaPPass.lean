/-
  What the function Pass of package runoff answers.
-/
import Derived.Test.YtdabnfhkojapjaaPMot
namespace Go.Hy
set_option linter.unusedVariables false
set_option linter.unusedSimpArgs false
set_option maxHeartbeats 2000000
set_option maxRecDepth 10000
open Go.Hy.Iv

def loE (p : Piece) (c : Interval) (s : RunoffState) : Int := max 0 (s.fenergy.Lo + gd p c.Hi)
def hiE (p : Piece) (c : Interval) (s : RunoffState) : Int := s.fenergy.Hi + gu p c.Lo
def SlowP (p : Piece) (c : Interval) (s : RunoffState) : Prop := s.fslow = true ∨ s.fenergy.Lo + gd p c.Hi < 0 ∨ isq s.fenergy.Lo + isq (loE p c s) = 0
instance {p : Piece} {c : Interval} {s : RunoffState} : Decidable (SlowP p c s) := by unfold SlowP; infer_instance
def psStep (p : Piece) (c : Interval) (s : RunoffState) : Option RunoffState :=
  if hiE p c s < 0 then none
  else if isu s.fenergy.Hi + isu (hiE p c s) = 0 then none
  else some ⟨⟨min 1000000000 (s.ftime.Lo + dn (2000 * p.Length) (isu s.fenergy.Hi + isu (hiE p c s))),
      if SlowP p c s then 1000000000 else min 1000000000 (s.ftime.Hi + up (2000 * p.Length) (isq s.fenergy.Lo + isq (loE p c s)))⟩, ⟨loE p c s, hiE p c s⟩, decide (SlowP p c s)⟩
def brk (p : Piece) (tg err : Int) (e : Interval) : Interval :=
  if 0 < p.Power ∧ 0 ≤ tg then ⟨min e.Lo (max 0 (tg - err) * max 0 (tg - err)), max (min e.Hi ((tg + err) * (tg + err))) (e.Hi - p.Power)⟩ else e
def psNext (p : Piece) (c : Interval) (tg err : Int) (s : RunoffState) : Option RunoffState :=
  (psStep p c s).map fun s' => ⟨s'.ftime, brk p tg err s'.fenergy, s'.fslow⟩
def stopP : Passage := ⟨⟨0, 0⟩, ⟨0, 0⟩, false, true⟩
def toP (s : RunoffState) : Passage := ⟨s.ftime, s.fenergy, s.fslow, false⟩
def psRun (err : Int) : List Piece → List Interval → List Int → RunoffState → List Passage
  | [], _, _, _ => []
  | p :: ps, cs, ts, s => match psNext p (cs.headD ⟨0, 0⟩) (tgOf p ts) err s with
    | none => List.replicate (ps.length + 1) stopP
    | some s' => toP s' :: psRun err ps cs.tail (tsOf p ts) s'
def ps0 (m : Motion) : RunoffState := ⟨⟨0, 0⟩, ⟨m.Speed.Lo * m.Speed.Lo, m.Speed.Hi * m.Speed.Hi⟩, false⟩
def psAll (ps : List Piece) (m : Motion) : List Passage := toP (ps0 m) :: psRun m.Error ps m.Class m.Targets (ps0 m)

structure StOk (s : RunoffState) (i : Nat) : Prop where
  e0 : 0 ≤ s.fenergy.Lo
  e1 : s.fenergy.Lo ≤ s.fenergy.Hi
  e2 : s.fenergy.Hi ≤ 400000000 + 3924000000 * i
  t0 : 0 ≤ s.ftime.Lo
  t1 : s.ftime.Lo ≤ s.ftime.Hi
  t2 : s.ftime.Hi ≤ 1000000000
theorem dn_nn {x d : Int} (hx : 0 ≤ x) (hd : 0 < d) : 0 ≤ dn x d ∧ dn x d ≤ x := ⟨Int.ediv_nonneg hx (by omega), Int.ediv_le_self _ hx⟩
theorem brk_ok {p : Piece} {tg err : Int} {e : Interval} (hp : PieceOk p) (ht : Tg tg) (he : 0 ≤ err ∧ err ≤ 1000) (h0 : 0 ≤ e.Lo) (h1 : e.Lo ≤ e.Hi) : 0 ≤ (brk p tg err e).Lo ∧ (brk p tg err e).Lo ≤ (brk p tg err e).Hi ∧ (brk p tg err e).Hi ≤ e.Hi := by
  have hpw := hp.p
  unfold brk
  split
  · have q1 : 0 ≤ max 0 (tg - err) * max 0 (tg - err) := Int.mul_nonneg (by omega) (by omega)
    have q2 := sq_le (a := max 0 (tg - err)) (b := tg + err) (by omega) (by omega)
    dsimp only
    omega
  · omega
theorem cls_wr {c : Interval} (h : ClsOk c) : Wr c.Lo ∧ Wr c.Hi := by omega
theorem psStep_ok {p : Piece} {c : Interval} {s s' : RunoffState} {i : Nat} (hp : PieceOk p) (hc : ClsOk c) (hs : StOk s i) (h : psStep p c s = some s') : StOk s' (i + 1) := by
  obtain ⟨e0, e1, e2, t0, t1, t2⟩ := hs
  have hw := cls_wr hc
  have hg := gd_bd hp hw.2
  have hu := gu_bd hp hw.1
  have hgu : gd p c.Hi ≤ gu p c.Lo := Int.le_trans (dn_mono' (by decide) (gn_anti hp hc.2.1)) gd_le
  unfold psStep at h
  split at h
  · cases h
  split at h
  · cases h
  rename_i h1 h2
  have hlo : 0 ≤ loE p c s ∧ loE p c s ≤ hiE p c s := by unfold loE hiE at *; omega
  have hhi : hiE p c s ≤ 400000000 + 3924000000 * ((i : Int) + 1) := by unfold hiE; omega
  have k1 := isq_isu (a := s.fenergy.Hi) (by omega)
  have k2 := isq_isu (a := hiE p c s) (by omega)
  have k3 := isq_mono e0 e1
  have k4 := isq_mono hlo.1 hlo.2
  have k5 := (isq_spec e0).1
  have k6 := (isq_spec hlo.1).1
  have hl := hp.l
  have d1 := dn_nn (x := 2000 * p.Length) (d := isu s.fenergy.Hi + isu (hiE p c s)) (by omega) (by omega)
  have d2 := dn_le (x := 2000 * p.Length) (d := isu s.fenergy.Hi + isu (hiE p c s)) (by omega)
  simp only [Option.some.injEq] at h
  subst h
  refine ⟨hlo.1, hlo.2, by dsimp only; omega, by dsimp only; omega, ?_, ?_⟩
  · dsimp only
    split
    · omega
    · rename_i hns
      have hpos : 0 < isq s.fenergy.Lo + isq (loE p c s) := by
        rcases Int.lt_or_le 0 (isq s.fenergy.Lo + isq (loE p c s)) with hh | hh
        · exact hh
        · exact absurd (.inr (.inr (by omega))) hns
      have d3 := up_anti (x := 2000 * p.Length) (d := isq s.fenergy.Lo + isq (loE p c s)) (e := isu s.fenergy.Hi + isu (hiE p c s)) (by omega) hpos (by omega)
      omega
  · dsimp only
    split <;> omega
theorem psNext_ok {p : Piece} {c : Interval} {tg err : Int} {s s' : RunoffState} {i : Nat} (hp : PieceOk p) (hc : ClsOk c) (ht : Tg tg) (he : 0 ≤ err ∧ err ≤ 1000) (hs : StOk s i) (h : psNext p c tg err s = some s') : StOk s' (i + 1) := by
  unfold psNext at h
  cases hq : psStep p c s with
  | none => rw [hq] at h; cases h
  | some q =>
    rw [hq] at h
    simp only [Option.map_some, Option.some.injEq] at h
    subst h
    obtain ⟨e0, e1, e2, t0, t1, t2⟩ := psStep_ok hp hc hs hq
    have hb := brk_ok (tg := tg) (err := err) hp ht he e0 e1
    exact ⟨hb.1, hb.2.1, Int.le_trans hb.2.2 e2, t0, t1, t2⟩
theorem check_m {ps : List Piece} {m : Motion} (hp : PsOk ps) (hm : MotOk ps m) : runoff_check ps m = some 0 := by
  refine Ok.eq (?_ : Ok _ _)
  have hl := hp.len
  have hnr := nret_le ps
  obtain ⟨hsp, hcl, hc, her, htl, ht⟩ := hm
  unfold runoff_check
  refine ok_bde (PValid_ok hp) (ok_if0 (by decide) (ok_nd (Valid_m _) (fun h => absurd ?_ h) fun _ => ok_if0 (by omega) (ok_bde (retarders_m (by omega)) (ok_if0 (by omega) ?_))))
  · omega
  refine ok_jp (fun _ => True) (fun _ _ => ?_) (fun k hk => ?_)
  rotate_left
  · refine ok_lp (fun (z : Int) => 0 ≤ z) (fun z => ((m.Class.length : Int) - z).toNat) (Int.le_refl 0) (by simp only [big_eq]; omega) ?_
    intro z next z0 hn
    refine ok_if (fun h => ok_ix z0 h fun a ha => ?_) (fun _ => hk _ trivial)
    have hca := hc a (memat ha)
    refine ok_nd (Valid_m _) (fun h => absurd ?_ h) fun _ => ?_
    · omega
    rw [w64_eq (by omega)]
    exact hn _ (by omega) (by omega)
  refine ok_jp (fun _ => True) (fun _ _ => ?_) (fun k hk => ?_)
  rotate_left
  · refine ok_lp (fun (z : Int) => 0 ≤ z) (fun z => ((m.Class.length : Int) - z).toNat) (Int.le_refl 0) (by simp only [big_eq]; omega) ?_
    intro z next z0 hn
    refine ok_if (fun h => ok_ix z0 h fun a ha => ?_) (fun _ => hk _ trivial)
    have hca := hc a (memat ha)
    refine ok_if0 (by omega) (ok_if0 (by omega) ?_)
    rw [w64_eq (by omega)]
    exact hn _ (by omega) (by omega)
  refine ok_if0 (by omega) (ok_if0 (by omega) (ok_nd (in_m _ _ _) (fun h => absurd her h) fun _ => ok_bde (targets_m (by omega) ht) (ok_some rfl)))
theorem roll_m {p : Piece} {c : Interval} {s : RunoffState} {i : Nat} (hp : PieceOk p) (hc : ClsOk c) (hs : StOk s i) (hi : i ≤ 128) :
    Ok (runoff_state_roll s p c) fun r => (∀ s', psStep p c s = some s' → r = (true, s')) ∧ (psStep p c s = none → r.1 = false) := by
  have hs0 := hs
  obtain ⟨e0, e1, e2, t0, t1, t2⟩ := hs
  have hw := cls_wr hc
  have hg := gd_bd hp hw.2
  have hu := gu_bd hp hw.1
  have hl := hp.l
  have hgu : gd p c.Hi ≤ gu p c.Lo := Int.le_trans (dn_mono' (by decide) (gn_anti hp hc.2.1)) gd_le
  unfold runoff_state_roll
  refine ok_bde (gain_m hp hw.2) (ok_bde (gain_m hp hw.1) ?_)
  dsimp only
  rw [w64_eq (n := s.fenergy.Hi + gu p c.Lo) (by omega), w64_eq (n := s.fenergy.Lo + gd p c.Hi) (by omega)]
  have eh : s.fenergy.Hi + gu p c.Lo = hiE p c s := rfl
  rw [eh]
  refine ok_if (fun h => ok_some ⟨fun s' h' => ?_, fun _ => rfl⟩) (fun h => ?_)
  · unfold psStep at h'; rw [if_pos h] at h'; cases h'
  have hlo : 0 ≤ loE p c s ∧ loE p c s ≤ hiE p c s := by unfold loE hiE at *; omega
  have hhi : hiE p c s ≤ 400000000 + 3924000000 * ((i : Int) + 1) := by unfold hiE; omega
  refine ok_jp (fun (z : Int × Bool) => z.1 = loE p c s ∧ (z.2 = true ↔ s.fslow = true ∨ s.fenergy.Lo + gd p c.Hi < 0)) (fun z ⟨z0, z1⟩ => ?_) (fun kk hk => ?_)
  rotate_left
  · refine ok_if (fun h2 => hk _ ⟨?_, ?_⟩) (fun h2 => hk _ ⟨?_, ?_⟩)
    · unfold loE; dsimp only; omega
    · simp [h2]
    · unfold loE; dsimp only; omega
    · simp [h2]
  obtain ⟨z, zb⟩ := z
  dsimp only at z0 z1 ⊢
  subst z0
  have r1 := isu_le e0 (by omega)
  have r2 := isu_le (n := s.fenergy.Hi) (by omega) (by omega)
  have r3 := isu_le hlo.1 (by omega)
  have r4 := isu_le (n := hiE p c s) (by omega) (by omega)
  refine ok_bde (roots_m e0 (by omega)) (ok_bde (roots_m (by omega) (by omega)) (ok_bde (roots_m hlo.1 (by omega)) (ok_bde (roots_m (by omega) (by omega)) ?_)))
  dsimp only
  rw [w64_eq (n := isu s.fenergy.Hi + isu (hiE p c s)) (by omega), w64_eq (n := isq s.fenergy.Lo + isq (loE p c s)) (by omega), w64_eq (n := 2000 * p.Length) (by omega)]
  refine ok_if (fun h2 => ok_some ⟨fun s' h' => ?_, fun _ => rfl⟩) (fun h2 => ?_)
  · unfold psStep at h'; rw [if_neg h, if_pos h2] at h'; cases h'
  refine ok_ck h2 ?_
  have d1 := dn_nn (x := 2000 * p.Length) (d := isu s.fenergy.Hi + isu (hiE p c s)) (by omega) (by omega)
  have ed : (2000 * p.Length).tdiv (isu s.fenergy.Hi + isu (hiE p c s)) = dn (2000 * p.Length) (isu s.fenergy.Hi + isu (hiE p c s)) := Int.tdiv_eq_ediv_of_nonneg (by omega)
  rw [ed, w64_eq (n := dn (2000 * p.Length) (isu s.fenergy.Hi + isu (hiE p c s))) (by omega)]
  refine ok_vl fun x15 hx15 => ?_
  rw [w64_eq (n := s.ftime.Lo + x15) (by omega), Int.min_comm, hx15]
  refine ok_vl fun x16 hx16 => ?_
  refine ok_jp (fun (z : Bool) => z = true ↔ SlowP p c s) (fun z hz => ?_) (fun kk hk => ?_)
  rotate_left
  · refine ok_if (fun h3 => hk _ ?_) (fun h3 => hk _ ?_)
    · unfold SlowP; simp [h3]
    · unfold SlowP; rw [z1]; simp [h3]
  have fin : ∀ th, th = (if SlowP p c s then 1000000000 else min 1000000000 (s.ftime.Hi + up (2000 * p.Length) (isq s.fenergy.Lo + isq (loE p c s)))) →
      (∀ s', psStep p c s = some s' → (true, (RunoffState.mk (Interval.mk x16 th) (Interval.mk (loE p c s) (hiE p c s)) z)) = (true, s')) ∧ (psStep p c s = none → (true, (RunoffState.mk (Interval.mk x16 th) (Interval.mk (loE p c s) (hiE p c s)) z)).1 = false) := by
    intro th hth
    have ezs : z = decide (SlowP p c s) := by
      by_cases hsl : SlowP p c s
      · rw [decide_eq_true hsl]; exact hz.2 hsl
      · rw [decide_eq_false hsl]; exact Bool.eq_false_iff.2 fun h => hsl (hz.1 h)
    have e : psStep p c s = some (RunoffState.mk (Interval.mk x16 th) (Interval.mk (loE p c s) (hiE p c s)) z) := by
      unfold psStep
      rw [if_neg h, if_neg h2, hx16, hth, ezs]
    exact ⟨fun s' h' => by rw [e] at h'; rw [Option.some.inj h'], fun h' => by rw [e] at h'; cases h'⟩
  refine ok_b (fun hzt => ?_) (fun hzf => ?_)
  · exact ok_some (fin _ (by rw [if_pos (hz.1 hzt)]))
  have hns : ¬ SlowP p c s := fun h => by rw [hz.2 h] at hzf; cases hzf
  have hz3 : ¬ isq s.fenergy.Lo + isq (loE p c s) = 0 := fun h => hns (.inr (.inr h))
  have hup := up_nn (x := 2000 * p.Length) (d := isq s.fenergy.Lo + isq (loE p c s)) (by omega) (by omega)
  rw [w64_eq (n := 2000 * p.Length + isq s.fenergy.Lo) (by omega)]
  refine ok_vl fun x21 hx21 => ok_ck hz3 ?_
  have e25 : x21 + isq (loE p c s) - 1 = 2000 * p.Length + (isq s.fenergy.Lo + isq (loE p c s)) - 1 := by omega
  rw [w64_eq (n := x21 + isq (loE p c s)) (by omega), w64_eq (n := x21 + isq (loE p c s) - 1) (by omega), e25, Int.tdiv_eq_ediv_of_nonneg (by omega), ← up_eq (by omega) (by omega), w64_eq (n := up (2000 * p.Length) (isq s.fenergy.Lo + isq (loE p c s))) (by omega)]
  refine ok_vl fun x23 hx23 => ?_
  rw [w64_eq (n := s.ftime.Hi + x23) (by omega), hx23]
  refine ok_vl fun x24 hx24 => ok_some (fin _ (by rw [if_neg hns, hx24, Int.min_comm]))
theorem brake_m {s : RunoffState} {pw t e : Int} (hp : 0 ≤ pw ∧ pw ≤ 1000000000) (ht : 0 ≤ t ∧ t ≤ 20000) (he : 0 ≤ e ∧ e ≤ 1000) (h0 : 0 ≤ s.fenergy.Hi ∧ s.fenergy.Hi ≤ 1000000000000) :
    runoff_state_brake s pw t e = some ⟨s.ftime, ⟨min s.fenergy.Lo (max 0 (t - e) * max 0 (t - e)), max (min s.fenergy.Hi ((t + e) * (t + e))) (s.fenergy.Hi - pw)⟩, s.fslow⟩ := by
  refine Ok.eq (?_ : Ok _ _)
  unfold runoff_state_brake
  have q1 := sq_bd (v := max 0 (t - e)) (by omega)
  have q2 := sq_bd (v := t + e) (by omega)
  rw [w64_eq (n := t - e) (by omega), w64_eq (n := t + e) (by omega), w64_eq (n := max 0 (t - e) * max 0 (t - e)) (by omega), w64_eq (n := (t + e) * (t + e)) (by omega), w64_eq (n := s.fenergy.Hi - pw) (by omega)]
  exact ok_vl fun x hx => ok_vl fun y hy => ok_vl fun z hz => ok_some (by rw [hx, hz, hy])
theorem psRun_none {err : Int} {p : Piece} {ps : List Piece} {cs : List Interval} {ts : List Int} {s : RunoffState} (h : psNext p (cs.headD ⟨0, 0⟩) (tgOf p ts) err s = none) : psRun err (p :: ps) cs ts s = List.replicate (ps.length + 1) stopP := by simp only [psRun, h]
theorem psRun_some {err : Int} {p : Piece} {ps : List Piece} {cs : List Interval} {ts : List Int} {s s' : RunoffState} (h : psNext p (cs.headD ⟨0, 0⟩) (tgOf p ts) err s = some s') : psRun err (p :: ps) cs ts s = toP s' :: psRun err ps cs.tail (tsOf p ts) s' := by simp only [psRun, h]
theorem Pass_m {ps : List Piece} {m : Motion} (hp : PsOk ps) (hm : MotOk ps m) : runoff_Pass ps m = some (psAll ps m, 0) := by
  refine Ok.eq (?_ : Ok _ _)
  have hl := hp.len
  have hnr := nret_le ps
  unfold runoff_Pass
  refine ok_bde (check_m hp hm) (ok_if0 (by decide) ?_)
  obtain ⟨hsp, hcl, hc, her, htl, ht⟩ := hm
  have q1 := sq_bd (v := m.Speed.Lo) (by omega)
  have q2 : m.Speed.Hi * m.Speed.Hi ≤ 400000000 := sq_le (b := 20000) (by omega) hsp.2.2
  have q3 := sq_le hsp.1 hsp.2.1
  rw [w64_eq (n := m.Speed.Lo * m.Speed.Lo) (by omega), w64_eq (n := m.Speed.Hi * m.Speed.Hi) (by omega)]
  refine ok_vl fun x3 hx3 => ok_vl fun x4 hx4 => ?_
  refine ok_lp (fun (z : Int × Int × Int × Int × Bool × List Passage × Int × Int) => ∃ s, StOk s z.2.2.2.2.2.2.2.toNat ∧ z.1 = s.ftime.Lo ∧ z.2.1 = s.ftime.Hi ∧ z.2.2.1 = s.fenergy.Lo ∧ z.2.2.2.1 = s.fenergy.Hi ∧ z.2.2.2.2.1 = s.fslow ∧ 0 ≤ z.2.2.2.2.2.2.1 ∧ 0 ≤ z.2.2.2.2.2.2.2 ∧ z.2.2.2.2.2.2.2 ≤ ps.length ∧ z.2.2.2.2.2.1.length = z.2.2.2.2.2.2.2.toNat + 1 ∧
      z.2.2.2.2.2.2.1.toNat + nret (ps.drop z.2.2.2.2.2.2.2.toNat) = m.Targets.length ∧ z.2.2.2.2.2.1 ++ psRun m.Error (ps.drop z.2.2.2.2.2.2.2.toNat) (m.Class.drop z.2.2.2.2.2.2.2.toNat) (m.Targets.drop z.2.2.2.2.2.2.1.toNat) s = psAll ps m)
    (fun z => ((ps.length : Int) - z.2.2.2.2.2.2.2).toNat) ?_ ?_ ?_
  · exact ⟨ps0 m, ⟨by dsimp only [ps0]; omega, by dsimp only [ps0]; omega, by dsimp only [ps0]; omega, by dsimp only [ps0]; omega, by dsimp only [ps0]; omega, by dsimp only [ps0]; omega⟩, rfl, rfl, hx3, hx4, rfl, by dsimp only; omega, by dsimp only; omega, by dsimp only; omega, rfl, by dsimp only; simp [htl], by dsimp only; rw [hx3, hx4]; rfl⟩
  · simp only [big_eq]; omega
  rintro ⟨tl, th, el, eh, sl, out, k, i⟩ next ⟨s, hs, g1, g2, g3, g4, g5, k0, i0, i1, ol, kn, hf⟩ hn
  dsimp only at hs g1 g2 g3 g4 g5 k0 i0 i1 ol kn hf ⊢
  subst g1 g2 g3 g4 g5
  refine ok_if (fun hi => ?_) (fun hi => ok_some ?_)
  rotate_left
  · have : ps.drop i.toNat = [] := List.drop_eq_nil_of_le (by omega)
    rw [this] at hf
    simp only [psRun, List.append_nil] at hf
    rw [hf]
  refine ok_ix i0 hi fun p hpi => ?_
  have hpo := hp.ok p (memat hpi)
  have ei : (i + 1).toNat = i.toNat + 1 := by omega
  have hki := kn
  rw [drop_at hpi] at hki
  simp only [nret] at hki
  have hic : i.toNat < m.Class.length := by omega
  have hci := List.getElem?_eq_getElem hic
  have hco := hc _ (List.getElem_mem hic)
  rw [drop_at hpi, drop_at hci] at hf
  refine ok_jp (fun (z : Int × Int × Int × Int × Bool) => ∃ s', psStep p m.Class[i.toNat] s = some s' ∧ z = (s'.ftime.Lo, s'.ftime.Hi, s'.fenergy.Lo, s'.fenergy.Hi, s'.fslow)) (fun z hz => ?_) (fun kk hk => ?_)
  · obtain ⟨s', hs', ez⟩ := hz
    subst ez
    dsimp only
    have hso := psStep_ok hpo hco hs hs'
    obtain ⟨a0, a1, a2, a3, a4, a5⟩ := hso
    have nxt : ∀ e', e' = brk p (tgOf p (m.Targets.drop k.toNat)) m.Error s'.fenergy → psNext p m.Class[i.toNat] (tgOf p (m.Targets.drop k.toNat)) m.Error s = some ⟨s'.ftime, e', s'.fslow⟩ := fun e' he' => by
      unfold psNext; rw [hs', he']; rfl
    refine ok_jp (fun (z : Int × Int × Int × Int × Bool × Int) => ∃ s'', psNext p m.Class[i.toNat] (tgOf p (m.Targets.drop k.toNat)) m.Error s = some s'' ∧ StOk s'' (i.toNat + 1) ∧ z = (s''.ftime.Lo, s''.ftime.Hi, s''.fenergy.Lo, s''.fenergy.Hi, s''.fslow, if 0 < p.Power then k + 1 else k)) (fun z hz => ?_) (fun k2 hk2 => ?_)
    · obtain ⟨s2, hs2, ho2, ez⟩ := hz
      subst ez
      dsimp only
      refine ok_ck (by simp; omega) (ok_vl fun y hy => ?_)
      subst hy
      rw [w64_eq (by omega)]
      rw [psRun_some (cs := m.Class[i.toNat] :: m.Class.drop (i.toNat + 1)) (ts := m.Targets.drop k.toNat) hs2] at hf
      refine hn _ ⟨s2, by dsimp only; rw [ei]; exact ho2, rfl, rfl, rfl, rfl, rfl, by dsimp only; split <;> omega, by dsimp only; omega, by dsimp only; omega, by simp; omega, ?_, ?_⟩ (by dsimp only; omega)
      · dsimp only
        rw [ei]
        by_cases h : 0 < p.Power
        · rw [if_pos h] at hki ⊢; omega
        · rw [if_neg h] at hki ⊢; omega
      · dsimp only
        rw [ei, ← hf, List.append_assoc]
        congr 1
        simp only [List.singleton_append, List.tail_cons, tsOf]
        by_cases h : 0 < p.Power
        · rw [if_pos h, if_pos h, List.tail_drop]
          have : (k + 1).toNat = k.toNat + 1 := by omega
          rw [this]; rfl
        · rw [if_neg h, if_neg h]; rfl
    · have hpw := hpo.p
      refine ok_if (fun hpp => ?_) (fun hpp => ?_)
      · rw [if_pos hpp] at hki
        refine ok_ix k0 (by omega) fun tg htg => ?_
        have htt := ht tg (memat htg)
        have etg : tgOf p (m.Targets.drop k.toNat) = tg := by unfold tgOf; rw [if_pos hpp, drop_at htg]; rfl
        rw [etg] at hk2 nxt
        rw [w64_eq (n := k + 1) (by omega)]
        have hb := brk_ok (tg := tg) (err := m.Error) hpo htt her a0 a1
        refine ok_if (fun h0 => ?_) (fun h0 => ?_)
        · refine ok_bde (brake_m hpw ⟨h0, htt.2⟩ her ⟨by dsimp only; omega, by dsimp only; omega⟩) ?_
          have eb : brk p tg m.Error s'.fenergy = ⟨min s'.fenergy.Lo (max 0 (tg - m.Error) * max 0 (tg - m.Error)), max (min s'.fenergy.Hi ((tg + m.Error) * (tg + m.Error))) (s'.fenergy.Hi - p.Power)⟩ := by unfold brk; rw [if_pos ⟨hpp, h0⟩]
          rw [if_pos hpp] at hk2
          refine hk2 _ ⟨_, nxt _ eb.symm, ?_, rfl⟩
          rw [← eb]
          exact ⟨hb.1, hb.2.1, Int.le_trans hb.2.2 a2, a3, a4, a5⟩
        · have eb : brk p tg m.Error s'.fenergy = s'.fenergy := by unfold brk; rw [if_neg (by omega)]
          rw [if_pos hpp] at hk2
          exact hk2 _ ⟨_, nxt _ eb.symm, ⟨a0, a1, a2, a3, a4, a5⟩, rfl⟩
      · have eb : brk p (tgOf p (m.Targets.drop k.toNat)) m.Error s'.fenergy = s'.fenergy := by unfold brk; rw [if_neg (by omega)]
        rw [if_neg hpp] at hk2
        exact hk2 _ ⟨_, nxt _ eb.symm, ⟨a0, a1, a2, a3, a4, a5⟩, rfl⟩
  · refine ok_ixe i0 hci ?_
    refine ok_bd (roll_m hpo hco hs (by omega)) fun r ⟨hr1, hr2⟩ => ?_
    cases hq : psStep p m.Class[i.toNat] s with
    | some s' =>
      rw [hr1 s' hq]
      exact hk _ ⟨s', hq, rfl⟩
    | none =>
      rw [hr2 hq]
      have hnx : psNext p m.Class[i.toNat] (tgOf p (m.Targets.drop k.toNat)) m.Error s = none := by unfold psNext; rw [hq]; rfl
      rw [psRun_none (cs := m.Class[i.toNat] :: m.Class.drop (i.toNat + 1)) (ts := m.Targets.drop k.toNat) hnx] at hf
      have hfl := congrArg List.length hf
      simp only [List.length_append, List.length_replicate, List.length_drop] at hfl
      refine ok_lp (fun (z : List Passage) => z.length ≤ ps.length + 1 ∧ z ++ List.replicate (ps.length + 1 - z.length) stopP = psAll ps m) (fun z => ps.length + 1 - z.length) ⟨by omega, ?_⟩ (by simp only [big_eq]; omega) ?_
      · rw [← hf]
        congr 2
        simp only [List.length_drop]
        omega
      intro z nx ⟨z0, z1⟩ hnx
      refine ok_if (fun hz => ?_) (fun hz => ok_some ?_)
      · refine ok_ck (by simp; omega) (ok_vl fun y hy => ?_)
        subst hy
        refine hnx _ ⟨by simp; omega, ?_⟩ (by simp; omega)
        rw [← z1, List.append_assoc]
        congr 1
        simp only [List.length_append, List.length_cons, List.length_nil]
        have : ps.length + 1 - z.length = (ps.length + 1 - (z.length + (0 + 1))) + 1 := by omega
        rw [this, List.replicate_succ]
        rfl
      · have : ps.length + 1 - z.length = 0 := by omega
        rw [this] at z1
        simp only [List.replicate_zero, List.append_nil] at z1
        rw [z1]
end Go.Hy
