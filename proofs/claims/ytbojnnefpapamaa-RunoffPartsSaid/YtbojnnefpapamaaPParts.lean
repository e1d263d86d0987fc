/-
  What a path's first pieces answer is the first part of what the path answers.
-/
import Derived.Test.YtbojnnefpapamaaPCont
namespace Go.Hy
set_option linter.unusedVariables false
set_option linter.unusedSimpArgs false
set_option maxHeartbeats 2000000
set_option maxRecDepth 10000
open Go.Hy.Iv

theorem take_head {α : Type} {l : List α} {k : Nat} {d : α} : (l.take (k + 1)).headD d = l.headD d := by cases l <;> rfl
theorem take_tail {α : Type} {l : List α} {k : Nat} : (l.take (k + 1)).tail = l.tail.take k := by cases l <;> simp
theorem tg_take {p : Piece} {q : List Piece} {ts : List Int} : tgOf p (ts.take (nret (p :: q))) = tgOf p ts ∧ tsOf p (ts.take (nret (p :: q))) = (tsOf p ts).take (nret q) := by
  unfold tgOf tsOf
  simp only [nret]
  by_cases h : 0 < p.Power
  · rw [if_pos h, if_pos h, if_pos h, if_pos h, if_pos h, Nat.add_comm 1]
    exact ⟨take_head, take_tail⟩
  · rw [if_neg h, if_neg h, if_neg h, if_neg h, if_neg h, Nat.zero_add]
    exact ⟨rfl, rfl⟩
theorem ptRun_take {ps : List Piece} : ∀ {ws ts : List Int} {x : Moment} (k : Nat), ptRun (ps.take k) (ws.take k) (ts.take (nret (ps.take k))) x = (ptRun ps ws ts x).take k := by
  induction ps with
  | nil => intro ws ts x k; simp [ptRun]
  | cons p ps ih =>
    intro ws ts x k
    cases k with
    | zero => simp [ptRun]
    | succ k =>
      rw [List.take_succ_cons]
      obtain ⟨h1, h2⟩ := tg_take (p := p) (q := ps.take k) (ts := ts)
      cases hs : ptStep p (ws.headD 0) (tgOf p ts) x with
      | none => rw [ptRun_none hs, ptRun_none (by rw [take_head, h1]; exact hs)]; rfl
      | some y => rw [ptRun_some hs, ptRun_some (y := y) (by rw [take_head, h1]; exact hs), take_tail, h2, ih k]; rfl
theorem psRun_take {err : Int} {ps : List Piece} : ∀ {cs : List Interval} {ts : List Int} {s : RunoffState} (k : Nat), psRun err (ps.take k) (cs.take k) (ts.take (nret (ps.take k))) s = (psRun err ps cs ts s).take k := by
  induction ps with
  | nil => intro cs ts s k; simp [psRun]
  | cons p ps ih =>
    intro cs ts s k
    cases k with
    | zero => simp [psRun]
    | succ k =>
      rw [List.take_succ_cons]
      obtain ⟨h1, h2⟩ := tg_take (p := p) (q := ps.take k) (ts := ts)
      cases hs : psNext p (cs.headD ⟨0, 0⟩) (tgOf p ts) err s with
      | none =>
        rw [psRun_none hs, psRun_none (by rw [take_head, h1]; exact hs), List.take_replicate, List.length_take]
        congr 1
        omega
      | some y => rw [psRun_some hs, psRun_some (s' := y) (by rw [take_head, h1]; exact hs), take_tail, h2, ih k]; rfl
theorem nret_take (ps : List Piece) : ∀ k, nret (ps.take k) ≤ nret ps := by
  induction ps with
  | nil => intro k; simp
  | cons p ps ih =>
    intro k
    cases k with
    | zero => simp [nret]
    | succ k => rw [List.take_succ_cons]; simp only [nret]; have := ih k; omega
theorem Passages_m {l : List Passage} (hl : l.length ≤ 1000000000) : gen_Passages l l = some true := by
  refine Ok.eq (?_ : Ok _ _)
  unfold gen_Passages
  refine ok_if0 (by omega) ?_
  refine ok_lp (fun (z : Int) => 0 ≤ z) (fun z => ((l.length : Int) - z).toNat) (Int.le_refl 0) (by simp only [big_eq]; omega) ?_
  intro z next z0 hn
  refine ok_if (fun h => ok_ix z0 h fun a ha => ok_ixe z0 ha (ok_if0 (fun h => h ⟨rfl, rfl, rfl, rfl, rfl, rfl⟩) ?_)) (fun _ => ok_some rfl)
  rw [w64_eq (by omega)]
  exact hn _ (by omega) (by omega)
theorem Moments_m {l : List Moment} (hl : l.length ≤ 1000000000) : gen_Moments l l = some true := by
  refine Ok.eq (?_ : Ok _ _)
  unfold gen_Moments
  refine ok_if0 (by omega) ?_
  refine ok_lp (fun (z : Int) => 0 ≤ z) (fun z => ((l.length : Int) - z).toNat) (Int.le_refl 0) (by simp only [big_eq]; omega) ?_
  intro z next z0 hn
  refine ok_if (fun h => ok_ix z0 h fun a ha => ok_ixe z0 ha (ok_if0 (fun h => h ⟨rfl, rfl⟩) ?_)) (fun _ => ok_some rfl)
  rw [w64_eq (by omega)]
  exact hn _ (by omega) (by omega)
theorem Parts_ok {t : List Int} (ht : t.length ≤ 9223372036854775807) : law20_RunoffParts t = some true := by
  refine Ok.eq (?_ : Ok _ _)
  unfold law20_RunoffParts
  refine ok_bde (gen_New_ok t) ?_
  refine ok_bd (Pieces_ok (n := 10) (Mk0 ht (by decide)) (by omega)) fun v ⟨⟨⟨n0, n1⟩, hp⟩, _, c0, c1⟩ => ?_
  obtain ⟨ps, c⟩ := v
  dsimp only at n0 n1 hp c0 c1 ⊢
  have hps : PsOk ps := ⟨by omega, hp⟩
  refine ok_bd (Motion_ok (k := HumpgenMaker.mk t c) ⟨c0, by dsimp only; omega, ht⟩ (fun p h => (hp p h).c) (by omega)) fun v ⟨hm, _, _, _, hcl, c2, c3⟩ => ?_
  obtain ⟨m, c'⟩ := v
  dsimp only at hm hcl c2 c3 ⊢
  refine ok_bd (Run_ok (k := HumpgenMaker.mk t c') ⟨by dsimp only; omega, by dsimp only; omega, ht⟩ hm (by omega)) fun v ⟨hr, hin, c4, c5⟩ => ?_
  obtain ⟨r, c''⟩ := v
  dsimp only at hr hin c4 c5 ⊢
  refine ok_bd (From_ok (k := HumpgenMaker.mk t c'') ⟨by dsimp only; omega, by unfold CM0; dsimp only; omega, ht⟩ (by omega)) fun v ⟨hk, _⟩ => ?_
  obtain ⟨k, _⟩ := v
  dsimp only at hk ⊢
  have hcl := hm.cls
  have hmt := hm.tgs
  have hrr := hr.res
  have hrt := hr.tgs
  have hnt := nret_take ps k.toNat
  have hpk : PsOk (ps.take k.toNat) := ⟨by simp only [List.length_take]; omega, fun p h => hp p (List.mem_of_mem_take h)⟩
  have hmk : MotOk (ps.take k.toNat) (Motion.mk m.Speed (m.Class.take k.toNat) m.Error (m.Targets.take (nret (ps.take k.toNat)))) :=
    ⟨hm.sp, by simp only [List.length_take]; omega, fun v h => hm.c v (List.mem_of_mem_take h), hm.err, by simp only [List.length_take]; omega, fun v h => hm.t v (List.mem_of_mem_take h)⟩
  have hrk : RunOk (ps.take k.toNat) (Run.mk r.Speed (r.Resist.take k.toNat) (r.Targets.take (nret (ps.take k.toNat)))) :=
    ⟨by simp only [List.length_take]; omega, by simp only [List.length_take]; omega, hr.sp, fun v h => hr.w v (List.mem_of_mem_take h), fun v h => hr.t v (List.mem_of_mem_take h)⟩
  have hpl := psAll_len (ps := ps) (m := m)
  have hal := (ptAll_len (ps := ps) (r := r)).2
  have e1 : psAll (ps.take k.toNat) (Motion.mk m.Speed (m.Class.take k.toNat) m.Error (m.Targets.take (nret (ps.take k.toNat)))) = (psAll ps m).take (k.toNat + 1) := by
    have e : ps0 (Motion.mk m.Speed (m.Class.take k.toNat) m.Error (m.Targets.take (nret (ps.take k.toNat)))) = ps0 m := rfl
    unfold psAll
    rw [List.take_succ_cons, ← psRun_take, e]
  have e2 : ptAll (ps.take k.toNat) (Run.mk r.Speed (r.Resist.take k.toNat) (r.Targets.take (nret (ps.take k.toNat)))) = (ptAll ps r).take (k.toNat + 1) := by
    have e : pt0 (Run.mk r.Speed (r.Resist.take k.toNat) (r.Targets.take (nret (ps.take k.toNat)))) = pt0 r := rfl
    unfold ptAll
    rw [List.take_succ_cons, ← ptRun_take, e]
  have e3 : (ptAll ps r).take ((ptAll ps r).take (k.toNat + 1)).length = (ptAll ps r).take (k.toNat + 1) := by
    rw [List.length_take]
    rcases Nat.le_total (k.toNat + 1) (ptAll ps r).length with h | h
    · rw [Nat.min_eq_left h]
    · rw [Nat.min_eq_right h, List.take_length, List.take_of_length_le h]
  have hk1 : w64 (k + 1) = k + 1 := w64_eq (by omega)
  have hk2 : (k + 1).toNat = k.toNat + 1 := by omega
  refine ok_ck (by omega) (ok_bde (Retarders_m (by simp only [List.length_take]; omega)) (ok_bde (Pass_m hps hm) (ok_ck (by omega) (ok_ck (by omega) (ok_ck (by omega) ?_)))))
  rw [show ((nret (ps.take k.toNat) : Nat) : Int).toNat = nret (ps.take k.toNat) from Int.toNat_natCast _]
  refine ok_bde (Pass_m hpk hmk) (ok_bde (Point_m hps hr) (ok_ck (by omega) (ok_ck (by omega) (ok_ck (by omega) (ok_bde (Point_m hpk hrk) ?_)))))
  dsimp only
  rw [e1, e2, hk1, hk2, w64_eq (n := (ps.length : Int) + 1) (by omega), Int.toNat_natCast, e3]
  have hl2 : ((ptAll ps r).take (k.toNat + 1)).length = min (k.toNat + 1) (ptAll ps r).length := List.length_take
  refine ok_if0 (by decide) (ok_if0 (by decide) (ok_if0 (by decide) (ok_if0 (by decide) (ok_if0 (by omega) (ok_if0 (by omega) (ok_ck (by omega) ?_))))))
  refine ok_bde (Passages_m (by simp only [List.length_take]; omega)) (ok_ck (by omega) (ok_bde (Moments_m (by omega)) ?_))
  exact ok_if (fun _ => ok_bde sane20 (ok_some rfl)) (fun h => ok_if1 (by omega) (ok_bde sane20 (ok_some rfl)))
end Go.Hy
