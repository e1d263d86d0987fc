/-
  Runs on the longest and steepest paths.
-/
import Derived.Test.YtbojnnefpapamaaPLate
namespace Go.Hy
set_option linter.unusedVariables false
set_option linter.unusedSimpArgs false
set_option maxHeartbeats 2000000
set_option maxRecDepth 10000
open Go.Hy.Iv

structure Steep (g : Int) (p : Piece) : Prop where
  l : p.Length = 1000000
  g : p.Grade = g
  p : p.Power = 0
theorem grow_succ (G : Int) (i : Nat) : G + G * ((i : Int) + 1) = G * (((i + 1 : Nat) : Int) + 1) := by
  have h : (((i + 1 : Nat) : Int) + 1) = ((i : Int) + 1) + 1 := rfl
  rw [h, Int.mul_add G ((i : Int) + 1) 1, Int.mul_one, Int.add_comm]
theorem steep_g {g : Int} {p : Piece} (h : Steep g p) : gd p (-5000) = 196200 * (g + 5000) ∧ gu p (-5000) = 196200 * (g + 5000) := by
  have e : gn p (-5000) = 19620 * (g + 5000) * 1000000 := by unfold gn; rw [h.g, h.l]; omega
  unfold gd gu dn up
  rw [e]
  omega
theorem isq_pos {n : Int} (h : 1 ≤ n) : 1 ≤ isq n := by
  have h1 := isq_mono (a := 1) (by decide) h
  rw [isq_one] at h1
  exact h1
theorem ptStep_steep {g : Int} {p : Piece} {x : Moment} {tg : Int} (h : Steep g p) (hg : 0 ≤ g) (hx : 0 ≤ x.Energy) : ∃ y, ptStep p (-5000) tg x = some y ∧ y.Energy = x.Energy + 196200 * (g + 5000) := by
  have e := (steep_g h).1
  have h1 := isq_pos (n := x.Energy + 196200 * (g + 5000)) (by omega)
  have h2 := (isq_spec hx).1
  unfold ptStep
  rw [e, if_neg (by omega), if_neg (by omega)]
  refine ⟨_, rfl, ?_⟩
  unfold bk
  rw [h.p, if_neg (by omega)]
theorem ptRun_steep {g : Int} (hg : 0 ≤ g) {ps : List Piece} : ∀ {ws ts : List Int} {x : Moment}, (∀ p ∈ ps, Steep g p) → (∀ w ∈ ws, w = -5000) → ws.length = ps.length → 0 ≤ x.Energy →
    (ptRun ps ws ts x).length = ps.length ∧ ∀ (i : Nat) y, (ptRun ps ws ts x)[i]? = some y → y.Energy = x.Energy + 196200 * (g + 5000) * (i + 1) := by
  induction ps with
  | nil => intro ws ts x _ _ _ _; exact ⟨rfl, fun i y h => by simp [ptRun] at h⟩
  | cons p ps ih =>
    intro ws ts x hp hw hl hx
    cases ws with
    | nil => simp at hl
    | cons w ws =>
      obtain rfl : w = -5000 := hw w List.mem_cons_self
      obtain ⟨y, hy, ey⟩ := ptStep_steep (tg := tgOf p ts) (hp p List.mem_cons_self) hg hx
      rw [ptRun_some (ws := -5000 :: ws) hy, List.tail_cons]
      obtain ⟨k1, k2⟩ := ih (ws := ws) (ts := tsOf p ts) (x := y) (fun q hq => hp q (List.mem_cons_of_mem _ hq)) (fun v hv => hw v (List.mem_cons_of_mem _ hv)) (by simpa using hl) (by omega)
      refine ⟨by simp [k1], fun i z hz => ?_⟩
      cases i with
      | zero => simp only [List.getElem?_cons_zero, Option.some.injEq] at hz; subst hz; rw [ey]; simp
      | succ i =>
        have := k2 i z (by simpa using hz)
        rw [this, ey, Int.add_assoc]
        congr 1
        exact grow_succ _ i
theorem psNext_steep {g : Int} {p : Piece} {s : RunoffState} {tg err : Int} (h : Steep g p) (hg : 0 ≤ g) (hx : 0 ≤ s.fenergy.Lo) (he : s.fenergy.Hi = s.fenergy.Lo) (hs : s.fslow = false) :
    ∃ s', psNext p ⟨-5000, -5000⟩ tg err s = some s' ∧ s'.fenergy.Lo = s.fenergy.Lo + 196200 * (g + 5000) ∧ s'.fenergy.Hi = s'.fenergy.Lo ∧ s'.fslow = false := by
  obtain ⟨e1, e2⟩ := steep_g h
  have hh : hiE p ⟨-5000, -5000⟩ s = s.fenergy.Lo + 196200 * (g + 5000) := by unfold hiE; dsimp only; rw [e2, he]
  have hl : loE p ⟨-5000, -5000⟩ s = s.fenergy.Lo + 196200 * (g + 5000) := by unfold loE; dsimp only; rw [e1]; omega
  have h1 := isq_pos (n := s.fenergy.Lo + 196200 * (g + 5000)) (by omega)
  have h2 := isq_isu (a := s.fenergy.Lo + 196200 * (g + 5000)) (by omega)
  have h3 := (isq_spec hx).1
  have h4 := isq_isu hx
  have hsl : ¬ SlowP p ⟨-5000, -5000⟩ s := by
    unfold SlowP
    rw [hl, hs]
    dsimp only
    rw [e1]
    intro h
    rcases h with h | h | h
    · cases h
    · omega
    · omega
  unfold psNext psStep
  rw [hh, hl, if_neg hsl, decide_eq_false hsl, he, if_neg (by omega), if_neg (by omega)]
  refine ⟨_, rfl, ?_⟩
  dsimp only
  unfold brk
  rw [h.p, if_neg (by omega)]
  exact ⟨rfl, rfl, rfl⟩
theorem psRun_steep {g err : Int} (hg : 0 ≤ g) {ps : List Piece} : ∀ {cs : List Interval} {ts : List Int} {s : RunoffState}, (∀ p ∈ ps, Steep g p) → (∀ c ∈ cs, c = ⟨-5000, -5000⟩) → cs.length = ps.length → 0 ≤ s.fenergy.Lo → s.fenergy.Hi = s.fenergy.Lo → s.fslow = false →
    ∀ (i : Nat) q, (psRun err ps cs ts s)[i]? = some q → q.Slow = false ∧ q.Stops = false ∧ q.Energy.Lo = s.fenergy.Lo + 196200 * (g + 5000) * (i + 1) ∧ q.Energy.Hi = q.Energy.Lo := by
  induction ps with
  | nil => intro cs ts s _ _ _ _ _ _ i q h; simp [psRun] at h
  | cons p ps ih =>
    intro cs ts s hp hw hl hx he hs
    cases cs with
    | nil => simp at hl
    | cons c cs =>
      obtain rfl : c = ⟨-5000, -5000⟩ := hw c List.mem_cons_self
      obtain ⟨s', hy, e1, e2, e3⟩ := psNext_steep (tg := tgOf p ts) (err := err) (hp p List.mem_cons_self) hg hx he hs
      rw [psRun_some (cs := ⟨-5000, -5000⟩ :: cs) hy, List.tail_cons]
      have k2 := ih (cs := cs) (ts := tsOf p ts) (s := s') (fun q hq => hp q (List.mem_cons_of_mem _ hq)) (fun v hv => hw v (List.mem_cons_of_mem _ hv)) (by simpa using hl) (by omega) e2 e3
      intro i z hz
      cases i with
      | zero =>
        simp only [List.getElem?_cons_zero, Option.some.injEq] at hz
        subst hz
        exact ⟨e3, rfl, by dsimp only [toP]; rw [e1]; simp, e2⟩
      | succ i =>
        obtain ⟨a1, a2, a3, a4⟩ := k2 i z (by simpa using hz)
        refine ⟨a1, a2, ?_, a4⟩
        rw [a3, e1, Int.add_assoc]
        congr 1
        exact grow_succ _ i
theorem check_long {ps : List Piece} {m : Motion} (h : 128 < ps.length) : runoff_check ps m = some 3 := by
  refine Ok.eq (?_ : Ok _ _)
  unfold runoff_check
  exact ok_bde (PValid_long h) (ok_if1 (by decide) (ok_some rfl))
theorem Pass_long {ps : List Piece} {m : Motion} (h : 128 < ps.length) : runoff_Pass ps m = some ([], 3) := by
  refine Ok.eq (?_ : Ok _ _)
  unfold runoff_Pass
  exact ok_bde (check_long h) (ok_if1 (by decide) (ok_some rfl))
theorem Point_long {ps : List Piece} {r : Run} (h : 128 < ps.length) : runoff_Point ps r = some ([], 0, 3) := by
  refine Ok.eq (?_ : Ok _ _)
  unfold runoff_Point
  exact ok_bde (PValid_long h) (ok_if1 (by decide) (ok_some rfl))
theorem Limits_ok (a b : Int) : law20_RunoffLimits a b = some true := by
  refine Ok.eq (?_ : Ok _ _)
  unfold law20_RunoffLimits
  have h1 := tmod_rng a 3 (by decide)
  have h2 := tmod_rng b 100 (by decide)
  rw [w64_eq (n := Int.tmod a 3 + 3) (by omega), w64_eq (n := Int.tmod b 100 + 100) (by omega)]
  refine ok_vl fun x hx => ok_vl fun d hd => ?_
  have hx0 : 0 ≤ x ∧ x < 3 := by
    have := tmod_nn (x := Int.tmod a 3 + 3) (m := 3) (by omega) (by decide)
    omega
  have hd0 : 0 ≤ d ∧ d < 100 := by
    have := tmod_nn (x := Int.tmod b 100 + 100) (m := 100) (by omega) (by decide)
    omega
  clear hx hd h1 h2
  rw [w64_eq (n := 127 + x) (by omega), w64_eq (n := 10000 - d) (by omega)]
  refine ok_jp (fun (z : List Piece × List Interval × List Int) => z.1.length = (127 + x).toNat ∧ z.2.1.length = (127 + x).toNat ∧ z.2.2.length = (127 + x).toNat ∧ (∀ p ∈ z.1, PieceOk p ∧ Steep (10000 - d) p) ∧ (∀ c ∈ z.2.1, c = ⟨-5000, -5000⟩) ∧ (∀ w ∈ z.2.2, w = -5000)) (fun z hz => ?_) (fun kk hk => ?_)
  · obtain ⟨ps, cs, ws⟩ := z
    obtain ⟨z0, z1, z2, z3, z4, z5⟩ := hz
    dsimp only at z0 z1 z2 z3 z4 z5 ⊢
    by_cases hx2 : 1 < x
    · refine ok_bde (Pass_long (by omega)) (ok_bde (Point_long (by omega)) (ok_if1 hx2 (ok_if1 (by decide) (ok_if1 (by decide) (ok_bde (PValid_long (by omega)) (ok_if1 (by decide) (ok_bde sane20 (ok_some rfl))))))))
    have hn0 : nret ps = 0 := nret_zero fun p hp => (z3 p hp).2.p
    have hps : PsOk ps := ⟨by omega, fun p hp => (z3 p hp).1⟩
    have hm : MotOk ps (Motion.mk (Interval.mk 20000 20000) cs 0 ([] : List Int)) := ⟨by dsimp only; omega, by dsimp only; omega, fun c hc => by rw [z4 c hc]; dsimp only [ClsOk]; omega, by dsimp only; omega, by dsimp only; rw [hn0]; rfl, by simp⟩
    have hr : RunOk ps (Run.mk 20000 ws ([] : List Int)) := ⟨by dsimp only; omega, by dsimp only; rw [hn0]; rfl, by dsimp only; omega, fun w hw => by rw [z5 w hw]; omega, by simp⟩
    have hin : RunIn (Motion.mk (Interval.mk 20000 20000) cs 0 ([] : List Int)) (Run.mk 20000 ws ([] : List Int)) := ⟨by dsimp only; omega, L2.of_get (by dsimp only; omega) fun j c w hc hw => by
      have e1 := z4 c (memat hc)
      have e2 := z5 w (memat hw)
      subst e1 e2
      dsimp only [ClsIn]
      omega, .nil⟩
    have hri := all_in hps hm hr hin
    have hpl := psAll_len (ps := ps) (m := Motion.mk (Interval.mk 20000 20000) cs 0 ([] : List Int))
    obtain ⟨k1, k2⟩ := ptRun_steep (g := 10000 - d) (by omega) (ts := []) (x := pt0 (Run.mk 20000 ws ([] : List Int))) (fun p hp => (z3 p hp).2) z5 (by omega) (by dsimp only [pt0]; omega)
    have k3 := psRun_steep (g := 10000 - d) (err := 0) (by omega) (ts := []) (s := ps0 (Motion.mk (Interval.mk 20000 20000) cs 0 ([] : List Int))) (fun p hp => (z3 p hp).2) z4 (by omega) (by dsimp only [ps0]; omega) rfl rfl
    have kp : (pt0 (Run.mk 20000 ws ([] : List Int))).Energy = 400000000 := rfl
    have ks : (ps0 (Motion.mk (Interval.mk 20000 20000) cs 0 ([] : List Int))).fenergy.Lo = 400000000 := rfl
    rw [kp] at k2
    rw [ks] at k3
    have hal : (ptAll ps (Run.mk 20000 ws ([] : List Int))).length = ps.length + 1 := by rw [(ptAll_len (ps := ps) (r := Run.mk 20000 ws ([] : List Int))).1, k1]
    have hst : ptStop ps (Run.mk 20000 ws ([] : List Int)) = -1 := if_pos k1
    have f1 : ∀ (i : Nat) y, (ptAll ps (Run.mk 20000 ws ([] : List Int)))[i]? = some y → y.Energy = 400000000 + 196200 * (10000 - d + 5000) * i := by
      intro i y hy
      cases i with
      | zero => obtain rfl := Option.some.inj hy; rw [kp]; simp
      | succ i => have := k2 i y hy; rw [this]; simp
    have f2 : ∀ (i : Nat) q, (psAll ps (Motion.mk (Interval.mk 20000 20000) cs 0 ([] : List Int)))[i]? = some q → q.Slow = false ∧ q.Stops = false ∧ q.Energy.Lo = 400000000 + 196200 * (10000 - d + 5000) * i ∧ q.Energy.Hi = q.Energy.Lo := by
      intro i q hq
      cases i with
      | zero => obtain rfl := Option.some.inj hq; exact ⟨rfl, rfl, by dsimp only [toP]; rw [ks]; simp, rfl⟩
      | succ i => obtain ⟨a1, a2, a3, a4⟩ := k3 i q hq; exact ⟨a1, a2, by rw [a3]; simp, a4⟩
    refine ok_bde (Pass_m hps hm) (ok_bde (Point_m hps hr) ?_)
    dsimp only
    rw [hst]
    refine ok_if0 hx2 (ok_if0 (by decide) (ok_if0 (by decide) (ok_if0 (by decide) (ok_if0 ?_ (ok_if0 (by omega) ?_)))))
    · rw [w64_eq (by omega)]; omega
    refine ok_jp (fun _ => True) (fun _ _ => ?_) (fun kk hk => ?_)
    · rw [w64_eq (n := 10000 - d + 5000) (by omega)]
      refine ok_vl fun x19 hx19 => ?_
      have hG : w64 (w64 (19620 * x19) * 10) = 196200 * (10000 - d + 5000) := by
        rw [w64_eq (n := 19620 * x19) (by omega), w64_eq (by omega), hx19]; omega
      have hnG : (ps.length : Int) * (196200 * (10000 - d + 5000)) = 196200 * (10000 - d + 5000) * (ps.length : Int) := Int.mul_comm _ _
      have hb : 0 ≤ 196200 * (10000 - d + 5000) * (ps.length : Int) ∧ 196200 * (10000 - d + 5000) * (ps.length : Int) ≤ 2943000000 * 128 :=
        ⟨Int.mul_nonneg (by omega) (by omega), Int.mul_le_mul (by omega) (by omega) (by omega) (by decide)⟩
      rw [hG, hnG, w64_eq (n := 196200 * (10000 - d + 5000) * (ps.length : Int)) (by omega)]
      refine ok_vl fun x20 hx20 => ok_ix (by omega) (by omega) fun q hq => ?_
      obtain ⟨a1, a2, a3, a4⟩ := f2 _ q hq
      rw [Int.toNat_natCast] at a3
      rw [w64_eq (by omega)]
      exact ok_if1 (by omega) (ok_bde sane20 (ok_some rfl))
    · refine ok_lp (fun (z : Int) => 0 ≤ z) (fun z => ((ps.length : Int) + 1 - z).toNat) (Int.le_refl 0) (by simp only [big_eq]; omega) ?_
      intro i next i0 hn
      refine ok_if (fun h => ?_) (fun _ => hk _ trivial)
      have hi1 : i.toNat < (psAll ps (Motion.mk (Interval.mk 20000 20000) cs 0 ([] : List Int))).length := by omega
      have hi2 : i.toNat < (ptAll ps (Run.mk 20000 ws ([] : List Int))).length := by omega
      have hq := List.getElem?_eq_getElem hi1
      have hy := List.getElem?_eq_getElem hi2
      generalize (psAll ps (Motion.mk (Interval.mk 20000 20000) cs 0 ([] : List Int)))[i.toNat] = q at hq
      generalize (ptAll ps (Run.mk 20000 ws ([] : List Int)))[i.toNat] = y at hy
      obtain ⟨a1, a2, a3, a4⟩ := f2 _ q hq
      have b1 := f1 _ y hy
      refine ok_ixe i0 hq (ok_c0 a1 (ok_ixe i0 hq (ok_c0 a2 ?_)))
      refine ok_ixe i0 hy (ok_ixe i0 hq (ok_bde (In_m (hri.get _ y q hy hq)) (ok_n1 rfl ?_)))
      refine ok_ixe i0 hq (ok_ixe i0 hq ?_)
      rw [a4, w64_eq (n := q.Energy.Lo - q.Energy.Lo) (by omega), w64_eq (n := 2 * i) (by omega), w64_eq (n := i + 1) (by omega)]
      refine ok_vl fun e he => ok_if0 (by omega) (ok_ixe i0 hy (ok_ixe i0 hq (ok_if0 ?_ (hn _ (by omega) (by omega)))))
      rw [b1, a3]
      exact fun h => h rfl
  · refine ok_lp (fun (z : List Piece × List Interval × List Int × Int) => 0 ≤ z.2.2.2 ∧ z.2.2.2 ≤ 127 + x ∧ z.1.length = z.2.2.2.toNat ∧ z.2.1.length = z.2.2.2.toNat ∧ z.2.2.1.length = z.2.2.2.toNat ∧ (∀ p ∈ z.1, PieceOk p ∧ Steep (10000 - d) p) ∧ (∀ c ∈ z.2.1, c = ⟨-5000, -5000⟩) ∧ (∀ w ∈ z.2.2.1, w = -5000)) (fun z => (127 + x - z.2.2.2).toNat) ?_ (by simp only [big_eq]; omega) ?_
    · exact ⟨by dsimp only; omega, by dsimp only; omega, rfl, rfl, rfl, by simp, by simp, by simp⟩
    rintro ⟨ps, cs, ws, i⟩ next ⟨i0, i1, i2, i3, i4, i5, i6, i7⟩ hn
    dsimp only at i0 i1 i2 i3 i4 i5 i6 i7 ⊢
    refine ok_if (fun h => ?_) (fun h => hk _ ⟨by dsimp only; omega, by dsimp only; omega, by dsimp only; omega, i5, i6, i7⟩)
    have hmd := tmod_nn (x := i) (m := 128) i0 (by decide)
    rw [w64_eq (n := i + 1) (by omega)]
    refine ok_ck (by simp; omega) (ok_vl fun y1 hy1 => ok_ck (by simp; omega) (ok_vl fun y2 hy2 => ok_ck (by simp; omega) (ok_vl fun y3 hy3 => ?_)))
    subst hy1 hy2 hy3
    refine hn _ ⟨by dsimp only; omega, by dsimp only; omega, by simp; omega, by simp; omega, by simp; omega, fun p hp => ?_, fun c hc => ?_, fun w hw => ?_⟩ (by dsimp only; omega)
    · rcases List.mem_append.1 hp with hp | hp
      · exact i5 p hp
      · simp only [List.mem_singleton] at hp; subst hp
        exact ⟨⟨by dsimp only; omega, by dsimp only; omega, by dsimp only; omega, by dsimp only; omega, by dsimp only; omega⟩, ⟨rfl, rfl, rfl⟩⟩
    · rcases List.mem_append.1 hc with hc | hc
      · exact i6 c hc
      · simpa using hc
    · rcases List.mem_append.1 hw with hw | hw
      · exact i7 w hw
      · simpa using hw
end Go.Hy
