/-
  A run lies in the passages of its motion.
-/
import Derived.Test.YtdabnfhkojapjaaPPass
import Derived.Test.YtdabnfhkojapjaaPMono
namespace Go.Hy
set_option linter.unusedVariables false
set_option linter.unusedSimpArgs false
set_option maxHeartbeats 2000000
set_option maxRecDepth 10000
open Go.Hy.Iv

structure InSt (x : Moment) (s : RunoffState) : Prop where
  t0 : s.ftime.Lo ≤ x.Time
  t1 : x.Time ≤ s.ftime.Hi
  e0 : s.fenergy.Lo ≤ x.Energy
  e1 : x.Energy ≤ s.fenergy.Hi
/-- How the energies of a run and of a motion stand behind a piece. -/
theorem gain_in {p : Piece} {c : Interval} {w : Int} {x : Moment} {s : RunoffState} (hp : PieceOk p) (hcw : ClsIn c w) (hx : InSt x s) :
    s.fenergy.Lo + gd p c.Hi ≤ x.Energy + gd p w ∧ x.Energy + gd p w ≤ hiE p c s := by
  have g1 : gd p c.Hi ≤ gd p w := dn_mono' (by decide) (gn_anti hp hcw.2)
  have g2 : gd p w ≤ gd p c.Lo := dn_mono' (by decide) (gn_anti hp hcw.1)
  have g3 : gd p c.Lo ≤ gu p c.Lo := gd_le
  have := hx.e0
  have := hx.e1
  unfold hiE
  omega
theorem step_some {p : Piece} {c : Interval} {w t u err : Int} {x y : Moment} {s : RunoffState} {i : Nat} (hp : PieceOk p) (hc : ClsOk c) (hcw : ClsIn c w) (he : 0 ≤ err ∧ err ≤ 1000) (ht : Tg t) (htu : TgIn err t u) (hx : InSt x s) (hm : MomOk x i) (hs : StOk s i)
    (h : ptStep p w u x = some y) : ∃ s', psNext p c t err s = some s' ∧ InSt y s' := by
  obtain ⟨k1, k2⟩ := gain_in hp hcw hx
  obtain ⟨x0, x1, x2, x3⟩ := hx
  unfold ptStep at h
  split at h
  · cases h
  split at h
  · cases h
  rename_i h1 h2
  simp only [Option.some.injEq] at h
  subst h
  have hl := hp.l
  have s0 := hs.e0
  have a1 := isq_mono s0 x2
  have a2 := isq_mono hm.e0 x3
  have a3 := isq_isu (a := s.fenergy.Hi) (by omega)
  have hlo : 0 ≤ loE p c s ∧ loE p c s ≤ x.Energy + gd p w := by unfold loE; omega
  have a4 := isq_mono hlo.1 hlo.2
  have a5 := isq_mono (a := x.Energy + gd p w) (b := hiE p c s) (by omega) k2
  have a6 := isq_isu (a := hiE p c s) (by omega)
  have b1 := (isq_spec hm.e0).1
  have b2 := (isq_spec (n := x.Energy + gd p w) (by omega)).1
  have b3 := (isq_spec s0).1
  have b4 := (isq_spec hlo.1).1
  have d1 := dn_le (x := 2000 * p.Length) (d := isu s.fenergy.Hi + isu (hiE p c s)) (by omega)
  have d2 := up_anti (x := 2000 * p.Length) (d := isq x.Energy + isq (x.Energy + gd p w)) (e := isu s.fenergy.Hi + isu (hiE p c s)) (by omega) (by omega) (by omega)
  refine ⟨_, by unfold psNext psStep; rw [if_neg (by omega), if_neg (by omega)]; rfl, ?_, ?_, ?_, ?_⟩
  · dsimp only; omega
  · dsimp only
    split
    · omega
    · rename_i hns
      have hpos : 0 < isq s.fenergy.Lo + isq (loE p c s) := by
        rcases Int.lt_or_le 0 (isq s.fenergy.Lo + isq (loE p c s)) with hh | hh
        · exact hh
        · exact absurd (.inr (.inr (by omega))) hns
      have d3 := up_anti (x := 2000 * p.Length) (d := isq s.fenergy.Lo + isq (loE p c s)) (e := isq x.Energy + isq (x.Energy + gd p w)) (by omega) hpos (by omega)
      have := hs.t1
      omega
  · dsimp only
    unfold brk bk
    by_cases hb : 0 < p.Power ∧ 0 ≤ t
    · have hu := htu.2 hb.2
      have q1 := sq_le (a := max 0 (t - err)) (b := u) (by omega) hu.1
      rw [if_pos hb, if_pos (by omega)]
      dsimp only
      omega
    · rw [if_neg hb, if_neg (by
        intro hh
        have := htu.1 (by omega)
        omega)]
      exact hlo.2
  · dsimp only
    unfold brk bk
    by_cases hb : 0 < p.Power ∧ 0 ≤ t
    · have hu := htu.2 hb.2
      have q1 := sq_le (a := u) (b := t + err) (by omega) hu.2
      rw [if_pos hb, if_pos (by omega)]
      dsimp only
      omega
    · rw [if_neg hb, if_neg (by
        intro hh
        have := htu.1 (by omega)
        omega)]
      exact k2
theorem step_none {p : Piece} {c : Interval} {w t u err : Int} {x : Moment} {s : RunoffState} {i : Nat} (hp : PieceOk p) (hcw : ClsIn c w) (hx : InSt x s) (hm : MomOk x i) (hs : StOk s i)
    (h : ptStep p w u x = none) : ∀ s', psNext p c t err s = some s' → s'.fslow = true := by
  intro s' h'
  obtain ⟨k1, k2⟩ := gain_in hp hcw hx
  unfold psNext at h'
  cases hq : psStep p c s with
  | none => rw [hq] at h'; cases h'
  | some q =>
    rw [hq] at h'
    simp only [Option.map_some, Option.some.injEq] at h'
    subst h'
    unfold psStep at hq
    split at hq
    · cases hq
    split at hq
    · cases hq
    simp only [Option.some.injEq] at hq
    subst hq
    refine decide_eq_true ?_
    unfold ptStep at h
    split at h
    · exact .inr (.inl (by omega))
    split at h
    · rename_i h1 h2
      have s0 := hs.e0
      have hlo : 0 ≤ loE p c s ∧ loE p c s ≤ x.Energy + gd p w := by unfold loE; omega
      have a1 := isq_mono s0 hx.e0
      have a4 := isq_mono hlo.1 hlo.2
      have b3 := (isq_spec s0).1
      have b4 := (isq_spec hlo.1).1
      have b1 := (isq_spec hm.e0).1
      have b2 := (isq_spec (n := x.Energy + gd p w) (by omega)).1
      exact .inr (.inr (by omega))
    · cases h
abbrev Lost (q : Passage) : Prop := q.Stops = true ∨ q.Slow = true
theorem psRun_slow {err : Int} {ps : List Piece} : ∀ {cs : List Interval} {ts : List Int} {s : RunoffState}, s.fslow = true → ∀ q ∈ psRun err ps cs ts s, Lost q := by
  induction ps with
  | nil => intro cs ts s _ q hq; cases hq
  | cons p ps ih =>
    intro cs ts s hs q hq
    cases hn : psNext p (cs.headD ⟨0, 0⟩) (tgOf p ts) err s with
    | none => rw [psRun_none hn] at hq; rw [List.eq_of_mem_replicate hq]; exact .inl rfl
    | some s' =>
      have hs' : s'.fslow = true := by
        unfold psNext psStep at hn
        split at hn
        · cases hn
        split at hn
        · cases hn
        simp only [Option.map_some, Option.some.injEq] at hn
        subst hn
        exact decide_eq_true (.inl hs)
      rw [psRun_some hn] at hq
      rcases List.mem_cons.1 hq with e | hq
      · subst e; exact .inr hs'
      · exact ih hs' q hq
/-- A moment in a passage. -/
structure InP (x : Moment) (q : Passage) : Prop where
  s : q.Stops = false
  t : Ivd q.Time.Lo q.Time.Hi ∧ q.Time.Lo ≤ x.Time ∧ x.Time ≤ q.Time.Hi
  e : Ivd q.Energy.Lo q.Energy.Hi ∧ q.Energy.Lo ≤ x.Energy ∧ x.Energy ≤ q.Energy.Hi
theorem inP_of {x : Moment} {s : RunoffState} {i : Nat} (h : InSt x s) (hs : StOk s i) (hi : i ≤ 200) : InP x (toP s) := by
  obtain ⟨e0, e1, e2, t0, t1, t2⟩ := hs
  obtain ⟨x0, x1, x2, x3⟩ := h
  exact ⟨rfl, ⟨by dsimp only [toP]; omega, x0, x1⟩, ⟨by dsimp only [toP]; omega, x2, x3⟩⟩
inductive RIn : List Moment → List Passage → Prop
  | stop {l} : (∀ q ∈ l, Lost q) → RIn [] l
  | cons {x q l m} : InP x q → RIn l m → RIn (x :: l) (q :: m)
theorem RIn.get {l : List Moment} {m : List Passage} (h : RIn l m) : ∀ (i : Nat) x q, l[i]? = some x → m[i]? = some q → InP x q := by
  induction h with
  | stop _ => intro i x q hx; simp at hx
  | cons h _ ih =>
    intro i x q hx hq
    cases i with
    | zero =>
      simp only [List.getElem?_cons_zero, Option.some.injEq] at hx hq
      subst hx hq; exact h
    | succ i => exact ih i x q (by simpa using hx) (by simpa using hq)
theorem RIn.rest {l : List Moment} {m : List Passage} (h : RIn l m) : ∀ (i : Nat) q, l.length ≤ i → m[i]? = some q → Lost q := by
  induction h with
  | stop h => intro i q _ hq; exact h q (memat hq)
  | cons _ _ ih =>
    intro i q hi hq
    cases i with
    | zero => simp at hi
    | succ i => exact ih i q (by simpa using hi) (by simpa using hq)
theorem run_in {err : Int} (he : 0 ≤ err ∧ err ≤ 1000) {ps : List Piece} : ∀ {ws ss ts : List Int} {cs : List Interval} {x : Moment} {s : RunoffState} {i : Nat}, i + ps.length ≤ 200 → (∀ p ∈ ps, PieceOk p) → (∀ c ∈ cs, ClsOk c) → L2 ClsIn cs ws → (∀ t ∈ ts, Tg t) → L2 (TgIn err) ts ss → MomOk x i → StOk s i → InSt x s →
    RIn (ptRun ps ws ss x) (psRun err ps cs ts s) := by
  induction ps with
  | nil => intro ws ss ts cs x s i _ _ _ _ _ _ _ _ _; exact .stop (by intro q hq; cases hq)
  | cons p ps ih =>
    intro ws ss ts cs x s i hi hp hc hcw ht hts hm hs hx
    have hpo := hp p List.mem_cons_self
    have c0 : ClsOk (⟨0, 0⟩ : Interval) := by dsimp only [ClsOk]; omega
    have hco : ClsOk (cs.headD ⟨0, 0⟩) := all_head hc c0
    have i0 : ClsIn (⟨0, 0⟩ : Interval) 0 := by dsimp only [ClsIn]; omega
    have hci : ClsIn (cs.headD ⟨0, 0⟩) (ws.headD 0) := hcw.head i0
    have tg0 : Tg 0 := by omega
    have tgi : TgIn err 0 0 := ⟨fun h => rfl, fun _ => by omega⟩
    have tgm : TgIn err (-1) (-1) := ⟨fun h => rfl, fun h => by omega⟩
    have htg : Tg (tgOf p ts) := by unfold tgOf; split; exact all_head ht tg0; omega
    have hti : TgIn err (tgOf p ts) (tgOf p ss) := by unfold tgOf; split; exact hts.head tgi; exact tgm
    cases hst : ptStep p (ws.headD 0) (tgOf p ss) x with
    | none =>
      rw [ptRun_none hst]
      have hn := step_none (t := tgOf p ts) (err := err) hpo hci hx hm hs hst
      cases hq : psNext p (cs.headD ⟨0, 0⟩) (tgOf p ts) err s with
      | none => rw [psRun_none hq]; exact .stop fun q hq => by rw [List.eq_of_mem_replicate hq]; exact .inl rfl
      | some s' =>
        rw [psRun_some hq]
        refine .stop fun q hm => ?_
        rcases List.mem_cons.1 hm with e | hm
        · subst e; exact .inr (hn s' hq)
        · exact psRun_slow (hn s' hq) q hm
    | some y =>
      obtain ⟨s', hs', hin⟩ := step_some hpo hco hci he htg hti hx hm hs hst
      rw [ptRun_some hst, psRun_some hs']
      have w0 : Wr (ws.headD 0) := by
        have := hco
        omega
      have hso := psNext_ok hpo hco htg he hs hs'
      simp only [List.length_cons] at hi
      refine .cons (inP_of hin hso (by omega)) (ih (i := i + 1) (by omega) (fun q hq => hp q (List.mem_cons_of_mem _ hq)) (all_tail hc) hcw.tail ?_ ?_ (ptStep_ok hpo w0 hm hst) hso hin)
      · unfold tsOf; split; exact all_tail ht; exact ht
      · unfold tsOf; split; exact hts.tail; exact hts
theorem psRun_len {err : Int} {ps : List Piece} : ∀ {cs : List Interval} {ts : List Int} {s : RunoffState}, (psRun err ps cs ts s).length = ps.length := by
  induction ps with
  | nil => intro cs ts s; rfl
  | cons p ps ih =>
    intro cs ts s
    cases hn : psNext p (cs.headD ⟨0, 0⟩) (tgOf p ts) err s with
    | none => rw [psRun_none hn]; simp
    | some s' => rw [psRun_some hn]; simp [ih]
theorem psAll_len {ps : List Piece} {m : Motion} : (psAll ps m).length = ps.length + 1 := by unfold psAll; rw [List.length_cons, psRun_len]
theorem ps0_ok {ps : List Piece} {m : Motion} (hm : MotOk ps m) : StOk (ps0 m) 0 := by
  obtain ⟨hsp, _, _, _, _, _⟩ := hm
  have q1 := sq_bd (v := m.Speed.Lo) (by omega)
  have q2 : m.Speed.Hi * m.Speed.Hi ≤ 400000000 := sq_le (b := 20000) (by omega) hsp.2.2
  have q3 := sq_le hsp.1 hsp.2.1
  exact ⟨by dsimp only [ps0]; omega, by dsimp only [ps0]; omega, by dsimp only [ps0]; omega, by dsimp only [ps0]; omega, by dsimp only [ps0]; omega, by dsimp only [ps0]; omega⟩
theorem all_in {ps : List Piece} {m : Motion} {r : Run} (hp : PsOk ps) (hm : MotOk ps m) (hr : RunOk ps r) (hi : RunIn m r) : RIn (ptAll ps r) (psAll ps m) := by
  have h0 : InSt (pt0 r) (ps0 m) := ⟨Int.le_refl 0, Int.le_refl 0, sq_le hm.sp.1 hi.sp.1, sq_le hr.sp.1 hi.sp.2⟩
  exact .cons (inP_of h0 (ps0_ok hm) (by decide)) (run_in (i := 0) hm.err (by have := hp.len; omega) hp.ok hm.c hi.cls hm.t hi.tgs (pt0_ok hr) (ps0_ok hm) h0)
theorem ptStop_all {ps : List Piece} {r : Run} : (ptStop ps r < 0 ↔ (ptAll ps r).length = ps.length + 1) ∧ (0 ≤ ptStop ps r → ptStop ps r = (ptAll ps r).length - 1) := by
  have := (ptAll_len (ps := ps) (r := r)).1
  unfold ptStop
  split <;> omega
end Go.Hy
