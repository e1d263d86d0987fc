/-
  A greater target never makes a class slower.
-/
import Derived.Test.YtdabnfhkojapjaaPSet
namespace Go.Hy
set_option linter.unusedVariables false
set_option linter.unusedSimpArgs false
set_option maxHeartbeats 2000000
set_option maxRecDepth 10000
open Go.Hy.Iv

/-- A target, and a greater one. -/
abbrev TgUp (t u : Int) : Prop := t = u ∨ 0 ≤ t ∧ t ≤ u
structure SloS (a b : RunoffState) : Prop where
  lo : a.fenergy.Lo ≤ b.fenergy.Lo
  hi : a.fenergy.Hi ≤ b.fenergy.Hi
  s : b.fslow = true → a.fslow = true
section
variable {p : Piece} {c : Interval} {a b : RunoffState} {i : Nat}
theorem slo_e (h : SloS a b) : hiE p c a ≤ hiE p c b ∧ loE p c a ≤ loE p c b := by
  have := h.lo
  have := h.hi
  unfold hiE loE
  omega
theorem slo_none (ha : StOk a i) (h : SloS a b) (hn : psStep p c b = none) : psStep p c a = none := by
  obtain ⟨k1, k2⟩ := slo_e (p := p) (c := c) h
  have a0 : 0 ≤ a.fenergy.Hi := Int.le_trans ha.e0 ha.e1
  unfold psStep at hn ⊢
  split at hn
  · rw [if_pos (by omega)]
  split at hn
  · rename_i h1 h2
    by_cases h3 : hiE p c a < 0
    · rw [if_pos h3]
    · have m1 := isu_mono a0 h.hi
      have m2 := isu_mono (a := hiE p c a) (by omega) k1
      have m3 := (isu_spec a0).2.2.1
      have m4 := (isu_spec (n := hiE p c a) (by omega)).2.2.1
      rw [if_neg h3, if_pos (by omega)]
  · cases hn
theorem slo_slow (ha : StOk a i) (h : SloS a b) (hs : SlowP p c b) : SlowP p c a := by
  obtain ⟨k1, k2⟩ := slo_e (p := p) (c := c) h
  have := h.lo
  rcases hs with h1 | h1 | h1
  · exact .inl (h.s h1)
  · exact .inr (.inl (by omega))
  · have l0 : 0 ≤ loE p c a := by unfold loE; omega
    have m1 := isq_mono ha.e0 h.lo
    have m2 := isq_mono l0 k2
    have m3 := (isq_spec ha.e0).1
    have m4 := (isq_spec l0).1
    exact .inr (.inr (by omega))
theorem slo_step (ha : StOk a i) (h : SloS a b) {a' b' : RunoffState} (h1 : psStep p c a = some a') (h2 : psStep p c b = some b') : SloS a' b' := by
  obtain ⟨k1, k2⟩ := slo_e (p := p) (c := c) h
  have hsl := slo_slow (p := p) (c := c) ha h
  unfold psStep at h1 h2
  split at h1
  · cases h1
  split at h1
  · cases h1
  split at h2
  · cases h2
  split at h2
  · cases h2
  simp only [Option.some.injEq] at h1 h2
  subst h1 h2
  exact ⟨k2, k1, fun hh => decide_eq_true (hsl (of_decide_eq_true hh))⟩
end
theorem brk_slo {p : Piece} {t u e : Int} {x y : Interval} (ht : TgUp t u) (he : 0 ≤ e) (h0 : x.Lo ≤ y.Lo) (h1 : x.Hi ≤ y.Hi) : (brk p t e x).Lo ≤ (brk p u e y).Lo ∧ (brk p t e x).Hi ≤ (brk p u e y).Hi := by
  unfold brk
  rcases ht with rfl | ⟨t0, tu⟩
  · split
    · dsimp only
      generalize max 0 (t - e) * max 0 (t - e) = u1 at *
      generalize (t + e) * (t + e) = u3 at *
      exact ⟨by omega, by omega⟩
    · exact ⟨h0, h1⟩
  · by_cases hp : 0 < p.Power
    · rw [if_pos ⟨hp, t0⟩, if_pos ⟨hp, by omega⟩]
      have q1 := sq_le (a := max 0 (t - e)) (b := max 0 (u - e)) (by omega) (by omega)
      have q2 := sq_le (a := t + e) (b := u + e) (by omega) (by omega)
      dsimp only
      generalize max 0 (t - e) * max 0 (t - e) = u1 at *
      generalize max 0 (u - e) * max 0 (u - e) = u2 at *
      generalize (t + e) * (t + e) = u3 at *
      generalize (u + e) * (u + e) = u4 at *
      exact ⟨by omega, by omega⟩
    · rw [if_neg (fun h => hp h.1), if_neg (fun h => hp h.1)]
      exact ⟨h0, h1⟩
/-- A passage that is slower than another. -/
structure SloP (q r : Passage) : Prop where
  st : r.Stops = true → q.Stops = true
  sl : r.Slow = true → q.Slow = true ∨ q.Stops = true
  e : q.Stops = false → q.Energy.Lo ≤ r.Energy.Lo ∧ q.Energy.Hi ≤ r.Energy.Hi
theorem slo_of {a b : RunoffState} (h : SloS a b) : SloP (toP a) (toP b) := ⟨fun h => (by cases h), fun hh => .inl (h.s hh), fun _ => ⟨h.lo, h.hi⟩⟩
theorem slo_stop {r : Passage} : SloP stopP r := ⟨fun _ => rfl, fun _ => .inr rfl, fun h => by cases h⟩
theorem L2.repL {α β : Type} {R : α → β → Prop} {l : List β} {a : α} (h : ∀ b ∈ l, R a b) : L2 R (List.replicate l.length a) l := by
  induction l with
  | nil => exact .nil
  | cons x l ih =>
    rw [List.length_cons, List.replicate_succ]
    exact .cons (h x (List.mem_cons_self ..)) (ih fun b hb => h b (List.mem_cons_of_mem _ hb))
theorem tsOf_up {p : Piece} {ts us : List Int} (h : L2 TgUp ts us) : L2 TgUp (tsOf p ts) (tsOf p us) := by
  unfold tsOf
  split
  · exact h.tail
  · exact h
theorem tgOf_up {p : Piece} {ts us : List Int} (h : L2 TgUp ts us) : TgUp (tgOf p ts) (tgOf p us) := by
  unfold tgOf
  split
  · exact h.head (.inl rfl)
  · exact .inl rfl
theorem run_slo {err : Int} (he : 0 ≤ err ∧ err ≤ 1000) {ps : List Piece} : ∀ {cs : List Interval} {ts us : List Int} {a b : RunoffState} {i : Nat}, (∀ p ∈ ps, PieceOk p) → (∀ c ∈ cs, ClsOk c) → (∀ t ∈ ts, Tg t) → L2 TgUp ts us → StOk a i → SloS a b → L2 SloP (psRun err ps cs ts a) (psRun err ps cs us b) := by
  have c0 : ClsOk (⟨0, 0⟩ : Interval) := by dsimp only [ClsOk]; omega
  have tg0 : Tg 0 := by omega
  induction ps with
  | nil => intro cs ts us a b i _ _ _ _ _ _; exact .nil
  | cons p ps ih =>
    intro cs ts us a b i hp hc ht htu ha h
    have hco := all_head hc c0
    have htg : Tg (tgOf p ts) := by unfold tgOf; split; exact all_head ht tg0; omega
    cases hna : psStep p (cs.headD ⟨0, 0⟩) a with
    | none =>
      have hn : psNext p (cs.headD ⟨0, 0⟩) (tgOf p ts) err a = none := by unfold psNext; rw [hna]; rfl
      rw [psRun_none hn]
      have : ps.length + 1 = (psRun err (p :: ps) cs us b).length := by rw [psRun_len]; rfl
      rw [this]
      exact L2.repL fun _ _ => slo_stop
    | some a' =>
      cases hnb : psStep p (cs.headD ⟨0, 0⟩) b with
      | none => rw [slo_none ha h hnb] at hna; cases hna
      | some b' =>
        have hs := slo_step ha h hna hnb
        have ea : psNext p (cs.headD ⟨0, 0⟩) (tgOf p ts) err a = some ⟨a'.ftime, brk p (tgOf p ts) err a'.fenergy, a'.fslow⟩ := by unfold psNext; rw [hna]; rfl
        have eb : psNext p (cs.headD ⟨0, 0⟩) (tgOf p us) err b = some ⟨b'.ftime, brk p (tgOf p us) err b'.fenergy, b'.fslow⟩ := by unfold psNext; rw [hnb]; rfl
        rw [psRun_some ea, psRun_some eb]
        have hb := brk_slo (p := p) (tgOf_up (p := p) htu) he.1 hs.lo hs.hi
        have hs2 : SloS ⟨a'.ftime, brk p (tgOf p ts) err a'.fenergy, a'.fslow⟩ ⟨b'.ftime, brk p (tgOf p us) err b'.fenergy, b'.fslow⟩ := ⟨hb.1, hb.2, hs.s⟩
        have ha2 := psNext_ok (hp p (List.mem_cons_self ..)) hco htg he ha ea
        exact .cons (slo_of hs2) (ih (fun q hq => hp q (List.mem_cons_of_mem _ hq)) (all_tail hc) (by unfold tsOf; split; exact all_tail ht; exact ht) (tsOf_up htu) ha2 hs2)
/-! ### The last passage -/
def lastP (l : List Passage) : Passage := (l[l.length - 1]?).getD stopP
theorem last_at {ps : List Piece} {m : Motion} : (psAll ps m)[ps.length]? = some (lastP (psAll ps m)) := by
  have hl := psAll_len (ps := ps) (m := m)
  unfold lastP
  rw [hl, Nat.add_sub_cancel, List.getElem?_eq_getElem (by omega)]
  rfl
/-- Energies in their range. -/
abbrev EB (q : Passage) : Prop := 0 ≤ q.Energy.Lo ∧ q.Energy.Lo ≤ q.Energy.Hi ∧ q.Energy.Hi ≤ 1000000000000
theorem psRun_bd {err : Int} (he : 0 ≤ err ∧ err ≤ 1000) {ps : List Piece} : ∀ {cs : List Interval} {ts : List Int} {s : RunoffState} {i : Nat}, i + ps.length ≤ 200 → (∀ p ∈ ps, PieceOk p) → (∀ c ∈ cs, ClsOk c) → (∀ t ∈ ts, Tg t) → StOk s i → ∀ q ∈ psRun err ps cs ts s, EB q := by
  have c0 : ClsOk (⟨0, 0⟩ : Interval) := by dsimp only [ClsOk]; omega
  have tg0 : Tg 0 := by omega
  induction ps with
  | nil => intro cs ts s i _ _ _ _ _ q hq; simp [psRun] at hq
  | cons p ps ih =>
    intro cs ts s i hi hp hc ht hs q hq
    have htg : Tg (tgOf p ts) := by unfold tgOf; split; exact all_head ht tg0; omega
    cases hn : psNext p (cs.headD ⟨0, 0⟩) (tgOf p ts) err s with
    | none =>
      rw [psRun_none hn] at hq
      have := List.eq_of_mem_replicate hq
      subst this
      exact ⟨by decide, by decide, by decide⟩
    | some s' =>
      rw [psRun_some hn] at hq
      simp only [List.length_cons] at hi
      have hs' := psNext_ok (hp p (List.mem_cons_self ..)) (all_head hc c0) htg he hs hn
      rcases List.mem_cons.1 hq with rfl | hq
      · have := hs'.e0
        have := hs'.e1
        have := hs'.e2
        refine ⟨by unfold toP; dsimp only; omega, by unfold toP; dsimp only; omega, by unfold toP; dsimp only; omega⟩
      · exact ih (by omega) (fun p hp' => hp p (List.mem_cons_of_mem _ hp')) (all_tail hc) (by unfold tsOf; split; exact all_tail ht; exact ht) hs' q hq
theorem psAll_bd {ps : List Piece} {m : Motion} (hp : PsOk ps) (hm : MotOk ps m) : ∀ q ∈ psAll ps m, EB q := by
  intro q hq
  have h0 := ps0_ok hm
  unfold psAll at hq
  rcases List.mem_cons.1 hq with rfl | hq
  · have := h0.e0
    have := h0.e1
    have := h0.e2
    refine ⟨by unfold toP; dsimp only; omega, by unfold toP; dsimp only; omega, by unfold toP; dsimp only; omega⟩
  · exact psRun_bd hm.err (i := 0) (by have := hp.len; omega) hp.ok hm.c hm.t h0 q hq
theorem psOut_ok {ps : List Piece} {m : Motion} (h : (psOut ps m).2 = 0) : PsOk ps ∧ MotOk ps m ∧ psOut ps m = (psAll ps m, 0) := by
  unfold psOut at h ⊢
  by_cases h1 : vE ps = 0
  · by_cases h2 : mE ps m = 0
    · exact ⟨vE_ok h1, mE_ok h2, by rw [if_neg (by simp [h1]), if_neg (by simp [h2])]⟩
    · rw [if_neg (by simp [h1]), if_pos h2] at h; exact absurd h h2
  · rw [if_pos h1] at h; exact absurd h h1
/-- The motion with another target. -/
def setT (m : Motion) (k : Nat) (v : Int) : Motion := ⟨m.Speed, m.Class, m.Error, m.Targets.set k v⟩
theorem setT_ok {ps : List Piece} {m : Motion} {k : Nat} {v : Int} (h : MotOk ps m) (hv : Tg v) : MotOk ps (setT m k v) :=
  ⟨h.sp, h.cls, h.c, h.err, by unfold setT; dsimp only; rw [List.length_set]; exact h.tgs, fun t ht => by
    rcases List.mem_or_eq_of_mem_set ht with ht | rfl
    · exact h.t t ht
    · exact hv⟩
theorem setT_up {m : Motion} {k : Nat} {u v : Int} (h : TgUp u v) : L2 TgUp (setT m k u).Targets (setT m k v).Targets := by
  unfold setT
  dsimp only
  refine L2.of_get (by simp) fun j a b ha hb => ?_
  rw [List.getElem?_set] at ha hb
  by_cases e : k = j
  · rw [if_pos e] at ha hb
    split at ha
    · rename_i hk
      rw [if_pos hk] at hb
      cases ha
      cases hb
      exact h
    · cases ha
  · rw [if_neg e] at ha hb
    rw [ha] at hb
    exact .inl (Option.some.inj hb)
theorem last_slo {ps : List Piece} {m : Motion} {k : Nat} {u v : Int} (hp : PsOk ps) (hm : MotOk ps m) (hu : 0 ≤ u ∧ u ≤ v) (hv : v ≤ 20000) : SloP (lastP (psAll ps (setT m k u))) (lastP (psAll ps (setT m k v))) := by
  have h1 := last_at (ps := ps) (m := setT m k u)
  have h2 := last_at (ps := ps) (m := setT m k v)
  have hmu := setT_ok (k := k) hm (show Tg u by omega)
  have h0 := ps0_ok hmu
  have hrun := run_slo (err := m.Error) hm.err (i := 0) hp.ok hm.c hmu.t (setT_up (m := m) (k := k) (.inr hu)) h0 (b := ps0 (setT m k v)) ⟨Int.le_refl _, Int.le_refl _, fun h => h⟩
  have hall : L2 SloP (psAll ps (setT m k u)) (psAll ps (setT m k v)) := .cons (slo_of ⟨Int.le_refl _, Int.le_refl _, fun h => h⟩) hrun
  exact hall.get _ _ _ h1 h2
abbrev Eno (q : Passage) (v : Int) : Prop := q.Slow = false ∧ q.Stops = false ∧ v * v ≤ q.Energy.Lo
abbrev Gen (q : Passage) (v : Int) : Prop := q.Stops = true ∨ q.Energy.Hi ≤ v * v
theorem Eno.up {q r : Passage} {v : Int} (h : SloP q r) (hq : Eno q v) : Eno r v := by
  obtain ⟨h1, h2, h3⟩ := hq
  have := (h.e h2).1
  refine ⟨?_, ?_, by omega⟩
  · rw [Bool.eq_false_iff]; intro hh
    rcases h.sl hh with hh | hh
    · rw [h1] at hh; cases hh
    · rw [h2] at hh; cases hh
  · rw [Bool.eq_false_iff]; intro hh
    rw [h.st hh] at h2; cases h2
theorem Gen.dn {q r : Passage} {v : Int} (h : SloP q r) (hr : Gen r v) : Gen q v := by
  rcases hr with hr | hr
  · exact .inl (h.st hr)
  · cases hq : q.Stops with
    | true => exact .inl hq
    | false => have := (h.e hq).2; exact .inr (by omega)
end Go.Hy
