/-
  A narrower motion makes narrower passages.
-/
import Derived.Test.YtjeegociagchnaaPCon0
namespace Go.Hy
set_option linter.unusedVariables false
set_option linter.unusedSimpArgs false
set_option maxHeartbeats 2000000
set_option maxRecDepth 10000
open Go.Hy.Iv

/-- The second lies in the first. -/
structure InSS (a b : RunoffState) : Prop where
  t0 : a.ftime.Lo ≤ b.ftime.Lo
  t1 : b.ftime.Hi ≤ a.ftime.Hi
  e0 : a.fenergy.Lo ≤ b.fenergy.Lo
  e1 : b.fenergy.Hi ≤ a.fenergy.Hi
  s : b.fslow = true → a.fslow = true
abbrev ClsSub (c d : Interval) : Prop := c.Lo ≤ d.Lo ∧ d.Hi ≤ c.Hi
theorem dn_anti {x d e : Int} (hx : 0 ≤ x) (hd : 0 < d) (h : d ≤ e) : dn x e ≤ dn x d := by
  unfold dn
  refine (Int.le_ediv_iff_mul_le hd).2 ?_
  have h1 := Int.ediv_mul_le x (b := e) (by omega)
  have h2 : 0 ≤ x / e := Int.ediv_nonneg hx (by omega)
  have := Int.mul_le_mul_of_nonneg_left h h2
  omega
section
variable {p : Piece} {c d : Interval} {a b : RunoffState} {i : Nat}
theorem nest_e (hp : PieceOk p) (hcd : ClsSub c d) (h : InSS a b) : a.fenergy.Lo + gd p c.Hi ≤ b.fenergy.Lo + gd p d.Hi ∧ hiE p d b ≤ hiE p c a ∧ loE p c a ≤ loE p d b := by
  have g1 : gd p c.Hi ≤ gd p d.Hi := dn_mono' (by decide) (gn_anti hp hcd.2)
  have g2 : gu p d.Lo ≤ gu p c.Lo := up_mono' (by decide) (gn_anti hp hcd.1)
  have := h.e0
  have := h.e1
  unfold hiE loE
  omega
theorem nest_low (hp : PieceOk p) (hd : ClsOk d) (hb : StOk b i) : b.fenergy.Lo + gd p d.Hi ≤ hiE p d b := by
  have hgu : gd p d.Hi ≤ gu p d.Lo := Int.le_trans (dn_mono' (by decide) (gn_anti hp hd.2.1)) gd_le
  have := hb.e1
  unfold hiE
  omega
theorem nest_none (hp : PieceOk p) (hcd : ClsSub c d) (hb : StOk b i) (h : InSS a b) (hn : psStep p c a = none) : psStep p d b = none := by
  obtain ⟨k1, k2, k3⟩ := nest_e hp hcd h
  have b0 : 0 ≤ b.fenergy.Hi := Int.le_trans hb.e0 hb.e1
  unfold psStep at hn ⊢
  split at hn
  · rw [if_pos (by omega)]
  split at hn
  · rename_i h1 h2
    by_cases h3 : hiE p d b < 0
    · rw [if_pos h3]
    · have m1 := isu_mono b0 h.e1
      have m2 := isu_mono (a := hiE p d b) (by omega) k2
      have m3 := (isu_spec b0).2.2.1
      have m4 := (isu_spec (n := hiE p d b) (by omega)).2.2.1
      rw [if_neg h3, if_pos (by omega)]
  · cases hn
theorem nest_slow (hp : PieceOk p) (hcd : ClsSub c d) (ha : StOk a i) (hb : StOk b i) (h : InSS a b) (hs : SlowP p d b) : SlowP p c a := by
  obtain ⟨k1, k2, k3⟩ := nest_e hp hcd h
  rcases hs with h1 | h1 | h1
  · exact .inl (h.s h1)
  · exact .inr (.inl (by omega))
  · have l0 : 0 ≤ loE p c a := by unfold loE; omega
    have m1 := isq_mono ha.e0 h.e0
    have m2 := isq_mono l0 k3
    have m3 := (isq_spec ha.e0).1
    have m4 := (isq_spec l0).1
    exact .inr (.inr (by omega))
theorem nest_stop (hp : PieceOk p) (hd : ClsOk d) (hcd : ClsSub c d) (ha : StOk a i) (hb : StOk b i) (h : InSS a b) (hn : psStep p d b = none) : SlowP p c a := by
  obtain ⟨k1, k2, k3⟩ := nest_e hp hcd h
  have k4 := nest_low hp hd hb
  unfold psStep at hn
  split at hn
  · exact .inr (.inl (by omega))
  split at hn
  · rename_i h1 h2
    by_cases h3 : a.fenergy.Lo + gd p c.Hi < 0
    · exact .inr (.inl h3)
    · have b0 : 0 ≤ b.fenergy.Hi := Int.le_trans hb.e0 hb.e1
      have l0 : 0 ≤ loE p c a := by unfold loE; omega
      have l1 : loE p c a ≤ hiE p d b := by unfold loE; omega
      have m1 := isq_mono ha.e0 (Int.le_trans h.e0 hb.e1)
      have m2 := isq_mono l0 l1
      have m3 := isq_isu b0
      have m4 := isq_isu (a := hiE p d b) (by omega)
      have m5 := (isq_spec ha.e0).1
      have m6 := (isq_spec l0).1
      have m7 := (isu_spec b0).2.2.1
      have m8 := (isu_spec (n := hiE p d b) (by omega)).2.2.1
      exact .inr (.inr (by omega))
  · cases hn
theorem nest_step (hp : PieceOk p) (hd : ClsOk d) (hcd : ClsSub c d) (ha : StOk a i) (hb : StOk b i) (h : InSS a b) {a' b' : RunoffState} (h1 : psStep p c a = some a') (h2 : psStep p d b = some b') : InSS a' b' := by
  obtain ⟨k1, k2, k3⟩ := nest_e hp hcd h
  have hsl := nest_slow hp hcd ha hb h
  have hl := hp.l
  unfold psStep at h1 h2
  split at h1
  · cases h1
  split at h1
  · cases h1
  split at h2
  · cases h2
  split at h2
  · cases h2
  rename_i p1 p2 p3 p4
  simp only [Option.some.injEq] at h1 h2
  subst h1 h2
  have b0 : 0 ≤ b.fenergy.Hi := Int.le_trans hb.e0 hb.e1
  have l0 : 0 ≤ loE p c a := by unfold loE; omega
  have m1 := isu_mono b0 h.e1
  have m2 := isu_mono (a := hiE p d b) (by omega) k2
  have m3 := (isu_spec b0).2.2.1
  have m4 := (isu_spec (n := hiE p d b) (by omega)).2.2.1
  have m5 := isq_mono ha.e0 h.e0
  have m6 := isq_mono l0 k3
  have m7 := (isq_spec ha.e0).1
  have m8 := (isq_spec l0).1
  have d1 := dn_anti (x := 2000 * p.Length) (d := isu b.fenergy.Hi + isu (hiE p d b)) (e := isu a.fenergy.Hi + isu (hiE p c a)) (by omega) (by omega) (by omega)
  have t0 := h.t0
  have t1 := h.t1
  refine ⟨by dsimp only; omega, ?_, k3, k2, fun hh => decide_eq_true (hsl (of_decide_eq_true hh))⟩
  dsimp only
  by_cases hsa : SlowP p c a
  · rw [if_pos hsa]
    split <;> omega
  · rw [if_neg hsa, if_neg fun hh => hsa (hsl hh)]
    have hpos : 0 < isq a.fenergy.Lo + isq (loE p c a) := by
      rcases Int.lt_or_le 0 (isq a.fenergy.Lo + isq (loE p c a)) with hh | hh
      · exact hh
      · exact absurd (.inr (.inr (by omega))) hsa
    have d2 := up_anti (x := 2000 * p.Length) (d := isq a.fenergy.Lo + isq (loE p c a)) (e := isq b.fenergy.Lo + isq (loE p d b)) (by omega) hpos (by omega)
    omega
end
theorem brk_nest {p : Piece} {t e f : Int} {x y : Interval} (ht : Tg t) (hf : 0 ≤ f ∧ f ≤ e) (h0 : x.Lo ≤ y.Lo) (h1 : y.Hi ≤ x.Hi) : (brk p t e x).Lo ≤ (brk p t f y).Lo ∧ (brk p t f y).Hi ≤ (brk p t e x).Hi := by
  unfold brk
  split
  · have q1 := sq_le (a := max 0 (t - e)) (b := max 0 (t - f)) (by omega) (by omega)
    have q2 := sq_le (a := t + f) (b := t + e) (by omega) (by omega)
    dsimp only
    generalize max 0 (t - e) * max 0 (t - e) = u1 at *
    generalize max 0 (t - f) * max 0 (t - f) = u2 at *
    generalize (t + f) * (t + f) = u3 at *
    generalize (t + e) * (t + e) = u4 at *
    exact ⟨by omega, by omega⟩
  · exact ⟨h0, h1⟩
/-- How a passage of the narrower motion stands to one of the wider. -/
structure Nest (q r : Passage) : Prop where
  st : q.Stops = true → r.Stops = true
  sl : r.Slow = true → Lost q
  lo : r.Stops = true → Lost q
  ok : r.Stops = false → (Ivd r.Time.Lo r.Time.Hi ∧ Ivd q.Time.Lo q.Time.Hi ∧ q.Time.Lo ≤ r.Time.Lo ∧ r.Time.Hi ≤ q.Time.Hi) ∧ (Ivd r.Energy.Lo r.Energy.Hi ∧ Ivd q.Energy.Lo q.Energy.Hi ∧ q.Energy.Lo ≤ r.Energy.Lo ∧ r.Energy.Hi ≤ q.Energy.Hi)
theorem nest_of {a b : RunoffState} {i : Nat} (ha : StOk a i) (hb : StOk b i) (h : InSS a b) (hi : i ≤ 200) : Nest (toP a) (toP b) := by
  obtain ⟨e0, e1, e2, t0, t1, t2⟩ := ha
  obtain ⟨f0, f1, f2, u0, u1, u2⟩ := hb
  refine ⟨fun h => (by cases h), fun hh => .inr (h.s hh), fun h => (by cases h), fun _ => ⟨⟨?_, ?_, h.t0, h.t1⟩, ⟨?_, ?_, h.e0, h.e1⟩⟩⟩ <;> dsimp only [toP] <;> omega
theorem L2.rep {α β : Type} {R : α → β → Prop} {l : List α} {b : β} (h : ∀ a ∈ l, R a b) : L2 R l (List.replicate l.length b) := by
  induction l with
  | nil => exact .nil
  | cons a l ih => exact .cons (h a List.mem_cons_self) (ih fun x hx => h x (List.mem_cons_of_mem _ hx))
theorem lost_nest {q : Passage} (h : Lost q) : Nest q stopP := ⟨fun _ => rfl, fun h => (by cases h), fun _ => h, fun h => (by cases h)⟩
theorem run_nest {e f : Int} (he : 0 ≤ e ∧ e ≤ 1000) (hf : 0 ≤ f ∧ f ≤ e) {ps : List Piece} : ∀ {ts : List Int} {cs dc : List Interval} {a b : RunoffState} {i : Nat}, i + ps.length ≤ 200 → (∀ p ∈ ps, PieceOk p) → (∀ c ∈ cs, ClsOk c) → (∀ c ∈ dc, ClsOk c) → L2 ClsSub cs dc → (∀ t ∈ ts, Tg t) → StOk a i → StOk b i → InSS a b →
    L2 Nest (psRun e ps cs ts a) (psRun f ps dc ts b) := by
  induction ps with
  | nil => intro ts cs dc a b i _ _ _ _ _ _ _ _ _; exact .nil
  | cons p ps ih =>
    intro ts cs dc a b i hi hp hc hd hcd ht ha hb h
    have hpo := hp p List.mem_cons_self
    have c0 : ClsOk (⟨0, 0⟩ : Interval) := by dsimp only [ClsOk]; omega
    have i0 : ClsSub (⟨0, 0⟩ : Interval) ⟨0, 0⟩ := by dsimp only [ClsSub]; omega
    have hco := all_head hc c0
    have hdo := all_head hd c0
    have hcs := hcd.head i0
    have tg0 : Tg 0 := by omega
    have htg : Tg (tgOf p ts) := by unfold tgOf; split; exact all_head ht tg0; omega
    have htt : ∀ t ∈ tsOf p ts, Tg t := by unfold tsOf; split; exact all_tail ht; exact ht
    simp only [List.length_cons] at hi
    cases h1 : psStep p (cs.headD ⟨0, 0⟩) a with
    | none =>
      have h2 := nest_none hpo hcs hb h h1
      rw [psRun_none (by unfold psNext; rw [h1]; rfl), psRun_none (by unfold psNext; rw [h2]; rfl)]
      have hr : L2 Nest (List.replicate (ps.length + 1) stopP) (List.replicate (List.replicate (ps.length + 1) stopP).length stopP) := L2.rep fun q hq => by
        rw [List.eq_of_mem_replicate hq]
        exact lost_nest (.inl rfl)
      rwa [List.length_replicate] at hr
    | some a' =>
      have n1 : psNext p (cs.headD ⟨0, 0⟩) (tgOf p ts) e a = some ⟨a'.ftime, brk p (tgOf p ts) e a'.fenergy, a'.fslow⟩ := by unfold psNext; rw [h1]; rfl
      have hao := psNext_ok hpo hco htg he ha n1
      rw [psRun_some n1]
      cases h2 : psStep p (dc.headD ⟨0, 0⟩) b with
      | none =>
        have hsl : a'.fslow = true := by
          have := nest_stop hpo hdo hcs ha hb h h2
          unfold psStep at h1
          split at h1
          · cases h1
          split at h1
          · cases h1
          simp only [Option.some.injEq] at h1
          subst h1
          exact decide_eq_true this
        rw [psRun_none (ps := ps) (cs := dc) (by unfold psNext; rw [h2]; rfl)]
        have hl : ps.length + 1 = (toP ⟨a'.ftime, brk p (tgOf p ts) e a'.fenergy, a'.fslow⟩ :: psRun e ps cs.tail (tsOf p ts) ⟨a'.ftime, brk p (tgOf p ts) e a'.fenergy, a'.fslow⟩).length := by rw [List.length_cons, psRun_len]
        rw [hl]
        refine L2.rep fun q hq => lost_nest ?_
        rcases List.mem_cons.1 hq with e1 | hq
        · subst e1; exact .inr hsl
        · exact psRun_slow (s := ⟨a'.ftime, brk p (tgOf p ts) e a'.fenergy, a'.fslow⟩) hsl q hq
      | some b' =>
        have n2 : psNext p (dc.headD ⟨0, 0⟩) (tgOf p ts) f b = some ⟨b'.ftime, brk p (tgOf p ts) f b'.fenergy, b'.fslow⟩ := by unfold psNext; rw [h2]; rfl
        have hbo := psNext_ok hpo hdo htg (by omega) hb n2
        have hin := nest_step hpo hdo hcs ha hb h h1 h2
        have hbr := brk_nest (p := p) (t := tgOf p ts) (e := e) (f := f) (x := a'.fenergy) (y := b'.fenergy) htg hf hin.e0 hin.e1
        have hin2 : InSS ⟨a'.ftime, brk p (tgOf p ts) e a'.fenergy, a'.fslow⟩ ⟨b'.ftime, brk p (tgOf p ts) f b'.fenergy, b'.fslow⟩ := ⟨hin.t0, hin.t1, hbr.1, hbr.2, hin.s⟩
        rw [psRun_some n2]
        exact .cons (nest_of hao hbo hin2 (by omega)) (ih (i := i + 1) (by omega) (fun q hq => hp q (List.mem_cons_of_mem _ hq)) (all_tail hc) (all_tail hd) hcd.tail htt hao hbo hin2)
end Go.Hy
