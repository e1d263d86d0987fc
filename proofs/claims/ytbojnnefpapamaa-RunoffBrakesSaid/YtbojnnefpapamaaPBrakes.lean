/-
  The last retarder holds the cars; and slower targets make slower runs.
-/
import Derived.Test.YtbojnnefpapamaaPCont
namespace Go.Hy
set_option linter.unusedVariables false
set_option linter.unusedSimpArgs false
set_option maxHeartbeats 2000000
set_option maxRecDepth 10000
open Go.Hy.Iv

/-- A piece and a class behind which little is gained. -/
structure Mild (p : Piece) : Prop where
  l : p.Length ≤ 100000
  g : -10000 ≤ p.Grade ∧ p.Grade ≤ 5000
theorem gu_mild {p : Piece} {w : Int} (hp : PieceOk p) (hm : Mild p) (hw : 0 ≤ w) (hw2 : Wr w) : gu p w ≤ 98100000 := by
  have h1 := hm.l
  have h2 := hm.g
  have h3 := hp.l
  have h : gn p w ≤ 9810000000000 := by
    unfold gn
    rcases Int.lt_or_le (p.Grade - w) 0 with hh | hh
    · have : 19620 * (p.Grade - w) * p.Length ≤ 0 := Int.mul_nonpos_of_nonpos_of_nonneg (by omega) (by omega)
      omega
    · have := Int.mul_le_mul (a := 19620 * (p.Grade - w)) (b := p.Length) (c := 98100000) (d := 100000) (by omega) (by omega) (by omega) (by omega)
      omega
  unfold gu up
  omega
/-- The passage behind the last piece. -/
theorem psRun_last {err : Int} (he : 0 ≤ err ∧ err ≤ 1000) {q : Piece} (hq : PieceOk q) (hqm : Mild q) {ps : List Piece} : ∀ {cs : List Interval} {ts : List Int} {s : RunoffState} {i : Nat}, StOk s i → (∀ p ∈ ps, PieceOk p ∧ Mild p) → (∀ c ∈ cs, ClsOk c ∧ 0 ≤ c.Lo) → (∀ t ∈ ts, Tg t) →
    ∀ v, (psRun err (ps ++ [q]) cs ts s)[ps.length]? = some v → v.Stops = true ∨ ∃ e : Interval, v.Energy = brk q (tgOf q (ts.drop (nret ps))) err e ∧ e.Hi ≤ s.fenergy.Hi + 98100000 * (ps.length + 1) := by
  have c0 : ClsOk (⟨0, 0⟩ : Interval) ∧ (0 : Int) ≤ (⟨0, 0⟩ : Interval).Lo := by dsimp only [ClsOk]; omega
  have up : ∀ {p : Piece} {c : Interval} {s s' : RunoffState}, PieceOk p → Mild p → ClsOk c ∧ 0 ≤ c.Lo → psStep p c s = some s' → s'.fenergy.Hi ≤ s.fenergy.Hi + 98100000 := by
    intro p c s s' hp hm hc h
    have hg := gu_mild hp hm hc.2 (by have := hc.1; omega)
    unfold psStep at h
    split at h
    · cases h
    split at h
    · cases h
    simp only [Option.some.injEq] at h
    subst h
    dsimp only
    unfold hiE
    omega
  induction ps with
  | nil =>
    intro cs ts s i hs _ hc ht v hv
    simp only [List.nil_append, List.length_nil] at hv
    have hco := all_head hc c0
    cases hn : psNext q (cs.headD ⟨0, 0⟩) (tgOf q ts) err s with
    | none => rw [psRun_none hn] at hv; obtain rfl := Option.some.inj hv; exact .inl rfl
    | some s' =>
      rw [psRun_some hn] at hv
      obtain rfl := Option.some.inj hv
      unfold psNext at hn
      cases h2 : psStep q (cs.headD ⟨0, 0⟩) s with
      | none => rw [h2] at hn; cases hn
      | some s2 =>
        rw [h2] at hn
        simp only [Option.map_some, Option.some.injEq] at hn
        subst hn
        have := up hq hqm hco h2
        exact .inr ⟨s2.fenergy, rfl, by simp; omega⟩
  | cons p ps ih =>
    intro cs ts s i hs hp hc ht v hv
    have hco := all_head hc c0
    obtain ⟨hpo, hpm⟩ := hp p List.mem_cons_self
    have tg0 : Tg 0 := by omega
    have htg : Tg (tgOf p ts) := by unfold tgOf; split; exact all_head ht tg0; omega
    rw [List.cons_append] at hv
    cases hn : psNext p (cs.headD ⟨0, 0⟩) (tgOf p ts) err s with
    | none =>
      rw [psRun_none hn] at hv
      have := List.eq_of_mem_replicate (List.mem_of_getElem? hv)
      rw [this]
      exact .inl rfl
    | some s' =>
      rw [psRun_some hn] at hv
      have hso := psNext_ok hpo hco.1 htg he hs hn
      have hup : s'.fenergy.Hi ≤ s.fenergy.Hi + 98100000 := by
        unfold psNext at hn
        cases h2 : psStep p (cs.headD ⟨0, 0⟩) s with
        | none => rw [h2] at hn; cases hn
        | some s2 =>
          rw [h2] at hn
          simp only [Option.map_some, Option.some.injEq] at hn
          subst hn
          have h3 := up hpo hpm hco h2
          have h4 := psStep_ok hpo hco.1 hs h2
          have h5 := (brk_ok (tg := tgOf p ts) (err := err) hpo htg he h4.e0 h4.e1).2.2
          dsimp only
          omega
      have htt : ∀ t ∈ tsOf p ts, Tg t := by unfold tsOf; split; exact all_tail ht; exact ht
      have hv2 : (psRun err (ps ++ [q]) cs.tail (tsOf p ts) s')[ps.length]? = some v := by simpa using hv
      rcases ih hso (fun r hr => hp r (List.mem_cons_of_mem _ hr)) (all_tail hc) htt v hv2 with h | ⟨e, h1, h2⟩
      · exact .inl h
      · refine .inr ⟨e, ?_, by simp only [List.length_cons]; omega⟩
        rw [h1]
        congr 2
        unfold tsOf
        simp only [nret]
        split
        · rw [← List.drop_one, List.drop_drop]
        · rw [Nat.zero_add]
theorem nret_snoc (ps : List Piece) (q : Piece) : nret (ps ++ [q]) = nret ps + (if 0 < q.Power then 1 else 0) := by
  induction ps with
  | nil => simp [nret]
  | cons p ps ih => simp only [List.cons_append, nret, ih]; omega
theorem Brakes_ok {t : List Int} (ht : t.length ≤ 9223372036854775807) : law20_RunoffBrakes t = some true := by
  refine Ok.eq (?_ : Ok _ _)
  unfold law20_RunoffBrakes
  refine ok_bde (gen_New_ok t) ?_
  refine ok_bd (Pieces_ok (n := 6) (Mk0 ht (by decide)) (by omega)) fun v ⟨⟨⟨n0, n1⟩, hp⟩, hp2, c0, c1⟩ => ?_
  obtain ⟨pl, c⟩ := v
  dsimp only at n0 n1 hp hp2 c0 c1 ⊢
  refine ok_ck (by simp; omega) (ok_vl fun ps hpse => ?_)
  have hlast : PieceOk (Piece.mk 0 5000 500 0 1000000000) := ⟨by dsimp only; omega, by dsimp only; omega, by dsimp only; omega, by dsimp only; omega, by dsimp only; omega⟩
  have hpo : ∀ p ∈ ps, PieceOk p := by
    intro p h
    rw [hpse] at h
    rcases List.mem_append.1 h with h | h
    · exact hp p h
    · simp only [List.mem_singleton] at h; subst h; exact hlast
  have hpsl : ps.length = pl.length + 1 := by rw [hpse]; simp
  have hps : PsOk ps := ⟨by omega, hpo⟩
  have hnr : nret ps = nret pl + 1 := by rw [hpse, nret_snoc]; rfl
  refine ok_bd (Motion_ok (k := HumpgenMaker.mk t c) ⟨c0, by dsimp only; omega, ht⟩ (fun p h => (hpo p h).c) (by omega)) fun v ⟨hm, _, _, hsp, hcl, c2, c3⟩ => ?_
  obtain ⟨m, c'⟩ := v
  dsimp only at hm hsp hcl c2 c3 ⊢
  have hmt := hm.tgs
  have hnl := nret_le pl
  rw [w64_eq (n := (m.Targets.length : Int) - 1) (by omega)]
  refine ok_vl fun j hj => ?_
  have mk : ∀ c1, 0 ≤ c1 → c1 ≤ 960000000000000 → Mk (HumpgenMaker.mk t c1) CM0 := fun c' h1 h2 => ⟨h1, by unfold CM0; dsimp only; omega, ht⟩
  refine ok_bd (Pick_ok (mk c' (by omega) (by omega)) (by simp)) fun u ⟨hu, eu⟩ => ?_
  obtain ⟨g, d⟩ := u
  dsimp only at hu eu ⊢
  simp only [List.mem_cons, List.not_mem_nil, or_false] at hu
  have hg : 0 ≤ g ∧ g ≤ 2500 := by omega
  clear hu
  refine ok_ix (by omega) (by omega) fun _ _ => ok_vl fun tg htg => ?_
  have hjn : j.toNat = nret pl := by omega
  have htl : tg.length = m.Targets.length := by rw [htg, List.length_set]
  have htj : tg[nret pl]? = some g := by rw [htg, hjn, List.getElem?_set, if_pos rfl, if_pos (by omega)]
  have hm2 : MotOk ps (Motion.mk m.Speed m.Class m.Error tg) := ⟨hm.sp, hm.cls, hm.c, hm.err, by dsimp only; omega, fun v hv => by
    dsimp only at hv
    rw [htg] at hv
    rcases List.mem_or_eq_of_mem_set hv with h | h
    · exact hm.t v h
    · subst h; omega⟩
  have hpal := psAll_len (ps := ps) (m := Motion.mk m.Speed m.Class m.Error tg)
  refine ok_bde (Pass_m hps hm2) ?_
  refine ok_bd (Run_ok (k := HumpgenMaker.mk t d) ⟨by dsimp only; omega, by dsimp only; omega, ht⟩ hm2 (by omega)) fun v ⟨hr, hin, c4, c5⟩ => ?_
  obtain ⟨r, c''⟩ := v
  dsimp only at hr hin c4 c5 ⊢
  have hrt := hr.tgs
  refine ok_ck (by simp; omega) (ok_vl fun y hy => ?_)
  simp only [List.nil_append] at hy
  subst hy
  refine ok_jp (fun (z : List Int) => z.length = r.Targets.length ∧ ∀ (j : Nat) a b, r.Targets[j]? = some a → z[j]? = some b → TgLe a b) (fun z hz => ?_) (fun kk hk => ?_)
  · obtain ⟨z0, z1⟩ := hz
    have hl2 : L2 TgLe r.Targets z := L2.of_get z0.symm z1
    have hq : RunOk ps (Run.mk r.Speed r.Resist z) := ⟨hr.res, by dsimp only; omega, hr.sp, hr.w, fun w hw => by
      obtain ⟨a, ha, h1⟩ := hl2.mem w hw
      have h3 := hr.t a ha
      rcases h1 with h1 | h1 <;> omega⟩
    have hd : Dom (ptAll ps r) (ptAll ps (Run.mk r.Speed r.Resist z)) := all_dom hps hr hq (Int.le_refl _) (L2.refl Int.le_refl _) hl2
    have hdl := hd.len
    have hal := (ptAll_len (ps := ps) (r := r)).2
    refine ok_bde (Point_m hps hr) (ok_bde (Point_m hps hq) ?_)
    dsimp only
    rw [w64_eq (n := (ps.length : Int) + 1) (by omega)]
    refine ok_if0 (by decide) (ok_if0 (by decide) (ok_if0 (by decide) (ok_if0 (by omega) (ok_if0 (by omega) ?_))))
    refine ok_ixe (a := g) (by omega) (by rw [hjn]; exact htj) ?_
    refine ok_jp (fun _ => True) (fun _ _ => ?_) (fun kk hk => ?_)
    · refine ok_lp (fun (z : Int) => 0 ≤ z) (fun x => (((ptAll ps (Run.mk r.Speed r.Resist z)).length : Int) - x).toNat) (Int.le_refl 0) (by simp only [big_eq]; omega) ?_
      intro i next i0 hn
      refine ok_if (fun h => ?_) (fun _ => ok_bde sane20 (ok_some rfl))
      refine ok_ix i0 h fun b hb => ?_
      obtain ⟨a, ha, h1, h2⟩ := hd _ b hb
      refine ok_ixe i0 ha (ok_if0 (by omega) (ok_ixe i0 hb (ok_ixe i0 ha (ok_if0 (by omega) ?_))))
      rw [w64_eq (by omega)]
      exact hn _ (by omega) (by omega)
    · refine ok_ix (by omega) (by omega) fun v hv => ?_
      rw [Int.toNat_natCast, hpsl] at hv
      have hv2 : (psRun m.Error (pl ++ [Piece.mk 0 5000 500 0 1000000000]) m.Class tg (ps0 (Motion.mk m.Speed m.Class m.Error tg)))[pl.length]? = some v := by
        rw [← hpse]; exact hv
      refine ok_nb (fun hns => ?_) (fun _ => hk _ trivial)
      have her := hm.err
      rw [w64_eq (n := g + m.Error) (by omega)]
      have hsq := sq_bd (v := g + m.Error) (by omega)
      rw [w64_eq (by omega)]
      refine ok_vl fun x58 hx58 => ok_if0 ?_ (hk _ trivial)
      rcases psRun_last her hlast ⟨by dsimp only; omega, by dsimp only; omega⟩ (ps0_ok hm2) (fun p h => ⟨hp p h, ⟨(hp2 p h).1, by have := hp2 p h; omega⟩⟩) (fun c h => ⟨hm.c c h, (hcl c h).1⟩) hm2.t v hv2 with h | ⟨e, h1, h2⟩
      · rw [h] at hns; cases hns
      · have hs0 : (ps0 (Motion.mk m.Speed m.Class m.Error tg)).fenergy.Hi ≤ 4410000 := by
          have := hm.sp
          exact sq_le (b := 2100) (by dsimp only; omega) hsp
        have etg : tgOf (Piece.mk 0 5000 500 0 1000000000) (tg.drop (nret pl)) = g := by
          unfold tgOf
          rw [if_pos (by dsimp only; decide), drop_at htj]
          rfl
        rw [h1, etg]
        unfold brk
        rw [if_pos (by dsimp only; omega)]
        dsimp only
        omega
  · refine ok_lp (fun (z : Int × List Int × Int) => 0 ≤ z.2.2 ∧ z.2.2 ≤ r.Targets.length ∧ 0 ≤ z.1 ∧ z.1 ≤ 100000 + z.2.2 ∧ z.2.1.length = r.Targets.length ∧ ∀ (j : Nat) a b, r.Targets[j]? = some a → z.2.1[j]? = some b → TgLe a b ∧ (z.2.2 ≤ j → b = a)) (fun z => ((r.Targets.length : Int) - z.2.2).toNat) ?_ (by simp only [big_eq]; omega) ?_
    · exact ⟨by dsimp only; omega, by dsimp only; omega, by dsimp only; omega, by dsimp only; omega, rfl, fun j a b h1 h2 => by
        obtain rfl := Option.some.inj (h1.symm.trans h2)
        exact ⟨TgLe.refl _, fun _ => rfl⟩⟩
    rintro ⟨cz, l, i⟩ next ⟨i0, i1, i2, i3, i4, i5⟩ hn
    dsimp only at i0 i1 i2 i3 i4 i5 ⊢
    refine ok_if (fun hi => ?_) (fun hi => hk _ ⟨i4, fun j a b h1 h2 => (i5 j a b h1 h2).1⟩)
    have hli : i.toNat < l.length := by omega
    have hri : i.toNat < r.Targets.length := by omega
    have hlx := List.getElem?_eq_getElem hli
    have hrx := List.getElem?_eq_getElem hri
    have htt := hr.t _ (List.getElem_mem hri)
    have hxa := (i5 i.toNat _ _ hrx hlx).2 (by omega)
    rw [hxa] at hlx
    rw [w64_eq (n := i + 1) (by omega)]
    refine ok_ixe i0 hlx (ok_if (fun hpos => ?_) (fun hpos => hn _ ⟨by dsimp only; omega, by dsimp only; omega, by dsimp only; omega, by dsimp only; omega, i4, fun j a b h1 h2 => ⟨(i5 j a b h1 h2).1, fun h => (i5 j a b h1 h2).2 (by dsimp only at h; omega)⟩⟩ (by dsimp only; omega)))
    refine ok_ixe i0 hlx (ok_ixe i0 hlx ?_)
    refine ok_bd (Next_ok (mk cz (by omega) (by omega)) (by omega)) fun u ⟨hu, eu⟩ => ?_
    dsimp only at eu
    refine ok_ixe i0 hlx ?_
    rw [w64_eq (n := r.Targets[i.toNat] - u.1) (by omega)]
    refine ok_vl fun l' hl' => ?_
    subst hl'
    refine hn _ ⟨by dsimp only; omega, by dsimp only; omega, by dsimp only; omega, by dsimp only; omega, by simp only [List.length_set]; exact i4, fun j a b h1 h2 => ?_⟩ (by dsimp only; omega)
    dsimp only at h2 ⊢
    rw [List.getElem?_set] at h2
    by_cases e : i.toNat = j
    · subst e
      rw [if_pos rfl, if_pos (by omega)] at h2
      obtain rfl := Option.some.inj h2
      obtain rfl := Option.some.inj (hrx.symm.trans h1)
      exact ⟨.inr ⟨by omega, by omega⟩, fun h => by omega⟩
    · rw [if_neg e] at h2
      have := i5 j a b h1 h2
      exact ⟨this.1, fun h => this.2 (by omega)⟩
end Go.Hy
