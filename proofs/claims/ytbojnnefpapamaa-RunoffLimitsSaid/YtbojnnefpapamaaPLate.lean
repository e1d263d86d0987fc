/-
  Runs on level paths and on the steepest ones.
-/
import Derived.Test.YtbojnnefpapamaaPCont
namespace Go.Hy
set_option linter.unusedVariables false
set_option linter.unusedSimpArgs false
set_option maxHeartbeats 2000000
set_option maxRecDepth 10000
open Go.Hy.Iv

theorem ok_c0 {β : Type} {Q : β → Prop} {c : Bool} {m1 m2 : Option β} (h : c = false) (k : Ok m2 Q) : Ok (cond c m1 m2) Q := by rw [h]; exact k
theorem ok_n1 {β : Type} {Q : β → Prop} {c : Bool} {m1 m2 : Option β} (h : c = true) (k : Ok m2 Q) : Ok (cond (!c) m1 m2) Q := by rw [h]; exact k
theorem isq_one : isq 1 = 1 := (isq_unique (by decide) (by decide) (by decide)).symm
theorem isu_one : isu 1 = 1 := by unfold isu; rw [isq_one]; rfl
theorem up_late : up (2000 * 1000000) 2 = 1000000000 := by decide
theorem dn_late : dn (2000 * 1000000) 2 = 1000000000 := by decide
structure Level (p : Piece) : Prop where
  l : p.Length = 1000000
  g : p.Grade = 0
  p : p.Power = 0
theorem level_g {p : Piece} (h : Level p) : gn p 0 = 0 := by unfold gn; rw [h.g]; simp
theorem ptStep_level {p : Piece} (h : Level p) {tg T : Int} : ptStep p 0 tg ⟨T, 1⟩ = some ⟨min 1000000000 (T + 1000000000), 1⟩ := by
  have e : gd p 0 = 0 := by unfold gd; rw [level_g h]; decide
  unfold ptStep
  dsimp only
  rw [e, Int.add_zero, isq_one, h.l, if_neg (by decide), if_neg (by decide)]
  have : up (2000 * 1000000) (1 + 1) = 1000000000 := up_late
  rw [this]
  unfold bk
  rw [h.p, if_neg (by omega)]
theorem ptRun_level {ps : List Piece} : ∀ {ws ts : List Int} {T : Int}, (∀ p ∈ ps, Level p) → (∀ w ∈ ws, w = 0) → 0 ≤ T → ptRun ps ws ts ⟨T, 1⟩ = List.replicate ps.length ⟨1000000000, 1⟩ := by
  induction ps with
  | nil => intro ws ts T _ _ _; rfl
  | cons p ps ih =>
    intro ws ts T hp hw hT
    have hw0 : ws.headD 0 = 0 := all_head (P := fun w => w = 0) hw rfl
    have hs : ptStep p (ws.headD 0) (tgOf p ts) ⟨T, 1⟩ = some ⟨1000000000, 1⟩ := by
      rw [hw0, ptStep_level (hp p List.mem_cons_self)]
      congr 2
      omega
    rw [ptRun_some hs, ih (fun q hq => hp q (List.mem_cons_of_mem _ hq)) (all_tail hw) (by decide)]
    rfl
theorem psNext_level {p : Piece} (h : Level p) {tg err T : Int} : psNext p ⟨0, 0⟩ tg err ⟨⟨T, T⟩, ⟨1, 1⟩, false⟩ = some ⟨⟨min 1000000000 (T + 1000000000), min 1000000000 (T + 1000000000)⟩, ⟨1, 1⟩, false⟩ := by
  have e1 : gd p 0 = 0 := by unfold gd; rw [level_g h]; decide
  have e2 : gu p 0 = 0 := by unfold gu; rw [level_g h]; decide
  have hh : hiE p ⟨0, 0⟩ ⟨⟨T, T⟩, ⟨1, 1⟩, false⟩ = 1 := by unfold hiE; dsimp only; rw [e2]; rfl
  have hl : loE p ⟨0, 0⟩ ⟨⟨T, T⟩, ⟨1, 1⟩, false⟩ = 1 := by unfold loE; dsimp only; rw [e1]; decide
  have hs : ¬ SlowP p ⟨0, 0⟩ ⟨⟨T, T⟩, ⟨1, 1⟩, false⟩ := by
    unfold SlowP
    rw [hl]
    dsimp only
    rw [e1, isq_one]
    decide
  unfold psNext psStep
  rw [hh, hl, if_neg hs, decide_eq_false hs]
  dsimp only
  rw [isu_one, isq_one, h.l, if_neg (by decide), if_neg (by decide)]
  have d1 : dn (2000 * 1000000) (1 + 1) = 1000000000 := dn_late
  have d2 : up (2000 * 1000000) (1 + 1) = 1000000000 := up_late
  rw [d1, d2, Option.map_some]
  unfold brk
  rw [h.p, if_neg (by omega)]
theorem psRun_level {err : Int} {ps : List Piece} : ∀ {cs : List Interval} {ts : List Int} {T : Int}, (∀ p ∈ ps, Level p) → (∀ c ∈ cs, c = ⟨0, 0⟩) → 0 ≤ T → psRun err ps cs ts ⟨⟨T, T⟩, ⟨1, 1⟩, false⟩ = List.replicate ps.length ⟨⟨1000000000, 1000000000⟩, ⟨1, 1⟩, false, false⟩ := by
  induction ps with
  | nil => intro cs ts T _ _ _; rfl
  | cons p ps ih =>
    intro cs ts T hp hc hT
    have hc0 : cs.headD ⟨0, 0⟩ = ⟨0, 0⟩ := all_head (P := fun c => c = (⟨0, 0⟩ : Interval)) hc rfl
    have em : min 1000000000 (T + 1000000000) = 1000000000 := by omega
    have hs : psNext p (cs.headD ⟨0, 0⟩) (tgOf p ts) err ⟨⟨T, T⟩, ⟨1, 1⟩, false⟩ = some ⟨⟨1000000000, 1000000000⟩, ⟨1, 1⟩, false⟩ := by
      rw [hc0, psNext_level (hp p List.mem_cons_self), em]
    rw [psRun_some hs, ih (fun q hq => hp q (List.mem_cons_of_mem _ hq)) (all_tail hc) (by decide)]
    rfl
theorem nret_zero {ps : List Piece} (h : ∀ p ∈ ps, p.Power = 0) : nret ps = 0 := by
  induction ps with
  | nil => rfl
  | cons p ps ih =>
    simp only [nret]
    rw [h p List.mem_cons_self, ih fun q hq => h q (List.mem_cons_of_mem _ hq)]
    rfl
theorem Late_ok (a : Int) : law20_RunoffLate a = some true := by
  refine Ok.eq (?_ : Ok _ _)
  unfold law20_RunoffLate
  have h1 := tmod_rng a 100 (by decide)
  rw [w64_eq (n := Int.tmod a 100 + 100) (by omega)]
  refine ok_vl fun x hx => ?_
  have hx0 : 0 ≤ x ∧ x < 100 := by
    have := tmod_nn (x := Int.tmod a 100 + 100) (m := 100) (by omega) (by decide)
    omega
  clear hx
  rw [w64_eq (n := 2 + x) (by omega)]
  refine ok_jp (fun (z : List Piece × List Interval × List Int) => z.1.length = (2 + x).toNat ∧ z.2.1.length = (2 + x).toNat ∧ z.2.2.length = (2 + x).toNat ∧ (∀ p ∈ z.1, PieceOk p ∧ Level p) ∧ (∀ c ∈ z.2.1, c = ⟨0, 0⟩) ∧ (∀ w ∈ z.2.2, w = 0)) (fun z hz => ?_) (fun kk hk => ?_)
  · obtain ⟨ps, cs, ws⟩ := z
    obtain ⟨z0, z1, z2, z3, z4, z5⟩ := hz
    dsimp only at z0 z1 z2 z3 z4 z5 ⊢
    have hn0 : nret ps = 0 := nret_zero fun p hp => (z3 p hp).2.p
    have hps : PsOk ps := ⟨by omega, fun p hp => (z3 p hp).1⟩
    have hm : MotOk ps (Motion.mk (Interval.mk 1 1) cs 0 ([] : List Int)) := ⟨by dsimp only; omega, by dsimp only; omega, fun c hc => by rw [z4 c hc]; dsimp only [ClsOk]; omega, by dsimp only; omega, by dsimp only; rw [hn0]; rfl, by simp⟩
    have hr : RunOk ps (Run.mk 1 ws ([] : List Int)) := ⟨by dsimp only; omega, by dsimp only; rw [hn0]; rfl, by dsimp only; omega, fun w hw => by rw [z5 w hw]; omega, by simp⟩
    have e1 : psAll ps (Motion.mk (Interval.mk 1 1) cs 0 ([] : List Int)) = ⟨⟨0, 0⟩, ⟨1, 1⟩, false, false⟩ :: List.replicate ps.length ⟨⟨1000000000, 1000000000⟩, ⟨1, 1⟩, false, false⟩ := by
      have := psRun_level (err := 0) (ts := []) (T := 0) (fun p hp => (z3 p hp).2) z4 (Int.le_refl 0)
      unfold psAll
      rw [← this]; rfl
    have e2 : ptRun ps ws [] ⟨0, 1⟩ = List.replicate ps.length ⟨1000000000, 1⟩ := ptRun_level (fun p hp => (z3 p hp).2) z5 (Int.le_refl 0)
    have e3 : ptAll ps (Run.mk 1 ws ([] : List Int)) = ⟨0, 1⟩ :: List.replicate ps.length ⟨1000000000, 1⟩ := by
      rw [← e2]; rfl
    have e4 : ptStop ps (Run.mk 1 ws ([] : List Int)) = -1 := by
      have : (ptRun ps ws [] ⟨0, 1⟩).length = ps.length := by rw [e2, List.length_replicate]
      exact if_pos this
    refine ok_bde (Pass_m hps hm) (ok_bde (Point_m hps hr) ?_)
    dsimp only
    rw [e1, e3, e4, w64_eq (n := 2 + x + 1) (by omega)]
    simp only [List.length_cons, List.length_replicate]
    refine ok_if0 (by decide) (ok_if0 (by decide) (ok_if0 (by decide) (ok_if0 (by omega) (ok_if0 (by omega) ?_))))
    refine ok_lp (fun (z : Int) => 1 ≤ z) (fun z => (3 + x - z).toNat) (Int.le_refl 1) (by simp only [big_eq]; omega) ?_
    intro i next i0 hn
    refine ok_if (fun h => ?_) (fun _ => ok_bde sane20 (ok_some rfl))
    rw [w64_eq (n := i * 1000000000) (by omega), w64_eq (n := i + 1) (by omega)]
    refine ok_vl fun y hy => ?_
    have ey : y = 1000000000 := by omega
    have ei : i.toNat = (i.toNat - 1) + 1 := by omega
    have g1 : ((⟨0, 1⟩ : Moment) :: List.replicate ps.length ⟨1000000000, 1⟩)[i.toNat]? = some ⟨1000000000, 1⟩ := by
      rw [ei, List.getElem?_cons_succ, List.getElem?_replicate, if_pos (by omega)]
    have g2 : ((⟨⟨0, 0⟩, ⟨1, 1⟩, false, false⟩ : Passage) :: List.replicate ps.length ⟨⟨1000000000, 1000000000⟩, ⟨1, 1⟩, false, false⟩)[i.toNat]? = some ⟨⟨1000000000, 1000000000⟩, ⟨1, 1⟩, false, false⟩ := by
      rw [ei, List.getElem?_cons_succ, List.getElem?_replicate, if_pos (by omega)]
    refine ok_ixe (by omega) g1 (ok_if0 (by dsimp only; omega) (ok_ixe (by omega) g2 (ok_if0 (by dsimp only; omega) (ok_ixe (by omega) g2 (ok_c0 rfl ?_)))))
    exact ok_ixe (by omega) g1 (ok_if0 (by dsimp only; omega) (hn _ (by omega) (by omega)))
  · refine ok_lp (fun (z : List Piece × List Interval × List Int × Int) => 0 ≤ z.2.2.2 ∧ z.2.2.2 ≤ 2 + x ∧ z.1.length = z.2.2.2.toNat ∧ z.2.1.length = z.2.2.2.toNat ∧ z.2.2.1.length = z.2.2.2.toNat ∧ (∀ p ∈ z.1, PieceOk p ∧ Level p) ∧ (∀ c ∈ z.2.1, c = ⟨0, 0⟩) ∧ (∀ w ∈ z.2.2.1, w = 0)) (fun z => (2 + x - z.2.2.2).toNat) ?_ (by simp only [big_eq]; omega) ?_
    · exact ⟨by dsimp only; omega, by dsimp only; omega, rfl, rfl, rfl, by simp, by simp, by simp⟩
    rintro ⟨ps, cs, ws, i⟩ next ⟨i0, i1, i2, i3, i4, i5, i6, i7⟩ hn
    dsimp only at i0 i1 i2 i3 i4 i5 i6 i7 ⊢
    refine ok_if (fun h => ?_) (fun h => hk _ ⟨by dsimp only; omega, by dsimp only; omega, by dsimp only; omega, i5, i6, i7⟩)
    rw [w64_eq (n := i + 1) (by omega)]
    refine ok_ck (by simp; omega) (ok_vl fun y1 hy1 => ok_ck (by simp; omega) (ok_vl fun y2 hy2 => ok_ck (by simp; omega) (ok_vl fun y3 hy3 => ?_)))
    subst hy1 hy2 hy3
    refine hn _ ⟨by dsimp only; omega, by dsimp only; omega, by simp; omega, by simp; omega, by simp; omega, fun p hp => ?_, fun c hc => ?_, fun w hw => ?_⟩ (by dsimp only; omega)
    · rcases List.mem_append.1 hp with hp | hp
      · exact i5 p hp
      · simp only [List.mem_singleton] at hp; subst hp
        exact ⟨⟨by dsimp only; omega, by dsimp only; omega, by dsimp only; omega, by dsimp only; omega, by dsimp only; omega⟩, ⟨rfl, rfl, rfl⟩⟩
    · rcases List.mem_append.1 hc with hc | hc
      · exact i6 c hc
      · simpa using hc
    · rcases List.mem_append.1 hw with hw | hw
      · exact i7 w hw
      · simpa using hw
end Go.Hy
