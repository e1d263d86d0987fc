/-
  The laws on retarders: the window, what lies in it, wider bands, the choice.
-/
import Derived.Test.YtjeegociagchnaaPRet
import Derived.Test.YtjeegociagchnaaPNest0
import Derived.Test.YtjeegociagchnaaPPiece
namespace Go.Hy
set_option linter.unusedVariables false
set_option linter.unusedSimpArgs false
set_option maxHeartbeats 2000000
set_option maxRecDepth 10000
open Go.Hy.Iv

theorem nret_app2 (a b : List Piece) : nret (a ++ b) = nret a + nret b := by
  induction a with
  | nil => simp [nret]
  | cons p a ih => simp only [List.cons_append, nret, ih]; omega
/-- A made path, with a retarder behind it, and a track. -/
structure RetPath (ps : List Piece) : Prop where
  p : PsOk ps
  l : ps.length ≤ 10
  r : 1 ≤ nret ps
theorem retPath {ps0 ps : List Piece} {n : Nat} {g : Int} (h : MadePath ps0 n) (hn : n ≤ 8) (hg : 0 ≤ g ∧ g ≤ 100) (e : ps = ps0 ++ [⟨90, 9000, 0, 0, 30000000⟩, ⟨91, 20000, g, 0, 0⟩]) : RetPath ps := by
  have hl := h.len
  have hlen : ps.length = ps0.length + 2 := by rw [e]; simp
  refine ⟨⟨by omega, fun p hp => ?_⟩, by omega, ?_⟩
  · rw [e] at hp
    rcases List.mem_append.1 hp with hp | hp
    · exact h.ok p hp
    · simp only [List.mem_cons, List.not_mem_nil, or_false] at hp
      rcases hp with rfl | rfl
      · exact ⟨by decide, by decide, by decide, by decide, by decide⟩
      · exact ⟨by dsimp only; omega, by dsimp only; omega, by dsimp only; omega, by dsimp only; omega, by dsimp only; omega⟩
  · rw [e, nret_app2]
    simp only [nret]
    split <;> omega
theorem retPath1 {ps0 ps : List Piece} {n : Nat} (h : MadePath ps0 n) (hn : n ≤ 8) (e : ps = ps0 ++ [⟨90, 9000, 0, 0, 30000000⟩]) : RetPath ps := by
  have hl := h.len
  have hlen : ps.length = ps0.length + 1 := by rw [e]; simp
  refine ⟨⟨by omega, fun p hp => ?_⟩, by omega, ?_⟩
  · rw [e] at hp
    rcases List.mem_append.1 hp with hp | hp
    · exact h.ok p hp
    · simp only [List.mem_cons, List.not_mem_nil, or_false] at hp
      subst hp
      exact ⟨by decide, by decide, by decide, by decide, by decide⟩
  · rw [e, nret_app2]
    simp only [nret]
    split <;> omega
/-- What a window of the last retarder is, on such a path. -/
theorem winL {ps : List Piece} {m : Motion} {b : Band} {r : Interval × Int} (hp : PsOk ps) (hm : MotOk ps m) (hr : 1 ≤ nret ps) (h : WinE ps m ((m.Targets.length : Int) - 1) b r) :
    (¬ BdOk b → r = (⟨0, 0⟩, 1)) ∧ (BdOk b → ∃ lo hi, LstE ps m (m.Targets.length - 1) b lo hi ∧ r = if hi ≤ lo then (⟨0, 0⟩, 15) else (⟨lo, hi - 1⟩, 0)) := by
  have ht := hm.tgs
  have ek : ((m.Targets.length : Int) - 1).toNat = m.Targets.length - 1 := by omega
  refine ⟨h.w1, fun hb => ?_⟩
  have := h.w4 hb (by omega) (by rw [psOut_eq hp (setT_ok hm (by omega))])
  rwa [ek] at this
theorem mtE_set {ps : List Piece} {m : Motion} {b : Band} {k : Nat} {w lo hi : Int} (hp : PsOk ps) (hm : MotOk ps m) (hb : BdOk b) (h : LstE ps m k b lo hi) (hw : 0 ≤ w ∧ w ≤ 20000) : mtE ps (setT m k w) b = (decide (lo ≤ w ∧ w < hi), 0) := by
  have ho := psOut_eq hp (setT_ok (k := k) (v := w) hm (by omega))
  have h1 := h.1.i w hw.1 hw.2
  have h2 := h.2.i w hw.1 hw.2
  unfold mtE
  rw [if_neg (fun q => q hb), ho, if_neg (fun q => q rfl)]
  congr 1
  refine decide_eq_decide.2 ⟨fun q => ⟨h1.1 q.1, ?_⟩, fun q => ⟨h1.2 q.1, ?_⟩⟩
  · rcases Int.lt_or_le w hi with g | g
    · exact g
    · exact absurd q.2 (h2.2 g)
  · exact Decidable.byContradiction fun g => by have := h2.1 g; omega
theorem eta3 {m : Motion} {k : Nat} {v : Int} : (Motion.mk (setT m k v).Speed m.Class (setT m k v).Error (setT m k v).Targets) = setT m k v := rfl
theorem RetInside_ok {t : List Int} {a : Int} (ht : t.length ≤ 9223372036854775807) : law21_RetarderInside t a = some true := by
  refine Ok.eq (?_ : Ok _ _)
  unfold law21_RetarderInside
  refine ok_bde (gen_New_ok t) ?_
  dsimp only
  refine ok_bd (Pieces_ok (Mk0 ht (by decide)) (by omega)) fun r ⟨hmp, _, d0, d1⟩ => ?_
  obtain ⟨ps0', c⟩ := r
  dsimp only at hmp d0 d1 ⊢
  have hl0 := hmp.len
  refine ok_bd (Pick_ok (k := HumpgenMaker.mk t c) ⟨by dsimp only; omega, by unfold CM0; dsimp only; omega, ht⟩ (by simp)) fun g ⟨mg, eg⟩ => ok_ck (by simp only [List.length_cons, List.length_nil]; omega) (ok_vl fun ps hps => ?_)
  dsimp only at eg
  simp only [List.mem_cons, List.not_mem_nil, or_false] at mg
  obtain ⟨hp, hl, hnr⟩ := retPath hmp (by decide) (by omega) hps
  clear hps hmp
  refine ok_bd (Motion_ok (ps := ps) (k := HumpgenMaker.mk t g.2) ⟨by dsimp only; omega, by dsimp only; omega, ht⟩ (bent hp) (by omega)) fun r hm => ?_
  obtain ⟨m, cm⟩ := r
  obtain ⟨hmo, _, _, _, _, d2, d3⟩ := hm
  dsimp only at hmo d2 d3 ⊢
  refine ok_bd (Band_ok (k := HumpgenMaker.mk t cm) ⟨by dsimp only; omega, by dsimp only; omega, ht⟩) fun r ⟨hbd, _, _⟩ => ?_
  obtain ⟨b, cb⟩ := r
  dsimp only at hbd ⊢
  have hnl := nret_le ps
  have htl := hmo.tgs
  refine ok_vl fun k hk => ?_
  rw [w64_eq (by omega)] at hk
  subst hk
  refine ok_bd (pWindow_m (by omega)) fun x hw => ?_
  obtain ⟨w1, w2⟩ := winL hp hmo hnr hw
  clear hw
  have ek : ((m.Targets.length : Int) - 1).toNat = m.Targets.length - 1 := by omega
  by_cases hb : BdOk b
  rotate_left
  · rw [w1 hb]
    refine ok_jp0 (ok_if1 (by decide) (ok_if1 (by decide) (ok_bde rBand_m ?_)))
    rw [decide_eq_false hb]
    exact ok_bde sane21 (ok_some rfl)
  obtain ⟨lo, hi, hL, ex⟩ := w2 hb
  have hlr := hL.1.r
  have hhr := hL.2.r
  refine ok_jp (fun z => z = false) (fun z hz => ?_) (fun kk hkk => ?_)
  rotate_left
  · rw [ex]
    by_cases hlh : hi ≤ lo
    · rw [if_pos hlh]
      exact ok_if1 (by decide) (hkk _ (by decide))
    · rw [if_neg hlh]
      exact ok_if0 (fun h => h rfl) (hkk _ rfl)
  subst hz
  refine ok_b (fun h => by cases h) fun _ => ?_
  refine ok_bd (Place_ok (by omega)) fun v hv => ok_vl fun y hy => ?_
  have bx : 0 ≤ x.1.Lo ∧ x.1.Lo ≤ 20001 ∧ 0 ≤ x.1.Hi ∧ x.1.Hi ≤ 20001 := by
    rw [ex]
    split <;> dsimp only <;> omega
  rw [w64_eq (n := x.1.Lo - 1) (by omega), w64_eq (n := x.1.Hi + 1) (by omega)]
  refine ok_lp (fun (z : Int) => 0 ≤ z ∧ z ≤ 4) (fun z => (4 - z).toNat) (by omega) (by simp only [big_eq]; decide) ?_
  intro z next ⟨z0, z1⟩ hnx
  refine ok_if (fun hz => ?_) (fun _ => ok_bde sane21 (ok_some rfl))
  rw [w64_eq (n := z + 1) (by omega)]
  have nx : Ok (next (z + 1)) (fun v => v = true) := hnx _ (by omega) (by omega)
  refine ok_ix z0 (by simp only [List.length_cons, List.length_nil]; omega) fun w _ => ok_if (fun _ => nx) (fun g1 => ok_if (fun _ => nx) (fun g2 => ?_))
  refine ok_bde (rWith_m (by omega) (by omega)) (ok_bde pMeets_m ?_)
  rw [ek, eta3, mtE_set hp hmo hb hL (by omega)]
  dsimp only
  refine ok_if0 (fun h => h rfl) ?_
  rw [ex]
  by_cases hlh : hi ≤ lo
  · rw [if_pos hlh]
    refine ok_if0 (by decide) ?_
    rw [decide_eq_false (show ¬ (lo ≤ w ∧ w < hi) by omega)]
    exact nx
  · rw [if_neg hlh]
    dsimp only
    refine ok_if1 rfl (ok_if (fun g3 => ?_) (fun g3 => ?_))
    · have : decide (lo ≤ w ∧ w < hi) = decide (w ≤ hi - 1) := decide_eq_decide.2 ⟨fun h => by omega, fun h => by omega⟩
      rw [this]
      refine ok_nb (fun h => ?_) (fun _ => nx)
      simp at h
    · rw [decide_eq_false (show ¬ (lo ≤ w ∧ w < hi) by omega)]
      exact nx
theorem RetRuns_ok {t : List Int} {a : Int} (ht : t.length ≤ 9223372036854775807) : law21_RetarderRuns t a = some true := by
  refine Ok.eq (?_ : Ok _ _)
  unfold law21_RetarderRuns
  refine ok_bde (gen_New_ok t) ?_
  dsimp only
  refine ok_bd (Pieces_ok (Mk0 ht (by decide)) (by omega)) fun r ⟨hmp, _, d0, d1⟩ => ?_
  obtain ⟨ps0', c⟩ := r
  dsimp only at hmp d0 d1 ⊢
  have hl0 := hmp.len
  refine ok_bd (Pick_ok (k := HumpgenMaker.mk t c) ⟨by dsimp only; omega, by unfold CM0; dsimp only; omega, ht⟩ (by simp)) fun g ⟨mg, eg⟩ => ok_ck (by simp only [List.length_cons, List.length_nil]; omega) (ok_vl fun ps hps => ?_)
  dsimp only at eg
  simp only [List.mem_cons, List.not_mem_nil, or_false] at mg
  obtain ⟨hp, hl, hnr⟩ := retPath hmp (by decide) (by omega) hps
  clear hps hmp
  refine ok_bd (Motion_ok (ps := ps) (k := HumpgenMaker.mk t g.2) ⟨by dsimp only; omega, by dsimp only; omega, ht⟩ (bent hp) (by omega)) fun r hm => ?_
  obtain ⟨m, cm⟩ := r
  obtain ⟨hmo, _, _, _, _, d2, d3⟩ := hm
  dsimp only at hmo d2 d3 ⊢
  refine ok_bd (Band_ok (k := HumpgenMaker.mk t cm) ⟨by dsimp only; omega, by dsimp only; omega, ht⟩) fun r ⟨hbd, d4, d5⟩ => ?_
  obtain ⟨b, cb⟩ := r
  dsimp only at hbd d4 d5 ⊢
  have hnl := nret_le ps
  have htl := hmo.tgs
  refine ok_vl fun k hk => ?_
  rw [w64_eq (by omega)] at hk
  subst hk
  refine ok_bd (pWindow_m (by omega)) fun x hw => ?_
  obtain ⟨w1, w2⟩ := winL hp hmo hnr hw
  clear hw
  have ek : ((m.Targets.length : Int) - 1).toNat = m.Targets.length - 1 := by omega
  refine ok_if (fun _ => ok_bde sane21 (ok_some rfl)) (fun hx0 => ?_)
  have hx0 := Decidable.not_not.1 hx0
  have hb : BdOk b := Decidable.byContradiction fun h => by rw [w1 h] at hx0; cases hx0
  obtain ⟨lo, hi, hL, ex⟩ := w2 hb
  have hlr := hL.1.r
  have hhr := hL.2.r
  have hlh : ¬ hi ≤ lo := fun h => by rw [ex, if_pos h] at hx0; cases hx0
  rw [if_neg hlh] at ex
  subst ex
  dsimp only
  rw [w64_eq (n := hi - 1 - lo) (by omega), w64_eq (n := hi - 1 - lo + 1) (by omega)]
  refine ok_vl fun y hy => ok_bd (Place_ok (by omega)) fun u hu => ?_
  rw [w64_eq (n := lo + u) (by omega)]
  refine ok_bde (rWith_m (by omega) (by omega)) ?_
  rw [ek, eta3]
  have hmo2 : MotOk ps (setT m (m.Targets.length - 1) (lo + u)) := setT_ok hmo (by omega)
  have hE := (hL.1.i (lo + u) (by omega) (by omega)).2 (by omega)
  have hG : Gen (lastP (psAll ps (setT m (m.Targets.length - 1) (lo + u)))) b.Hi := Decidable.byContradiction fun h => by
    have := (hL.2.i (lo + u) (by omega) (by omega)).1 h
    omega
  generalize setT m (m.Targets.length - 1) (lo + u) = m2 at *
  have hla := last_at (ps := ps) (m := m2)
  generalize lastP (psAll ps m2) = q at *
  obtain ⟨h1, h2, h3⟩ := hE
  have h4 : q.Energy.Hi ≤ b.Hi * b.Hi := hG.resolve_left (by rw [h2]; simp)
  have s1 := bsq (v := b.Lo) (by omega)
  have s2 := bsq (v := b.Hi) (by omega)
  rw [w64_eq (n := b.Lo * b.Lo) (by omega), w64_eq (n := b.Hi * b.Hi) (by omega)]
  refine ok_lp (fun (z : Int × Int) => 0 ≤ z.2 ∧ cb ≤ z.1 ∧ z.1 ≤ cb + 1000 * z.2) (fun z => (4 - z.2).toNat) ⟨Int.le_refl 0, Int.le_refl _, by dsimp only; omega⟩ (by simp only [big_eq]; omega) ?_
  rintro ⟨d, i⟩ next ⟨i0, f0, f1⟩ hnx
  dsimp only at i0 f0 f1 ⊢
  refine ok_if (fun hi => ?_) (fun _ => ok_bde sane21 (ok_some rfl))
  refine ok_bd (Run_ok (k := HumpgenMaker.mk t d) ⟨by dsimp only; omega, by dsimp only; omega, ht⟩ hmo2 (by omega)) fun v ⟨hr, hri, c4, c5⟩ => ?_
  obtain ⟨r, cr⟩ := v
  dsimp only at hr hri c4 c5 ⊢
  refine ok_bde rPoint_e ?_
  rw [ptOut_eq hp hr]
  dsimp only
  have hin := all_in hp hmo2 hr hri
  have hlen : (ptAll ps r).length = ps.length + 1 := by
    have h1' := (ptAll_len (ps := ps) (r := r)).2
    rcases Nat.lt_or_ge ps.length (ptAll ps r).length with h2' | h2'
    · omega
    · rcases hin.rest ps.length q h2' hla with hh | hh
      · rw [h2] at hh; cases hh
      · rw [h1] at hh; cases hh
  have hst : ptStop ps r = -1 := by
    have h1 := ptStop_all (ps := ps) (r := r)
    have h2 := h1.1.2 hlen
    unfold ptStop at h2 ⊢
    split
    · rfl
    · rename_i hne; rw [if_neg hne] at h2; omega
  refine ok_if0 (fun h => h rfl) (ok_if0 (by omega) (ok_if0 ?_ ?_))
  · rw [hlen, w64_eq (by omega)]; simp
  have hy : (ptAll ps r)[ps.length]? = some (ptAll ps r)[ps.length] := List.getElem?_eq_getElem (by omega)
  generalize (ptAll ps r)[ps.length] = y at hy
  have hyq := (hin.get ps.length y q hy hla).e.2
  have hy2 : (ptAll ps r)[((ps.length : Int)).toNat]? = some y := by rw [Int.toNat_natCast]; exact hy
  refine ok_ixe (by omega) hy2 (ok_if0 (by omega) (ok_ixe (by omega) hy2 (ok_if0 (by omega) ?_)))
  rw [w64_eq (by omega)]
  exact hnx _ ⟨by dsimp only; omega, by dsimp only; omega, by dsimp only; omega⟩ (by dsimp only; omega)
theorem IsLst.le {P Q : Int → Prop} {n m : Int} (h : ∀ v, 0 ≤ v → v ≤ 20000 → P v → Q v) (hn : IsLst P n) (hm : IsLst Q m) : m ≤ n := by
  rcases Int.lt_or_le n m with q | q
  · have h1 := hn.r
    have h2 := hm.r
    have := (hm.i n h1.1 (by omega)).1 (h n h1.1 (by omega) ((hn.i n h1.1 (by omega)).2 (Int.le_refl _)))
    omega
  · exact q
/-- The same motion with a smaller error. -/
def setE (m : Motion) (e : Int) : Motion := ⟨m.Speed, m.Class, e, m.Targets⟩
theorem setE_ok {ps : List Piece} {m : Motion} {e : Int} (h : MotOk ps m) (he : 0 ≤ e ∧ e ≤ m.Error) : MotOk ps (setE m e) := ⟨h.sp, h.cls, h.c, by have := h.err; unfold setE; dsimp only; omega, h.tgs, h.t⟩
theorem last_nest {ps : List Piece} {m : Motion} {e : Int} (hp : PsOk ps) (hl : ps.length ≤ 100) (hm : MotOk ps m) (he : 0 ≤ e ∧ e ≤ m.Error) : Nest (lastP (psAll ps m)) (lastP (psAll ps (setE m e))) := by
  have hm2 := setE_ok hm he
  have h0 := ps0_ok hm
  have h02 := ps0_ok hm2
  have hin : InSS (ps0 m) (ps0 (setE m e)) := ⟨Int.le_refl _, Int.le_refl _, Int.le_refl _, Int.le_refl _, fun h => h⟩
  have hrun := run_nest (e := m.Error) (f := e) hm.err he (i := 0) (by omega) hp.ok hm.c hm.c (L2.refl (fun _ => ⟨Int.le_refl _, Int.le_refl _⟩) _) hm.t h0 h02 hin
  have hall : L2 Nest (psAll ps m) (psAll ps (setE m e)) := .cons (nest_of h0 h02 hin (by omega)) hrun
  exact hall.get _ _ _ last_at last_at
theorem RetWidens_ok {t : List Int} {a b : Int} (ht : t.length ≤ 9223372036854775807) : law21_RetarderWidens t a b = some true := by
  refine Ok.eq (?_ : Ok _ _)
  unfold law21_RetarderWidens
  refine ok_bde (gen_New_ok t) ?_
  dsimp only
  refine ok_bd (Pieces_ok (Mk0 ht (by decide)) (by omega)) fun r ⟨hmp, _, d0, d1⟩ => ?_
  obtain ⟨ps0', c⟩ := r
  dsimp only at hmp d0 d1 ⊢
  have hl0 := hmp.len
  refine ok_ck (by simp only [List.length_cons, List.length_nil]; omega) (ok_vl fun ps hps => ?_)
  obtain ⟨hp, hl, hnr⟩ := retPath1 hmp (by decide) hps
  clear hps hmp
  refine ok_bd (Motion_ok (ps := ps) (k := HumpgenMaker.mk t c) ⟨by dsimp only; omega, by dsimp only; omega, ht⟩ (bent hp) (by omega)) fun r hm => ?_
  obtain ⟨m, cm⟩ := r
  obtain ⟨hmo, _, _, _, _, d2, d3⟩ := hm
  dsimp only at hmo d2 d3 ⊢
  refine ok_bd (Band_ok (k := HumpgenMaker.mk t cm) ⟨by dsimp only; omega, by dsimp only; omega, ht⟩) fun r ⟨hbd, d4, d5⟩ => ?_
  obtain ⟨b, cb⟩ := r
  dsimp only at hbd d4 d5 ⊢
  have hnl := nret_le ps
  have htl := hmo.tgs
  have her := hmo.err
  refine ok_vl fun k hk => ?_
  rw [w64_eq (by omega)] at hk
  subst hk
  refine ok_bd (pWindow_m (by omega)) fun x hw => ?_
  obtain ⟨w1, w2⟩ := winL hp hmo hnr hw
  clear hw
  refine ok_if (fun _ => ok_bde sane21 (ok_some rfl)) (fun hx0 => ?_)
  have hx0 := Decidable.not_not.1 hx0
  have hb : BdOk b := Decidable.byContradiction fun h => by rw [w1 h] at hx0; cases hx0
  obtain ⟨lo, hi, hL, ex⟩ := w2 hb
  have hlr := hL.1.r
  have hhr := hL.2.r
  have hlh : ¬ hi ≤ lo := fun h => by rw [ex, if_pos h] at hx0; cases hx0
  rw [if_neg hlh] at ex
  subst ex
  dsimp only
  rw [w64_eq (n := b.Lo + 1) (by omega), w64_eq (n := 20000 - b.Hi) (by omega), w64_eq (n := 20000 - b.Hi + 1) (by omega), w64_eq (n := m.Error + 1) (by omega)]
  refine ok_bd (Place_ok (by omega)) fun u hu => ok_vl fun y hy => ok_bd (Place_ok (by omega)) fun v hv => ?_
  rw [w64_eq (n := b.Lo - u) (by omega), w64_eq (n := b.Hi + v) (by omega)]
  refine ok_bd (pWindow_m (by omega)) fun y hwy => ?_
  have hb2 : BdOk ⟨b.Lo - u, b.Hi + v⟩ := by dsimp only [BdOk]; omega
  obtain ⟨lo2, hi2, hL2, ey⟩ := (winL hp hmo hnr hwy).2 hb2
  refine ok_bd (Place_ok (by omega)) fun s hs => ?_
  rw [w64_eq (n := m.Error - s) (by omega)]
  have eE : (Motion.mk m.Speed m.Class (m.Error - s) m.Targets) = setE m (m.Error - s) := rfl
  rw [eE]
  have hm3 : MotOk ps (setE m (m.Error - s)) := setE_ok hmo (by omega)
  refine ok_bd (pWindow_m (by unfold setE; dsimp only; omega)) fun z hwz => ?_
  obtain ⟨lo3, hi3, hL3, ez⟩ := (winL hp hm3 hnr hwz).2 hb
  have q1 : lo2 ≤ lo := IsLst.le (fun v v0 v1 hv => ⟨hv.1, hv.2.1, by
    have := sq_le (a := b.Lo - u) (b := b.Lo) (by omega) (by omega)
    have := hv.2.2
    dsimp only
    omega⟩) hL.1 hL2.1
  have q2 : hi ≤ hi2 := IsLst.le (fun w v0 v1 hv hg => hv (hg.imp id fun h => by
    have := sq_le (a := b.Hi) (b := b.Hi + v) (by omega) (by omega)
    dsimp only
    omega)) hL2.2 hL.2
  have nst : ∀ w, 0 ≤ w → w ≤ 20000 → Nest (lastP (psAll ps (setT m (m.Targets.length - 1) w))) (lastP (psAll ps (setT (setE m (m.Error - s)) (m.Targets.length - 1) w))) := fun w w0 w1 =>
    last_nest (m := setT m (m.Targets.length - 1) w) (e := m.Error - s) hp (by omega) (setT_ok hmo (by omega)) (by unfold setT; dsimp only; omega)
  have q3 : lo3 ≤ lo := IsLst.le (fun w v0 v1 hv => by
    have hn := nst w v0 v1
    obtain ⟨g1, g2, g3⟩ := hv
    have h1 : (lastP (psAll ps (setT (setE m (m.Error - s)) (m.Targets.length - 1) w))).Stops = false := by
      rw [Bool.eq_false_iff]; intro hh
      rcases hn.lo hh with h | h
      · rw [g2] at h; cases h
      · rw [g1] at h; cases h
    refine ⟨?_, h1, ?_⟩
    · rw [Bool.eq_false_iff]; intro hh
      rcases hn.sl hh with h | h
      · rw [g2] at h; cases h
      · rw [g1] at h; cases h
    · exact Int.le_trans g3 (hn.ok h1).2.2.2.1) hL.1 hL3.1
  have q4 : hi ≤ hi3 := IsLst.le (fun w v0 v1 hv hg => hv (by
    have hn := nst w v0 v1
    rcases hg with hg | hg
    · exact .inl (hn.st hg)
    · cases h1 : (lastP (psAll ps (setT (setE m (m.Error - s)) (m.Targets.length - 1) w))).Stops with
      | true => exact .inl h1
      | false =>
        exact .inr (Int.le_trans (hn.ok h1).2.2.2.2 hg))) hL3.2 hL.2
  rw [if_neg (by omega)] at ey ez
  subst ey ez
  exact ok_if1 rfl (ok_if1 q1 (ok_if1 (by dsimp only; omega) (ok_if1 rfl (ok_if1 q3 (ok_if1 (by dsimp only; omega) (ok_bde sane21 (ok_some rfl)))))))
theorem RetChooses_ok {t : List Int} {a : Int} (ht : t.length ≤ 9223372036854775807) : law21_RetarderChooses t a = some true := by
  refine Ok.eq (?_ : Ok _ _)
  unfold law21_RetarderChooses
  refine ok_bde (gen_New_ok t) ?_
  dsimp only
  refine ok_bd (Pieces_ok (Mk0 ht (by decide)) (by omega)) fun r ⟨hmp, _, d0, d1⟩ => ?_
  obtain ⟨ps0', c⟩ := r
  dsimp only at hmp d0 d1 ⊢
  have hl0 := hmp.len
  refine ok_bd (Pick_ok (k := HumpgenMaker.mk t c) ⟨by dsimp only; omega, by unfold CM0; dsimp only; omega, ht⟩ (by simp)) fun g ⟨mg, eg⟩ => ok_ck (by simp only [List.length_cons, List.length_nil]; omega) (ok_vl fun ps hps => ?_)
  dsimp only at eg
  simp only [List.mem_cons, List.not_mem_nil, or_false] at mg
  obtain ⟨hp, hl, hnr⟩ := retPath hmp (by decide) (by omega) hps
  clear hps hmp
  refine ok_bd (Motion_ok (ps := ps) (k := HumpgenMaker.mk t g.2) ⟨by dsimp only; omega, by dsimp only; omega, ht⟩ (bent hp) (by omega)) fun r hm => ?_
  obtain ⟨m, cm⟩ := r
  obtain ⟨hmo, _, _, _, _, d2, d3⟩ := hm
  dsimp only at hmo d2 d3 ⊢
  refine ok_bd (Band_ok (k := HumpgenMaker.mk t cm) ⟨by dsimp only; omega, by dsimp only; omega, ht⟩) fun r ⟨hbd, d4, d5⟩ => ?_
  obtain ⟨b, cb⟩ := r
  dsimp only at hbd d4 d5 ⊢
  have hnl := nret_le ps
  have htl := hmo.tgs
  refine ok_vl fun k hk => ?_
  rw [w64_eq (by omega)] at hk
  subst hk
  have ek : ((m.Targets.length : Int) - 1).toNat = m.Targets.length - 1 := by omega
  refine ok_bd (pChoose_m (by omega)) fun r ⟨x, hw, er⟩ => ?_
  obtain ⟨w1, w2⟩ := winL hp hmo hnr hw
  clear hw
  subst er
  refine ok_bde rBand_m (ok_nb (fun h => ?_) (fun h => ?_))
  · rw [w1 (of_decide_eq_false h)]
    exact ok_if1 rfl (ok_if1 rfl (ok_bde sane21 (ok_some rfl)))
  have hb := of_decide_eq_true h
  obtain ⟨lo, hi, hL, ex⟩ := w2 hb
  have hlr := hL.1.r
  have hhr := hL.2.r
  refine ok_bd (Place_ok (by omega)) fun v hv => ok_bde (rWith_m (by omega) (by omega)) (ok_bde pMeets_m ?_)
  rw [ek, eta3, mtE_set hp hmo hb hL (by omega), ex]
  dsimp only
  by_cases hlh : hi ≤ lo
  · rw [if_pos hlh, decide_eq_false (show ¬ (lo ≤ v ∧ v < hi) by omega)]
    refine ok_jp0 (ok_if0 (fun h => h rfl) ?_)
    exact ok_b (fun h => by cases h) (fun _ => ok_if1 (show ¬ (15 : Int) = 0 by decide) (ok_if1 rfl (ok_bde sane21 (ok_some rfl))))
  · rw [if_neg hlh]
    dsimp only
    refine ok_jp (fun _ => True) (fun _ _ => ok_if0 (fun h => h rfl) (ok_bde (rWith_m (by omega) (by omega)) (ok_bde pMeets_m ?_))) (fun kk hkk => ok_if0 (fun h => h rfl) (ok_if (fun q => ok_if0 (fun h => h rfl) (ok_if0 (by omega) (hkk _ trivial))) (fun _ => hkk _ trivial)))
    rw [ek, eta3, mtE_set hp hmo hb hL (by omega), decide_eq_true (show lo ≤ hi - 1 ∧ hi - 1 < hi by omega)]
    exact ok_if1 rfl (ok_bde sane21 (ok_some rfl))
end Go.Hy
