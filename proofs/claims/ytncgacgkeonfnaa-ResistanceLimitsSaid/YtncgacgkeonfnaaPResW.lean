/-
  The laws ResistanceWider and ResistanceLimits.
-/
import Derived.Test.YtncgacgkeonfnaaPMeas
namespace Go.Hy
set_option linter.unusedVariables false
set_option linter.unusedSimpArgs false
set_option maxHeartbeats 2000000
set_option maxRecDepth 10000
open Go.Hy.Iv

/-! ### Wider -/
abbrev Wd1 (x y : Resistance) : Prop := y.Mass = x.Mass ∧ 0 ≤ y.Lo ∧ y.Lo ≤ x.Lo ∧ x.Hi ≤ y.Hi ∧ y.Hi ≤ x.Hi + 8
structure Wd (l m : List Resistance) : Prop where
  len : m.length = l.length
  r : ∀ (i : Nat) x y, l[i]? = some x → m[i]? = some y → Wd1 x y
theorem ub_congr : ∀ {l l' : List Resistance} (m : Int), l.map (·.Mass) = l'.map (·.Mass) → ub l m = ub l' m := by
  intro l
  induction l with
  | nil => intro l' m h; cases l' with
    | nil => rfl
    | cons y l' => simp at h
  | cons x l ih =>
    intro l' m h
    cases l' with
    | nil => simp at h
    | cons y l' =>
      simp only [List.map_cons, List.cons.injEq] at h
      unfold ub
      rw [h.1, ih m h.2]
theorem Wd.mass {l m : List Resistance} (h : Wd l m) : l.map (·.Mass) = m.map (·.Mass) := by
  refine List.ext_getElem? fun i => ?_
  rw [List.getElem?_map, List.getElem?_map]
  rcases Nat.lt_or_ge i l.length with hi | hi
  · have h1 := List.getElem?_eq_getElem hi
    have h2 := List.getElem?_eq_getElem (show i < m.length by rw [h.len]; exact hi)
    rw [h1, h2]
    simp only [Option.map_some, Option.some.injEq]
    exact (h.r i _ _ h1 h2).1.symm
  · rw [List.getElem?_eq_none hi, List.getElem?_eq_none (by rw [h.len]; exact hi)]
theorem Wd.tbl {l m : List Resistance} (h : Wd l m) (hl : TabMade l) : Tbl m := by
  have hlen := hl.len
  refine ⟨by rw [h.len]; omega, fun y hy => ?_, fun i x y hx hy => ?_⟩
  · obtain ⟨i, hi⟩ := List.getElem?_of_mem hy
    have h1 := List.getElem?_eq_getElem (show i < l.length by have := sc_lt hi; rw [h.len] at this; exact this)
    have h2 := h.r i _ y h1 hi
    have h3 := hl.ok _ (sc_mem h1)
    omega
  · have l1 := sc_lt hx
    have l2 := sc_lt hy
    rw [h.len] at l1 l2
    have h1 := List.getElem?_eq_getElem l1
    have h2 := List.getElem?_eq_getElem l2
    have h3 := h.r _ _ _ h1 hx
    have h4 := h.r _ _ _ h2 hy
    have h5 := hl.up i _ _ h1 h2
    omega
theorem lnM_wide {l l' : List Resistance} (h : Wd l l') (hl : TabMade l) {m : Int} : (lnM l' m).1 ≤ (lnM l m).1 ∧ (lnM l m).2 ≤ (lnM l' m).2 := by
  have ht := hl.tbl
  have hlen := ht.len
  have hul := ub_le l m
  have eu := ub_congr m h.mass
  have ha := List.getElem?_eq_getElem (show ub l m - 1 < l.length by omega)
  have hll : ub l m - 1 < l'.length := by rw [h.len]; omega
  have ha' := List.getElem?_eq_getElem hll
  have w1 := h.r _ _ _ ha ha'
  generalize l[ub l m - 1] = a at ha w1
  generalize l'[ub l m - 1]'hll = a' at ha' w1
  unfold lnM
  rw [← eu, ha, ha']
  dsimp only
  by_cases hz : ub l m = 0
  · rw [if_pos hz, if_pos hz]; dsimp only; omega
  · rw [if_neg hz, if_neg hz]
    have ham := ub_lo (m := m) _ a (by omega) ha
    rcases Nat.lt_or_ge (ub l m) l.length with hlt | hge
    · have hb := List.getElem?_eq_getElem hlt
      have hlu : ub l m < l'.length := by rw [h.len]; exact hlt
      have hb' := List.getElem?_eq_getElem hlu
      have w2 := h.r _ _ _ hb hb'
      have hbm := ub_at _ hb
      generalize l[ub l m] = b at hb w2 hbm
      generalize l'[ub l m]'hlu = b' at hb' w2
      rw [hb, hb']
      dsimp only
      obtain ⟨p1, p2, p3, p4, p5⟩ := w1
      obtain ⟨r1, r2, r3, r4, r5⟩ := w2
      rw [p1, r1, dn_shift (a := a'.Lo) (by omega), dn_shift (a := a.Lo) (by omega), up_shift (a := a.Hi) (by omega), up_shift (a := a'.Hi) (by omega)]
      have s1 := seg_mono (a := a'.Lo) (b := b'.Lo) (a' := a.Lo) (b' := b.Lo) (n := m - a.Mass) (d := b.Mass - a.Mass) (by omega) (by omega) p3 r3
      have s2 := seg_mono (a := a.Hi) (b := b.Hi) (a' := a'.Hi) (b' := b'.Hi) (n := m - a.Mass) (d := b.Mass - a.Mass) (by omega) (by omega) p4 r4
      have t1 := Int.ediv_le_ediv (c := b.Mass - a.Mass) (by omega) s1
      have t2 := Int.ediv_le_ediv (c := b.Mass - a.Mass) (by omega) (Int.neg_le_neg s2)
      exact ⟨t1, by omega⟩
    · rw [List.getElem?_eq_none hge, List.getElem?_eq_none (by rw [h.len]; exact hge)]
      dsimp only
      omega
theorem clsM_eq {l : List Resistance} (ht : Tbl l) {mass axles : Int} {w : Weather} (hm : MsOk mass axles) (hw : WOk w) : clsM l mass axles w = (clp ((lnM l (mass / axles)).1 + w.Wind.Lo * 3 / 100 + w.Cold.Lo), clp ((lnM l (mass / axles)).2 + -((-(w.Wind.Hi * 3)) / 100) + w.Cold.Hi), 0) := by
  have er : rollM l mass axles = ((lnM l (mass / axles)).1, (lnM l (mass / axles)).2, 0) := by
    unfold rollM
    rw [if_neg (by simp [tE_of ht]), if_pos hm]
  unfold clsM
  rw [er]
  dsimp only
  rw [if_neg (by simp), if_pos hw]
theorem ResWider_ok {t : List Int} (ht : t.length ≤ 9223372036854775807) : law19_ResistanceWider t = some true := by
  refine Ok.eq (?_ : Ok _ _)
  unfold law19_ResistanceWider
  refine ok_bde (gen_New_ok t) ?_
  have mk : ∀ c1, 0 ≤ c1 → c1 ≤ 1000000 → Mk (HumpgenMaker.mk t c1) 999999999999000 := fun c' h1 h2 => ⟨h1, by dsimp only; omega, ht⟩
  have mk0 : ∀ c1, 0 ≤ c1 → c1 ≤ 1000000 → Mk (HumpgenMaker.mk t c1) CM0 := fun c' h1 h2 => (mk c' h1 h2).up (by decide)
  refine ok_bd (Table_ok (mk 0 (by decide) (by decide))) fun v ⟨hl, d0, d1⟩ => ?_
  obtain ⟨l, c⟩ := v
  dsimp only at hl d0 d1 ⊢
  have htb := hl.tbl
  have hlen := hl.len
  refine ok_bd (Weather_ok (mk c (by omega) (by omega))) fun v ⟨hw, d2⟩ => ?_
  obtain ⟨w, cw⟩ := v
  dsimp only at hw d2 ⊢
  obtain ⟨wa, wb⟩ := hw
  refine ok_bd (From_ok (mk0 cw (by omega) (by omega)) (by omega)) fun v8 ⟨b8, e8⟩ => ?_
  dsimp only at e8
  refine ok_bd (From_ok (mk0 v8.2 (by omega) (by omega)) (by omega)) fun v10 ⟨b10, e10⟩ => ?_
  dsimp only at e10
  have hms : MsOk v8.1 v10.1 := by omega
  have hq0 : 0 ≤ v8.1 / v10.1 := Int.ediv_nonneg (by omega) (by omega)
  have hq1 : v8.1 / v10.1 ≤ v8.1 := Int.ediv_le_self _ (by omega)
  refine ok_bde Class_m (ok_ck (by simp only [List.length_nil]; omega) (ok_vl fun y hy => ?_))
  rw [List.nil_append] at hy
  subst hy
  rw [clsM_eq htb hms (by omega)]
  dsimp only [i3]
  refine ok_jp (fun (z : Int × List Resistance) => 0 ≤ z.1 ∧ z.1 ≤ 1000 ∧ Wd y z.2) (fun z ⟨z0, z1, hwd⟩ => ?_) (fun kk hk => ?_)
  · have htb' := hwd.tbl hl
    have hwide := lnM_wide hwd hl (m := v8.1 / v10.1)
    have hlh := lnM_lo_hi htb (m := v8.1 / v10.1)
    have hlh' := lnM_lo_hi htb' (m := v8.1 / v10.1)
    have hin := lnM_in htb (m := v8.1 / v10.1) (by omega)
    have hin' := lnM_in htb' (m := v8.1 / v10.1) (by omega)
    refine ok_bd (Next_ok (mk0 z.1 (by omega) (by omega)) (by omega)) fun u1 ⟨n1, f1⟩ => ?_
    dsimp only at f1
    refine ok_bd (Next_ok (mk0 u1.2 (by omega) (by omega)) (by omega)) fun u2 ⟨n2, f2⟩ => ?_
    dsimp only at f2
    rw [w64_eq (n := w.Wind.Lo - u1.1) (by omega), w64_eq (n := w.Cold.Hi + u2.1) (by omega)]
    refine ok_bde Class_m ?_
    have hw1 : WOk (Weather.mk (Interval.mk (w.Wind.Lo - u1.1) w.Wind.Hi) (Interval.mk w.Cold.Lo (w.Cold.Hi + u2.1))) := ⟨by dsimp only; omega, by dsimp only; omega, by dsimp only; omega, by dsimp only; omega, by dsimp only; omega, by dsimp only; omega⟩
    rw [clsM_eq htb' hms hw1]
    dsimp only [i3]
    refine ok_bd (From_ok (mk0 u2.2 (by omega) (by omega)) (by omega)) fun u3 ⟨n3, f3⟩ => ?_
    dsimp only at f3
    refine ok_bd (From_ok (mk0 u3.2 (by omega) (by omega)) (by omega)) fun u4 ⟨n4, f4⟩ => ?_
    dsimp only at f4
    refine ok_bde Class_m ?_
    have hw2 : WOk (Weather.mk (Interval.mk u3.1 u3.1) (Interval.mk u4.1 u4.1)) := ⟨by dsimp only; omega, by dsimp only; omega, by dsimp only; omega, by dsimp only; omega, by dsimp only; omega, by dsimp only; omega⟩
    rw [clsM_eq htb hms hw2]
    dsimp only [i3]
    generalize (lnM y (v8.1 / v10.1)).1 = a at hwide hlh hin
    generalize (lnM y (v8.1 / v10.1)).2 = b at hwide hlh hin
    generalize (lnM z.2 (v8.1 / v10.1)).1 = a' at hwide hlh' hin'
    generalize (lnM z.2 (v8.1 / v10.1)).2 = b' at hwide hlh' hin'
    refine ok_if1 rfl (ok_if1 rfl (ok_if1 rfl (ok_bde (Within_m _ _) ?_)))
    dsimp only
    unfold clp
    have w1 : (w.Wind.Lo - u1.1) * 3 / 100 ≤ w.Wind.Lo * 3 / 100 := by omega
    have w2 : w.Wind.Lo * 3 / 100 ≤ u3.1 * 3 / 100 := by omega
    have w3 : u3.1 * 3 / 100 ≤ -((-(u3.1 * 3)) / 100) := by omega
    have w4 : -((-(u3.1 * 3)) / 100) ≤ -((-(w.Wind.Hi * 3)) / 100) := by omega
    generalize (w.Wind.Lo - u1.1) * 3 / 100 = p1 at w1 ⊢
    generalize w.Wind.Lo * 3 / 100 = p2 at w1 w2 ⊢
    generalize u3.1 * 3 / 100 = p3 at w2 w3 ⊢
    generalize -((-(u3.1 * 3)) / 100) = p4 at w3 w4 ⊢
    generalize -((-(w.Wind.Hi * 3)) / 100) = p5 at w4 ⊢
    rw [decide_eq_true (by omega)]
    refine ok_bde (Within_m _ _) ?_
    dsimp only
    rw [decide_eq_true (by omega)]
    refine ok_if1 (by omega) (ok_if1 (by omega) (ok_bde sane19 (ok_some rfl)))
  · refine ok_lp (fun (z : Int × List Resistance × Int) => 0 ≤ z.2.2 ∧ z.2.2 ≤ y.length ∧ z.2.1.length = y.length ∧ (∀ (i : Nat) a b, y[i]? = some a → z.2.1[i]? = some b → Wd1 a b) ∧ (∀ i : Nat, z.2.2 ≤ i → z.2.1[i]? = y[i]?) ∧ 0 ≤ z.1 ∧ z.1 ≤ 100 + 2 * z.2.2) (fun z => ((y.length : Int) - z.2.2).toNat) ?_ (by simp only [big_eq]; omega) ?_
    · refine ⟨Int.le_refl 0, by dsimp only; omega, rfl, fun i a b ha hb => ?_, fun i _ => rfl, by dsimp only; omega, by dsimp only; omega⟩
      dsimp only at hb
      rw [ha] at hb
      cases hb
      have := hl.ok a (sc_mem ha)
      omega
    rintro ⟨c2, m, i⟩ next ⟨i0, i1, ml, hr, hsame, q0, q1⟩ hn
    dsimp only at i0 i1 ml hr hsame q0 q1 ⊢
    refine ok_if (fun hi => ?_) (fun hi => hk _ ⟨by dsimp only; omega, by dsimp only; omega, ⟨ml, hr⟩⟩)
    have hx := List.getElem?_eq_getElem (show i.toNat < y.length by omega)
    generalize y[i.toNat] = x at hx
    have hxo := hl.ok x (sc_mem hx)
    have hmx : m[i.toNat]? = some x := by rw [hsame _ (by omega)]; exact hx
    refine ok_ixe i0 hmx (ok_ixe i0 hmx ?_)
    refine ok_bd (Next_ok (mk0 c2 (by omega) (by omega)) (by omega)) fun u1 ⟨n1, f1⟩ => ?_
    dsimp only at f1
    refine ok_bd (Next_ok (mk0 u1.2 (by omega) (by omega)) (by omega)) fun u2 ⟨n2, f2⟩ => ?_
    dsimp only at f2
    rw [w64_eq (n := x.Lo - u1.1) (by omega), w64_eq (n := x.Hi + u2.1) (by omega)]
    refine ok_ixe i0 hmx (ok_vl fun y1 hy1 => ?_)
    have hil : i.toNat < m.length := by omega
    refine ok_ixe i0 (by rw [hy1, List.getElem?_set_self hil]) (ok_vl fun y2 hy2 => ?_)
    rw [hy1, List.set_set] at hy2
    rw [w64_eq (n := i + 1) (by omega)]
    refine hn _ ⟨by dsimp only; omega, by dsimp only; omega, by dsimp only; rw [hy2, List.length_set]; exact ml, fun j a b ha hb => ?_, fun j hj => ?_, by dsimp only; omega, by dsimp only; omega⟩ (by dsimp only; omega)
    · dsimp only at hb
      rw [hy2] at hb
      by_cases e : i.toNat = j
      · subst e
        rw [List.getElem?_set_self hil] at hb
        rw [hx] at ha
        obtain rfl := Option.some.inj ha
        obtain rfl := Option.some.inj hb
        refine ⟨rfl, ?_, ?_, ?_, ?_⟩ <;> dsimp only <;> omega
      · rw [List.getElem?_set_ne e] at hb
        exact hr j a b ha hb
    · dsimp only at hj ⊢
      rw [hy2, List.getElem?_set_ne (by omega)]
      exact hsame j (by omega)

/-! ### Limits -/
theorem ResLimits_ok {qn qa : Int} : law19_ResistanceLimits qn qa = some true := by
  refine Ok.eq (?_ : Ok _ _)
  unfold law19_ResistanceLimits
  have r1 := Go.Hy.tmod_rng qn 3 (by decide)
  rw [w64_eq (n := Int.tmod qn 3 + 3) (by omega)]
  have r2 := tmod_nn (x := Int.tmod qn 3 + 3) (m := 3) (by omega) (by decide)
  refine ok_vl fun n hn => ?_
  rw [← hn] at r2
  clear hn
  have r3 := Go.Hy.tmod_rng qa 15 (by decide)
  rw [w64_eq (n := Int.tmod qa 15 + 15) (by omega), w64_eq (n := 255 + n) (by omega), w64_eq (n := 15 + n) (by omega)]
  have r4 := tmod_nn (x := Int.tmod qa 15 + 15) (m := 15) (by omega) (by decide)
  refine ok_jp (fun (l : List Resistance) => (l.length : Int) = 15 + n ∧ ∀ (j : Nat) x, l[j]? = some x → x = ⟨1980 + j, 10 * j, 5000⟩) (fun l ⟨l0, l1⟩ => ?_) (fun kk hk => ?_)
  rotate_left
  · refine ok_lp (fun (z : List Resistance × Int) => 0 ≤ z.2 ∧ z.2 ≤ 15 + n ∧ (z.1.length : Int) = z.2 ∧ ∀ (j : Nat) x, z.1[j]? = some x → x = ⟨1980 + j, 10 * j, 5000⟩) (fun z => (15 + n - z.2).toNat) ⟨Int.le_refl 0, by dsimp only; omega, rfl, fun j x h => by simp at h⟩ (by simp only [big_eq]; omega) ?_
    rintro ⟨out, i⟩ next ⟨i0, i1, ol, ho⟩ hnx
    dsimp only at i0 i1 ol ho ⊢
    refine ok_if (fun hi => ok_ck (by simp only [List.length_cons, List.length_nil]; omega) (ok_vl fun y hy => ?_)) (fun hi => hk _ ⟨by omega, ho⟩)
    rw [w64_eq (n := 1980 + i) (by omega), w64_eq (n := 10 * i) (by omega)] at hy
    rw [w64_eq (n := i + 1) (by omega)]
    refine hnx _ ⟨by dsimp only; omega, by dsimp only; omega, by dsimp only; rw [hy]; simp; omega, fun j x hx => ?_⟩ (by dsimp only; omega)
    dsimp only at hx
    rw [hy] at hx
    rcases app_get hx with hx | ⟨e, rfl⟩
    · exact ho j x hx
    · have : (j : Int) = i := by omega
      rw [this]
  refine ok_jp (fun (s : List Sample) => (s.length : Int) = 255 + n ∧ ∀ x ∈ s, x = ⟨1000000, 10000, 20000, 20000⟩) (fun s ⟨s0, s1⟩ => ?_) (fun kk hk => ?_)
  rotate_left
  · refine ok_lp (fun (z : List Sample × Int) => 0 ≤ z.2 ∧ z.2 ≤ 255 + n ∧ (z.1.length : Int) = z.2 ∧ ∀ x ∈ z.1, x = ⟨1000000, 10000, 20000, 20000⟩) (fun z => (255 + n - z.2).toNat) ⟨Int.le_refl 0, by dsimp only; omega, rfl, fun x h => by simp at h⟩ (by simp only [big_eq]; omega) ?_
    rintro ⟨out, i⟩ next ⟨i0, i1, ol, ho⟩ hnx
    dsimp only at i0 i1 ol ho ⊢
    refine ok_if (fun hi => ok_ck (by simp only [List.length_cons, List.length_nil]; omega) (ok_vl fun y hy => ?_)) (fun hi => hk _ ⟨by omega, ho⟩)
    rw [w64_eq (n := i + 1) (by omega)]
    refine hnx _ ⟨by dsimp only; omega, by dsimp only; omega, by dsimp only; rw [hy]; simp; omega, fun x hx => ?_⟩ (by dsimp only; omega)
    dsimp only at hx
    rw [hy] at hx
    rcases List.mem_append.1 hx with hx | hx
    · exact ho x hx
    · exact List.mem_singleton.1 hx
  refine ok_bde Meas_m (ok_vl fun a ha => ?_)
  rw [← ha] at r4
  clear ha
  rw [w64_eq (n := 1980 + a) (by omega), w64_eq (n := 2 * (1980 + a)) (by omega), w64_eq (n := 10 * a) (by omega)]
  refine ok_bde Rolling_m ?_
  refine ok_if (fun h2 => ?_) (fun h2 => ?_)
  · have em : measM s = (0, 0, 3) := by unfold measM; rw [if_pos (by omega)]
    have et : tE l = 3 := by unfold tE; rw [if_neg (by omega)]
    have er : rollM l (2 * (1980 + a)) 2 = (0, 0, 3) := by unfold rollM; rw [et, if_pos (by decide)]
    rw [em, er]
    refine ok_if1 rfl (ok_if1 rfl (ok_bde TValid_m ?_))
    rw [et]
    exact ok_if1 rfl (ok_bde sane19 (ok_some rfl))
  · have hso : SOk ⟨1000000, 10000, 20000, 20000⟩ := by unfold SOk; dsimp only; omega
    have hall : ∀ x ∈ s, SOk x := fun x hx => by rw [s1 x hx]; exact hso
    have e1 : sLo ⟨1000000, 10000, 20000, 20000⟩ = 10000 := by decide
    have e2 : sHi ⟨1000000, 10000, 20000, 20000⟩ = 10000 := by decide
    have hs0 := List.getElem?_eq_getElem (show 0 < s.length by omega)
    have em : measM s = (10000, 10000, 0) := by
      unfold measM
      rw [if_neg (by omega), if_neg (by omega), if_pos (all_smB hall)]
      have n1 := fold_min sLo s 1000000000000
      have x1 := fold_max sHi s (-1000000000000)
      have n2 := n1.2.1 _ (sc_mem hs0)
      have x2 := x1.2.1 _ (sc_mem hs0)
      rw [s1 _ (sc_mem hs0), e1] at n2
      rw [s1 _ (sc_mem hs0), e2] at x2
      have n3 : mnS s = 10000 := by
        rcases n1.2.2 with h | ⟨q, hq, h⟩
        · unfold mnS; rw [h] at n2 ⊢; omega
        · unfold mnS; rw [h, s1 q hq, e1]
      have x3 : mxS s = 10000 := by
        rcases x1.2.2 with h | ⟨q, hq, h⟩
        · unfold mxS; rw [h] at x2 ⊢; omega
        · unfold mxS; rw [h, s1 q hq, e2]
      rw [n3, x3]
    have htb : Tbl l := by
      refine ⟨by omega, fun x hx => ?_, fun i x y hx hy => ?_⟩
      · obtain ⟨j, hj⟩ := List.getElem?_of_mem hx
        have := sc_lt hj
        rw [l1 j x hj]
        dsimp only
        omega
      · rw [l1 _ x hx, l1 _ y hy]
        dsimp only
        omega
    have hxa := List.getElem?_eq_getElem (show a.toNat < l.length by omega)
    have hxe := l1 _ _ hxa
    generalize l[a.toNat] = x at hxa hxe
    have hul := ub_le l (1980 + a)
    have hua : ub l (1980 + a) = a.toNat + 1 := by
      have g1 : a.toNat < ub l (1980 + a) := by
        rcases Nat.lt_or_ge a.toNat (ub l (1980 + a)) with h | h
        · exact h
        · have := ub_hi htb (m := 1980 + a) h hxa
          rw [hxe] at this
          dsimp only at this
          omega
      rcases Nat.lt_or_ge (a.toNat + 1) (ub l (1980 + a)) with h | h
      · have hy := List.getElem?_eq_getElem (show a.toNat + 1 < l.length by omega)
        have h1 := ub_lo (m := 1980 + a) _ _ h hy
        rw [l1 _ _ hy] at h1
        dsimp only at h1
        omega
      · omega
    have er : rollM l (2 * (1980 + a)) 2 = (10 * a, 5000, 0) := by
      unfold rollM
      have e5 : 2 * (1980 + a) / 2 = 1980 + a := by omega
      rw [if_neg (by simp [tE_of htb]), if_pos (by omega), e5]
      have h5 := (lnM_end htb (m := 1980 + a)).2 x (by omega) (by rw [hua]; exact hxa) (.inr (by rw [hxe]; dsimp only; omega))
      rw [h5, hxe]
      dsimp only
      rw [show ((a.toNat : Nat) : Int) = a from by omega]
    rw [em, er]
    exact ok_if1 rfl (ok_if1 ⟨rfl, rfl⟩ (ok_if1 rfl (ok_if1 ⟨rfl, rfl⟩ (ok_bde sane19 (ok_some rfl)))))
end Go.Hy
