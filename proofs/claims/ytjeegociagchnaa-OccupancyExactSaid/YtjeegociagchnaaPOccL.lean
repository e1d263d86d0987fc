/-
  The laws of occupancy on made layouts.
-/
import Derived.Test.YtjeegociagchnaaPOcc
namespace Go.Hy
set_option linter.unusedVariables false
set_option linter.unusedSimpArgs false
set_option maxHeartbeats 2000000
set_option maxRecDepth 10000
open Go.Hy.Iv

/-! ### The made path -/
theorem Made.vl {l : List Element} {n : Nat} (h : Made l n) (hn : n ≤ 12) : VL l := lE_ok (h.lE hn)
theorem Made.tr {l : List Element} {n : Nat} (h : Made l n) : ∃ t, IsTr l t := by
  have hne := h.u.ne
  have hx : l[l.length - 1]? = some l[l.length - 1] := List.getElem?_eq_getElem (by omega)
  generalize l[l.length - 1] = x at hx
  by_cases hk : x.Kind = 4
  · exact ⟨((l.length - 1 : Nat) : Int), by omega, x, by simpa using hx, hk⟩
  exfalso
  have no : ∀ s : Int, (0 ≤ s ∧ s ≤ 2) → (x.Kind = 3 ↔ s ≠ 0) → False := fun s hs h3 => by
    rcases h.u.cl ⟨((l.length - 1 : Nat) : Int), s⟩ ⟨by simp, hs, x, by simpa using hx, hk, h3⟩ with hh | ⟨j, a, j1, ha, a1, a2⟩
    · cases hh
    · have := ftE_parent (h.u.ft j) ha (by omega)
      have := sc_lt ha
      dsimp only at a1
      omega
  by_cases h3 : x.Kind = 3
  · exact no 1 (by omega) ⟨fun _ => by decide, fun _ => h3⟩
  · exact no 0 (by omega) ⟨fun h => absurd h h3, fun h => absurd rfl h⟩
structure Way22 (l : List Element) (ps : List Piece) (t : Int) : Prop where
  v : VL l
  tr : IsTr l t
  e : ps = pth l t
  last : ∃ x : Piece, ps[ps.length - 1]? = some x ∧ 1000 ≤ x.Length ∧ x.Length ≤ 700000
theorem path22_ok {k : HumpgenMaker} (h : Mk k 900000000000000) : Ok (law22_path k) fun r => (∃ t, Way22 r.1 r.2.1 t) ∧ Nms r.1 ∧ r.1.length ≤ 28 ∧ k.fn ≤ r.2.2.2 ∧ r.2.2.2 ≤ k.fn + 1002 := by
  have c0 := h.c0
  have c1 := h.c1
  unfold law22_path
  refine ok_bd (Layout_ok h (by omega)) fun v ⟨hm, d0, d1⟩ => ?_
  obtain ⟨l, c⟩ := v
  dsimp only at hm d0 d1 ⊢
  have hv := hm.vl (by omega)
  have hlen := hm.len
  have hne := hm.u.ne
  refine ok_jp (fun (z : List Int) => (∀ m ∈ z, IsTr l m) ∧ 1 ≤ z.length ∧ z.length ≤ 1000) (fun z ⟨z0, z1, z2⟩ => ?_) (fun kk hk => ?_)
  rotate_left
  · refine ok_lp (fun (y : List Int × Int) => 0 ≤ y.2 ∧ y.2 ≤ l.length ∧ (∀ m ∈ y.1, IsTr l m) ∧ (∀ m, m < y.2 → IsTr l m → m ∈ y.1) ∧ (y.1.length : Int) ≤ y.2) (fun y => ((l.length : Int) - y.2).toNat) ⟨Int.le_refl 0, by dsimp only; omega, by simp, fun m h1 h2 => by have := h2.1; dsimp only at h1; omega, by simp⟩ (by simp only [big_eq]; omega) ?_
    rintro ⟨out, i⟩ next ⟨i0, i1, h1, h2, h3⟩ hn
    dsimp only at i0 i1 h1 h2 h3 ⊢
    refine ok_if (fun hi => ok_ix i0 hi fun x hx => ?_) (fun hi => hk _ ⟨h1, ?_, by omega⟩)
    · rw [w64_eq (n := i + 1) (by omega)]
      refine ok_if (fun h4 => ok_ck (by simp only [List.length_cons, List.length_nil]; omega) (ok_vl fun y hy => ?_)) (fun h4 => ?_)
      · refine hn _ ⟨by dsimp only; omega, by dsimp only; omega, fun m hm => ?_, fun m hm1 hm2 => ?_, by dsimp only; rw [hy]; simp; omega⟩ (by dsimp only; omega)
        · dsimp only at hm
          rw [hy] at hm
          rcases List.mem_append.1 hm with hm | hm
          · exact h1 m hm
          · obtain rfl := List.mem_singleton.1 hm
            exact ⟨i0, x, hx, h4⟩
        · dsimp only at hm1 ⊢
          rw [hy, List.mem_append]
          by_cases e : m = i
          · right; exact List.mem_singleton.2 e
          · left; exact h2 m (by omega) hm2
      · refine hn _ ⟨by dsimp only; omega, by dsimp only; omega, h1, fun m hm1 hm2 => ?_, by dsimp only; omega⟩ (by dsimp only; omega)
        dsimp only at hm1 ⊢
        by_cases e : m = i
        · subst e
          obtain ⟨_, y, hy, hk4⟩ := hm2
          rw [hx] at hy
          cases hy
          exact absurd hk4 h4
        · exact h2 m (by omega) hm2
    · obtain ⟨t, ht⟩ := hm.tr
      have htl : t < l.length := by
        obtain ⟨t0, x, hx, _⟩ := ht
        have := sc_lt hx
        omega
      have := h2 t (by omega) ht
      exact List.length_pos_of_mem this
  have mk : ∀ c', c ≤ c' → c' ≤ c + 1000 → Mk (HumpgenMaker.mk k.fl c') CM0 := fun c' h1 h2 => h.to (by omega) (by unfold CM0; omega)
  refine ok_bd (Next_ok (mk c (by omega) (by omega)) (by omega)) fun u ⟨hu, eu⟩ => ?_
  dsimp only at eu
  refine ok_ix hu.1 hu.2 fun t ht => ?_
  have htr := z0 t (sc_mem ht)
  refine ok_bde (rPath_m hm.u.nms) ?_
  have hpt : ptE l t = (pth l t, 0) := by unfold ptE; rw [if_neg (by rw [hm.lE (by omega)]; decide), if_pos htr]
  rw [hpt]
  refine ok_bd (Pick_ok (mk u.2 (by omega) (by omega)) (by simp)) fun w ⟨hw, ew⟩ => ok_some ?_
  dsimp only at ew
  refine ⟨⟨t, hv, htr, rfl, ?_⟩, hm.u.nms, by dsimp only; omega, by dsimp only; omega, by dsimp only; omega⟩
  obtain ⟨h1, h2, h3⟩ := pth_ok hv htr
  obtain ⟨t0, x, hx, hk4⟩ := htr
  have hr := hm.u.r x (sc_mem hx)
  refine ⟨pcOf l t, h3, ?_⟩
  unfold pcOf
  rw [hx]
  dsimp only
  have := hr.2.2.2.2.2.2 (by omega)
  omega
theorem Way22.ps {l : List Element} {ps : List Piece} {t : Int} (h : Way22 l ps t) : PsOk ps ∧ ∀ p ∈ ps, 0 ≤ p.Element ∧ p.Element < l.length := by
  have := pth_ok h.v h.tr
  rw [h.e]
  exact ⟨this.1, fun p hp => by have := this.2.1 p hp; omega⟩
theorem vE_zero {ps : List Piece} (h : PsOk ps) : vE ps = 0 := by
  unfold vE
  have : ps.all pB = true := by
    rw [List.all_eq_true]
    intro p hp
    have := h.ok p hp
    exact decide_eq_true ⟨this.e, this.l, this.g, this.c, this.p⟩
  rw [if_pos h.len, if_pos this]
/-- The path with another last length. -/
theorem setL_get {ps : List Piece} {n : Int} {x : Piece} (hx : ps[ps.length - 1]? = some x) (hl : 1 ≤ ps.length) : (setL ps n).length = ps.length ∧ (setL ps n)[ps.length - 1]? = some ⟨x.Element, n, x.Grade, x.Curve, x.Power⟩ ∧ ∀ i, i ≠ ps.length - 1 → (setL ps n)[i]? = ps[i]? := by
  unfold setL
  rw [hx]
  dsimp only
  refine ⟨by simp, ?_, fun i hi => ?_⟩
  · rw [List.getElem?_set_self (by omega)]
  · rw [List.getElem?_set_ne (by omega)]
theorem setL_ok {ps : List Piece} {n : Int} (h : PsOk ps) (hn : 1 ≤ n ∧ n ≤ 1000000) : PsOk (setL ps n) := by
  have hl := h.len
  have hx : ps[ps.length - 1]? = some ps[ps.length - 1] := List.getElem?_eq_getElem (by omega)
  generalize ps[ps.length - 1] = x at hx
  obtain ⟨g1, g2, g3⟩ := setL_get (n := n) hx (by omega)
  refine ⟨by omega, fun p hp => ?_⟩
  obtain ⟨i, hi⟩ := List.getElem?_of_mem hp
  by_cases e : i = ps.length - 1
  · subst e
    rw [g2] at hi
    cases hi
    have := h.ok x (sc_mem hx)
    exact ⟨this.e, hn, this.g, this.c, this.p⟩
  · rw [g3 i e] at hi
    exact h.ok p (sc_mem hi)
theorem setL_el {ps : List Piece} {n : Int} {l : List Element} (h : PsOk ps) (he : ∀ p ∈ ps, 0 ≤ p.Element ∧ p.Element < (l.length : Int)) : ∀ p ∈ setL ps n, 0 ≤ p.Element ∧ p.Element < (l.length : Int) := fun p hp => by
  have hl := h.len
  have hx : ps[ps.length - 1]? = some ps[ps.length - 1] := List.getElem?_eq_getElem (by omega)
  generalize ps[ps.length - 1] = x at hx
  obtain ⟨g1, g2, g3⟩ := setL_get (n := n) hx (by omega)
  obtain ⟨i, hi⟩ := List.getElem?_of_mem hp
  by_cases e : i = ps.length - 1
  · subst e
    rw [g2] at hi
    cases hi
    exact he x (sc_mem hx)
  · rw [g3 i e] at hi
    exact he p (sc_mem hi)
/-- With so long a last piece every other piece is left. -/
theorem clN_last {ps : List Piece} {n : Int} {x : Piece} (hx : ps[ps.length - 1]? = some x) (hn : n ≤ x.Length) (hp : ∀ p ∈ ps, 1 ≤ p.Length) : ∀ (f : Nat) (j s : Int), 0 ≤ j → j + 1 < ps.length → 0 ≤ s → (ps.length : Int) + 1 ≤ f + j + 1 → 0 ≤ clN ps n f j s := by
  intro f
  induction f with
  | zero => intro j s h0 h1 h2 h3; omega
  | succ f ih =>
    intro j s h0 h1 h2 h3
    unfold clN
    by_cases h : n ≤ s
    · rw [if_pos h]; exact h0
    · rw [if_neg h]
      have hlt : (j + 1).toNat < ps.length := by omega
      have hy : ps[(j + 1).toNat]? = some ps[(j + 1).toNat] := List.getElem?_eq_getElem hlt
      generalize ps[(j + 1).toNat] = y at hy
      rw [hy]
      dsimp only
      have hyp := hp y (sc_mem hy)
      by_cases e : j + 2 < ps.length
      · exact ih (j + 1) _ (by omega) (by omega) (by omega) (by omega)
      · have : (j + 1).toNat = ps.length - 1 := by omega
        rw [this, hx] at hy
        cases hy
        obtain ⟨f, rfl⟩ : ∃ f', f = f' + 1 := ⟨f - 1, by omega⟩
        unfold clN
        rw [if_pos (by omega)]
        omega
theorem clr_last {ps : List Piece} {n : Int} {x : Piece} (h : PsOk ps) (hx : ps[ps.length - 1]? = some x) (hn : n ≤ x.Length) {i : Nat} (hi : i + 1 < ps.length) : 0 ≤ clr ps i n :=
  clN_last hx hn (fun p hp => (h.ok p hp).l.1) _ _ _ (by omega) (by omega) (by omega) (by omega)
/-- A longer cut leaves later. -/
theorem clN_mono {ps : List Piece} {a b : Int} (hab : a ≤ b) (hp : ∀ p ∈ ps, 1 ≤ p.Length) : ∀ (f : Nat) (j s : Int), 0 ≤ j → j < ps.length → 0 ≤ clN ps b f j s → 0 ≤ clN ps a f j s ∧ clN ps a f j s ≤ clN ps b f j s := by
  intro f
  induction f with
  | zero => intro j s _ _ h; unfold clN at h; omega
  | succ f ih =>
    intro j s h0 h1 h
    have hr := clN_rng (ps := ps) (n := b) (f + 1) j s h0 h1
    by_cases ha : a ≤ s
    · have e : clN ps a (f + 1) j s = j := by unfold clN; rw [if_pos ha]
      rw [e]
      omega
    · unfold clN at h ⊢
      rw [if_neg (by omega)] at h
      rw [if_neg ha, if_neg (by omega)]
      cases hx : ps[(j + 1).toNat]? with
      | none => rw [hx] at h; dsimp only at h; omega
      | some p =>
        rw [hx] at h
        dsimp only at h ⊢
        have := sc_lt hx
        exact ih (j + 1) _ (by omega) (by omega) h
theorem Chk.mk' {l : List Element} {ps : List Piece} {n : Int} (hp : PsOk ps) (he : ∀ p ∈ ps, 0 ≤ p.Element ∧ p.Element < (l.length : Int)) (hn : 1 ≤ n ∧ n ≤ 1000000) {x : Piece} (hx : ps[ps.length - 1]? = some x) (hnx : n ≤ x.Length) : bE l ps true n = 0 := by
  unfold bE
  have h1 : ps.all (inB l) = true := by
    rw [List.all_eq_true]; exact fun p hp => decide_eq_true (he p hp).2
  have h2 : (bhs ps n).all nnB = true := by
    rw [List.all_eq_true]
    intro v hv
    unfold bhs at hv
    obtain ⟨i, hi, rfl⟩ := List.mem_map.1 hv
    exact decide_eq_true (clr_last hp hx hnx (by have := List.mem_range.1 hi; omega))
  rw [if_neg (by simp [vE_zero hp]), if_neg (by omega), if_pos ⟨rfl, h1⟩, if_pos h2]

/-! ### Approaches -/
theorem apE_ok {ps : List Piece} {n : Int} {x : Piece} (hp : PsOk ps) (hx : ps[ps.length - 1]? = some x) (hn : 1 ≤ n ∧ n ≤ x.Length) : apE ps n = (setL ps n, 0) := by
  have := (hp.ok x (sc_mem hx)).l
  unfold apE
  rw [if_neg (by simp [vE_zero hp]), if_neg (by omega), hx]
  dsimp only
  rw [if_neg (by omega)]
theorem Approaches_ok {t : List Int} {a : Int} (ht : t.length ≤ 9223372036854775807) : law22_OccupancyApproaches t a = some true := by
  refine Ok.eq (?_ : Ok _ _)
  unfold law22_OccupancyApproaches
  refine ok_bde (gen_New_ok t) ?_
  refine ok_bd (path22_ok (Mk0 ht (by decide))) fun v ⟨⟨tr, hw⟩, _, _, _, _⟩ => ?_
  obtain ⟨l, ps, z, c⟩ := v
  dsimp only at hw ⊢
  obtain ⟨hp, he⟩ := hw.ps
  obtain ⟨x, hx, x0, x1⟩ := hw.last
  have hl := hp.len
  rw [w64_eq (n := (ps.length : Int) - 1) (by omega)]
  have e : ((ps.length : Int) - 1).toNat = ps.length - 1 := by omega
  refine ok_vl fun x5 h5 => ?_
  subst h5
  refine ok_ixe (by omega) (by rw [e]; exact hx) ?_
  refine ok_bd (Place_ok (by omega)) fun n hn => ?_
  rw [w64_eq (n := 1 + n) (by omega)]
  refine ok_bde Approach_e ?_
  rw [apE_ok hp hx (by omega)]
  obtain ⟨g1, g2, g3⟩ := setL_get (n := 1 + n) hx (by omega)
  refine ok_if0 (fun h => h rfl) (ok_if0 (by simp [g1]) ?_)
  dsimp only
  refine ok_jp (fun _ => True) (fun _ _ => ?_) (fun kk hk => ?_)
  · refine ok_vl fun x15 h15 => ?_
    subst h15
    refine ok_ixe (by omega) (by rw [e]; exact hx) ?_
    rw [w64_eq (n := x.Length + 1) (by omega)]
    refine ok_bde Approach_e ?_
    have : apE ps (x.Length + 1) = ([], 14) := by
      unfold apE
      rw [if_neg (by simp [vE_zero hp]), if_neg (by omega), hx]
      dsimp only
      rw [if_pos (by omega)]
    rw [this]
    exact ok_if1 rfl (ok_bde sane22 (ok_some rfl))
  refine ok_lp (fun (z : Int) => 0 ≤ z) (fun z => ((ps.length : Int) - z).toNat) (Int.le_refl 0) (by simp only [big_eq]; omega) ?_
  intro i next i0 hnx
  refine ok_if (fun hi => ok_ix i0 hi fun y hy => ?_) (fun _ => hk _ trivial)
  have hgi : ∃ q : Piece, (setL ps (1 + n))[i.toNat]? = some q ∧ q.Element = y.Element ∧ q.Length = (if i = (ps.length : Int) - 1 then 1 + n else y.Length) ∧ q.Grade = y.Grade ∧ q.Curve = y.Curve ∧ q.Power = y.Power := by
    by_cases ei : i = (ps.length : Int) - 1
    · rw [if_pos ei]
      have : i.toNat = ps.length - 1 := by omega
      rw [this, hx] at hy
      cases hy
      exact ⟨⟨x.Element, 1 + n, x.Grade, x.Curve, x.Power⟩, by rw [this]; exact g2, rfl, rfl, rfl, rfl, rfl⟩
    · rw [if_neg ei]
      exact ⟨y, by rw [g3 _ (by omega)]; exact hy, rfl, rfl, rfl, rfl, rfl⟩
  obtain ⟨q, hq, q1, q2, q3, q4, q5⟩ := hgi
  refine ok_jp (fun (w : Int) => w = if i = (ps.length : Int) - 1 then 1 + n else y.Length) (fun w hw => ?_) (fun k2 hk2 => ?_)
  rotate_left
  · refine ok_vl fun x41 h41 => ?_
    subst h41
    exact ok_if (fun h => hk2 _ (by rw [if_pos h])) (fun h => hk2 _ (by rw [if_neg h]))
  rw [w64_eq (n := i + 1) (by omega)]
  have go : Ok (next (i + 1)) (fun v => v = true) := hnx _ (by omega) (by omega)
  refine ok_ixe i0 hq (ok_if0 (fun h => h ⟨q1, by rw [q2, hw], q3, q4, q5⟩) (ok_vl fun x39 h39 => ?_))
  subst h39
  refine ok_if (fun h => ?_) (fun _ => go)
  have hp2 := setL_ok (n := 1 + n) hp (by omega)
  refine ok_bde (Clear_e (by omega)) ?_
  rw [clE_eq hp2 (by omega) (by omega)]
  have := clr_last (n := 1 + n) hp2 (x := ⟨x.Element, 1 + n, x.Grade, x.Curve, x.Power⟩) (by rw [g1]; exact g2) (Int.le_refl _) (i := i.toNat) (by omega)
  rw [show ((i.toNat : Nat) : Int) = i from by omega] at this
  exact ok_if0 (by omega) go

/-! ### What passages are like -/
/-- Once slow, the time is cut off; and times grow till a stop. -/
structure Grow (p : List Passage) : Prop where
  s : ∀ q ∈ p, q.Stops = false → q.Slow = true → q.Time.Hi = 1000000000
  t : ∀ q ∈ p, q.Time.Hi ≤ 1000000000
  g : ∀ (i j : Nat) (a b : Passage), i ≤ j → p[i]? = some a → p[j]? = some b → b.Stops = false → a.Stops = false ∧ a.Time.Hi ≤ b.Time.Hi
theorem grow_cons {a : Passage} {p : List Passage} (h : Grow p) (hs : a.Slow = true → a.Time.Hi = 1000000000) (ht : a.Time.Hi ≤ 1000000000) (h0 : a.Stops = false) (hn : ∀ b ∈ p, b.Stops = false → a.Time.Hi ≤ b.Time.Hi) : Grow (a :: p) := by
  refine ⟨fun q hq => ?_, fun q hq => ?_, fun i j b c hij hb hc hcs => ?_⟩
  · rcases List.mem_cons.1 hq with rfl | hq
    · exact fun _ => hs
    · exact h.s q hq
  · rcases List.mem_cons.1 hq with rfl | hq
    · exact ht
    · exact h.t q hq
  · cases i with
    | zero =>
      simp only [List.getElem?_cons_zero, Option.some.injEq] at hb
      subst hb
      refine ⟨h0, ?_⟩
      cases j with
      | zero => simp only [List.getElem?_cons_zero, Option.some.injEq] at hc; subst hc; exact Int.le_refl _
      | succ j => exact hn c (sc_mem (by simpa using hc)) hcs
    | succ i =>
      cases j with
      | zero => omega
      | succ j => exact h.g i j b c (by omega) (by simpa using hb) (by simpa using hc) hcs
theorem grow_stops (n : Nat) : Grow (List.replicate n stopP) := by
  have all : ∀ q ∈ List.replicate n stopP, q = stopP := fun q hq => List.eq_of_mem_replicate hq
  refine ⟨fun q hq h => ?_, fun q hq => ?_, fun i j a b _ _ hb h => ?_⟩
  · rw [all q hq] at h; cases h
  · rw [all q hq]; decide
  · rw [all b (sc_mem hb)] at h; cases h
theorem psNext_time {p : Piece} {c : Interval} {tg err : Int} {s s' : RunoffState} (hl : 1 ≤ p.Length) (ht : s.ftime.Hi ≤ 1000000000) (h : psNext p c tg err s = some s') (hnn : 0 ≤ up (2000 * p.Length) (isq s.fenergy.Lo + isq (loE p c s)) ∨ SlowP p c s) :
    s.ftime.Hi ≤ s'.ftime.Hi ∧ s'.ftime.Hi ≤ 1000000000 ∧ (s'.fslow = true → s'.ftime.Hi = 1000000000) := by
  unfold psNext psStep at h
  split at h
  · cases h
  split at h
  · cases h
  simp only [Option.map_some, Option.some.injEq] at h
  subst h
  dsimp only
  by_cases hs : SlowP p c s
  · rw [if_pos hs]; exact ⟨ht, Int.le_refl _, fun _ => rfl⟩
  · rw [if_neg hs]
    have := hnn.resolve_right hs
    exact ⟨by omega, by omega, fun h => absurd (of_decide_eq_true h) hs⟩
theorem run_grow {err : Int} (he : 0 ≤ err ∧ err ≤ 1000) {ps : List Piece} : ∀ {cs : List Interval} {ts : List Int} {s : RunoffState} {i : Nat}, i + ps.length ≤ 200 → (∀ p ∈ ps, PieceOk p) → (∀ c ∈ cs, ClsOk c) → (∀ t ∈ ts, Tg t) → StOk s i → (s.fslow = true → s.ftime.Hi = 1000000000) →
    Grow (psRun err ps cs ts s) ∧ ∀ b ∈ psRun err ps cs ts s, b.Stops = false → s.ftime.Hi ≤ b.Time.Hi := by
  induction ps with
  | nil =>
    intro cs ts s i _ _ _ _ _ _
    unfold psRun
    exact ⟨⟨fun q h => by (cases h), fun q h => by (cases h), fun i j a b _ ha => by simp at ha⟩, fun b h => by (cases h)⟩
  | cons p ps ih =>
    intro cs ts s i hi hp hc ht hs hsl
    have hpo := hp p (List.mem_cons_self ..)
    have hco : ClsOk (cs.headD ⟨0, 0⟩) := all_head hc (by decide)
    have htg : Tg (tgOf p ts) := by
      unfold tgOf
      split
      · exact all_head ht (by decide)
      · exact ⟨by decide, by decide⟩
    have htt : ∀ t ∈ tsOf p ts, Tg t := by
      unfold tsOf
      split
      · exact all_tail ht
      · exact ht
    cases hn : psNext p (cs.headD ⟨0, 0⟩) (tgOf p ts) err s with
    | none =>
      rw [psRun_none hn]
      refine ⟨grow_stops _, fun b hb h => ?_⟩
      rw [List.eq_of_mem_replicate hb] at h; cases h
    | some s' =>
      have hso := psNext_ok hpo hco htg he hs hn
      simp only [List.length_cons] at hi
      obtain ⟨e0, e1, e2, t0, t1, t2⟩ := hs
      have hw := cls_wr hco
      have hg := gd_bd hpo hw.2
      have hlo : 0 ≤ loE p (cs.headD ⟨0, 0⟩) s ∧ loE p (cs.headD ⟨0, 0⟩) s ≤ 1000000000000 := by unfold loE; omega
      have r1 := isu_le (n := s.fenergy.Lo) e0 (by omega)
      have r2 := isu_le hlo.1 hlo.2
      have hl := hpo.l
      have hnn : 0 ≤ up (2000 * p.Length) (isq s.fenergy.Lo + isq (loE p (cs.headD ⟨0, 0⟩) s)) ∨ SlowP p (cs.headD ⟨0, 0⟩) s := by
        by_cases hz : isq s.fenergy.Lo + isq (loE p (cs.headD ⟨0, 0⟩) s) = 0
        · exact .inr (.inr (.inr hz))
        · exact .inl (up_nn (by omega) (by omega)).1
      obtain ⟨q1, q2, q3⟩ := psNext_time hl.1 t2 hn hnn
      obtain ⟨g1, g2⟩ := ih (cs := cs.tail) (ts := tsOf p ts) (s := s') (i := i + 1) (by omega) (fun q hq => hp q (List.mem_cons_of_mem _ hq)) (all_tail hc) htt hso q3
      rw [psRun_some hn]
      refine ⟨grow_cons g1 q3 q2 rfl g2, fun b hb h => ?_⟩
      rcases List.mem_cons.1 hb with rfl | hb
      · exact q1
      · have := g2 b hb h; omega
theorem all_grow {ps : List Piece} {m : Motion} (hp : PsOk ps) (hm : MotOk ps m) : Grow (psAll ps m) := by
  have hl := hp.len
  obtain ⟨g1, g2⟩ := run_grow hm.err (i := 0) (by omega) hp.ok hm.c hm.t (ps0_ok hm) (fun h => by cases h)
  exact grow_cons g1 (fun h => by cases h) (by show (0 : Int) ≤ 1000000000; decide) rfl g2
theorem psOut_eq {ps : List Piece} {m : Motion} (hp : PsOk ps) (hm : MotOk ps m) : psOut ps m = (psAll ps m, 0) := by
  have h1 : mE ps m = 0 := by
    obtain ⟨sp, cl, c, er, tg, t⟩ := hm
    have q1 : m.Class.all Go.Hy.cB = true := by
      rw [List.all_eq_true]; intro x hx; have := c x hx; exact decide_eq_true (by omega)
    have q2 : m.Class.all dB = true := by
      rw [List.all_eq_true]; intro x hx; have := c x hx; exact decide_eq_true (by omega)
    have q3 : m.Targets.all tB = true := by
      rw [List.all_eq_true]; intro x hx; exact decide_eq_true (t x hx)
    unfold mE
    rw [if_pos ⟨by omega, cl, tg, q1⟩, if_pos ⟨q2, by omega, q3⟩]
  unfold psOut
  rw [if_neg (by simp [vE_zero hp]), if_neg (by simp [h1])]
theorem ptOut_eq {ps : List Piece} {r : Run} (hp : PsOk ps) (hr : RunOk ps r) : ptOut ps r = (ptAll ps r, ptStop ps r, 0) := by
  obtain ⟨h1, h2, h3, h4, h5⟩ := hr
  refine ptOut3 (vE_zero hp) ⟨h1, h2⟩ ⟨?_, h3, ?_⟩
  · rw [List.all_eq_true]; intro x hx; exact decide_eq_true (h4 x hx)
  · rw [List.all_eq_true]; intro x hx; exact decide_eq_true (h5 x hx)
theorem bent {ps : List Piece} (h : PsOk ps) : Bent ps := fun p hp => (h.ok p hp).c

/-! ### Grows -/
theorem toP2_mono {p : List Passage} (h : Grow p) {i j : Int} (hi : 0 ≤ i) (hij : i ≤ j) (hj : j < p.length) : toP2 p i ≤ toP2 p j := by
  have ha : p[i.toNat]? = some p[i.toNat] := List.getElem?_eq_getElem (by omega)
  have hb : p[j.toNat]? = some p[j.toNat] := List.getElem?_eq_getElem (by omega)
  generalize p[i.toNat] = a at ha
  generalize p[j.toNat] = b at hb
  unfold toP2
  rw [ha, hb]
  dsimp only
  have ta := h.t a (sc_mem ha)
  by_cases hbs : b.Stops = true
  · rw [if_pos hbs]
    split <;> omega
  · have := h.g i.toNat j.toNat a b (by omega) ha hb (by simpa using hbs)
    rw [if_neg hbs, if_neg (by rw [this.1]; decide)]
    exact this.2
/-- Two rows that stop together. -/
theorem rows_two {R : Span → Span → Prop} {f g : Nat → Option Span} (h : ∀ i, (f i = none ↔ g i = none)) : ∀ (k i : Nat), (∀ j s t, i ≤ j → j < i + k → f j = some s → g j = some t → R s t) → L2 R (rows f k i) (rows g k i) := by
  intro k
  induction k with
  | zero => intro i _; exact .nil
  | succ k ih =>
    intro i hR
    cases hf : f i with
    | none => rw [rows_none hf, rows_none ((h i).1 hf)]; exact .nil
    | some s =>
      cases hg : g i with
      | none => rw [(h i).2 hg] at hf; cases hf
      | some t =>
        rw [rows_some hf, rows_some hg]
        exact .cons (hR i s t (Nat.le_refl _) (by omega) hf hg) (ih (i + 1) fun j s t h1 h2 => hR j s t (by omega) (by omega))
theorem rows_get {f : Nat → Option Span} : ∀ (k i j : Nat) (s : Span), (rows f k i)[j]? = some s → f (i + j) = some s ∧ j < k := by
  intro k
  induction k with
  | zero => intro i j s h; simp [rows] at h
  | succ k ih =>
    intro i j s h
    cases hf : f i with
    | none => rw [rows_none hf] at h; simp at h
    | some t =>
      rw [rows_some hf] at h
      cases j with
      | zero => simp only [List.getElem?_cons_zero, Option.some.injEq] at h; subst h; exact ⟨hf, by omega⟩
      | succ j =>
        have := ih (i + 1) j s (by simpa using h)
        rw [show i + (j + 1) = i + 1 + j from by omega]
        exact ⟨this.1, by omega⟩
theorem rows_len {f : Nat → Option Span} : ∀ (k i : Nat), (rows f k i).length ≤ k := by
  intro k
  induction k with
  | zero => intro i; simp [rows]
  | succ k ih =>
    intro i
    cases hf : f i with
    | none => rw [rows_none hf]; simp
    | some t => rw [rows_some hf, List.length_cons]; have := ih (i + 1); omega
theorem Grows_ok {t : List Int} {a b : Int} (ht : t.length ≤ 9223372036854775807) : law22_OccupancyGrows t a b = some true := by
  refine Ok.eq (?_ : Ok _ _)
  unfold law22_OccupancyGrows
  refine ok_bde (gen_New_ok t) ?_
  refine ok_bd (path22_ok (Mk0 ht (by decide))) fun v ⟨⟨tr, hw⟩, _, _, c0, c1⟩ => ?_
  obtain ⟨l, ps, z, c⟩ := v
  dsimp only at hw c0 c1 ⊢
  obtain ⟨hp, he⟩ := hw.ps
  obtain ⟨x, hx, x0, x1⟩ := hw.last
  have hl := hp.len
  rw [w64_eq (n := (ps.length : Int) - 1) (by omega)]
  have e : ((ps.length : Int) - 1).toNat = ps.length - 1 := by omega
  refine ok_vl fun x5 h5 => ?_
  subst h5
  refine ok_ixe (by omega) (by rw [e]; exact hx) ?_
  refine ok_bd (Place_ok (by omega)) fun n hn => ok_bd (Place_ok (by omega)) fun m hm => ?_
  rw [w64_eq (n := 1 + n) (by omega), w64_eq (n := 1 + m) (by omega)]
  refine ok_jp (fun (z : Int × Int) => 1 ≤ z.1 ∧ z.1 ≤ z.2 ∧ z.2 ≤ x.Length) (fun z hz => ?_) (fun kk hk => ?_)
  rotate_left
  · exact ok_if (fun h => hk _ ⟨by dsimp only; omega, by dsimp only; omega, by dsimp only; omega⟩) (fun h => hk _ ⟨by dsimp only; omega, by dsimp only; omega, by dsimp only; omega⟩)
  obtain ⟨n1, n2⟩ := z
  dsimp only at hz ⊢
  refine ok_bde rApproach_e ?_
  rw [apE_ok hp hx (by omega)]
  dsimp only
  obtain ⟨g1, g2, g3⟩ := setL_get (n := x.Length) hx (by omega)
  have hp2 := setL_ok (n := x.Length) hp (by omega)
  have he2 := setL_el (n := x.Length) hp he
  generalize setL ps x.Length = qs at g1 g2 g3 hp2 he2
  rw [← g1] at g2
  refine ok_bd (Motion_ok (k := HumpgenMaker.mk t c) ⟨c0, by dsimp only; omega, ht⟩ (bent hp2) (by omega)) fun v ⟨hmo, _, _, _, _, c2, c3⟩ => ?_
  obtain ⟨mo, cm⟩ := v
  dsimp only at hmo c2 c3 ⊢
  refine ok_bde rPass_e ?_
  rw [psOut_eq hp2 hmo]
  dsimp only
  have hpl := psAll_len (ps := qs) (m := mo)
  have hgr := all_grow hp2 hmo
  generalize psAll qs mo = p at hpl hgr
  have hb1 := Chk.mk' (n := n1) hp2 he2 (by omega) g2 (by dsimp only; omega)
  have hb2 := Chk.mk' (n := n2) hp2 he2 (by omega) g2 (by dsimp only; omega)
  refine ok_bde (Spans_e (by omega)) (ok_bde (Spans_e (by omega)) ?_)
  have ed : decide (p.length = qs.length + 1) = true := decide_eq_true hpl
  have s1 : spE l qs p n1 = (rows (spF l qs p n1) (qs.length - 1) 0, 0) := by unfold spE; rw [ed, if_neg (fun h => h hb1)]
  have s2 : spE l qs p n2 = (rows (spF l qs p n2) (qs.length - 1) 0, 0) := by unfold spE; rw [ed, if_neg (fun h => h hb2)]
  rw [s1, s2]
  have hch := (bE_ok hb2).1
  have hch1 := (bE_ok hb1).1
  have h2 : L2 (fun s t : Span => s.Element = t.Element ∧ s.From = t.From ∧ s.To ≤ t.To ∧ s.Side = t.Side) (rows (spF l qs p n1) (qs.length - 1) 0) (rows (spF l qs p n2) (qs.length - 1) 0) := by
    refine rows_two (fun i => ?_) _ _ fun j s t _ hj hs ht => ?_
    · unfold spF
      cases p[i]? with
      | none => exact ⟨fun h => rfl, fun h => rfl⟩
      | some q =>
        dsimp only
        by_cases h : q.Stops = true
        · simp only [if_pos h]
        · rw [if_neg h, if_neg h]; exact ⟨fun h => (by cases h), fun h => (by cases h)⟩
    · unfold spF at hs ht
      cases hq : p[j]? with
      | none => rw [hq] at hs; cases hs
      | some q =>
        rw [hq] at hs ht
        dsimp only at hs ht
        by_cases h : q.Stops = true
        · rw [if_pos h] at hs; cases hs
        · rw [if_neg h] at hs ht
          obtain rfl := Option.some.inj hs
          obtain rfl := Option.some.inj ht
          have hc1 := hch1.c j (by omega)
          have hc2 := hch.c j (by omega)
          have hmn := clN_mono (a := n1) (b := n2) (by omega) (fun p hp => (hp2.ok p hp).l.1) (qs.length + 1) j 0 (by omega) (by omega) (by show 0 ≤ clr qs j n2; omega)
          have hmn2 : clr qs j n1 ≤ clr qs j n2 := hmn.2
          exact ⟨rfl, rfl, toP2_mono hgr (by omega) (by omega) (by omega), rfl⟩
  have hlen := h2.len
  refine ok_if0 (fun h => h rfl) (ok_if0 (fun h => h rfl) (ok_if0 (by simp [hlen]) ?_))
  dsimp only
  have hrl := rows_len (f := spF l qs p n1) (qs.length - 1) 0
  refine ok_lp (fun (z : Int) => 0 ≤ z) (fun z => (((rows (spF l qs p n1) (qs.length - 1) 0).length : Int) - z).toNat) (Int.le_refl 0) (by simp only [big_eq]; omega) ?_
  intro i next i0 hnx
  have hl2 := hp2.len
  refine ok_if (fun hi => ok_ix i0 hi fun s hs => ?_) (fun _ => ok_bde sane22 (ok_some rfl))
  obtain ⟨hf, hik⟩ := rows_get _ _ _ _ hs
  have hit : i.toNat < (rows (spF l qs p n2) (qs.length - 1) 0).length := by rw [← hlen]; exact sc_lt hs
  have htt := List.getElem?_eq_getElem hit
  generalize (rows (spF l qs p n2) (qs.length - 1) 0)[i.toNat] = u at htt
  obtain ⟨r1, r2, r3, r4⟩ := h2.get _ s u hs htt
  refine ok_ix i0 (by omega) fun pc hpc => ?_
  have hel : s.Element = pc.Element := by
    rw [Nat.zero_add] at hf
    unfold spF at hf
    cases hq : p[i.toNat]? with
    | none => rw [hq] at hf; cases hf
    | some q =>
      rw [hq] at hf
      dsimp only at hf
      by_cases h : q.Stops = true
      · rw [if_pos h] at hf; cases hf
      · rw [if_neg h] at hf
        obtain rfl := Option.some.inj hf
        unfold elOf
        rw [hpc]
  rw [w64_eq (n := i + 1) (by omega)]
  refine ok_if0 (fun h => h hel) (ok_ixe i0 hs (ok_ixe i0 htt (ok_if0 (fun h => h r1) (ok_ixe i0 hs (ok_ixe i0 htt (ok_if0 (fun h => h r2) (ok_ixe i0 hs (ok_ixe i0 htt (ok_if0 (by omega) (ok_ixe i0 hs (ok_ixe i0 htt (ok_if0 (fun h => h r4) ?_))))))))))))
  exact hnx _ (by omega) (by omega)

/-! ### Contains -/
theorem rows_sub {R : Span → Span → Prop} {f g : Nat → Option Span} : ∀ (k i : Nat), (∀ j s, i ≤ j → j < i + k → f j = some s → ∃ t, g j = some t ∧ R s t) → (rows f k i).length ≤ (rows g k i).length ∧ ∀ (j : Nat) s t, (rows f k i)[j]? = some s → (rows g k i)[j]? = some t → R s t := by
  intro k
  induction k with
  | zero => intro i _; exact ⟨Nat.le_refl _, fun j s t h => by simp [rows] at h⟩
  | succ k ih =>
    intro i hR
    cases hf : f i with
    | none => rw [rows_none hf]; exact ⟨by simp, fun j s t h => by simp at h⟩
    | some s =>
      obtain ⟨t, hg, hr⟩ := hR i s (Nat.le_refl _) (by omega) hf
      obtain ⟨h1, h2⟩ := ih (i + 1) fun j s h1 h2 => hR j s (by omega) (by omega)
      rw [rows_some hf, rows_some hg]
      refine ⟨by simp; omega, fun j a b ha hb => ?_⟩
      cases j with
      | zero =>
        simp only [List.getElem?_cons_zero, Option.some.injEq] at ha hb
        subst ha hb; exact hr
      | succ j => exact h2 j a b (by simpa using ha) (by simpa using hb)
theorem Inside_true {a b : List Span} (hl : a.length ≤ b.length) (hb : b.length ≤ 1000000000) (h : ∀ (j : Nat) s t, a[j]? = some s → b[j]? = some t → s.Element = t.Element ∧ s.Side = t.Side ∧ t.From ≤ s.From ∧ s.To ≤ t.To) : occupancy_Inside a b = some true := by
  refine Ok.eq (?_ : Ok _ _)
  unfold occupancy_Inside
  refine ok_if0 (by omega) ?_
  refine ok_lp (fun (z : Int) => 0 ≤ z) (fun z => ((a.length : Int) - z).toNat) (Int.le_refl 0) (by simp only [big_eq]; omega) ?_
  intro i next i0 hnx
  refine ok_if (fun hi => ok_ix i0 hi fun s hs => ok_ix i0 (by omega) fun t ht => ?_) (fun _ => ok_some rfl)
  obtain ⟨h1, h2, h3, h4⟩ := h _ s t hs ht
  rw [w64_eq (n := i + 1) (by omega)]
  exact ok_if0 (fun h => h h1) (ok_if0 (fun h => h h2) (ok_if0 (by omega) (ok_if0 (by omega) (hnx _ (by omega) (by omega)))))
theorem RIn.len {l : List Moment} {m : List Passage} (h : RIn l m) : l.length ≤ m.length := by
  induction h <;> simp_all
theorem Contains_ok {t : List Int} {a : Int} (ht : t.length ≤ 9223372036854775807) : law22_OccupancyContains t a = some true := by
  refine Ok.eq (?_ : Ok _ _)
  unfold law22_OccupancyContains
  refine ok_bde (gen_New_ok t) ?_
  refine ok_bd (path22_ok (Mk0 ht (by decide))) fun v ⟨⟨tr, hw⟩, _, _, c0, c1⟩ => ?_
  obtain ⟨l, ps, z, c⟩ := v
  dsimp only at hw c0 c1 ⊢
  obtain ⟨hp, he⟩ := hw.ps
  obtain ⟨x, hx, x0, x1⟩ := hw.last
  have hl := hp.len
  rw [w64_eq (n := (ps.length : Int) - 1) (by omega)]
  have e : ((ps.length : Int) - 1).toNat = ps.length - 1 := by omega
  refine ok_vl fun x5 h5 => ?_
  subst h5
  refine ok_ixe (by omega) (by rw [e]; exact hx) ?_
  refine ok_bd (Place_ok (by omega)) fun n hn => ?_
  rw [w64_eq (n := 1 + n) (by omega)]
  generalize hnn : 1 + n = n1
  refine ok_bde Approach_e ?_
  rw [apE_ok hp hx (by omega)]
  refine ok_if0 (fun h => h rfl) ?_
  dsimp only
  obtain ⟨g1, g2, g3⟩ := setL_get (n := n1) hx (by omega)
  have hp2 := setL_ok (n := n1) hp (by omega)
  have he2 := setL_el (n := n1) hp he
  generalize setL ps n1 = qs at g1 g2 g3 hp2 he2
  rw [← g1] at g2
  have hl2 := hp2.len
  have hnr := nret_le qs
  refine ok_bd (Motion_ok (k := HumpgenMaker.mk t c) ⟨c0, by dsimp only; omega, ht⟩ (bent hp2) (by omega)) fun v ⟨hmo, _, _, _, _, c2, c3⟩ => ?_
  obtain ⟨mo, cm⟩ := v
  dsimp only at hmo c2 c3 ⊢
  refine ok_bde rPass_e ?_
  rw [psOut_eq hp2 hmo]
  dsimp only
  have hpl := psAll_len (ps := qs) (m := mo)
  have hgr := all_grow hp2 hmo
  have hb1 := Chk.mk' (n := n1) hp2 he2 (by omega) g2 (by dsimp only; omega)
  have hch := (bE_ok hb1).1
  refine ok_bde (Spans_e (by omega)) ?_
  have ed : decide ((psAll qs mo).length = qs.length + 1) = true := decide_eq_true hpl
  have s1 : spE l qs (psAll qs mo) n1 = (rows (spF l qs (psAll qs mo) n1) (qs.length - 1) 0, 0) := by unfold spE; rw [ed, if_neg (fun h => h hb1)]
  rw [s1]
  dsimp only
  refine ok_lp (fun (z : Int × Int) => 0 ≤ z.2 ∧ cm ≤ z.1 ∧ z.1 ≤ cm + 1000 * z.2) (fun z => (3 - z.2).toNat) ⟨Int.le_refl 0, Int.le_refl _, by dsimp only; omega⟩ (by simp only [big_eq]; omega) ?_
  rintro ⟨d, i⟩ next ⟨i0, d0, d1⟩ hnx
  dsimp only at i0 d0 d1 ⊢
  refine ok_if (fun hi => ?_) (fun _ => ok_bde sane22 (ok_some rfl))
  refine ok_bd (Run_ok (k := HumpgenMaker.mk t d) ⟨by dsimp only; omega, by dsimp only; omega, ht⟩ hmo (by omega)) fun v ⟨hr, hri, c4, c5⟩ => ?_
  obtain ⟨r, cr⟩ := v
  dsimp only at hr hri c4 c5 ⊢
  refine ok_bde rPoint_e ?_
  rw [ptOut_eq hp2 hr]
  dsimp only
  have hin := all_in hp2 hmo hr hri
  have hml := hin.len
  have hm1 : 1 ≤ (ptAll qs r).length := by unfold ptAll; simp
  refine ok_bde (Exact_e (by omega)) ?_
  have ed2 : decide (1 ≤ (ptAll qs r).length ∧ (ptAll qs r).length ≤ qs.length + 1) = true := decide_eq_true (by omega)
  have s2 : exE l qs (ptAll qs r) n1 = (rows (exF l qs (ptAll qs r) n1) (qs.length - 1) 0, 0) := by unfold exE; rw [ed2, if_neg (fun h => h hb1)]
  rw [s2]
  refine ok_if0 (fun h => h rfl) (ok_if0 (fun h => h rfl) ?_)
  dsimp only
  have hsub := rows_sub (R := fun s t : Span => s.Element = t.Element ∧ s.Side = t.Side ∧ t.From ≤ s.From ∧ s.To ≤ t.To) (f := exF l qs (ptAll qs r) n1) (g := spF l qs (psAll qs mo) n1) (qs.length - 1) 0 fun j s _ hj hs => by
    unfold exF at hs
    cases hq : (ptAll qs r)[j]? with
    | none => rw [hq] at hs; cases hs
    | some y =>
      rw [hq] at hs
      obtain rfl := Option.some.inj hs
      have hjl : j < (psAll qs mo).length := by omega
      have hpq := List.getElem?_eq_getElem hjl
      generalize (psAll qs mo)[j] = q at hpq
      have hyq := hin.get j y q hq hpq
      refine ⟨Span.mk (elOf qs j) (sdOf l qs j) q.Time.Lo (toP2 (psAll qs mo) (clr qs j n1 + 1)), by unfold spF; rw [hpq]; dsimp only; rw [if_neg (by rw [hyq.s]; decide)], rfl, rfl, hyq.t.2.1, ?_⟩
      have hc1 := hch.c j (by omega)
      have hkl : (clr qs j n1 + 1).toNat < (psAll qs mo).length := by omega
      have hpk := List.getElem?_eq_getElem hkl
      generalize (psAll qs mo)[(clr qs j n1 + 1).toNat] = w at hpk
      have hwt := hgr.t w (sc_mem hpk)
      unfold toM toP2
      rw [hpk]
      dsimp only
      cases hmk : (ptAll qs r)[(clr qs j n1 + 1).toNat]? with
      | none =>
        dsimp only
        have := hin.rest _ w (by rw [List.getElem?_eq_none_iff] at hmk; exact hmk) hpk
        by_cases hws : w.Stops = true
        · rw [if_pos hws]; exact Int.le_refl _
        · rw [if_neg hws, hgr.s w (sc_mem hpk) (by simpa using hws) (this.resolve_left hws)]; exact Int.le_refl _
      | some y2 =>
        dsimp only
        have h2 := hin.get _ y2 w hmk hpk
        rw [if_neg (by rw [h2.s]; decide)]
        exact h2.t.2.2
  have hrl := rows_len (f := spF l qs (psAll qs mo) n1) (qs.length - 1) 0
  refine ok_bde (Inside_true hsub.1 (by omega) hsub.2) (ok_nb (fun h => by cases h) fun _ => ?_)
  rw [w64_eq (n := i + 1) (by omega)]
  exact hnx _ ⟨by dsimp only; omega, by dsimp only; omega, by dsimp only; omega⟩ (by dsimp only; omega)
end Go.Hy
