/-
  The law TopSections: behind each moment of a run exactly the next section is occupied.
-/
import Derived.Test.YtdgminllobhncaaGreatPMot
import Derived.Test.YtdgminllobhncaaGreatPPoint
namespace Go.Hy
set_option linter.unusedVariables false
set_option linter.unusedSimpArgs false
set_option maxHeartbeats 2000000
set_option maxRecDepth 10000
open Go.Hy.Iv

/-! ### The moments of a run -/
theorem ptStep_time {p : Piece} {w tg : Int} {x y : Moment} {i : Nat} (hp : PieceOk p) (hx : MomOk x i) (h : ptStep p w tg x = some y) : x.Time ≤ y.Time := by
  unfold ptStep at h
  split at h
  · cases h
  split at h
  · cases h
  rename_i h1 h2
  obtain ⟨e0, e1, t0, t1⟩ := hx
  have q1 := (isq_spec e0).1
  have q2 := (isq_spec (n := x.Energy + gd p w) (by omega)).1
  have hu := up_nn (x := 2000 * p.Length) (d := isq x.Energy + isq (x.Energy + gd p w)) (by have := hp.l; omega) (by omega)
  simp only [Option.some.injEq] at h
  subst h
  dsimp only
  omega
/-- Times that grow, from 0 to 1000000000. -/
structure Tms (l : List Moment) : Prop where
  rng : ∀ (j : Nat) a, l[j]? = some a → 0 ≤ a.Time ∧ a.Time ≤ 1000000000
  up : ∀ (j : Nat) a b, l[j]? = some a → l[j + 1]? = some b → a.Time ≤ b.Time
theorem Tms.cons {x y : Moment} {l : List Moment} (h : Tms (y :: l)) (hx : 0 ≤ x.Time ∧ x.Time ≤ y.Time) : Tms (x :: y :: l) := by
  have hy := h.rng 0 y rfl
  refine ⟨fun j a ha => ?_, fun j a b ha hb => ?_⟩
  · cases j with
    | zero => cases ha; omega
    | succ j => exact h.rng j a (by simpa using ha)
  · cases j with
    | zero => cases ha; cases hb; exact hx.2
    | succ j => exact h.up j a b (by simpa using ha) (by simpa using hb)
theorem ptRun_tms : ∀ {ps : List Piece} {ws ts : List Int} {x : Moment} {i : Nat}, (∀ p ∈ ps, PieceOk p) → (∀ v ∈ ws, Wr v) → MomOk x i → Tms (x :: ptRun ps ws ts x) ∧ (ptRun ps ws ts x).length ≤ ps.length
  | [], ws, ts, x, i, hp, hw, hx => by
    refine ⟨⟨fun j a ha => ?_, fun j a b ha hb => ?_⟩, by simp [ptRun]⟩
    · cases j with
      | zero => cases ha; exact ⟨hx.t0, hx.t1⟩
      | succ j => simp [ptRun] at ha
    · simp [ptRun] at hb
  | p :: ps, ws, ts, x, i, hp, hw, hx => by
    cases hs : ptStep p (ws.headD 0) (tgOf p ts) x with
    | none =>
      rw [ptRun_none hs]
      refine ⟨⟨fun j a ha => ?_, fun j a b ha hb => ?_⟩, by simp⟩
      · cases j with
        | zero => cases ha; exact ⟨hx.t0, hx.t1⟩
        | succ j => simp at ha
      · simp at hb
    | some y =>
      rw [ptRun_some hs]
      have hpp := hp p List.mem_cons_self
      have hwh : Wr (ws.headD 0) := by
        cases ws with
        | nil => unfold Wr; simp
        | cons a l => exact hw a List.mem_cons_self
      have ih := ptRun_tms (ps := ps) (ws := ws.tail) (ts := tsOf p ts) (x := y) (fun q hq => hp q (List.mem_cons_of_mem _ hq)) (fun v hv => hw v (List.mem_of_mem_tail hv)) (ptStep_ok hpp hwh hx hs)
      exact ⟨ih.1.cons ⟨hx.t0, ptStep_time hpp hx hs⟩, by simp only [List.length_cons]; have := ih.2; omega⟩
theorem ptAll_tms {ps : List Piece} {r : Run} (hp : PsOk ps) (hr : RunOk ps r) : Tms (ptAll ps r) ∧ 1 ≤ (ptAll ps r).length ∧ (ptAll ps r).length ≤ ps.length + 1 := by
  have hsp := hr.sp
  have h2 := sq_bd (v := r.Speed) (by omega)
  have h3 : r.Speed * r.Speed ≤ 400000000 := sq_le (b := 20000) hsp.1 hsp.2
  have := ptRun_tms (ps := ps) (ws := r.Resist) (ts := r.Targets) (x := pt0 r) (i := 0) hp.ok hr.w ⟨h2.1, by unfold pt0; dsimp only; omega, Int.le_refl 0, by unfold pt0; dsimp only; omega⟩
  refine ⟨this.1, ?_, ?_⟩
  · unfold ptAll; simp
  · unfold ptAll; simp only [List.length_cons]; have := this.2; omega

/-! ### The sections of a chain -/
def chn : Nat → List Border
  | 0 => []
  | n + 1 => chn n ++ [Border.mk n n 1, Border.mk n (n + 1) (-1)]
theorem chn_len : ∀ n, (chn n).length = 2 * n
  | 0 => rfl
  | n + 1 => by rw [chn, List.length_append, chn_len n]; simp; omega
theorem Chain_ok {k : HumpgenMaker} {n : Nat} (hn : n ≤ 100) : gen_Maker_Chain k (n : Int) = some (chn n, k.fn) := by
  refine Ok.eq (?_ : Ok _ _)
  unfold gen_Maker_Chain
  refine ok_lp (fun (z : List Border × Int) => 0 ≤ z.2 ∧ z.2 ≤ n ∧ z.1 = chn z.2.toNat) (fun z => ((n : Int) - z.2).toNat) ⟨Int.le_refl 0, by dsimp only; omega, rfl⟩ (by simp only [big_eq]; omega) ?_
  rintro ⟨l, i⟩ next ⟨i0, i1, i2⟩ hn'
  dsimp only at i0 i1 i2 ⊢
  subst i2
  refine ok_if (fun hi => ?_) (fun hi => ?_)
  · refine ok_ck (by rw [chn_len]; simp; omega) (ok_vl fun y hy => ?_)
    subst hy
    rw [w64_eq (by omega)]
    refine hn' _ ⟨by dsimp only; omega, by dsimp only; omega, ?_⟩ (by dsimp only; omega)
    dsimp only
    rw [show (i + 1).toNat = i.toNat + 1 from by omega, chn]
    have e : ((i.toNat : Nat) : Int) = i := by omega
    rw [e]
  · have e : i.toNat = n := by omega
    rw [e]
    exact ok_some rfl
theorem chn_valid : (List.range 9).all (fun n => section_Valid (chn n) == some 0) = true := by kernel_rfl
def smap : List Border → List (SectionPlace × Int) → List (SectionPlace × Int)
  | [], m => m
  | b :: l, m => smap l (sput (SectionPlace.mk b.Section b.Detector) b.Sense m)
theorem smap_app : ∀ (l : List Border) (b : Border) (m : List (SectionPlace × Int)), smap (l ++ [b]) m = sput (SectionPlace.mk b.Section b.Detector) b.Sense (smap l m)
  | [], b, m => rfl
  | a :: l, b, m => by simp only [List.cons_append, smap, smap_app l b]
/-- The sense of a detector at a section. -/
def sens (s d : Int) : Int := if d = s then 1 else if d = s + 1 then -1 else 0
theorem chn_sens : (List.range 9).all (fun n => (List.range n).all fun s => (List.range 10).all fun d => sget (SectionPlace.mk s d) (smap (chn n) []) == sens s d) = true := by kernel_rfl
theorem sens_ok {n s d : Nat} (hn : n ≤ 8) (hs : s < n) (hd : d ≤ 9) : sget (SectionPlace.mk s d) (smap (chn n) []) = sens s d := by
  have h := chn_sens
  rw [List.all_eq_true] at h
  have h1 := h n (List.mem_range.2 (by omega))
  rw [List.all_eq_true] at h1
  have h2 := h1 s (List.mem_range.2 hs)
  rw [List.all_eq_true] at h2
  exact eq_of_beq (h2 d (List.mem_range.2 (by omega)))

/-! ### Pulses -/
/-- One pulse at each detector, one behind the other. -/
structure PsP (p : List Pulse) (k : Nat) : Prop where
  len : p.length = k
  at_ : ∀ (j : Nat) x, p[j]? = some x → x.Detector = j ∧ x.Direction = 1 ∧ 0 ≤ x.Time ∧ x.Time ≤ 1000000000
  up : ∀ (j : Nat) a b, p[j]? = some a → p[j + 1]? = some b → a.Time ≤ b.Time
theorem PsP.snoc {p : List Pulse} {k : Nat} (h : PsP p k) {t : Int} (ht : 0 ≤ t ∧ t ≤ 1000000000) (hl : ∀ j a, p[j]? = some a → j + 1 = k → a.Time ≤ t) : PsP (p ++ [Pulse.mk k t 1]) (k + 1) := by
  have hlen := h.len
  refine ⟨by simp [hlen], fun j x hx => ?_, fun j a b ha hb => ?_⟩
  · rw [List.getElem?_append] at hx
    split at hx
    · exact h.at_ j x hx
    · have hj : j - p.length = 0 := by
        rcases Nat.eq_zero_or_pos (j - p.length) with h0 | h0
        · exact h0
        · rw [List.getElem?_eq_none (by simp; omega)] at hx; cases hx
      rw [hj] at hx
      cases hx
      exact ⟨by dsimp only; omega, rfl, ht.1, ht.2⟩
  · have hb1 := (List.getElem?_eq_some_iff.1 hb).1
    simp only [List.length_append, List.length_cons, List.length_nil] at hb1
    rw [List.getElem?_append_left (by omega)] at ha
    rw [List.getElem?_append] at hb
    split at hb
    · exact h.up j a b ha hb
    · have hj : j + 1 - p.length = 0 := by omega
      rw [hj] at hb
      cases hb
      exact hl j a ha (by omega)
theorem dvalid_ok {p : List Pulse} {k : Nat} (h : PsP p k) (hk : k ≤ 30) : detector_Valid p = some 0 := by
  have hlen := h.len
  refine Ok.eq (?_ : Ok _ _)
  unfold detector_Valid
  refine ok_if0 (by omega) ?_
  refine ok_lp (fun (z : Int) => 0 ≤ z) (fun z => ((p.length : Int) - z).toNat) (Int.le_refl 0) (by simp only [big_eq]; omega) ?_
  intro i next i0 hn
  refine ok_if (fun hi => ?_) (fun _ => ok_some rfl)
  refine ok_ix i0 hi fun x hx => ?_
  obtain ⟨h1, h2, h3, h4⟩ := h.at_ _ x hx
  refine ok_jp (fun _ => True) (fun _ _ => ?_) (fun kk hk' => ?_)
  · refine ok_if (fun hp => ?_) (fun _ => ?_)
    · rw [w64_eq (n := i - 1) (by omega)]
      refine ok_ix (by omega) (by omega) fun y hy => ?_
      have := h.up (i - 1).toNat y x hy (by rw [show (i - 1).toNat + 1 = i.toNat from by omega]; exact hx)
      refine ok_if0 (by omega) ?_
      rw [w64_eq (by omega)]
      exact hn _ (by omega) (by omega)
    · rw [w64_eq (by omega)]
      exact hn _ (by omega) (by omega)
  · refine ok_if0 (by omega) (ok_if0 (by omega) (ok_if0 (by omega) (ok_if0 (by omega) (ok_if0 (by omega) (hk' _ trivial)))))
theorem sin_ok {s : Int} (h : 0 ≤ s ∧ s < 32) : section_in s = some true := by
  refine Ok.eq (?_ : Ok _ _)
  unfold section_in
  exact ok_if1 h.1 (ok_some (by simp; omega))
theorem check_ok {n s k : Nat} {p : List Pulse} (hn : n ≤ 8) (hs : s < n) (h : PsP p k) (hk : k ≤ 30) : section_check (chn n) p s = some 0 := by
  have hv : section_Valid (chn n) = some 0 := by
    have h := chn_valid
    rw [List.all_eq_true] at h
    exact eq_of_beq (h n (List.mem_range.2 (by omega)))
  refine Ok.eq (?_ : Ok _ _)
  unfold section_check
  refine ok_bde hv (ok_if0 (by decide) (ok_bde (dvalid_ok h hk) (ok_if0 (by decide) (ok_bde (sin_ok (by omega)) ?_))))
  exact ok_nb (fun h => by cases h) (fun _ => ok_some rfl)
/-- The count behind so many pulses. -/
def cnt (s k : Nat) : Int := if k = s + 1 then 1 else 0
theorem cnt_next {s k : Nat} : cnt s (k + 1) = cnt s k + sens s k := by
  unfold cnt sens
  by_cases h1 : k = s
  · rw [if_pos (by omega), if_neg (by omega), if_pos (by omega)]; rfl
  · rw [if_neg (by omega), if_neg (c := (k : Int) = s) (by omega)]
    by_cases h2 : k = s + 1
    · rw [if_pos h2, if_pos (by omega)]; rfl
    · rw [if_neg h2, if_neg (by omega)]; rfl
theorem count_ok {n s k : Nat} {p : List Pulse} (hn : n ≤ 8) (hs : s < n) (h : PsP p k) (hk : k ≤ 9) : section_count (chn n) p s (-1) = some (cnt s k, 0) := by
  have hlen := h.len
  have hcl := chn_len n
  refine Ok.eq (?_ : Ok _ _)
  unfold section_count
  refine ok_lp (fun (z : List (SectionPlace × Int) × Int) => 0 ≤ z.2 ∧ z.2 ≤ (chn n).length ∧ z.1 = smap ((chn n).take z.2.toNat) []) (fun z => (((chn n).length : Int) - z.2).toNat) ⟨Int.le_refl 0, by dsimp only; omega, rfl⟩ (by simp only [big_eq]; omega) ?_
  rintro ⟨m, i⟩ next ⟨i0, i1, i2⟩ hn'
  dsimp only at i0 i1 i2 ⊢
  refine ok_if (fun hi => ?_) (fun hi => ?_)
  · refine ok_ix i0 hi fun x hx => ok_vl fun y hy => ?_
    subst hy
    rw [w64_eq (by omega)]
    refine hn' _ ⟨by dsimp only; omega, by dsimp only; omega, ?_⟩ (by dsimp only; omega)
    dsimp only
    rw [show (i + 1).toNat = i.toNat + 1 from by omega, take_at hx, smap_app, i2]
  · have hm : m = smap (chn n) [] := by
      rw [i2, List.take_of_length_le (by omega)]
    subst hm
    refine ok_lp (fun (z : Int × Int × Int) => 0 ≤ z.2.2 ∧ z.2.2 ≤ k ∧ z.1 = cnt s z.2.2.toNat ∧ z.2.1 = 0) (fun z => ((k : Int) - z.2.2).toNat) ⟨Int.le_refl 0, by dsimp only; omega, by unfold cnt; simp, rfl⟩ (by simp only [big_eq]; omega) ?_
    rintro ⟨c, l, j⟩ next2 ⟨j0, j1, j2, j3⟩ hn2
    dsimp only at j0 j1 j2 j3 ⊢
    subst j2 j3
    refine ok_if (fun hj => ?_) (fun hj => ?_)
    · refine ok_ix j0 hj fun x hx => ?_
      obtain ⟨h1, h2, h3, h4⟩ := h.at_ _ x hx
      refine ok_if0 (by omega) ?_
      have hsn := sens_ok hn hs (d := j.toNat) (by omega)
      refine ok_vl fun q hq => ok_vl fun q2 hq2 => ?_
      rw [h1, hsn] at hq
      have hc := cnt_next (s := s) (k := j.toNat)
      have hb1 : 0 ≤ cnt s (j.toNat + 1) ∧ cnt s (j.toNat + 1) ≤ 1 := by unfold cnt; split <;> omega
      have hb2 : 0 ≤ cnt s j.toNat ∧ cnt s j.toNat ≤ 1 := by unfold cnt; split <;> omega
      rw [h2, Int.one_mul, w64_eq (n := q) (by omega), w64_eq (by omega)] at hq2
      rw [w64_eq (by omega)]
      refine hn2 _ ⟨by dsimp only; omega, by dsimp only; omega, ?_, by dsimp only; omega⟩ (by dsimp only; omega)
      dsimp only
      rw [show (j + 1).toNat = j.toNat + 1 from by omega]
      omega
    · have e : j.toNat = k := by omega
      rw [e]
      exact ok_some rfl
theorem State_ok {n s i : Nat} {p : List Pulse} (hn : n ≤ 8) (hs : s < n) (h : PsP p (i + 1)) (hi : i ≤ 8) : section_State (chn n) p s (-1) = some (if s = i then 1 else 0, 0) := by
  refine Ok.eq (?_ : Ok _ _)
  unfold section_State
  refine ok_bde (check_ok hn hs h (by omega)) (ok_if0 (by decide) (ok_bde (count_ok hn hs h (by omega)) (ok_if0 (by dsimp only; decide) ?_)))
  dsimp only
  unfold cnt
  by_cases e : s = i
  · rw [if_pos (by omega)]
    exact ok_if1 (by decide) (ok_some (by rw [if_pos e]))
  · rw [if_neg (by omega)]
    exact ok_if0 (by decide) (ok_some (by rw [if_neg e]))

theorem Sections_ok {t : List Int} (ht : t.length ≤ 9223372036854775807) : top_TopSections t = some true := by
  refine Ok.eq (?_ : Ok _ _)
  unfold top_TopSections
  refine ok_bde (gen_New_ok t) ?_
  refine ok_bd (Pieces_ok (n := 8) (Mk0 ht (by decide)) (by omega)) fun v ⟨⟨⟨n0, n1⟩, hp⟩, _, c0, c1⟩ => ?_
  obtain ⟨ps, c⟩ := v
  dsimp only at n0 n1 hp c0 c1 ⊢
  have hps : PsOk ps := ⟨by omega, hp⟩
  refine ok_bd (Motion_ok (k := HumpgenMaker.mk t c) ⟨c0, by dsimp only; omega, ht⟩ (fun p h => (hp p h).c) (by omega)) fun v ⟨hm, _, _, _, hcl, c2, c3⟩ => ?_
  obtain ⟨m, c'⟩ := v
  dsimp only at hm hcl c2 c3 ⊢
  refine ok_bd (Run_ok (k := HumpgenMaker.mk t c') ⟨by dsimp only; omega, by dsimp only; omega, ht⟩ hm (by omega)) fun v ⟨hr, hin, c4, c5⟩ => ?_
  obtain ⟨r, c''⟩ := v
  dsimp only at hr hin c4 c5 ⊢
  obtain ⟨hT, l1, l2⟩ := ptAll_tms hps hr
  refine ok_bde (Point_m hps hr) ?_
  refine ok_if0 (by dsimp only; decide) (ok_if0 (by dsimp only; omega) ?_)
  rw [w64_eq (n := (ps.length : Int) + 1) (by omega)]
  refine ok_if0 (by dsimp only; omega) ?_
  refine ok_bde (Chain_ok (by omega)) ?_
  dsimp only
  refine ok_lp (fun (z : List Pulse × Int) => 0 ≤ z.2 ∧ z.2 ≤ (ptAll ps r).length ∧ PsP z.1 z.2.toNat ∧ ∀ (j : Nat) x q, z.1[j]? = some x → (ptAll ps r)[j]? = some q → x.Time = q.Time) (fun z => (((ptAll ps r).length : Int) - z.2).toNat) ⟨Int.le_refl 0, by dsimp only; omega, ⟨rfl, fun j x hx => (by cases hx), fun j a b ha => (by cases ha)⟩, fun j x q hx => (by cases hx)⟩ (by simp only [big_eq]; omega) ?_
  rintro ⟨p, i⟩ next ⟨i0, i1, hP, hq⟩ hn
  dsimp only at i0 i1 hP hq ⊢
  refine ok_if (fun hi => ?_) (fun _ => ok_bde rfl (ok_some rfl))
  refine ok_ix i0 hi fun x hx => ?_
  have hpl := hP.len
  refine ok_ck (by simp; omega) (ok_vl fun y hy => ?_)
  have hi2 : ((i.toNat : Nat) : Int) = i := by omega
  have hPy : PsP y (i.toNat + 1) := by
    rw [hy, ← hi2]
    refine hP.snoc (hT.rng _ _ hx) fun j a ha hj => ?_
    have hjl : j < (ptAll ps r).length := by omega
    rw [hq j a _ ha (List.getElem?_eq_getElem hjl)]
    exact hT.up j _ x (List.getElem?_eq_getElem hjl) (by rw [hj]; exact hx)
  have hqy : ∀ (j : Nat) u q, y[j]? = some u → (ptAll ps r)[j]? = some q → u.Time = q.Time := fun j u q hu hqq => by
    rw [hy, List.getElem?_append] at hu
    split at hu
    · exact hq j u q hu hqq
    · have hj : j - p.length = 0 := by
        rcases Nat.eq_zero_or_pos (j - p.length) with h0 | h0
        · exact h0
        · rw [List.getElem?_eq_none (by simp; omega)] at hu; cases hu
      rw [hj] at hu
      cases hu
      have : j = i.toNat := by
        rename_i hnl
        omega
      subst this
      rw [hx] at hqq
      cases hqq
      rfl
  refine ok_lp (fun (z : Int) => 0 ≤ z) (fun z => ((ps.length : Int) - z).toNat) (Int.le_refl 0) (by simp only [big_eq]; omega) ?_
  intro s next2 s0 hn2
  refine ok_if (fun hs => ?_) (fun _ => ?_)
  · have hst := State_ok (n := ps.length) (s := s.toNat) (i := i.toNat) (p := y) (by omega) (by omega) hPy (by omega)
    rw [show ((s.toNat : Nat) : Int) = s from by omega] at hst
    refine ok_bde hst ?_
    refine ok_jp (fun z => z = if s.toNat = i.toNat then 1 else 0) (fun z hz => ?_) (fun kk hkk => ?_)
    · refine ok_if0 (by dsimp only; decide) (ok_if0 (by dsimp only; omega) ?_)
      rw [w64_eq (by omega)]
      exact hn2 _ (by omega) (by omega)
    · exact ok_if (fun h => hkk _ (by rw [if_pos (by omega)])) (fun h => hkk _ (by rw [if_neg (by omega)]))
  · rw [w64_eq (by omega)]
    refine hn _ ⟨by dsimp only; omega, by dsimp only; omega, ?_, hqy⟩ (by dsimp only; omega)
    dsimp only
    rw [show (i + 1).toNat = i.toNat + 1 from by omega]
    exact hPy
end Go.Hy
