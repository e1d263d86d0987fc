/-
  The class of samples, and the class on the pieces of a path: the program's answers and the reference's. The laws ResistanceSamples, ResistanceSpreads.
-/
import Derived.Test.YtncgacgkeonfnaaPResL
import Derived.Test.YtncgacgkeonfnaaPPath
namespace Go.Hy
set_option linter.unusedVariables false
set_option linter.unusedSimpArgs false
set_option maxHeartbeats 2000000
set_option maxRecDepth 10000
open Go.Hy.Iv

/-! ### Samples -/
abbrev SOk (s : Sample) : Prop := (1 ≤ s.Length ∧ s.Length ≤ 1000000) ∧ (-10000 ≤ s.Grade ∧ s.Grade ≤ 10000) ∧ (0 ≤ s.Before ∧ s.Before ≤ 20000) ∧ (0 ≤ s.Behind ∧ s.Behind ≤ 20000)
def smB (s : Sample) : Bool := decide (SOk s)
def sN (s : Sample) : Int := (s.Before * s.Before - s.Behind * s.Behind) * 100000
def sLo (s : Sample) : Int := s.Grade + sN s / (19620 * s.Length)
def sHi (s : Sample) : Int := s.Grade + -((-(sN s)) / (19620 * s.Length))
def mnS (l : List Sample) : Int := l.foldl (fun a s => min a (sLo s)) 1000000000000
def mxS (l : List Sample) : Int := l.foldl (fun a s => max a (sHi s)) (-1000000000000)
def measM (l : List Sample) : Int × Int × Int := if 256 < l.length then (0, 0, 3) else if l.length = 0 then (0, 0, 13) else if l.all smB = true then (mnS l, mxS l, 0) else (0, 0, 2)
theorem sq20 {v : Int} (h : 0 ≤ v ∧ v ≤ 20000) : 0 ≤ v * v ∧ v * v ≤ 400000000 := ⟨Int.mul_nonneg h.1 h.1, sq_le (b := 20000) h.1 h.2⟩
theorem sN_in {s : Sample} (h : SOk s) : -40000000000000 ≤ sN s ∧ sN s ≤ 40000000000000 := by
  have h1 := sq20 h.2.2.1
  have h2 := sq20 h.2.2.2
  unfold sN
  omega
theorem div_in {x L : Int} (hx : -40000000000000 ≤ x ∧ x ≤ 40000000000000) (hL : 1 ≤ L) : -2100000000 ≤ x / (19620 * L) ∧ x / (19620 * L) ≤ 2100000000 := by
  constructor
  · rw [Int.le_ediv_iff_mul_le (by omega)]; omega
  · have := Int.ediv_lt_of_lt_mul (a := x) (b := 2100000001) (c := 19620 * L) (by omega) (by omega)
    omega
theorem sLo_in {s : Sample} (h : SOk s) : -2200000000 ≤ sLo s ∧ sLo s ≤ sHi s ∧ sHi s ≤ 2200000000 := by
  have h1 := sN_in h
  have h2 := div_in h1 h.1.1
  have h3 := div_in (x := -(sN s)) (by omega) h.1.1
  have h4 := dnup (y := sN s) (z := sN s) (d := 19620 * s.Length) (by omega) (Int.le_refl _)
  have := h.2.1
  unfold sLo sHi
  omega
theorem take_fold {α β : Type} {f : β → α → β} {b : β} {l : List α} {k : Nat} {a : α} (h : l[k]? = some a) : (l.take (k + 1)).foldl f b = f ((l.take k).foldl f b) a := by rw [sc_take h, List.foldl_append]; rfl
/-- What the program's quotients are. -/
theorem quo_case {s : Sample} (h : SOk s) {N : Int} (hN : N = (s.Behind * s.Behind - s.Before * s.Before) * 100000) :
    (0 < N.tmod (19620 * s.Length) → s.Grade - N.tdiv (19620 * s.Length) - 1 = sLo s ∧ s.Grade - N.tdiv (19620 * s.Length) = sHi s) ∧
    (N.tmod (19620 * s.Length) < 0 → s.Grade - N.tdiv (19620 * s.Length) = sLo s ∧ s.Grade - N.tdiv (19620 * s.Length) + 1 = sHi s) ∧
    (N.tmod (19620 * s.Length) = 0 → s.Grade - N.tdiv (19620 * s.Length) = sLo s ∧ s.Grade - N.tdiv (19620 * s.Length) = sHi s) := by
  have hd : 0 < 19620 * s.Length := by omega
  have e : sN s = -N := by unfold sN; rw [hN]; omega
  unfold sLo sHi
  rw [e, Int.neg_neg]
  generalize 19620 * s.Length = d at hd
  obtain ⟨h1, h2⟩ := tdiv_pos N d
  obtain ⟨a1, a2, a3⟩ := neg_ediv (x := N) hd
  obtain ⟨b1, b2, b3⟩ := neg_ediv (x := -N) hd
  rw [Int.neg_neg] at b1 b2
  have m1 := Int.emod_nonneg N (by omega : d ≠ 0)
  have m2 := Int.emod_nonneg (-N) (by omega : d ≠ 0)
  rw [h1, h2]
  by_cases hneg : N < 0
  · rw [if_pos hneg, if_pos hneg]
    refine ⟨fun h => by omega, fun h => ?_, fun h => ?_⟩
    · have := b2 (by omega); omega
    · have := b1 (by omega); omega
  · rw [if_neg hneg, if_neg hneg]
    refine ⟨fun h => ?_, fun h => by omega, fun h => ?_⟩
    · have := a2 (by omega); omega
    · have := a1 (by omega); omega
theorem Meas_m {l : List Sample} : resistance_Measured l = some (i3 (measM l)) := by
  refine Ok.eq (?_ : Ok _ _)
  unfold resistance_Measured measM
  refine ok_if (fun h => ok_some (by rw [if_pos (by omega)])) (fun h1 => ?_)
  rw [if_neg (by omega)]
  refine ok_if (fun h => ok_some (by rw [if_pos (by omega)])) (fun h2 => ?_)
  rw [if_neg (by omega)]
  refine ok_lp (fun (z : Int × Int × Int) => Scan smB l z.2.2 ∧ z.2.2 ≤ l.length ∧ (0 < z.2.2 → z.1 = mnS (l.take z.2.2.toNat) ∧ z.2.1 = mxS (l.take z.2.2.toNat))) (fun z => ((l.length : Int) - z.2.2).toNat) ⟨Scan.zero, by dsimp only; omega, fun h => by dsimp only at h; omega⟩ (by simp only [big_eq]; omega) ?_
  rintro ⟨lo, hi, i⟩ next ⟨hs, i1, hv⟩ hn
  have i0 := hs.1
  dsimp only at hs i0 i1 hv ⊢
  refine ok_if (fun h => ok_ix i0 h fun x hx => ?_) (fun h => ok_some ?_)
  rotate_left
  · rw [if_pos (hs.done h), (hv (by omega)).1, (hv (by omega)).2, List.take_of_length_le (by omega)]
  have bad : ¬ SOk x → Ok (some (Interval.mk 0 0, (2 : Int))) (· = i3 (if l.all smB = true then (mnS l, mxS l, 0) else (0, 0, 2))) := fun h => ok_some (by rw [if_neg (by rw [scan_no hx (decide_eq_false h)]; decide)])
  have sp : ∀ v, resistance_speed v = some (decide (0 ≤ v ∧ v ≤ 20000)) := fun v => by
    refine Ok.eq (?_ : Ok _ _)
    unfold resistance_speed
    exact ok_if (fun h => ok_some (dd (by omega))) (fun h => ok_some (df (by omega)))
  refine ok_if (fun q => bad (by omega)) fun q1 => ok_if (fun q => bad (by omega)) fun q2 => ok_if (fun q => bad (by omega)) fun q3 => ok_if (fun q => bad (by omega)) fun q4 => ok_nd (sp _) (fun q => bad (by omega)) fun q5 => ok_nd (sp _) (fun q => bad (by omega)) fun q6 => ?_
  have hso : SOk x := by omega
  have g1 := sq20 hso.2.2.1
  have g2 := sq20 hso.2.2.2
  have hx1 := sLo_in hso
  rw [w64_eq (n := x.Behind * x.Behind) (by omega), w64_eq (n := x.Before * x.Before) (by omega), w64_eq (n := x.Behind * x.Behind - x.Before * x.Before) (by omega), w64_eq (n := 19620 * x.Length) (by omega)]
  refine ok_vl fun x13 h13 => ok_ck (by omega) ?_
  subst h13
  rw [w64_eq (n := (x.Behind * x.Behind - x.Before * x.Before) * 100000) (by omega)]
  generalize hN : (x.Behind * x.Behind - x.Before * x.Before) * 100000 = N
  obtain ⟨c1, c2, c3⟩ := quo_case hso hN.symm
  have hq : -2200000000 ≤ x.Grade - N.tdiv (19620 * x.Length) ∧ x.Grade - N.tdiv (19620 * x.Length) ≤ 2200000001 := by
    rcases Int.lt_trichotomy (N.tmod (19620 * x.Length)) 0 with h | h | h
    · have := c2 h; omega
    · have := c3 h; omega
    · have := c1 h; omega
  have hg := hso.2.1
  rw [w64_eq (n := N.tdiv (19620 * x.Length)) (by omega)]
  refine ok_vl fun x15 h15 => ok_ck (by omega) (ok_vl fun x17 h17 => ?_)
  rw [← h15] at c1 c2 c3 hq
  rw [← h17] at c1 c2 c3
  rw [w64_eq (n := x.Grade - x15) (by omega), w64_eq (n := x.Grade - x15 - 1) (by omega), w64_eq (n := x.Grade - x15 + 1) (by omega)]
  refine ok_jp (fun (z : Int × Int) => z = (sLo x, sHi x)) (fun z hz => ?_) (fun k hk => ?_)
  rotate_left
  · refine ok_if (fun h => ok_vl fun y hy => hk _ ?_) (fun h => ok_if (fun h2 => ok_vl fun y hy => hk _ ?_) (fun h2 => hk _ ?_))
    · have := c1 h
      simp only [Prod.mk.injEq]
      omega
    · have := c2 h2
      simp only [Prod.mk.injEq]
      omega
    · have := c3 (by omega)
      rw [← this.1]
      simp only [Prod.mk.injEq, true_and]
      omega
  subst hz
  dsimp only
  have ei : (i + 1).toNat = i.toNat + 1 := by omega
  refine ok_jp (fun (z : Int × Int) => min z.1 (sLo x) = mnS (l.take (i + 1).toNat) ∧ max z.2 (sHi x) = mxS (l.take (i + 1).toNat)) (fun z hz => ?_) (fun k hk => ?_)
  · rw [w64_eq (by omega)]
    exact hn _ ⟨hs.step hx (decide_eq_true hso), by dsimp only; omega, fun _ => ⟨hz.1, hz.2⟩⟩ (by dsimp only; omega)
  · have f1 : mnS (l.take (i + 1).toNat) = min (mnS (l.take i.toNat)) (sLo x) := by unfold mnS; rw [ei, take_fold hx]
    have f2 : mxS (l.take (i + 1).toNat) = max (mxS (l.take i.toNat)) (sHi x) := by unfold mxS; rw [ei, take_fold hx]
    refine ok_if (fun h => hk _ ?_) (fun h => hk _ ?_)
    · rw [f1, f2, show i.toNat = 0 from by omega]
      unfold mnS mxS
      simp only [List.take_zero, List.foldl_nil]
      omega
    · rw [f1, f2, (hv (by omega)).1, (hv (by omega)).2]
      exact ⟨rfl, rfl⟩
theorem rMeas_m {l : List Sample} : r19_Measured l = some (i3 (measM l)) := by
  refine Ok.eq (?_ : Ok _ _)
  unfold r19_Measured measM
  refine ok_if (fun h => ok_some (by rw [if_pos (by omega)])) (fun h1 => ?_)
  rw [if_neg (by omega)]
  refine ok_if (fun h => ok_some (by rw [if_pos (by omega)])) (fun h2 => ?_)
  rw [if_neg (by omega)]
  refine ok_lp (fun (z : Int × Int × Int) => Scan smB l z.2.2 ∧ z.2.2 ≤ l.length ∧ z.1 = mnS (l.take z.2.2.toNat) ∧ z.2.1 = mxS (l.take z.2.2.toNat)) (fun z => ((l.length : Int) - z.2.2).toNat) ⟨Scan.zero, by dsimp only; omega, rfl, rfl⟩ (by simp only [big_eq]; omega) ?_
  rintro ⟨lo, hi, i⟩ next ⟨hs, i1, hv1, hv2⟩ hn
  have i0 := hs.1
  dsimp only at hs i0 i1 hv1 hv2 ⊢
  refine ok_if (fun h => ok_ix i0 h fun x hx => ?_) (fun h => ok_some ?_)
  rotate_left
  · rw [if_pos (hs.done h), hv1, hv2, List.take_of_length_le (by omega)]
  have bad : ¬ SOk x → Ok (some (Interval.mk 0 0, (2 : Int))) (· = i3 (if l.all smB = true then (mnS l, mxS l, 0) else (0, 0, 2))) := fun h => ok_some (by rw [if_neg (by rw [scan_no hx (decide_eq_false h)]; decide)])
  refine ok_if (fun q => bad (by omega)) fun q1 => ok_if (fun q => bad (by omega)) fun q2 => ok_if (fun q => bad (by omega)) fun q3 => ok_if (fun q => bad (by omega)) fun q4 => ok_if (fun q => bad (by omega)) fun q5 => ok_if (fun q => bad (by omega)) fun q6 => ok_if (fun q => bad (by omega)) fun q7 => ok_if (fun q => bad (by omega)) fun q8 => ?_
  have hso : SOk x := by omega
  have g1 := sq20 hso.2.2.1
  have g2 := sq20 hso.2.2.2
  have hx1 := sLo_in hso
  have hsn := sN_in hso
  rw [w64_eq (n := x.Before * x.Before) (by omega), w64_eq (n := x.Behind * x.Behind) (by omega), w64_eq (n := x.Before * x.Before - x.Behind * x.Behind) (by omega)]
  refine ok_vl fun x11 h11 => ?_
  have e11 : x11 * 100000 = sN x := by unfold sN; rw [h11]
  rw [e11, w64_eq (n := sN x) (by omega), w64_eq (n := 19620 * x.Length) (by omega)]
  refine ok_bde (rDown_m (by omega) (by omega)) ?_
  have e1 : x.Grade + dnm (sN x) (19620 * x.Length) = sLo x := by unfold sLo; rw [dnm_pos (by omega) (by omega)]
  have e2 : x.Grade + upm (sN x) (19620 * x.Length) = sHi x := by unfold sHi; rw [upm_pos (by omega) (by omega)]
  rw [e1, w64_eq (n := sLo x) (by omega)]
  refine ok_vl fun x13 h13 => ok_bde (rUp_m (by omega) (by omega)) ?_
  rw [e2, w64_eq (n := sHi x) (by omega)]
  refine ok_vl fun x15 h15 => ?_
  have ei : (i + 1).toNat = i.toNat + 1 := by omega
  have f1 : mnS (l.take (i + 1).toNat) = min (mnS (l.take i.toNat)) (sLo x) := by unfold mnS; rw [ei, take_fold hx]
  have f2 : mxS (l.take (i + 1).toNat) = max (mxS (l.take i.toNat)) (sHi x) := by unfold mxS; rw [ei, take_fold hx]
  rw [w64_eq (by omega)]
  exact hn _ ⟨hs.step hx (decide_eq_true hso), by dsimp only; omega, by dsimp only; rw [f1, ← hv1, h13], by dsimp only; rw [f2, ← hv2, h15]⟩ (by dsimp only; omega)
theorem fold_min (f : Sample → Int) : ∀ (l : List Sample) (b : Int), l.foldl (fun a s => min a (f s)) b ≤ b ∧ (∀ s ∈ l, l.foldl (fun a s => min a (f s)) b ≤ f s) ∧ (l.foldl (fun a s => min a (f s)) b = b ∨ ∃ s ∈ l, l.foldl (fun a s => min a (f s)) b = f s) := by
  intro l
  induction l with
  | nil => intro b; exact ⟨Int.le_refl _, fun s h => by (cases h), .inl rfl⟩
  | cons x l ih =>
    intro b
    obtain ⟨h1, h2, h3⟩ := ih (min b (f x))
    simp only [List.foldl_cons]
    refine ⟨by omega, fun s hs => ?_, ?_⟩
    · rcases List.mem_cons.1 hs with rfl | hs
      · omega
      · exact h2 s hs
    · rcases h3 with h3 | ⟨s, hs, h3⟩
      · by_cases hb : b ≤ f x
        · left; omega
        · right; exact ⟨x, List.mem_cons_self .., by omega⟩
      · right; exact ⟨s, List.mem_cons_of_mem _ hs, h3⟩
theorem fold_max (f : Sample → Int) : ∀ (l : List Sample) (b : Int), b ≤ l.foldl (fun a s => max a (f s)) b ∧ (∀ s ∈ l, f s ≤ l.foldl (fun a s => max a (f s)) b) ∧ (l.foldl (fun a s => max a (f s)) b = b ∨ ∃ s ∈ l, l.foldl (fun a s => max a (f s)) b = f s) := by
  intro l
  induction l with
  | nil => intro b; exact ⟨Int.le_refl _, fun s h => by (cases h), .inl rfl⟩
  | cons x l ih =>
    intro b
    obtain ⟨h1, h2, h3⟩ := ih (max b (f x))
    simp only [List.foldl_cons]
    refine ⟨by omega, fun s hs => ?_, ?_⟩
    · rcases List.mem_cons.1 hs with rfl | hs
      · omega
      · exact h2 s hs
    · rcases h3 with h3 | ⟨s, hs, h3⟩
      · by_cases hb : f x ≤ b
        · left; omega
        · right; exact ⟨x, List.mem_cons_self .., by omega⟩
      · right; exact ⟨s, List.mem_cons_of_mem _ hs, h3⟩
theorem samples_ok {k : HumpgenMaker} {n : Int} (h : Mk k 999999999999000) (hn : 0 ≤ n ∧ n ≤ 50) : Ok (law19_samples k n) fun r => (r.1.length ≤ 60 ∧ ∀ s ∈ r.1, SOk s) ∧ k.fn ≤ r.2 ∧ r.2 ≤ k.fn + 300 := by
  have c0 := h.c0
  have c1 := h.c1
  have mk : ∀ c', k.fn ≤ c' → c' ≤ k.fn + 900 → Mk (HumpgenMaker.mk k.fl c') CM0 := fun c' h1 h2 => h.to h1 (by unfold CM0; omega)
  unfold law19_samples
  rw [w64_eq (n := n + 1) (by omega)]
  refine ok_bd (Next_ok (h.up (by decide)) (by omega)) fun v1 ⟨b1, e1⟩ => ?_
  refine ok_lp (fun (z : List Sample × Int × Int) => 0 ≤ z.2.1 ∧ z.1.length + z.2.1 = v1.1 ∧ (∀ s ∈ z.1, SOk s) ∧ k.fn ≤ z.2.2 ∧ z.2.2 ≤ k.fn + 1 + 4 * z.1.length) (fun z => z.2.1.toNat) ⟨b1.1, by simp, by simp, by dsimp only; omega, by simp; omega⟩ (by simp only [big_eq]; omega) ?_
  rintro ⟨out, i, c⟩ next ⟨i0, il, ho, d0, d1⟩ hnx
  dsimp only at i0 il ho d0 d1 ⊢
  refine ok_if (fun hi => ?_) (fun hi => ok_some ⟨⟨by dsimp only; omega, ho⟩, by dsimp only; omega, by dsimp only; omega⟩)
  refine ok_bd (Pick_ok (mk c (by omega) (by omega)) (by simp)) fun u1 ⟨m1, f1⟩ => ?_
  dsimp only at f1
  refine ok_bd (Pick_ok (mk u1.2 (by omega) (by omega)) (by simp)) fun u2 ⟨m2, f2⟩ => ?_
  dsimp only at f2
  refine ok_bd (Pick_ok (mk u2.2 (by omega) (by omega)) (by simp)) fun u3 ⟨m3, f3⟩ => ?_
  dsimp only at f3
  refine ok_bd (From_ok (mk u3.2 (by omega) (by omega)) (by omega)) fun u4 ⟨b4, f4⟩ => ?_
  dsimp only at f4
  simp only [List.mem_cons, List.not_mem_nil, or_false] at m1 m2 m3
  rw [w64_eq (n := u1.1 + u4.1) (by omega), w64_eq (n := i - 1) (by omega)]
  refine ok_ck (by simp only [List.length_cons, List.length_nil]; omega) (ok_vl fun y hy => ?_)
  have hyl : y.length = out.length + 1 := by rw [hy]; simp
  refine hnx _ ⟨by dsimp only; omega, by dsimp only; omega, fun s hs => ?_, by dsimp only; omega, by dsimp only; omega⟩ (by dsimp only; omega)
  dsimp only at hs
  rw [hy] at hs
  rcases List.mem_append.1 hs with hs | hs
  · exact ho s hs
  · obtain rfl := List.mem_singleton.1 hs
    unfold SOk
    dsimp only
    omega
theorem all_smB {l : List Sample} (h : ∀ s ∈ l, SOk s) : l.all smB = true := by
  rw [List.all_eq_true]; exact fun s hs => decide_eq_true (h s hs)
theorem take_drop_one {α : Type} {l : List α} {i : Nat} {a : α} (h : l[i]? = some a) : (l.take (i + 1)).drop i = [a] := by
  have hl := sc_lt h
  rw [sc_take h, List.drop_append_of_le_length (by simp; omega)]
  simp
theorem ResSamples_ok {t : List Int} (ht : t.length ≤ 9223372036854775807) : law19_ResistanceSamples t = some true := by
  refine Ok.eq (?_ : Ok _ _)
  unfold law19_ResistanceSamples
  refine ok_bde (gen_New_ok t) ?_
  refine ok_bd (samples_ok (Mk0 ht (by decide)) (by omega)) fun v ⟨⟨hl, hs⟩, _, _⟩ => ?_
  obtain ⟨l, c⟩ := v
  dsimp only at hl hs ⊢
  refine ok_bde Meas_m ?_
  refine ok_if (fun h0 => ?_) (fun h0 => ?_)
  · have : measM l = (0, 0, 13) := by unfold measM; rw [if_neg (by omega), if_pos (by omega)]
    rw [this]
    exact ok_if1 rfl (ok_bde sane19 (ok_some rfl))
  have em : measM l = (mnS l, mxS l, 0) := by unfold measM; rw [if_neg (by omega), if_neg (by omega), if_pos (all_smB hs)]
  rw [em]
  dsimp only [i3]
  have hl0 : 0 < l.length := by omega
  have h00 := List.getElem?_eq_getElem hl0
  obtain ⟨n1, n2, n3⟩ := fold_min sLo l 1000000000000
  obtain ⟨x1, x2, x3⟩ := fold_max sHi l (-1000000000000)
  have en : mnS l = l.foldl (fun a s => min a (sLo s)) 1000000000000 := rfl
  have ex : mxS l = l.foldl (fun a s => max a (sHi s)) (-1000000000000) := rfl
  rw [← en] at n1 n2 n3
  rw [← ex] at x1 x2 x3
  have hso := hs _ (sc_mem h00)
  have hsi := sLo_in hso
  have att1 : ∃ s ∈ l, mnS l = sLo s := by
    rcases n3 with h | h
    · have := n2 _ (sc_mem h00); omega
    · exact h
  have att2 : ∃ s ∈ l, mxS l = sHi s := by
    rcases x3 with h | h
    · have := x2 _ (sc_mem h00); omega
    · exact h
  clear n3 x3
  obtain ⟨s5, hs5, q5⟩ := att1
  obtain ⟨s6, hs6, q6⟩ := att2
  refine ok_jp (fun (z : Bool × Bool) => z = (true, true)) (fun z hz => ?_) (fun kk hk => ?_)
  · subst hz
    exact ok_bde sane19 (ok_some rfl)
  refine ok_lp (fun (z : Bool × Bool × Int) => 0 ≤ z.2.2 ∧ z.2.2 ≤ l.length ∧ ((∃ j s, (j : Nat) < z.2.2.toNat ∧ l[j]? = some s ∧ mnS l = sLo s) → z.1 = true) ∧ ((∃ j s, (j : Nat) < z.2.2.toNat ∧ l[j]? = some s ∧ mxS l = sHi s) → z.2.1 = true)) (fun z => ((l.length : Int) - z.2.2).toNat) ⟨Int.le_refl 0, by dsimp only; omega, fun ⟨j, s, h, _⟩ => by simp at h, fun ⟨j, s, h, _⟩ => by simp at h⟩ (by simp only [big_eq]; omega) ?_
  rintro ⟨a, b, i⟩ next ⟨i0, i1, ha, hb⟩ hn
  dsimp only at i0 i1 ha hb ⊢
  refine ok_if (fun hi => ?_) (fun hi => ?_)
  rotate_left
  · obtain ⟨j, hj⟩ := List.getElem?_of_mem hs5
    obtain ⟨j', hj'⟩ := List.getElem?_of_mem hs6
    have l1 := sc_lt hj
    have l2 := sc_lt hj'
    have l3 : i.toNat = l.length := by clear ha hb; omega
    refine hk _ ?_
    rw [ha ⟨j, s5, by rw [l3]; exact l1, hj, q5⟩, hb ⟨j', s6, by rw [l3]; exact l2, hj', q6⟩]
  have hil : i.toNat < l.length := by clear ha hb; omega
  have hi64 : -9223372036854775808 ≤ i + 1 ∧ i + 1 ≤ 9223372036854775807 := by clear ha hb; omega
  have hile : i ≤ i + 1 ∧ i + 1 ≤ (l.length : Int) := by clear ha hb; omega
  rw [w64_eq (n := i + 1) hi64]
  have ei : (i + 1).toNat = i.toNat + 1 := by clear ha hb; omega
  have hx := List.getElem?_eq_getElem hil
  generalize l[i.toNat] = x at hx
  have hxo := hs x (sc_mem hx)
  have hxi := sLo_in hxo
  refine ok_ck ⟨i0, hile.1, hile.2⟩ (ok_bde Meas_m ?_)
  rw [ei, take_drop_one hx]
  have e1 : measM [x] = (sLo x, sHi x, 0) := by
    unfold measM
    rw [if_neg (by simp), if_neg (by simp), if_pos (all_smB (fun s h => by rw [List.mem_singleton.1 h]; exact hxo))]
    unfold mnS mxS
    simp only [List.foldl_cons, List.foldl_nil]
    simp only [Prod.mk.injEq, and_true]
    clear ha hb
    omega
  rw [e1]
  dsimp only [i3]
  have q1 := n2 x (sc_mem hx)
  have q2 := x2 x (sc_mem hx)
  have q3 := n2 _ (sc_mem h00)
  have q4 := x2 _ (sc_mem h00)
  have q7 := sLo_in (hs s5 hs5)
  have q8 := sLo_in (hs s6 hs6)
  refine ok_if0 (fun h => h rfl) (ok_if0 (fun h => h rfl) (ok_nd (Within_m _ _) (fun h => absurd ?_ h) fun _ => ?_))
  · dsimp only; clear ha hb; omega
  have go : ∀ a' b' : Bool, (a = true → a' = true) → (mnS l = sLo x → a' = true) → (b = true → b' = true) → (mxS l = sHi x → b' = true) → Ok (next (a', b', i + 1)) (fun v => v = true) := fun a' b' r1 r2 r3 r4 => by
    refine hn _ ⟨by dsimp only; clear ha hb; omega, by dsimp only; exact hile.2, fun ⟨j, s, hj, hjs, he⟩ => ?_, fun ⟨j, s, hj, hjs, he⟩ => ?_⟩ (by dsimp only; clear ha hb; omega)
    · dsimp only at hj ⊢
      rw [ei] at hj
      by_cases e : j = i.toNat
      · subst e; rw [hx] at hjs; cases hjs; exact r2 he
      · exact r1 (ha ⟨j, s, Nat.lt_of_le_of_ne (Nat.le_of_lt_succ hj) e, hjs, he⟩)
    · dsimp only at hj ⊢
      rw [ei] at hj
      by_cases e : j = i.toNat
      · subst e; rw [hx] at hjs; cases hjs; exact r4 he
      · exact r3 (hb ⟨j, s, Nat.lt_of_le_of_ne (Nat.le_of_lt_succ hj) e, hjs, he⟩)
  refine ok_b (fun qa => ok_b (fun qb => ?_) (fun qb => ?_)) (fun qa => ok_b (fun qb => ?_) (fun qb => ?_))
  · exact go _ _ (fun _ => rfl) (fun _ => rfl) (fun _ => rfl) (fun _ => rfl)
  · exact go _ _ (fun _ => rfl) (fun _ => rfl) (fun h => by rw [qb] at h; cases h) (fun h => decide_eq_true h.symm)
  · exact go _ _ (fun h => by rw [qa] at h; cases h) (fun h => decide_eq_true h.symm) (fun _ => rfl) (fun _ => rfl)
  · exact go _ _ (fun h => by rw [qa] at h; cases h) (fun h => decide_eq_true h.symm) (fun h => by rw [qb] at h; cases h) (fun h => decide_eq_true h.symm)
end Go.Hy
