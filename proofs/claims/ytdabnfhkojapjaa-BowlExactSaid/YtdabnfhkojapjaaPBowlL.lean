/-
  The laws on stands: wagons that arrive and leave, and those that stand foul.
-/
import Derived.Test.YtdabnfhkojapjaaPBowl
import Derived.Test.YtdabnfhkojapjaaLift
namespace Go.Hy
set_option linter.unusedVariables false
set_option linter.unusedSimpArgs false
set_option maxHeartbeats 2000000
set_option maxRecDepth 10000

/-! ### Made stands -/
/-- Numbers in steps of three. -/
abbrev Stp (b : Int) (w : List Int) : Prop := ∀ (i : Nat) x, w[i]? = some x → b + 3 * i ≤ x ∧ x ≤ b + 3 * i + 2
theorem Stp.add {b x : Int} {w : List Int} (h : Stp b w) (hx : b + 3 * w.length ≤ x ∧ x ≤ b + 3 * w.length + 2) : Stp b (w ++ [x]) := fun i y hy => by
  rcases Nat.lt_or_ge i w.length with h1 | h1
  · rw [List.getElem?_append_left h1] at hy; exact h i y hy
  · rw [List.getElem?_append_right h1] at hy
    have e : i - w.length = 0 := by
      rcases Nat.eq_zero_or_pos (i - w.length) with h2 | h2
      · exact h2
      · rw [List.getElem?_eq_none (by simp; omega)] at hy; cases hy
    rw [e] at hy
    simp only [List.getElem?_cons_zero, Option.some.injEq] at hy
    omega
theorem Stp.nodup {b : Int} {w : List Int} (h : Stp b w) : w.Nodup := by
  rw [List.Nodup, List.pairwise_iff_getElem]
  intro i j hi hj hij e
  have h1 := h i _ (List.getElem?_eq_getElem hi)
  have h2 := h j _ (List.getElem?_eq_getElem hj)
  omega
theorem Stp.mem {b x : Int} {w : List Int} (h : Stp b w) (hx : x ∈ w) : b ≤ x ∧ x ≤ b + 3 * w.length := by
  obtain ⟨i, hi⟩ := List.getElem?_of_mem hx
  have := h i x hi
  have := sc_lt hi
  omega
structure StaOk (s : Stand) : Prop where
  r : 0 ≤ s.Room ∧ s.Room ≤ 100000
  n : s.Wagons.length ≤ 8
  l : s.Lengths.length = s.Wagons.length
  w : Stp 0 s.Wagons
  k : LenOk s.Lengths
structure MoOk (u v : List Int) : Prop where
  n : u.length ≤ 6
  l : v.length = u.length
  w : Stp 100 u
  k : LenOk v
theorem LenOk.add {l : List Int} {x : Int} (h : LenOk l) (hx : 1 ≤ x ∧ x ≤ 400) : LenOk (l ++ [x]) := fun y hy => by
  rcases List.mem_append.1 hy with hy | hy
  · exact h y hy
  · rw [List.mem_singleton.1 hy]; exact hx
theorem LenOk.app {l m : List Int} (h : LenOk l) (h2 : LenOk m) : LenOk (l ++ m) := fun y hy => (List.mem_append.1 hy).elim (h y) (h2 y)
theorem stand_ok {k : HumpgenMaker} (h : Mk k 900000000000000) : Ok (law32_stand k) fun r => StaOk r.1 ∧ k.fn ≤ r.2 ∧ r.2 ≤ k.fn + 20 := by
  have c0 := h.c0
  have c1 := h.c1
  have mk : ∀ c', k.fn ≤ c' → c' ≤ k.fn + 100000 → Mk (HumpgenMaker.mk k.fl c') CM0 := fun c' h1 h2 => h.to h1 (by unfold CM0; omega)
  unfold law32_stand
  refine ok_bd (Pick_ok (h.up (by decide)) (by simp)) fun v ⟨mv, ev⟩ => ?_
  refine ok_bd (Next_ok (mk v.2 (by omega) (by omega)) (by omega)) fun u ⟨mu, eu⟩ => ?_
  dsimp only at eu
  simp only [List.mem_cons, List.not_mem_nil, or_false] at mv
  refine ok_lp (fun (z : List Int × List Int × Int × Int) => z.2.1.length = z.1.length ∧ Stp 0 z.1 ∧ LenOk z.2.1 ∧ 0 ≤ z.2.2.1 ∧ z.1.length + z.2.2.1 ≤ 8 ∧ k.fn + 2 ≤ z.2.2.2 ∧ z.2.2.2 ≤ k.fn + 2 + 2 * z.1.length) (fun z => z.2.2.1.toNat) ⟨rfl, fun i x hx => by simp at hx, fun x hx => by simp at hx, mu.1, by dsimp only; simp; omega, by dsimp only; omega, by dsimp only; simp; omega⟩ (by simp only [big_eq]; omega) ?_
  rintro ⟨w, l, r, c⟩ next ⟨hl, hw, hk, r0, r1, d0, d1⟩ hnx
  dsimp only at hl hw hk r0 r1 d0 d1 ⊢
  refine ok_if (fun hr => ?_) (fun hr => ok_some ⟨⟨by dsimp only; omega, by dsimp only; omega, hl, hw, hk⟩, by dsimp only; omega, by dsimp only; omega⟩)
  refine ok_bd (Next_ok (mk c (by omega) (by omega)) (by omega)) fun q ⟨mq, eq⟩ => ok_vl fun x hx => ok_ck (by simp; omega) (ok_vl fun w2 hw2 => ?_)
  dsimp only at eq
  rw [w64_eq (n := 3 * (w.length : Int)) (by omega), w64_eq (by omega)] at hx
  refine ok_bd (Pick_ok (mk q.2 (by omega) (by omega)) (by simp)) fun p ⟨mp, ep⟩ => ok_ck (by simp; omega) (ok_vl fun l2 hl2 => ?_)
  dsimp only at ep
  simp only [List.mem_cons, List.not_mem_nil, or_false] at mp
  rw [w64_eq (n := r - 1) (by omega)]
  have e1 : w2.length = w.length + 1 := by rw [hw2]; simp
  have e2 : l2.length = l.length + 1 := by rw [hl2]; simp
  exact hnx _ ⟨by dsimp only; omega, by dsimp only; rw [hw2]; exact hw.add (by omega), by dsimp only; rw [hl2]; exact hk.add (by omega), by dsimp only; omega, by dsimp only; omega, by dsimp only; omega, by dsimp only; omega⟩ (by dsimp only; omega)
theorem more_ok {k : HumpgenMaker} (h : Mk k 900000000000000) : Ok (law32_more k) fun r => MoOk r.1 r.2.1 ∧ k.fn ≤ r.2.2 ∧ r.2.2 ≤ k.fn + 20 := by
  have c0 := h.c0
  have c1 := h.c1
  have mk : ∀ c', k.fn ≤ c' → c' ≤ k.fn + 100000 → Mk (HumpgenMaker.mk k.fl c') CM0 := fun c' h1 h2 => h.to h1 (by unfold CM0; omega)
  unfold law32_more
  refine ok_bd (Next_ok (h.up (by decide)) (by omega)) fun u ⟨mu, eu⟩ => ?_
  refine ok_lp (fun (z : List Int × List Int × Int × Int) => z.2.1.length = z.1.length ∧ Stp 100 z.1 ∧ LenOk z.2.1 ∧ 0 ≤ z.2.2.1 ∧ z.1.length + z.2.2.1 ≤ 6 ∧ k.fn + 1 ≤ z.2.2.2 ∧ z.2.2.2 ≤ k.fn + 1 + 2 * z.1.length) (fun z => z.2.2.1.toNat) ⟨rfl, fun i x hx => by simp at hx, fun x hx => by simp at hx, mu.1, by dsimp only; simp; omega, by dsimp only; omega, by dsimp only; simp; omega⟩ (by simp only [big_eq]; omega) ?_
  rintro ⟨w, l, r, c⟩ next ⟨hl, hw, hk, r0, r1, d0, d1⟩ hnx
  dsimp only at hl hw hk r0 r1 d0 d1 ⊢
  refine ok_if (fun hr => ?_) (fun hr => ok_some ⟨⟨by dsimp only; omega, hl, hw, hk⟩, by dsimp only; omega, by dsimp only; omega⟩)
  refine ok_vl fun x hx => ?_
  rw [w64_eq (n := 3 * (w.length : Int)) (by omega), w64_eq (by omega)] at hx
  refine ok_bd (Next_ok (mk c (by omega) (by omega)) (by omega)) fun q ⟨mq, eq⟩ => ok_ck (by simp; omega) (ok_vl fun w2 hw2 => ?_)
  dsimp only at eq
  rw [w64_eq (n := x + q.1) (by omega)] at hw2
  refine ok_bd (Pick_ok (mk q.2 (by omega) (by omega)) (by simp)) fun p ⟨mp, ep⟩ => ok_ck (by simp; omega) (ok_vl fun l2 hl2 => ?_)
  dsimp only at ep
  simp only [List.mem_cons, List.not_mem_nil, or_false] at mp
  rw [w64_eq (n := r - 1) (by omega)]
  have e1 : w2.length = w.length + 1 := by rw [hw2]; simp
  have e2 : l2.length = l.length + 1 := by rw [hl2]; simp
  exact hnx _ ⟨by dsimp only; omega, by dsimp only; rw [hw2]; exact hw.add (by omega), by dsimp only; rw [hl2]; exact hk.add (by omega), by dsimp only; omega, by dsimp only; omega, by dsimp only; omega, by dsimp only; omega⟩ (by dsimp only; omega)
theorem StaOk.vl {s : Stand} (h : StaOk s) : vlS s := ⟨h.r, by have := h.n; omega, h.l, fun x hx => (h.w.mem hx).1, h.w.nodup, h.k⟩
theorem StaOk.add {s : Stand} {w l : List Int} (h : StaOk s) (m : MoOk w l) : arP s w l ∧ vlS (addS s w l) := by
  have h1 := h.n
  have h2 := h.l
  have m1 := m.n
  have m2 := m.l
  refine ⟨⟨h.vl, by omega, fun x hx => by have := m.w.mem hx; omega, m.k⟩, h.r, ?_, ?_, fun x hx => ?_, ?_, h.k.app m.k⟩
  · unfold addS; simp; omega
  · unfold addS; simp; omega
  · unfold addS at hx
    rcases List.mem_append.1 hx with hx | hx
    · exact (h.w.mem hx).1
    · have := (m.w.mem hx).1; omega
  · unfold addS
    rw [List.nodup_append]
    refine ⟨h.w.nodup, m.w.nodup, fun a ha b hb e => ?_⟩
    have := h.w.mem ha
    have := m.w.mem hb
    omega
theorem arE_ok {s : Stand} {w l : List Int} (h : StaOk s) (m : MoOk w l) : arE s w l = (addS s w l, fo s.Room (s.Lengths ++ l), 0) := by
  have h1 := h.n
  have m1 := m.n
  unfold arE
  rw [if_neg (fun hh => hh (h.add m).1), if_neg (by omega), if_pos (h.add m).2]
theorem Ints_self {a : List Int} (h : a.length ≤ 1000000000) : gen_Ints a a = some true := by
  refine Ok.eq (?_ : Ok _ _)
  unfold gen_Ints
  refine ok_if0 (fun h => h rfl) (ok_lp (fun (z : Int) => 0 ≤ z ∧ z ≤ a.length) (fun z => ((a.length : Int) - z).toNat) ⟨Int.le_refl 0, by omega⟩ (by simp only [big_eq]; omega) ?_)
  intro z next ⟨z0, z1⟩ hnx
  refine ok_if (fun hz => ok_ix z0 hz fun x hx => ok_ixe z0 hx (ok_if0 (fun h => h rfl) ?_)) (fun _ => ok_some rfl)
  rw [w64_eq (by omega)]
  exact hnx _ ⟨by omega, by omega⟩ (by omega)
theorem Same_self {s : Stand} (h : s.Wagons.length ≤ 1000000000) (h2 : s.Lengths.length ≤ 1000000000) : yardgen_SameStands s s = some true := by
  refine Ok.eq (?_ : Ok _ _)
  unfold yardgen_SameStands
  exact ok_if1 rfl (ok_bde (Ints_self h) (ok_b (fun _ => ok_bde (Ints_self h2) (ok_some rfl)) (fun h => by cases h)))
theorem sane32 : law32_sane = some true := by kernel_rfl
theorem BowlRestores_ok {t : List Int} (ht : t.length ≤ 9223372036854775807) : law32_BowlRestores t = some true := by
  refine Ok.eq (?_ : Ok _ _)
  unfold law32_BowlRestores
  refine ok_bde (gen_New_ok t) ?_
  dsimp only
  refine ok_bd (stand_ok (Mk0 ht (by decide))) fun r ⟨hs, d0, d1⟩ => ?_
  obtain ⟨s, c⟩ := r
  dsimp only at hs d0 d1 ⊢
  refine ok_bd (more_ok (k := HumpgenMaker.mk t c) ⟨by dsimp only; omega, by dsimp only; omega, ht⟩) fun r ⟨hm, _, _⟩ => ?_
  obtain ⟨w, l, c'⟩ := r
  dsimp only at hm ⊢
  have s1 := hs.n
  have s2 := hs.l
  have m1 := hm.n
  have m2 := hm.l
  refine ok_bde (Arrive_m (by omega)) ?_
  rw [arE_ok hs hm]
  dsimp only
  have hv := (hs.add hm).2
  have hlen : (addS s w l).Wagons.length = s.Wagons.length + w.length := by unfold addS; simp
  refine ok_bde (Leave_m (by omega)) ?_
  have hle : leE (addS s w l) (w.length : Int) = (s, w, 0) := by
    unfold leE
    rw [if_neg (fun hh => hh hv), if_pos (by omega), hlen, show s.Wagons.length + w.length - ((w.length : Int)).toNat = s.Wagons.length from by omega]
    unfold cutS addS
    dsimp only
    rw [List.take_left, List.drop_left, ← s2, List.take_left]
  rw [hle]
  dsimp only
  have hsm := sm_rng hs.k
  have hsl := sm_rng hm.k
  refine ok_jp (fun z => z = sm l) (fun z hz => ?_) (fun k hk => ?_)
  · subst hz
    refine ok_if1 rfl (ok_if1 rfl (ok_bde (Same_self (by omega) (by omega)) (ok_b (fun _ => ?_) (fun h => by cases h))))
    refine ok_bde (Ints_self (by omega)) (ok_b (fun _ => ?_) (fun h => by cases h))
    refine ok_ck (by simp; omega) (ok_vl fun y hy => ok_ck (by rw [hy]; simp; omega) (ok_vl fun y2 hy2 => ?_))
    have e : y2 = (addS s w l).Wagons := by rw [hy2, hy]; unfold addS; simp
    rw [e]
    refine ok_bde (Ints_self (by omega)) (ok_b (fun _ => ?_) (fun h => by cases h))
    refine ok_bde Free_m (ok_bde Free_m ?_)
    rw [if_pos hv, if_pos hs.vl]
    have e2 : (addS s w l).Room - sm (addS s w l).Lengths = s.Room - sm s.Lengths - sm l := by unfold addS; dsimp only; rw [sm_app]; omega
    have hr := hs.r
    rw [e2, w64_eq (by omega)]
    exact ok_if1 rfl (ok_bde sane32 (ok_some rfl))
  · refine ok_lp (fun (z : Int × Int) => 0 ≤ z.2 ∧ z.1 = sm (l.take z.2.toNat)) (fun z => ((l.length : Int) - z.2).toNat) ⟨Int.le_refl 0, rfl⟩ (by simp only [big_eq]; omega) ?_
    rintro ⟨a, i⟩ next ⟨i0, ha⟩ hnx
    dsimp only at i0 ha ⊢
    refine ok_if (fun hi => ok_ix i0 hi fun x hx => ?_) (fun hi => hk _ (by rw [ha, List.take_of_length_le (by omega)]))
    have hx2 := hm.k x (sc_mem hx)
    have h3 := sm_rng (hm.k.take i.toNat)
    rw [List.length_take] at h3
    rw [w64_eq (n := a + x) (by omega), w64_eq (by omega)]
    refine hnx _ ⟨by dsimp only; omega, ?_⟩ (by dsimp only; omega)
    dsimp only
    rw [show (i + 1).toNat = i.toNat + 1 from by omega, sc_take hx, sm_app, ← ha]
    simp [sm]

/-! ### Foul -/
theorem fo_neg {l : List Int} (h : LenOk l) : ∀ {r : Int}, r < 0 → fo r l = l.length := by
  induction l with
  | nil => intro r _; rfl
  | cons x l ih =>
    intro r hr
    have hx := h x (List.mem_cons_self ..)
    simp only [fo, List.length_cons]
    rw [if_pos (by omega), ih (fun y hy => h y (List.mem_cons_of_mem _ hy)) (by omega)]
    omega
theorem fo_cut {l : List Int} (h : LenOk l) : ∀ {r : Int}, 0 ≤ r → sm (l.take (l.length - (fo r l).toNat)) ≤ r ∧ (0 < fo r l → r < sm (l.take (l.length - (fo r l).toNat + 1))) := by
  induction l with
  | nil => intro r hr; simp [fo, sm]; exact hr
  | cons x l ih =>
    intro r hr
    have hx := h x (List.mem_cons_self ..)
    have hl : LenOk l := fun y hy => h y (List.mem_cons_of_mem _ hy)
    by_cases hn : r - x < 0
    · have e : fo r (x :: l) = l.length + 1 := by simp only [fo]; rw [if_pos hn, fo_neg hl hn]; omega
      rw [e, show (x :: l).length - ((l.length : Int) + 1).toNat = 0 from by simp only [List.length_cons]; omega]
      simp only [List.take_zero, Nat.zero_add, List.take_succ_cons, sm, List.foldr_cons, List.foldr_nil]
      exact ⟨hr, fun _ => by omega⟩
    · have e : fo r (x :: l) = fo (r - x) l := by simp only [fo]; rw [if_neg hn]; omega
      have hf := fo_rng l (r - x)
      have h2 := ih hl (r := r - x) (by omega)
      rw [e, show (x :: l).length - (fo (r - x) l).toNat = (l.length - (fo (r - x) l).toNat) + 1 from by simp only [List.length_cons]; omega]
      simp only [List.take_succ_cons, sm, List.foldr_cons] at h2 ⊢
      exact ⟨by omega, fun q => by have := h2.2 q; omega⟩
theorem BowlFouls_ok {t : List Int} (ht : t.length ≤ 9223372036854775807) : law32_BowlFouls t = some true := by
  refine Ok.eq (?_ : Ok _ _)
  unfold law32_BowlFouls
  refine ok_bde (gen_New_ok t) ?_
  dsimp only
  refine ok_bd (stand_ok (Mk0 ht (by decide))) fun r ⟨hs, d0, d1⟩ => ?_
  obtain ⟨s, c⟩ := r
  dsimp only at hs d0 d1 ⊢
  refine ok_bd (more_ok (k := HumpgenMaker.mk t c) ⟨by dsimp only; omega, by dsimp only; omega, ht⟩) fun r ⟨hm, _, _⟩ => ?_
  obtain ⟨w, l, c'⟩ := r
  dsimp only at hm ⊢
  have s1 := hs.n
  have s2 := hs.l
  have m1 := hm.n
  have m2 := hm.l
  refine ok_bde (Arrive_m (by omega)) ?_
  rw [arE_ok hs hm]
  dsimp only
  have hv := (hs.add hm).2
  have hlw : (addS s w l).Wagons.length = s.Wagons.length + w.length := by unfold addS; simp
  have hll : (addS s w l).Lengths.length = s.Wagons.length + w.length := by unfold addS; simp; omega
  have hf := fo_rng (s.Lengths ++ l) s.Room
  have hcut := fo_cut (hs.k.app hm.k) hs.r.1
  have eR : (addS s w l).Room = s.Room := rfl
  have eL : s.Lengths ++ l = (addS s w l).Lengths := rfl
  rw [eL] at hf hcut ⊢
  rw [hll] at hf hcut
  generalize fo s.Room (addS s w l).Lengths = n at *
  rw [← eR] at hcut
  generalize addS s w l = a at *
  have free : ∀ k : Nat, bowl_Free (cutS a k) = some (a.Room - sm (a.Lengths.take k)) := fun k => by rw [Free_m, if_pos (hv.cut k)]; rfl
  refine ok_if0 (fun h => h rfl) (ok_if0 (by omega) (ok_if0 (by omega) ?_))
  refine ok_bde (Leave_m (by omega)) ?_
  have hle : ∀ m : Int, 0 ≤ m ∧ m ≤ a.Wagons.length → leE a m = (cutS a (a.Wagons.length - m.toNat), a.Wagons.drop (a.Wagons.length - m.toNat), 0) := fun m hm => by
    unfold leE
    rw [if_neg (fun hh => hh hv), if_pos hm]
  rw [hle n (by omega)]
  dsimp only
  refine ok_if0 (fun h => h rfl) (ok_bde (free _) (ok_if0 (by rw [hlw]; omega) (ok_if (fun h0 => ?_) (fun h0 => ?_))))
  · refine ok_bde Free_m ?_
    rw [if_pos hv]
    rw [h0, List.take_of_length_le (by rw [hll]; exact Nat.le_refl _)] at hcut
    exact ok_if1 (by omega) (ok_bde sane32 (ok_some rfl))
  · rw [w64_eq (by omega)]
    refine ok_bde (Leave_m (by omega)) ?_
    rw [hle (n - 1) (by omega)]
    dsimp only
    refine ok_if1 rfl (ok_bde (free _) (ok_if1 ?_ (ok_bde sane32 (ok_some rfl))))
    have := hcut.2 (by omega)
    rw [hlw, show s.Wagons.length + w.length - (n - 1).toNat = s.Wagons.length + w.length - n.toNat + 1 from by omega]
    omega
end Go.Hy
