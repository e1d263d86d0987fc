/-
  The laws on tracks beyond and on the way that the settings lead.
-/
import Derived.Test.YtncgacgkeonfnaaPTreeL
namespace Go.Hy
set_option linter.unusedVariables false
set_option linter.unusedSimpArgs false
set_option maxHeartbeats 2000000
set_option maxRecDepth 10000

/-! ### Counting marks -/
theorem cnt_set : ∀ {m : List Bool} {k : Nat}, m[k]? = some false → (m.set k true).count true = m.count true + 1
  | [], k, h => by simp at h
  | b :: m, 0, h => by
    simp only [List.getElem?_cons_zero, Option.some.injEq] at h
    subst h
    simp [List.count_cons]
  | b :: m, k + 1, h => by
    simp only [List.getElem?_cons_succ] at h
    simp only [List.set_cons_succ, List.count_cons, cnt_set h]
    omega
theorem cnt_bey {l : List Element} {i : Int} {m : List Bool} (hm : ∀ k : Nat, k < m.length → (m[k]? = some true ↔ beyP l i k)) : ∀ n, n ≤ m.length → (m.take n).count true = (beyN l i n).length := by
  intro n
  induction n with
  | zero => intro _; rfl
  | succ n ih =>
    intro hn
    have hx : m[n]? = some m[n] := List.getElem?_eq_getElem (by omega)
    have h2 := hm n (by omega)
    rw [sc_take hx, List.count_append, ih (by omega), beyN_step, List.length_append]
    rw [hx] at h2
    generalize m[n] = b at *
    by_cases h : beyP l i n
    · have := Option.some.inj (h2.2 h)
      subst this
      simp [h]
    · have : b = false := by
        cases b with
        | false => rfl
        | true => exact absurd (h2.1 rfl) h
      subst this
      simp [h]
theorem beyP_iff {l : List Element} {i : Int} {k : Nat} : beyP l i k ↔ (k : Int) ∈ bey l i := by
  rw [mem_bey]
  unfold beyP
  constructor
  · rintro ⟨h1, h2⟩
    refine ⟨⟨by omega, ?_⟩, h2⟩
    cases hx : l[k]? with
    | none => rw [hx] at h1; cases h1
    | some x => rw [hx] at h1; exact ⟨x, by simpa using hx, Option.some.inj h1⟩
  · rintro ⟨⟨_, x, hx, hk⟩, h2⟩
    have hx : l[k]? = some x := by simpa using hx
    exact ⟨by rw [hx]; simp [hk], h2⟩
theorem bey_nodup {l : List Element} {i : Int} : (bey l i).Nodup := by
  unfold bey beyN
  refine List.Pairwise.map _ (R := (· ≠ ·)) (fun a b hab h => hab (by omega)) ?_
  exact List.Pairwise.filter _ List.nodup_range
theorem nodup_at {α : Type} {l : List α} {i : Nat} {a : α} (h : l.Nodup) (ha : l[i]? = some a) : a ∉ l.take i := by
  intro hm
  have h2 : (l.take (i + 1)).Nodup := h.sublist (List.take_sublist ..)
  rw [sc_take ha, List.nodup_append] at h2
  exact h2.2.2 a hm a (List.mem_singleton.2 rfl) rfl
abbrev Kid (l : List Element) (i : Int) (j : Nat) : Prop := l[j]?.map (·.Parent) = some i
/-- The tracks beyond an element are those beyond its children. -/
theorem bey_kids {l : List Element} (h : VL l) {i : Int} {x : Element} (h0 : 0 ≤ i) (hx : l[i.toNat]? = some x) (hk : x.Kind ≠ 4) {k : Int} : k ∈ bey l i ↔ ∃ j : Nat, j < l.length ∧ Kid l i j ∧ k ∈ bey l j := by
  rw [mem_bey]
  constructor
  · rintro ⟨ht, hi⟩
    have hkl := ht.lt
    obtain ⟨q, hq⟩ := List.getElem?_of_mem hi
    have hql := sc_lt hq
    obtain ⟨_, a2, _, _⟩ := way_step h (k.toNat + 1) k (by omega) hkl.1 hkl.2
    have hq1 : q + 1 < (way l k).length := by
      rcases Nat.lt_or_ge (q + 1) (way l k).length with hh | hh
      · exact hh
      · have e : q = (way l k).length - 1 := by omega
        rw [e, a2] at hq
        have hki : k = i := Option.some.inj hq
        obtain ⟨_, y, hy, hyk⟩ := ht
        rw [hki, hx] at hy
        cases hy
        exact absurd hyk hk
    have he := List.getElem?_eq_getElem hq1
    generalize (way l k)[q + 1] = e at he
    obtain ⟨e1, e2, y, z, hy, hyp, _⟩ := way_next h hkl.1 hkl.2 he
    rw [hq] at hyp
    refine ⟨e.toNat, by omega, by rw [Kid, hy]; exact hyp.symm, mem_bey.2 ⟨ht, ?_⟩⟩
    rw [show ((e.toNat : Nat) : Int) = e from by omega]
    exact sc_mem he
  · rintro ⟨j, hj, hkid, hm⟩
    obtain ⟨ht, hw⟩ := mem_bey.1 hm
    refine ⟨ht, way_trans h hw ?_⟩
    have hy : l[j]? = some l[j] := List.getElem?_eq_getElem hj
    rw [Kid, hy] at hkid
    have hpi : l[j].Parent = i := Option.some.inj hkid
    rw [way_at h (i := (j : Int)) (by omega) (by rw [Int.toNat_natCast]; exact hy), hpi]
    exact List.mem_append_left _ (way_self h h0 (by have := sc_lt hx; omega))
/-- No track lies beyond two children. -/
theorem bey_one {l : List Element} (h : VL l) {i k : Int} (h0 : 0 ≤ i) {j j' : Nat} (hj : Kid l i j) (hj' : Kid l i j') (hk : k ∈ bey l j) (hk' : k ∈ bey l j') : j = j' := by
  obtain ⟨ht, hw⟩ := mem_bey.1 hk
  have hw' := (mem_bey.1 hk').2
  have hkl := ht.lt
  have pos : ∀ j : Nat, Kid l i j → (j : Int) ∈ way l k → ∃ q, (way l k)[q]? = some i ∧ (way l k)[q + 1]? = some (j : Int) := fun j hj hw => by
    obtain ⟨q, hq⟩ := List.getElem?_of_mem hw
    obtain ⟨a1, _, _, _⟩ := way_step h (k.toNat + 1) k (by omega) hkl.1 hkl.2
    cases q with
    | zero =>
      rw [a1] at hq
      have e : j = 0 := by have := Option.some.inj hq; omega
      subst e
      have hlen := h.len
      have hx : l[0]? = some l[0] := List.getElem?_eq_getElem (by omega)
      rw [Kid, hx] at hj
      have hp0 := ((h.el hx).1 rfl).2.1
      have hpi : l[0].Parent = i := Option.some.inj hj
      omega
    | succ q =>
      obtain ⟨_, _, y, z, hy, hyp, _⟩ := way_next h hkl.1 hkl.2 hq
      rw [Kid, show j = ((j : Int)).toNat from by omega, hy] at hj
      have hpi : y.Parent = i := Option.some.inj hj
      exact ⟨q, by rw [hyp, hpi], hq⟩
  obtain ⟨q, q1, q2⟩ := pos j hj hw
  obtain ⟨q', p1, p2⟩ := pos j' hj' hw'
  have := way_pos h q1 p1
  subst this
  rw [q2] at p2
  have := Option.some.inj p2
  omega
theorem beyN_trk {l : List Element} (h : VL l) {i : Int} (ht : IsT l i) : ∀ n : Nat, n ≤ l.length → beyN l i n = if i < n then [i] else [] := by
  have hil := ht.lt
  intro n
  induction n with
  | zero => intro _; rw [if_neg (by omega)]; rfl
  | succ n ih =>
    intro hn
    rw [beyN_step, ih (by omega)]
    by_cases e : i = n
    · have hP : beyP l i n := by
        rw [beyP_iff, mem_bey, ← e]
        exact ⟨ht, way_self h hil.1 hil.2⟩
      rw [if_neg (by omega), if_pos hP, if_pos (by omega), e]
      rfl
    · have hno : ¬ beyP l i n := fun hb => by
        rw [beyP_iff, mem_bey] at hb
        obtain ⟨q, hq⟩ := List.getElem?_of_mem hb.2
        exact e (way_trk h (by omega) (by omega) hq ht).2
      rw [if_neg hno, List.append_nil]
      by_cases h1 : i < n
      · rw [if_pos h1, if_pos (by omega)]
      · rw [if_neg h1, if_neg (by omega)]
theorem bey_trk {l : List Element} (h : VL l) {i : Int} (ht : IsT l i) : bey l i = [i] := by
  unfold bey
  rw [beyN_trk h ht l.length (Nat.le_refl _), if_pos (by have := ht.lt; omega)]
/-- The marks that the law keeps: the tracks beyond the children so far, and some more. -/
structure Mks (l : List Element) (i : Int) (n : Nat) (ex : List Int) (cnt : Int) (m : List Bool) : Prop where
  len : m.length = l.length
  c : cnt = (m.count true : Nat)
  m : ∀ k : Nat, k < l.length → (m[k]? = some true ↔ (∃ j : Nat, j < n ∧ Kid l i j ∧ (k : Int) ∈ bey l j) ∨ (k : Int) ∈ ex)
theorem TreeBeyond_ok {t : List Int} (ht : t.length ≤ 9223372036854775807) : law10_TreeBeyond t = some true := by
  refine Ok.eq (?_ : Ok _ _)
  unfold law10_TreeBeyond
  refine ok_bde (gen_New_ok t) ?_
  dsimp only
  refine ok_bd (lay10 ht (by omega)) fun r ⟨hl, hlen, c0, c1⟩ => ?_
  obtain ⟨l, c⟩ := r
  dsimp only at hl hlen c0 c1 ⊢
  have hvl := hl.v
  have hbl : ∀ i, (bey l i).length ≤ l.length := fun i => beyN_len
  refine ok_bde hl.trk (ok_bde (hl.bey (by omega) (by omega)) ?_)
  dsimp only
  refine ok_if0 (fun h => h rfl) (ok_if0 (fun h => h rfl) (ok_bde (Ints_self (by have := hbl 0; omega)) (ok_nb (fun h => by cases h) fun _ => ?_)))
  refine ok_lp (fun (z : Int) => 0 ≤ z ∧ z ≤ l.length) (fun z => ((l.length : Int) - z).toNat) ⟨Int.le_refl 0, by omega⟩ (by simp only [big_eq]; omega) ?_
  intro i next ⟨i0, i1⟩ hnx
  refine ok_if (fun hi => ?_) (fun _ => ok_bde sane10 (ok_some rfl))
  have hb1 := hl.bey1 i0 hi
  have hb2 := hbl i
  refine ok_bde (hl.bey i0 hi) ?_
  dsimp only
  refine ok_if0 (fun h => h rfl) (ok_if0 (by omega) (ok_ck (by omega) (ok_vl fun y17 hy17 => ?_)))
  have go : Ok (next (w64 (i + 1))) (· = true) := by
    rw [w64_eq (by omega)]
    exact hnx _ ⟨by omega, by omega⟩ (by omega)
  refine ok_jp (fun (z : Int × List Bool) => Mks l i l.length [] z.1 z.2) (fun z hz => ?_) (fun kk hkk => ?_)
  · obtain ⟨cnt, m⟩ := z
    dsimp only at hz ⊢
    refine ok_ix i0 hi fun x hx => ok_if (fun hk => ?_) (fun hk => ?_)
    · rw [bey_trk hvl ⟨i0, x, hx, hk⟩]
      exact ok_bde (Ints_self (by simp)) (ok_nb (fun h => by cases h) fun _ => go)
    · have hmk : ∀ k : Nat, k < l.length → (m[k]? = some true ↔ (k : Int) ∈ bey l i) := fun k hk2 => by
        rw [hz.m k hk2, bey_kids hvl i0 hx hk]
        simp
      have hcnt : cnt = (bey l i).length := by
        have := cnt_bey (i := i) (l := l) (m := m) (fun k hk2 => by rw [hmk k (by rw [← hz.len]; exact hk2), beyP_iff]) m.length (Nat.le_refl _)
        rw [List.take_of_length_le (Nat.le_refl _), hz.len] at this
        rw [hz.c, this]
        rfl
      refine ok_if0 (fun h => h hcnt) (ok_lp (fun (z : Int) => 0 ≤ z ∧ z ≤ (bey l i).length) (fun z => (((bey l i).length : Int) - z).toNat) ⟨Int.le_refl 0, by omega⟩ (by simp only [big_eq]; omega) ?_)
      intro r nx ⟨r0, r1⟩ hn2
      refine ok_if (fun hr => ok_ix r0 hr fun k hkr => ?_) (fun _ => go)
      have hmem := sc_mem hkr
      have hkl := (mem_bey.1 hmem).1.lt
      refine ok_if0 (by omega) (ok_if0 (by omega) (ok_ixe hkl.1 ((hmk k.toNat (by omega)).2 (by rw [show ((k.toNat : Nat) : Int) = k from by omega]; exact hmem)) (ok_nb (fun h => by cases h) fun _ => ?_)))
      rw [w64_eq (by omega)]
      exact hn2 _ ⟨by omega, by omega⟩ (by omega)
  · refine ok_lp (fun (z : Int × List Bool × Int) => 0 ≤ z.2.2 ∧ z.2.2 ≤ l.length ∧ Mks l i z.2.2.toNat [] z.1 z.2.1) (fun z => ((l.length : Int) - z.2.2).toNat) ?_ (by simp only [big_eq]; omega) ?_
    · refine ⟨Int.le_refl 0, by dsimp only; omega, ?_, ?_, fun k hk => ?_⟩
      · dsimp only; rw [hy17]; simp
      · dsimp only; rw [hy17]; simp [List.count_replicate]
      · dsimp only
        rw [hy17]
        simp [List.getElem?_replicate]
    rintro ⟨cnt, m, j⟩ nx ⟨j0, j1, hz⟩ hn2
    dsimp only at j0 j1 hz ⊢
    refine ok_if (fun hj => ok_ix j0 hj fun x hx => ?_) (fun hj => hkk _ ?_)
    rotate_left
    · have e : j.toNat = l.length := by omega
      rw [e] at hz
      exact hz
    have ej : (j + 1).toNat = j.toNat + 1 := by omega
    rw [w64_eq (n := j + 1) (by omega)]
    refine ok_if (fun hp => ?_) (fun hp => ?_)
    · refine hn2 _ ⟨by dsimp only; omega, by dsimp only; omega, hz.len, hz.c, fun k hk => ?_⟩ (by dsimp only; omega)
      dsimp only
      rw [hz.m k hk, ej]
      refine or_congr ⟨?_, ?_⟩ Iff.rfl
      · rintro ⟨j', h1, h2⟩
        exact ⟨j', by omega, h2⟩
      · rintro ⟨j', h1, h2, h3⟩
        refine ⟨j', ?_, h2, h3⟩
        rcases Nat.lt_or_ge j' j.toNat with hh | hh
        · exact hh
        · have e : j' = j.toNat := by omega
          rw [e, Kid, hx] at h2
          exact absurd (Option.some.inj h2) hp
    · have hkid : Kid l i j.toNat := by rw [Kid, hx]; simpa using hp
      have hjj : ((j.toNat : Nat) : Int) = j := by omega
      have hbj := hbl j
      refine ok_bde (hl.bey j0 hj) ?_
      dsimp only
      refine ok_if0 (fun h => h rfl) (ok_lp (fun (z : Int × List Bool × Int) => 0 ≤ z.2.2 ∧ z.2.2 ≤ (bey l j).length ∧ Mks l i j.toNat ((bey l j).take z.2.2.toNat) z.1 z.2.1) (fun z => (((bey l j).length : Int) - z.2.2).toNat) ⟨Int.le_refl 0, by dsimp only; omega, hz⟩ (by simp only [big_eq]; omega) ?_)
      rintro ⟨cn, m2, r⟩ nx3 ⟨r0, r1, hy⟩ hn3
      dsimp only at r0 r1 hy ⊢
      refine ok_if (fun hr => ok_ix r0 hr fun k hkr => ?_) (fun hr => ?_)
      · have hmem := sc_mem hkr
        have hkl := (mem_bey.1 hmem).1.lt
        have ekk : ((k.toNat : Nat) : Int) = k := by omega
        have hmk := hy.m k.toNat (by omega)
        rw [ekk] at hmk
        have hno : ¬ ((∃ j' : Nat, j' < j.toNat ∧ Kid l i j' ∧ k ∈ bey l j') ∨ k ∈ (bey l j).take r.toNat) := by
          rintro (⟨j', h1, h2, h3⟩ | h1)
          · have := bey_one hvl i0 h2 hkid h3 (by rw [hjj]; exact hmem)
            omega
          · exact nodup_at bey_nodup hkr h1
        obtain ⟨b, hm2⟩ : ∃ b, m2[k.toNat]? = some b := ⟨_, List.getElem?_eq_getElem (by rw [hy.len]; omega)⟩
        have hb : b = false := by
          cases b with
          | false => rfl
          | true => exact absurd (hmk.1 hm2) hno
        subst hb
        refine ok_if0 (by omega) (ok_if0 (by omega) (ok_ixe hkl.1 hm2 (ok_b (fun h => by cases h) fun _ => ok_ixe hkl.1 hm2 (ok_vl fun m3 hm3 => ?_))))
        have hcl := List.count_le_length (a := true) (l := m2)
        have hyl := hy.len
        have hyc := hy.c
        rw [w64_eq (n := r + 1) (by omega), w64_eq (n := cn + 1) (by omega)]
        refine hn3 _ ⟨by dsimp only; omega, by dsimp only; omega, ?_, ?_, fun k' hk' => ?_⟩ (by dsimp only; omega)
        · dsimp only; rw [hm3, List.length_set]; exact hy.len
        · dsimp only; rw [hm3, cnt_set hm2]; omega
        · dsimp only
          rw [hm3, show (r + 1).toNat = r.toNat + 1 from by omega, sc_take hkr, List.mem_append, List.mem_singleton, ← or_assoc, ← hy.m k' hk', List.getElem?_set]
          by_cases e : k.toNat = k'
          · rw [if_pos e, if_pos (by omega)]
            exact ⟨fun _ => .inr (by omega), fun _ => rfl⟩
          · rw [if_neg e]
            exact ⟨.inl, fun h => h.resolve_right (by omega)⟩
      · refine hn2 _ ⟨by dsimp only; omega, by dsimp only; omega, hy.len, hy.c, fun k hk => ?_⟩ (by dsimp only; omega)
        dsimp only
        rw [hy.m k hk, List.take_of_length_le (by omega), ej]
        constructor
        · rintro (⟨j', h1, h2⟩ | h1)
          · exact .inl ⟨j', by omega, h2⟩
          · exact .inl ⟨j.toNat, by omega, hkid, by rw [hjj]; exact h1⟩
        · rintro (⟨j', h1, h2, h3⟩ | h1)
          · rcases Nat.lt_or_ge j' j.toNat with hh | hh
            · exact .inl ⟨j', hh, h2, h3⟩
            · have e : j' = j.toNat := by omega
              rw [e, hjj] at h3
              exact .inr h3
          · cases h1

/-! ### Where the settings lead -/
theorem TreeLeads_ok {t : List Int} (ht : t.length ≤ 9223372036854775807) : law10_TreeLeads t = some true := by
  refine Ok.eq (?_ : Ok _ _)
  unfold law10_TreeLeads
  refine ok_bde (gen_New_ok t) ?_
  dsimp only
  refine ok_bd (lay10 ht (by omega)) fun r ⟨hl, hlen, c0, c1⟩ => ?_
  obtain ⟨l, c⟩ := r
  dsimp only at hl hlen c0 c1 ⊢
  have hvl := hl.v
  refine ok_bde hl.trk ?_
  have hb1 := hl.bey1 (i := 0) (by omega) (by omega)
  have hb2 : (bey l 0).length ≤ l.length := beyN_len
  dsimp only
  refine ok_if0 (fun h => h rfl) (ok_if0 (by omega) ?_)
  refine ok_bd (next10 ht c0 (by omega) (by omega)) fun v ⟨hv, ev⟩ => ok_ix hv.1 hv.2 fun a ha => ?_
  have hT := (mem_bey.1 (sc_mem ha)).1
  have hla := hT.lt
  refine ok_bde (hl.set hla.1 hla.2) ?_
  dsimp only
  obtain ⟨a1, a2, a3, _⟩ := way_step hvl (a.toNat + 1) a (by omega) hla.1 hla.2
  have hwl := way_len hvl (a.toNat + 1) a (by omega)
  have hmem := way_mem hvl (a.toNat + 1) a (by omega)
  refine ok_if0 (fun h => h rfl) (ok_jp (fun (z : Int × Int) => z.1 = a ∧ z.2 = (sets l a).length) (fun z ⟨h1, h2⟩ => ok_if1 h1 (ok_if1 h2 (ok_bde sane10 (ok_some rfl)))) (fun kk hkk => ?_))
  refine ok_lp (fun (z : Int × Int) => 0 ≤ z.1 ∧ z.1 < l.length ∧ ∃ q : Nat, (way l a)[q]? = some z.1 ∧ z.2 = (((way l a).tail.take q).filterMap (setF l)).length) (fun z => ((l.length : Int) - z.1).toNat) ⟨Int.le_refl 0, by dsimp only; omega, 0, a1, rfl⟩ (by simp only [big_eq]; omega) ?_
  rintro ⟨at', k⟩ next ⟨b0, b1, q, hq, hk⟩ hnx
  dsimp only at b0 b1 hq hk ⊢
  refine ok_ix b0 b1 fun y hy => ok_if (fun h4 => ?_) (fun h4 => hkk _ ?_)
  rotate_left
  · have := way_trk hvl hla.1 hla.2 hq ⟨b0, y, hy, Decidable.not_not.1 h4⟩
    refine ⟨this.2, ?_⟩
    dsimp only
    rw [hk, this.1]
    unfold sets
    rw [List.take_of_length_le (by rw [List.length_tail]; omega)]
  have hql := sc_lt hq
  have hq1 : q + 1 < (way l a).length := by
    rcases Nat.lt_or_ge (q + 1) (way l a).length with hh | hh
    · exact hh
    · have e : q = (way l a).length - 1 := by omega
      rw [e, a2] at hq
      have hki : a = at' := Option.some.inj hq
      obtain ⟨_, z, hz, hzk⟩ := hT
      rw [hki, hy] at hz
      cases hz
      exact absurd hzk h4
  have he := List.getElem?_eq_getElem hq1
  generalize (way l a)[q + 1] = e at he
  obtain ⟨e1, e2, x, y', hx, hxp, x0, x1, hy', _, hy3⟩ := way_next hvl hla.1 hla.2 he
  rw [hq] at hxp
  have exp := Option.some.inj hxp
  rw [← exp, hy] at hy'
  cases hy'
  have hF := setF_eq hx (y := y) (by rw [← exp]; exact hy)
  rw [← exp] at hF
  obtain ⟨rr, hrr⟩ := tail_split he
  have hsets : sets l a = ((way l a).tail.take q).filterMap (setF l) ++ (if y.Kind = 3 then [⟨at', x.Side⟩] else []) ++ rr.filterMap (setF l) := by
    unfold sets
    conv => lhs; rw [hrr]
    rw [List.filterMap_append, List.filterMap_cons, hF]
    by_cases h3 : y.Kind = 3
    · rw [if_pos h3, if_pos h3]; simp
    · rw [if_neg h3, if_neg h3]; simp
  have htk : ((way l a).tail.take (q + 1)).filterMap (setF l) = ((way l a).tail.take q).filterMap (setF l) ++ (if y.Kind = 3 then [⟨at', x.Side⟩] else []) := by
    have h2 : (way l a).tail[q]? = some e := by rw [List.getElem?_tail]; exact he
    rw [sc_take h2, List.filterMap_append]
    congr 1
    by_cases h3 : y.Kind = 3
    · simp [hF, h3]
    · simp [hF, h3]
  have hfl := List.length_filterMap_le (setF l) ((way l a).tail.take q)
  have htl : ((way l a).tail.take q).length ≤ l.length := by rw [List.length_take, List.length_tail]; omega
  generalize ((way l a).tail.take q).filterMap (setF l) = s at *
  refine ok_jp (fun (z : Int × Int) => z.2 = x.Side ∧ z.1 = (((way l a).tail.take (q + 1)).filterMap (setF l)).length) (fun z ⟨hz2, hz1⟩ => ?_) (fun k2 hk2 => ?_)
  · refine ok_lp (fun (w : Int × Int) => 0 ≤ w.2 ∧ w.2 ≤ l.length ∧ w.1 = if e < w.2 then e else -1) (fun w => ((l.length : Int) - w.2).toNat) ⟨by decide, by dsimp only; omega, by dsimp only; rw [if_neg (by omega)]⟩ (by simp only [big_eq]; omega) ?_
    rintro ⟨f, j⟩ nx ⟨j0, j1, hf⟩ hn2
    dsimp only at j0 j1 hf ⊢
    refine ok_if (fun hj => ok_ix j0 hj fun u hu => ?_) (fun hj => ?_)
    · rw [w64_eq (n := j + 1) (by omega)]
      have hit : u.Parent = at' → u.Side = x.Side → j = e := fun h1 h2 => by
        have hj0 : j.toNat ≠ 0 := fun h0 => by
          have := ((hvl.el hu).1 h0).2.1
          omega
        have := hvl.place hu hx hj0 (by omega) (by omega) h2
        omega
      have miss : j ≠ e → Ok (nx (f, j + 1)) (· = true) := fun hje => hn2 _ ⟨by dsimp only; omega, by dsimp only; omega, by
        dsimp only
        rw [hf]
        by_cases h : e < j
        · rw [if_pos h, if_pos (by omega)]
        · rw [if_neg h, if_neg (by omega)]⟩ (by dsimp only; omega)
      refine ok_if (fun q1 => ok_ixe j0 hu (ok_if (fun q2 => ?_) (fun q2 => miss fun h => ?_))) (fun q1 => miss fun h => ?_)
      · have := hit q1 (by rw [q2, hz2])
        exact hn2 _ ⟨by dsimp only; omega, by dsimp only; omega, by dsimp only; rw [if_pos (by omega)]; exact this⟩ (by dsimp only; omega)
      · subst h
        rw [hx] at hu
        cases hu
        exact q2 hz2.symm
      · subst h
        rw [hx] at hu
        cases hu
        exact q1 exp.symm
    · rw [if_pos (by omega)] at hf
      refine ok_if0 (by omega) (hnx _ ⟨by dsimp only; omega, by dsimp only; omega, q + 1, by dsimp only; rw [hf]; exact he, hz1⟩ (by dsimp only; omega))
  · refine ok_ixe b0 hy (ok_if (fun h3 => ?_) (fun h3 => hk2 _ ⟨(Decidable.not_not.1 fun h => h3 (hy3.2 fun hh => h hh.symm)), ?_⟩))
    · rw [if_pos h3] at hsets htk
      have hgk : (sets l a)[k.toNat]? = some ⟨at', x.Side⟩ := by
        rw [hsets, hk, List.append_assoc, List.getElem?_append_right (by omega)]
        simp
      have hgl := sc_lt hgk
      refine ok_if0 (by omega) (ok_ixe (by omega) hgk (ok_if0 (fun h => h rfl) (ok_ixe (by omega) hgk ?_)))
      rw [w64_eq (by omega)]
      refine hk2 _ ⟨rfl, ?_⟩
      dsimp only
      rw [htk, hk]
      simp
    · dsimp only
      rw [htk, hk, if_neg h3]
      simp
end Go.Hy
