/-
  The law TreeExact.
-/
import Derived.Test.YtncgacgkeonfnaaPTreeL
import Derived.Test.YtncgacgkeonfnaaPWayR
import Derived.Test.YtncgacgkeonfnaaPSpoil
namespace Go.Hy
set_option linter.unusedVariables false
set_option linter.unusedSimpArgs false
set_option maxHeartbeats 2000000
set_option maxRecDepth 10000

theorem rcheck_m {l : List Element} {i : Int} (hn : Nms l) : r10_check l i = some (chkE l [i]) := by
  refine Ok.eq (?_ : Ok _ _)
  unfold r10_check chkE
  refine ok_bde (rLayValid_e hn) (ok_if (fun h => ok_some (by rw [if_pos h])) (fun h => ?_))
  rw [if_neg h]
  refine ok_if (fun q => ok_some (by rw [if_neg (by simp; omega)])) (fun q1 => ok_if (fun q => ok_some (by rw [if_neg (by simp; omega)])) (fun q2 => ok_some (by rw [if_pos (by simp; omega)])))
theorem rPath10_m {l : List Element} {i : Int} (hn : Nms l) : r10_Path l i = some (aft (chkE l [i]) [] (way l i)) := by
  refine Ok.eq (?_ : Ok _ _)
  unfold r10_Path aft
  refine ok_bde (rcheck_m hn) (ok_if (fun h => ok_some (by rw [if_pos h])) (fun h => ?_))
  rw [if_neg h]
  obtain ⟨hv, ht⟩ := chk_bad (Decidable.not_not.1 h)
  have ht := ht i (List.mem_singleton.2 rfl)
  exact ok_bde (way_m hv ht.2) (ok_some rfl)
theorem chk_two {l : List Element} {a b : Int} (ha : chkE l [a] = 0) : chkE l [a, b] = chkE l [b] := by
  obtain ⟨_, h1⟩ := chk_bad ha
  have h1 := h1 a (List.mem_singleton.2 rfl)
  unfold chkE
  simp only [List.mem_cons, List.not_mem_nil, or_false, forall_eq_or_imp, forall_eq, h1, true_and, and_true]
theorem chk_one {l : List Element} {a b : Int} (ha : chkE l [a] ≠ 0) : chkE l [a, b] = chkE l [a] := by
  unfold chkE at *
  by_cases h : lE l ≠ 0
  · rw [if_pos h, if_pos h]
  · rw [if_neg h] at ha ⊢
    rw [if_neg h]
    by_cases h2 : ∀ t ∈ [a], 0 ≤ t ∧ t < (l.length : Int)
    · rw [if_pos h2] at ha; exact absurd rfl ha
    · rw [if_neg h2, if_neg (fun hh => h2 fun t ht => hh t (by rw [List.mem_singleton.1 ht]; simp))]
theorem rCommon_m {l : List Element} {a b : Int} (hn : Nms l) : r10_Common l a b = some (aft (chkE l [a, b]) 0 (com l a b)) := by
  refine Ok.eq (?_ : Ok _ _)
  unfold r10_Common aft
  refine ok_bde (rcheck_m hn) (ok_if (fun h => ok_some (by rw [chk_one h, if_pos h])) (fun h => ?_))
  have h0 := Decidable.not_not.1 h
  rw [chk_two h0]
  refine ok_bde (rcheck_m hn) (ok_if (fun h => ok_some (by rw [if_pos h])) (fun h => ?_))
  rw [if_neg h]
  obtain ⟨hv, ha⟩ := chk_bad h0
  have ha := ha a (by simp)
  obtain ⟨_, hb⟩ := chk_bad (Decidable.not_not.1 h)
  have hb := hb b (by simp)
  have hlen := hv.len
  refine ok_bde (way_m hv ha.2) (ok_bde (way_m hv hb.2) ?_)
  have hwa := way_len hv (a.toNat + 1) a (by omega)
  have hwb := way_len hv (b.toNat + 1) b (by omega)
  obtain ⟨a1, a2, a3, a4⟩ := way_step hv (a.toNat + 1) a (by omega) ha.1 ha.2
  obtain ⟨b1, b2, b3, b4⟩ := way_step hv (b.toNat + 1) b (by omega) hb.1 hb.2
  unfold com
  generalize way l a = u at *
  generalize way l b = v at *
  have hpos : 1 ≤ cpl u v := by
    rcases Nat.eq_zero_or_pos (cpl u v) with q | q
    · have := (cpl_sp (u := u) (v := v)).2.2.2 0
      rw [q] at this
      exact absurd b1 (this a1)
    · exact q
  refine ok_jp (fun (z : Int) => 0 ≤ z ∧ z ≤ u.length ∧ cpl u v = z.toNat) (fun z ⟨z1, z2, hz⟩ => ?_) (fun k hk => ?_)
  · rw [w64_eq (by omega)]
    refine ok_ix (by omega) (by omega) fun x hx => ok_some ?_
    rw [hz, show z.toNat - 1 = (z - 1).toNat from by omega, hx]
    rfl
  · refine ok_lp (fun (z : Int) => 0 ≤ z ∧ z ≤ u.length ∧ z ≤ v.length ∧ u.take z.toNat = v.take z.toNat) (fun z => ((u.length : Int) - z).toNat) ⟨Int.le_refl 0, by omega, by omega, rfl⟩ (by simp only [big_eq]; omega) ?_
    intro z next ⟨z1, z2, z3, hz⟩ hnx
    have fin : (∀ a, u[z.toNat]? = some a → v[z.toNat]? ≠ some a) → Ok (k z) _ := fun h => hk z ⟨z1, z2, cpl_at (by omega) (by omega) hz h⟩
    refine ok_if (fun q1 => ok_if (fun q2 => ok_ix (by omega) q1 fun x hx => ok_ix (by omega) q2 fun y hy => ok_if (fun q3 => ?_) (fun q3 => fin (fun c hc hd => q3 ?_))) (fun q2 => fin (fun c hc hd => ?_))) (fun q1 => fin (fun c hc hd => ?_))
    · rw [w64_eq (by omega)]
      refine hnx _ ⟨by omega, by omega, by omega, ?_⟩ (by omega)
      rw [show (z + 1).toNat = z.toNat + 1 from by omega, sc_take hx, sc_take hy, hz, q3]
    · rw [hx] at hc; rw [hy] at hd; cases hc; cases hd; rfl
    · have := sc_lt hd; omega
    · have := sc_lt hc; omega
theorem rBeyond_m {l : List Element} {i : Int} (hn : Nms l) : r10_Beyond l i = some (aft (chkE l [i]) [] (bey l i)) := by
  refine Ok.eq (?_ : Ok _ _)
  unfold r10_Beyond aft
  refine ok_bde (rcheck_m hn) (ok_if (fun h => ok_some (by rw [if_pos h])) (fun h => ?_))
  rw [if_neg h]
  obtain ⟨hv, ht⟩ := chk_bad (Decidable.not_not.1 h)
  have ht := ht i (List.mem_singleton.2 rfl)
  have hlen := hv.len
  refine ok_lp (fun (z : List Int × Int) => 0 ≤ z.2 ∧ z.2 ≤ l.length ∧ z.1 = beyN l i z.2.toNat) (fun z => ((l.length : Int) - z.2).toNat) ⟨Int.le_refl 0, by dsimp only; omega, rfl⟩ (by simp only [big_eq]; omega) ?_
  rintro ⟨o, k⟩ next ⟨k0, k1, ho⟩ hnx
  dsimp only at k0 k1 ho ⊢
  have hol := beyN_len (l := l) (i := i) (n := k.toNat)
  rw [← ho] at hol
  refine ok_if (fun hk => ok_ix k0 hk fun x hx => ?_) (fun hk => ok_some ?_)
  rotate_left
  · rw [ho, show k.toNat = l.length from by omega]; rfl
  have ek : (k + 1).toNat = k.toNat + 1 := by omega
  have hstep := beyN_step (l := l) (i := i) (n := k.toNat)
  have hkk : ((k.toNat : Nat) : Int) = k := by omega
  rw [hkk] at hstep
  rw [w64_eq (n := k + 1) (by omega)]
  refine ok_if (fun h4 => ?_) (fun h4 => ?_)
  · refine hnx _ ⟨by dsimp only; omega, by dsimp only; omega, ?_⟩ (by dsimp only; omega)
    dsimp only
    rw [ek, hstep, if_neg (fun hp => ?_), List.append_nil, ho]
    have := hp.1
    rw [hx] at this
    exact h4 (Option.some.inj this)
  · have hP : beyP l i k.toNat ↔ i ∈ way l k := by
      unfold beyP
      rw [hkk, hx]
      exact ⟨fun hp => hp.2, fun hp => ⟨congrArg some (Decidable.not_not.1 h4), hp⟩⟩
    refine ok_lp (fun (y : List Int × Int) => -1 ≤ y.2 ∧ y.2 ≤ k ∧ y.1.length ≤ l.length ∧ y.1 ++ (if i ∈ way l y.2 then [k] else []) = beyN l i (k.toNat + 1) ∧ (y.1.length ≤ o.length ∨ i ∉ way l y.2)) (fun y => (y.2 + 1).toNat) ⟨by dsimp only; omega, by dsimp only; omega, by dsimp only; omega, ?_, .inl (Nat.le_refl _)⟩ (by simp only [big_eq]; omega) ?_
    · dsimp only
      rw [hstep, ho]
      congr 1
      by_cases hp : i ∈ way l k
      · rw [if_pos hp, if_pos (hP.2 hp)]
      · rw [if_neg hp, if_neg (fun q => hp (hP.1 q))]
    rintro ⟨a, p⟩ nx ⟨p0, p1, al, ha, hb⟩ hny
    dsimp only at p0 p1 al ha hb ⊢
    refine ok_if (fun hp => ?_) (fun hp => ?_)
    · have hpl : p.toNat < l.length := by omega
      have hy : l[p.toNat]? = some l[p.toNat] := List.getElem?_eq_getElem hpl
      generalize l[p.toNat] = y at hy
      have hpar := hv.par hy
      have hw := way_at hv hp hy
      have hmem := way_mem hv (p.toNat + 1) y.Parent (by omega)
      refine ok_if (fun q => ok_ck (by simp only [List.length_cons, List.length_nil]; omega) (ok_vl fun a2 ha2 => ok_ixe hp hy (hny _ ⟨by dsimp only; omega, by dsimp only; omega, ?_, ?_, .inr ?_⟩ (by dsimp only; omega)))) (fun q => ok_ixe hp hy (hny _ ⟨by dsimp only; omega, by dsimp only; omega, al, ?_, ?_⟩ (by dsimp only; omega)))
      · have hin : i ∈ way l p := by rw [hw, q]; simp
        have hb2 : a.length ≤ o.length := hb.resolve_right (fun hh => hh hin)
        dsimp only
        rw [ha2, List.length_append, List.length_singleton]
        omega
      · dsimp only
        have hin : i ∈ way l p := by rw [hw, q]; simp
        rw [if_pos hin] at ha
        rw [if_neg (fun hh => by have := hmem i hh; omega), List.append_nil, ha2, ha]
      · dsimp only
        exact fun hh => by have := hmem i hh; omega
      · dsimp only
        have : i ∈ way l p ↔ i ∈ way l y.Parent := by
          rw [hw, List.mem_append, List.mem_singleton]
          exact ⟨fun h => h.resolve_right (fun e => q e.symm), .inl⟩
        rw [← ha]
        by_cases hp2 : i ∈ way l p
        · rw [if_pos hp2, if_pos (this.1 hp2)]
        · rw [if_neg hp2, if_neg (fun hh => hp2 (this.2 hh))]
      · dsimp only
        refine hb.imp id fun hh h2 => hh ?_
        rw [hw]
        exact List.mem_append_left _ h2
    · rw [way_neg (by omega)] at ha
      simp only [List.not_mem_nil, if_false, List.append_nil] at ha
      exact hnx _ ⟨by dsimp only; omega, by dsimp only; omega, by dsimp only; rw [ek, ha]⟩ (by dsimp only; omega)
theorem rTracks_m {l : List Element} (hn : Nms l) : r10_Tracks l = some (aft (chkE l []) [] (bey l 0)) := by
  have e : chkE l [0] = chkE l [] := by
    unfold chkE
    by_cases h : lE l ≠ 0
    · rw [if_pos h, if_pos h]
    · have := (lE_ok (Decidable.not_not.1 h)).len
      rw [if_neg h, if_neg h, if_pos (by simp; omega), if_pos (by simp)]
  refine Ok.eq (?_ : Ok _ _)
  unfold r10_Tracks
  refine ok_bde (rBeyond_m hn) (ok_some ?_)
  rw [e]
theorem rSettings_m {l : List Element} {i : Int} (hn : Nms l) : r10_Settings l i = some (aft (chkE l [i]) [] (sets l i)) := by
  refine Ok.eq (?_ : Ok _ _)
  unfold r10_Settings aft
  refine ok_bde (rcheck_m hn) (ok_if (fun h => ok_some (by rw [if_pos h])) (fun h => ?_))
  rw [if_neg h]
  obtain ⟨hv, ht⟩ := chk_bad (Decidable.not_not.1 h)
  have ht := ht i (List.mem_singleton.2 rfl)
  have hlen := hv.len
  refine ok_bde (way_m hv ht.2) ?_
  have hwl := way_len hv (i.toNat + 1) i (by omega)
  obtain ⟨a1, a2, a3, a4⟩ := way_step hv (i.toNat + 1) i (by omega) ht.1 ht.2
  have htl : (way l i).tail.length = (way l i).length - 1 := List.length_tail
  refine ok_lp (fun (z : List Arr2Int × Int) => 0 ≤ z.2 ∧ z.2 ≤ (way l i).tail.length ∧ z.1.length ≤ z.2 ∧ z.1 = ((way l i).tail.take z.2.toNat).filterMap (setF l)) (fun z => ((way l i).tail.length - z.2).toNat) ⟨Int.le_refl 0, by dsimp only; omega, by decide, rfl⟩ (by simp only [big_eq]; omega) ?_
  rintro ⟨o, k⟩ next ⟨k0, k1, ol, ho⟩ hnx
  dsimp only at k0 k1 ol ho ⊢
  rw [w64_eq (n := k + 1) (by omega)]
  refine ok_if (fun hk => ?_) (fun hk => ok_some ?_)
  rotate_left
  · rw [ho, List.take_of_length_le (by omega)]; rfl
  have ek : (k + 1).toNat = k.toNat + 1 := by omega
  have he2 : (way l i)[k.toNat + 1]? = some (way l i)[k.toNat + 1] := List.getElem?_eq_getElem (by omega)
  generalize (way l i)[k.toNat + 1] = e at he2
  have he : (way l i).tail[k.toNat]? = some e := by rw [List.getElem?_tail]; exact he2
  obtain ⟨e1, e2, x, y, hx, hq, x0, x1, hy, _, _⟩ := way_next hv ht.1 ht.2 he2
  have hF := setF_eq hx hy
  refine ok_ixe k0 hq (ok_ixe x0 hy (ok_if (fun h3 => ok_ixe k0 hq (ok_ixe (by omega) (by rw [ek]; exact he2) (ok_ixe (by omega) hx (ok_ck (by simp only [List.length_cons, List.length_nil]; omega) (ok_vl fun o2 ho2 => ?_))))) (fun h3 => ?_)))
  · refine hnx _ ⟨by dsimp only; omega, by dsimp only; omega, by dsimp only; rw [ho2]; simp; omega, ?_⟩ (by dsimp only; omega)
    dsimp only
    rw [ho2, ek, sc_take he, List.filterMap_append, ← ho]
    simp [hF, h3]
  · refine hnx _ ⟨by dsimp only; omega, by dsimp only; omega, by dsimp only; omega, ?_⟩ (by dsimp only; omega)
    dsimp only
    rw [ek, sc_take he, List.filterMap_append, ← ho]
    simp [hF, h3]
theorem Pairs_self {a : List Arr2Int} (h : a.length ≤ 1000000000) : gen_Pairs a a = some true := by
  refine Ok.eq (?_ : Ok _ _)
  unfold gen_Pairs
  refine ok_if0 (fun h => h rfl) (ok_lp (fun (z : Int) => 0 ≤ z ∧ z ≤ a.length) (fun z => ((a.length : Int) - z).toNat) ⟨Int.le_refl 0, by omega⟩ (by simp only [big_eq]; omega) ?_)
  intro z next ⟨z0, z1⟩ hnx
  refine ok_if (fun hz => ok_ix z0 hz fun x hx => ok_ixe z0 hx (ok_if0 (fun h => h ⟨rfl, rfl⟩) ?_)) (fun _ => ok_some rfl)
  rw [w64_eq (by omega)]
  exact hnx _ ⟨by omega, by omega⟩ (by omega)
theorem aft_le {α : Type} {e : Int} {v : List α} (h : e = 0 → v.length ≤ 1000000000) : (aft e [] v).1.length ≤ 1000000000 := by
  unfold aft
  split
  · exact Nat.zero_le _
  · rename_i hh; exact h (Decidable.not_not.1 hh)
theorem way_le {l : List Element} {i : Int} {ts : List Int} (h : chkE l (i :: ts) = 0) : (way l i).length ≤ 1000 := by
  obtain ⟨hv, ht⟩ := chk_bad h
  have ht := ht i (by simp)
  have := hv.len
  have := way_len hv (i.toNat + 1) i (by omega)
  omega
theorem bey_le {l : List Element} {i : Int} {ts : List Int} (h : chkE l ts = 0) : (bey l i).length ≤ 1000 := by
  obtain ⟨hv, _⟩ := chk_bad h
  have := hv.len
  have := beyN_len (l := l) (i := i) (n := l.length)
  unfold bey
  omega
theorem exact10_m {l : List Element} {i k : Int} (hn : Nms l) : law10_exact l i k = some true := by
  refine Ok.eq (?_ : Ok _ _)
  unfold law10_exact
  have w1 : (aft (chkE l [i]) [] (way l i)).1.length ≤ 1000000000 := aft_le fun h => by have := way_le h; omega
  have w2 : (aft (chkE l []) [] (bey l 0)).1.length ≤ 1000000000 := aft_le fun h => by have := bey_le (i := 0) h; omega
  have w3 : (aft (chkE l [i]) [] (bey l i)).1.length ≤ 1000000000 := aft_le fun h => by have := bey_le (i := i) h; omega
  have w4 : (aft (chkE l [i]) [] (sets l i)).1.length ≤ 1000000000 := aft_le fun h => by
    have := way_le h
    have h2 := List.length_filterMap_le (setF l) (way l i).tail
    rw [List.length_tail] at h2
    unfold sets
    omega
  refine ok_bde (Tracks_m hn) (ok_bde (rTracks_m hn) (ok_bde (Ints_self w2) (ok_nb (fun h => by cases h) fun _ => ok_if0 (fun h => h rfl) ?_)))
  refine ok_bde (Path_m hn) (ok_bde (rPath10_m hn) (ok_bde (Common_m hn) (ok_bde (rCommon_m hn) (ok_bde (Ints_self w1) (ok_nb (fun h => by cases h) fun _ => ok_if0 (fun h => h rfl) (ok_if0 (fun h => h rfl) (ok_if0 (fun h => h rfl) ?_)))))))
  refine ok_bde (Beyond_m hn) (ok_bde (rBeyond_m hn) (ok_bde (Settings_m hn) (ok_bde (rSettings_m hn) (ok_bde (Ints_self w3) (ok_b (fun _ => ok_if1 rfl (ok_bde (Pairs_self w4) (ok_b (fun _ => ok_some (decide_eq_true rfl)) (fun h => by cases h)))) (fun h => by cases h))))))
theorem From10_ok {k : HumpgenMaker} {a b : Int} (h : Mk k CM0) (hab : a ≤ b ∧ -1000000 ≤ a ∧ b ≤ 1000000) : Ok (gen_Maker_From k a b) fun r => (a ≤ r.1 ∧ r.1 ≤ b) ∧ r.2 = k.fn + 1 := by
  unfold gen_Maker_From
  rw [w64_eq (n := b - a) (by omega), w64_eq (by omega)]
  refine ok_bd (Next_ok h (by omega)) fun v ⟨hv, hc⟩ => ok_some ⟨?_, hc⟩
  rw [w64_eq (by omega)]
  omega
theorem TreeExact_ok {t : List Int} {l : List Element} {a b : Int} (ht : t.length ≤ 9223372036854775807) (hn : Nms l) : law10_TreeExact t l a b = some true := by
  refine Ok.eq (?_ : Ok _ _)
  unfold law10_TreeExact
  refine ok_bde (gen_New_ok t) ?_
  have mk : ∀ c1, 0 ≤ c1 → c1 ≤ 1000000 → Mk (HumpgenMaker.mk t c1) 900000000000000 := fun c' h1 h2 => ⟨h1, by dsimp only; omega, ht⟩
  refine ok_jp (fun _ => True) (fun _ _ => ok_if (fun _ => ok_some rfl) (fun _ => ok_bde (exact10_m hn) (ok_b (fun _ => ok_bde sane10 (ok_some rfl)) (fun h => by cases h)))) (fun kk hk => ?_)
  refine ok_lp (fun (z : Int × Int) => 0 ≤ z.2 ∧ 0 ≤ z.1 ∧ z.1 ≤ 2000 * z.2) (fun z => (4 - z.2).toNat) ⟨Int.le_refl 0, Int.le_refl 0, by dsimp only; omega⟩ (by simp only [big_eq]; omega) ?_
  rintro ⟨c, i⟩ next ⟨i0, c0, c1⟩ hnx
  dsimp only at i0 c0 c1 ⊢
  refine ok_if (fun hi => ?_) (fun _ => hk _ trivial)
  refine ok_bd (Layout_ok (k := HumpgenMaker.mk t c) (mk c c0 (by omega)) (by omega)) fun r ⟨hm, d0, d1⟩ => ?_
  obtain ⟨x, cx⟩ := r
  dsimp only at hm d0 d1 ⊢
  have hx := TL.mk' hm (by decide)
  have hxl := hx.v.len
  have up : ∀ c', c ≤ c' → c' ≤ c + 1900 → Mk (HumpgenMaker.mk t c') CM0 := fun c' h1 h2 => (mk c' (by omega) (by omega)).up (by decide)
  refine ok_jp (fun (z : Int × List Element) => c ≤ z.1 ∧ z.1 ≤ c + 1500 ∧ Nms z.2 ∧ z.2.length ≤ 1000) (fun z ⟨z1, z2, z3, z4⟩ => ?_) (fun k2 hk2 => ?_)
  · refine ok_bd (From10_ok (up z.1 (by omega) (by omega)) (by omega)) fun u ⟨_, eu⟩ => ?_
    dsimp only at eu
    refine ok_bd (From10_ok (up u.2 (by omega) (by omega)) (by omega)) fun v ⟨_, ev⟩ => ?_
    dsimp only at ev
    refine ok_bde (exact10_m z3) (ok_nb (fun h => by cases h) fun _ => ok_bde (exact10_m z3) (ok_nb (fun h => by cases h) fun _ => ?_))
    rw [w64_eq (by omega)]
    exact hnx _ ⟨by dsimp only; omega, by dsimp only; omega, by dsimp only; omega⟩ (by dsimp only; omega)
  · refine ok_if (fun _ => ?_) (fun _ => hk2 _ ⟨by dsimp only; omega, by dsimp only; omega, hx.n, by dsimp only; omega⟩)
    refine ok_bd (Spoil_ok (mk cx (by omega) (by omega)) hx.n (by omega)) fun r ⟨h1, h2, h3, h4⟩ => ?_
    dsimp only at h3 h4
    exact hk2 _ ⟨by dsimp only; omega, by dsimp only; omega, h1, h2⟩
end Go.Hy
