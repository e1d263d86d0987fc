/-
  The law RunoffPath.
-/
import Derived.Test.YtbojnnefpapamaaPTree0
import Derived.Test.YtbojnnefpapamaaPWay
import Derived.Test.YtbojnnefpapamaaPMot
import Derived.Test.YtbojnnefpapamaaPSpoil
namespace Go.Hy
set_option linter.unusedVariables false
set_option linter.unusedSimpArgs false
set_option maxHeartbeats 2000000
set_option maxRecDepth 10000

theorem pPath_m {l : List Element} {t : Int} (hn : Nms l) : runoff_Path l t = some (ptE l t) := by
  refine Ok.eq (?_ : Ok _ _)
  unfold runoff_Path ptE
  refine ok_bde (Path_m hn) ?_
  by_cases h : chkE l [t] = 0
  rotate_left
  · have e : aft (chkE l [t]) [] (way l t) = ([], chkE l [t]) := by unfold aft; rw [if_pos h]
    rw [e]
    refine ok_if1 h (ok_some ?_)
    unfold chkE at h ⊢
    by_cases h1 : lE l ≠ 0
    · rw [if_pos h1, if_pos h1]
    · rw [if_neg h1] at h ⊢
      rw [if_neg h1]
      have h2 : ¬ ∀ x ∈ [t], 0 ≤ x ∧ x < (l.length : Int) := fun q => by rw [if_pos q] at h; exact h rfl
      rw [if_neg h2, if_neg]
      rintro ⟨h0, x, hx, _⟩
      have := sc_lt hx
      exact h2 fun y hy => by rw [List.mem_singleton.1 hy]; omega
  have e : aft (chkE l [t]) [] (way l t) = (way l t, 0) := by unfold aft; rw [if_neg (by omega)]
  obtain ⟨hv, ht⟩ := chk_bad h
  have ht := ht t (List.mem_singleton.2 rfl)
  have hlen := hv.len
  have h0 : lE l = 0 := by
    unfold chkE at h
    by_cases h1 : lE l ≠ 0
    · rw [if_pos h1] at h; exact absurd h h1
    · exact Decidable.not_not.1 h1
  rw [e, if_neg (fun q => q h0)]
  refine ok_if0 (fun q => q rfl) (ok_ix ht.1 ht.2 fun x hx => ok_if (fun q => ok_some ?_) (fun q => ?_))
  · rw [if_neg]
    rintro ⟨_, y, hy, hk⟩
    rw [hx] at hy
    cases hy
    exact q hk
  rw [if_pos ⟨ht.1, x, hx, Decidable.not_not.1 q⟩]
  have hwl := way_len hv (t.toNat + 1) t (by omega)
  have hmem := way_mem hv (t.toNat + 1) t (by omega)
  obtain ⟨a1, a2, a3, a4⟩ := way_step hv (t.toNat + 1) t (by omega) ht.1 ht.2
  have hd : (way l t).drop (Int.toNat 1) = (way l t).tail := by rw [show Int.toNat 1 = 1 from rfl, List.drop_one]
  simp only [hd]
  have htl : (way l t).tail.length = (way l t).length - 1 := List.length_tail
  refine ok_ck (by omega) (ok_vl fun n hnn => ?_)
  subst hnn
  unfold pth
  refine ok_lp (fun (z : List Piece × Int) => 0 ≤ z.2 ∧ z.2 ≤ (way l t).tail.length ∧ z.1.length ≤ z.2 ∧ z.1 = ((way l t).tail.take z.2.toNat).map (pcOf l)) (fun z => ((way l t).tail.length - z.2).toNat) ⟨Int.le_refl 0, by dsimp only; omega, by decide, rfl⟩ (by simp only [big_eq]; omega) ?_
  rintro ⟨o, k⟩ next ⟨k0, k1, ol, ho⟩ hnx
  dsimp only at k0 k1 ol ho ⊢
  refine ok_if (fun hk => ok_ix k0 hk fun e he => ?_) (fun hk => ok_some ?_)
  rotate_left
  · rw [ho, List.take_of_length_le (by omega)]
  have he2 : (way l t)[k.toNat + 1]? = some e := by rw [← List.getElem?_tail]; exact he
  obtain ⟨e1, x, hx, _⟩ := a4 k.toNat e he2
  have ek : (k + 1).toNat = k.toNat + 1 := by omega
  refine ok_ixe (by omega) hx (ok_ck (by simp only [List.length_cons, List.length_nil]; omega) (ok_vl fun o2 ho2 => ?_))
  rw [w64_eq (n := k + 1) (by omega)]
  refine hnx _ ⟨by dsimp only; omega, by dsimp only; omega, by dsimp only; rw [ho2]; simp; omega, ?_⟩ (by dsimp only; omega)
  dsimp only
  rw [ho2, ek, sc_take he, List.map_append, ← ho, List.map_singleton]
  congr 2
  unfold pcOf
  rw [hx]
theorem Pieces_self {l : List Piece} (hl : l.length ≤ 1000000000) : gen_Pieces l l = some true := by
  refine Ok.eq (?_ : Ok _ _)
  unfold gen_Pieces
  refine ok_if0 (by simp) ?_
  refine ok_lp (fun (z : Int) => 0 ≤ z) (fun z => ((l.length : Int) - z).toNat) (Int.le_refl 0) (by simp only [big_eq]; omega) ?_
  intro z next z0 hn
  refine ok_if (fun h => ok_ix z0 h fun a ha => ok_ixe z0 ha (ok_if0 (by simp) ?_)) (fun _ => ok_some rfl)
  rw [w64_eq (by omega)]
  exact hn _ (by omega) (by omega)
theorem ptE_le {l : List Element} {t : Int} : (ptE l t).1.length ≤ 1000000000 := by
  unfold ptE
  split
  · exact Nat.zero_le _
  · rename_i h
    split
    · rename_i ht
      have hv := lE_ok (Decidable.not_not.1 h)
      have := (pth_ok hv ht).1.len
      dsimp only
      omega
    · exact Nat.zero_le _
theorem sane20r : law20_sane = some true := by kernel_rfl
theorem RPath_ok {t : List Int} {l : List Element} {a : Int} (ht : t.length ≤ 9223372036854775807) (hn : Nms l) : law20_RunoffPath t l a = some true := by
  refine Ok.eq (?_ : Ok _ _)
  unfold law20_RunoffPath
  refine ok_bde (gen_New_ok t) ?_
  have mk : ∀ c1, 0 ≤ c1 → c1 ≤ 1000000 → Mk (HumpgenMaker.mk t c1) 900000000000000 := fun c' h1 h2 => ⟨h1, by dsimp only; omega, ht⟩
  refine ok_jp (fun _ => True) (fun _ _ => ok_if (fun _ => ok_bde sane20r (ok_some rfl)) (fun _ => ok_bde (pPath_m hn) (ok_bde (rPath_m hn) (ok_bde (Pieces_self ptE_le) (ok_b (fun _ => ok_if1 rfl (ok_bde sane20r (ok_some rfl))) (fun h => by cases h)))))) (fun kk hk => ?_)
  refine ok_lp (fun (z : Int × Int) => 0 ≤ z.2 ∧ 0 ≤ z.1 ∧ z.1 ≤ 2000 * z.2) (fun z => (4 - z.2).toNat) ⟨Int.le_refl 0, Int.le_refl 0, by dsimp only; omega⟩ (by simp only [big_eq]; omega) ?_
  rintro ⟨c, i⟩ next ⟨i0, c0, c1⟩ hnx
  dsimp only at i0 c0 c1 ⊢
  refine ok_if (fun hi => ?_) (fun _ => hk _ trivial)
  refine ok_bd (Layout_ok (k := HumpgenMaker.mk t c) (mk c c0 (by omega)) (by omega)) fun r ⟨hm, d0, d1⟩ => ?_
  obtain ⟨x, cx⟩ := r
  dsimp only at hm d0 d1 ⊢
  have hxl := (hm.vl (by decide)).len
  have up : ∀ c', c ≤ c' → c' ≤ c + 1900 → Mk (HumpgenMaker.mk t c') CM0 := fun c' h1 h2 => (mk c' (by omega) (by omega)).up (by decide)
  refine ok_jp (fun (z : Int × List Element) => c ≤ z.1 ∧ z.1 ≤ c + 1500 ∧ Nms z.2 ∧ z.2.length ≤ 1000) (fun z ⟨z1, z2, z3, z4⟩ => ?_) (fun k2 hk2 => ?_)
  · refine ok_bd (From_ok (up z.1 (by omega) (by omega)) (by omega)) fun u ⟨_, eu⟩ => ?_
    dsimp only at eu
    refine ok_bde (pPath_m z3) (ok_bde (rPath_m z3) (ok_bde (Pieces_self ptE_le) (ok_nb (fun h => by cases h) fun _ => ok_if0 (fun h => h rfl) ?_)))
    rw [w64_eq (by omega)]
    exact hnx _ ⟨by dsimp only; omega, by dsimp only; omega, by dsimp only; omega⟩ (by dsimp only; omega)
  · refine ok_if (fun _ => ?_) (fun _ => hk2 _ ⟨by dsimp only; omega, by dsimp only; omega, hm.u.nms, by dsimp only; omega⟩)
    refine ok_bd (Spoil_ok (mk cx (by omega) (by omega)) hm.u.nms (by omega)) fun r ⟨h1, h2, h3, h4⟩ => ?_
    dsimp only at h3 h4
    exact hk2 _ ⟨by dsimp only; omega, by dsimp only; omega, h1, h2⟩
end Go.Hy
