/-
  What the tree's functions answer: ways, settings, the last common element, the tracks beyond.
-/
import Derived.Test.YtncgacgkeonfnaaPVal
import Derived.Test.YtncgacgkeonfnaaPWay0
namespace Go.Hy
set_option linter.unusedVariables false
set_option linter.unusedSimpArgs false
set_option maxHeartbeats 2000000
set_option maxRecDepth 10000

def chkE (l : List Element) (ts : List Int) : Int := if lE l ≠ 0 then lE l else if ∀ t ∈ ts, 0 ≤ t ∧ t < (l.length : Int) then 0 else 2
theorem check_m {l : List Element} {ts : List Int} (hn : Nms l) (hts : ts.length ≤ 1000) : tree_check l ts = some (chkE l ts) := by
  refine Ok.eq (?_ : Ok _ _)
  unfold tree_check chkE
  refine ok_bde (Valid_e hn) (ok_if (fun h => ok_some (by rw [if_pos h])) (fun h => ?_))
  rw [if_neg h]
  refine ok_lp (fun (z : Int) => Scan (fun t => decide (0 ≤ t ∧ t < (l.length : Int))) ts z) (fun z => ((ts.length : Int) - z).toNat) Scan.zero (by simp only [big_eq]; omega) ?_
  intro z next hz hnx
  refine ok_if (fun hi => ok_ix hz.1 hi fun t ht => ?_) (fun hi => ok_some ?_)
  rotate_left
  · have := hz.done hi
    rw [List.all_eq_true] at this
    rw [if_pos fun t ht => of_decide_eq_true (this t ht)]
  have bad : ¬ (0 ≤ t ∧ t < (l.length : Int)) → Ok (some (2 : Int)) (fun v => v = if ∀ t ∈ ts, 0 ≤ t ∧ t < (l.length : Int) then 0 else 2) := fun hb => ok_some (by rw [if_neg fun hh => hb (hh t (sc_mem ht))])
  refine ok_if (fun q => bad (by omega)) (fun q1 => ok_if (fun q => bad (by omega)) (fun q2 => ?_))
  have := hz.1
  rw [w64_eq (by omega)]
  exact hnx _ (hz.step ht (decide_eq_true (by omega))) (by omega)
theorem path_m {l : List Element} (h : VL l) : ∀ (n : Nat) (i : Int), i < n → 0 ≤ i → i < l.length → tree_path_n n l i = some (way l i) := by
  intro n
  induction n with
  | zero => intro i h1 h2; omega
  | succ n ih =>
    intro i h1 h2 h3
    refine Ok.eq (?_ : Ok _ _)
    unfold tree_path_n
    have hlen := h.len
    refine ok_if (fun h0 => ?_) (fun h0 => ok_ix h2 h3 fun x hx => ?_)
    · subst h0
      have hx : l[(0 : Int).toNat]? = some l[0] := List.getElem?_eq_getElem (by omega)
      generalize l[0] = x at hx
      have hp := ((h.el hx).1 rfl).2.1
      exact ok_some (by rw [way_at h (by decide) hx, hp, way_neg (by decide)]; rfl)
    · have hp := ((h.el hx).2 (by omega)).2.2
      have hl := way_len h (i.toNat + 1) x.Parent (by omega)
      refine ok_bde (ih x.Parent (by omega) hp.1 (by omega)) (ok_ck (by simp only [List.length_cons, List.length_nil]; omega) (ok_vl fun y hy => ok_some ?_))
      rw [hy, way_at h h2 hx]
theorem tpath_m {l : List Element} (h : VL l) {i : Int} (h0 : 0 ≤ i) (hi : i < l.length) : tree_path l i = some (way l i) := by
  have hlen := h.len
  unfold tree_path
  exact path_m h big i (by rw [big_eq]; omega) h0 hi
theorem chk_bad {l : List Element} {ts : List Int} (h : chkE l ts = 0) : VL l ∧ ∀ t ∈ ts, 0 ≤ t ∧ t < (l.length : Int) := by
  unfold chkE at h
  split at h
  · rename_i h1; exact absurd h h1
  · rename_i h1
    refine ⟨lE_ok (Decidable.not_not.1 h1), ?_⟩
    split at h
    · assumption
    · cases h
theorem chk_ok {l : List Element} {ts : List Int} (h : lE l = 0) (ht : ∀ t ∈ ts, 0 ≤ t ∧ t < (l.length : Int)) : chkE l ts = 0 := by
  unfold chkE
  rw [if_neg (by rw [h]; decide), if_pos ht]
/-- An answer of a function that looks at the layout first. -/
def aft {α : Type} (e : Int) (d v : α) : α × Int := if e ≠ 0 then (d, e) else (v, 0)
theorem Path_m {l : List Element} {i : Int} (hn : Nms l) : tree_Path l i = some (aft (chkE l [i]) [] (way l i)) := by
  refine Ok.eq (?_ : Ok _ _)
  unfold tree_Path aft
  refine ok_bde (check_m hn (by simp)) (ok_if (fun h => ok_some (by rw [if_pos h])) (fun h => ?_))
  rw [if_neg h]
  obtain ⟨hv, ht⟩ := chk_bad (Decidable.not_not.1 h)
  have ht := ht i (List.mem_singleton.2 rfl)
  exact ok_bde (tpath_m hv ht.1 ht.2) (ok_some rfl)

/-! ### Settings -/
def setF (l : List Element) (e : Int) : Option Arr2Int :=
  match l[e.toNat]? with
  | none => none
  | some x => match l[x.Parent.toNat]? with
    | none => none
    | some y => if y.Kind = 3 then some ⟨x.Parent, x.Side⟩ else none
def sets (l : List Element) (t : Int) : List Arr2Int := (way l t).tail.filterMap (setF l)
theorem Settings_m {l : List Element} {i : Int} (hn : Nms l) : tree_Settings l i = some (aft (chkE l [i]) [] (sets l i)) := by
  refine Ok.eq (?_ : Ok _ _)
  unfold tree_Settings aft
  refine ok_bde (check_m hn (by simp)) (ok_if (fun h => ok_some (by rw [if_pos h])) (fun h => ?_))
  rw [if_neg h]
  obtain ⟨hv, ht⟩ := chk_bad (Decidable.not_not.1 h)
  have ht := ht i (List.mem_singleton.2 rfl)
  have hlen := hv.len
  refine ok_bde (tpath_m hv ht.1 ht.2) ?_
  have hwl := way_len hv (i.toNat + 1) i (by omega)
  have hmem := way_mem hv (i.toNat + 1) i (by omega)
  obtain ⟨a1, a2, a3, a4⟩ := way_step hv (i.toNat + 1) i (by omega) ht.1 ht.2
  have hd : (way l i).drop (Int.toNat 1) = (way l i).tail := by rw [show Int.toNat 1 = 1 from rfl, List.drop_one]
  simp only [hd]
  have htl : (way l i).tail.length = (way l i).length - 1 := List.length_tail
  refine ok_ck (by omega) (ok_vl fun x6 hx6 => ?_)
  subst hx6
  refine ok_lp (fun (z : List Arr2Int × Int) => 0 ≤ z.2 ∧ z.2 ≤ (way l i).tail.length ∧ z.1.length ≤ z.2 ∧ z.1 = ((way l i).tail.take z.2.toNat).filterMap (setF l)) (fun z => ((way l i).tail.length - z.2).toNat) ⟨Int.le_refl 0, by dsimp only; omega, by decide, rfl⟩ (by simp only [big_eq]; omega) ?_
  rintro ⟨o, k⟩ next ⟨k0, k1, ol, ho⟩ hnx
  dsimp only at k0 k1 ol ho ⊢
  refine ok_if (fun hk => ok_ix k0 hk fun e he => ?_) (fun hk => ok_some ?_)
  rotate_left
  · rw [ho, List.take_of_length_le (by omega)]; rfl
  have he2 : (way l i)[k.toNat + 1]? = some e := by rw [← List.getElem?_tail]; exact he
  obtain ⟨e1, x, hx, _⟩ := a4 k.toNat e he2
  have hel := (hv.el hx).2 (by omega)
  have hlt := sc_lt hx
  have ek : (k + 1).toNat = k.toNat + 1 := by omega
  refine ok_ixe (by omega) hx (ok_ix hel.2.2.1 (by omega) fun y hy => ?_)
  rw [w64_eq (n := k + 1) (by omega)]
  have hF : setF l e = if y.Kind = 3 then some ⟨x.Parent, x.Side⟩ else none := by unfold setF; rw [hx]; dsimp only; rw [hy]
  refine ok_if (fun h3 => ok_ck (by simp only [List.length_cons, List.length_nil]; omega) (ok_vl fun o2 ho2 => ?_)) (fun h3 => ?_)
  · refine hnx _ ⟨by dsimp only; omega, by dsimp only; omega, by dsimp only; rw [ho2]; simp; omega, ?_⟩ (by dsimp only; omega)
    dsimp only
    rw [ho2, ek, sc_take he, List.filterMap_append, ← ho]
    simp [hF, h3]
  · refine hnx _ ⟨by dsimp only; omega, by dsimp only; omega, by dsimp only; omega, ?_⟩ (by dsimp only; omega)
    dsimp only
    rw [ek, sc_take he, List.filterMap_append, ← ho]
    simp [hF, h3]

/-! ### The last common element -/
def cpl : List Int → List Int → Nat
  | a :: u, b :: v => if a = b then cpl u v + 1 else 0
  | _, _ => 0
theorem cpl_at : ∀ {z : Nat} {u v : List Int}, z ≤ u.length → z ≤ v.length → u.take z = v.take z → (∀ a, u[z]? = some a → v[z]? ≠ some a) → cpl u v = z
  | 0, u, v, _, _, _, h => by
    cases u with
    | nil => rfl
    | cons a u => cases v with
      | nil => rfl
      | cons b v =>
        have := h a rfl
        simp only [List.getElem?_cons_zero, ne_eq, Option.some.injEq] at this
        unfold cpl
        rw [if_neg (fun e => this e.symm)]
  | z + 1, u, v, h1, h2, h3, h => by
    cases u with
    | nil => simp at h1
    | cons a u => cases v with
      | nil => simp at h2
      | cons b v =>
        simp only [List.take_succ_cons, List.cons.injEq] at h3
        unfold cpl
        rw [if_pos h3.1, cpl_at (z := z) (by simpa using h1) (by simpa using h2) h3.2 (fun a ha => by have := h a (by simpa using ha); simpa using this)]
theorem cpl_sp : ∀ {u v : List Int}, cpl u v ≤ u.length ∧ cpl u v ≤ v.length ∧ u.take (cpl u v) = v.take (cpl u v) ∧ (∀ a, u[cpl u v]? = some a → v[cpl u v]? ≠ some a)
  | [], v => by simp [cpl]
  | a :: u, [] => by simp [cpl]
  | a :: u, b :: v => by
    unfold cpl
    by_cases h : a = b
    · rw [if_pos h]
      obtain ⟨h1, h2, h3, h4⟩ := @cpl_sp u v
      subst h
      simp only [List.length_cons, List.take_succ_cons, h3, List.getElem?_cons_succ]
      exact ⟨by omega, by omega, trivial, h4⟩
    · rw [if_neg h]
      simp only [List.take_zero, List.getElem?_cons_zero, Option.some.injEq]
      exact ⟨by omega, by omega, trivial, fun c hc hd => h (hc.trans (Option.some.inj hd).symm)⟩
theorem cpl_symm {u v : List Int} : cpl u v = cpl v u := by
  obtain ⟨h1, h2, h3, h4⟩ := @cpl_sp v u
  exact cpl_at h2 h1 h3.symm (fun a ha hb => h4 a hb ha)
def com (l : List Element) (a b : Int) : Int := ((way l a)[cpl (way l a) (way l b) - 1]?).getD 0
theorem Common_m {l : List Element} {a b : Int} (hn : Nms l) : tree_Common l a b = some (aft (chkE l [a, b]) 0 (com l a b)) := by
  refine Ok.eq (?_ : Ok _ _)
  unfold tree_Common aft
  refine ok_bde (check_m hn (by simp)) (ok_if (fun h => ok_some (by rw [if_pos h])) (fun h => ?_))
  rw [if_neg h]
  obtain ⟨hv, ht⟩ := chk_bad (Decidable.not_not.1 h)
  have ha := ht a (by simp)
  have hb := ht b (by simp)
  have hlen := hv.len
  refine ok_bde (tpath_m hv ha.1 ha.2) (ok_bde (tpath_m hv hb.1 hb.2) ?_)
  have hwa := way_len hv (a.toNat + 1) a (by omega)
  have hwb := way_len hv (b.toNat + 1) b (by omega)
  obtain ⟨a1, a2, a3, a4⟩ := way_step hv (a.toNat + 1) a (by omega) ha.1 ha.2
  obtain ⟨b1, b2, b3, b4⟩ := way_step hv (b.toNat + 1) b (by omega) hb.1 hb.2
  unfold com
  generalize way l a = u at *
  generalize way l b = v at *
  refine ok_jp (fun (z : Int) => 1 ≤ z ∧ z ≤ u.length ∧ cpl u v = z.toNat) (fun z ⟨z1, z2, hz⟩ => ?_) (fun k hk => ?_)
  · rw [w64_eq (by omega)]
    refine ok_ix (by omega) (by omega) fun x hx => ok_some ?_
    rw [hz, show z.toNat - 1 = (z - 1).toNat from by omega, hx]
    rfl
  · have h0 : u.take 1 = v.take 1 := by
      have := sc_take a1
      have h2 := sc_take b1
      simp only [List.take_zero, List.nil_append, Nat.zero_add] at this h2
      rw [this, h2]
    refine ok_lp (fun (z : Int) => 1 ≤ z ∧ z ≤ u.length ∧ z ≤ v.length ∧ u.take z.toNat = v.take z.toNat) (fun z => ((u.length : Int) - z).toNat) ⟨Int.le_refl 1, by omega, by omega, h0⟩ (by simp only [big_eq]; omega) ?_
    intro z next ⟨z1, z2, z3, hz⟩ hnx
    have fin : (∀ a, u[z.toNat]? = some a → v[z.toNat]? ≠ some a) → Ok (k z) _ := fun h => hk z ⟨z1, z2, cpl_at (by omega) (by omega) hz h⟩
    refine ok_if (fun q1 => ok_if (fun q2 => ok_ix (by omega) q1 fun x hx => ok_ix (by omega) q2 fun y hy => ok_if (fun q3 => ?_) (fun q3 => fin (fun c hc hd => q3 ?_))) (fun q2 => fin (fun c hc hd => ?_))) (fun q1 => fin (fun c hc hd => ?_))
    · rw [w64_eq (by omega)]
      refine hnx _ ⟨by omega, by omega, by omega, ?_⟩ (by omega)
      rw [show (z + 1).toNat = z.toNat + 1 from by omega, sc_take hx, sc_take hy, hz, q3]
    · rw [hx] at hc; rw [hy] at hd; cases hc; cases hd; rfl
    · have := sc_lt hd; omega
    · have := sc_lt hc; omega

/-! ### The tracks beyond -/
def beyP (l : List Element) (i : Int) (k : Nat) : Prop := l[k]?.map (·.Kind) = some 4 ∧ i ∈ way l k
instance {l : List Element} {i : Int} {k : Nat} : Decidable (beyP l i k) := by unfold beyP; exact inferInstance
def beyN (l : List Element) (i : Int) (n : Nat) : List Int := ((List.range n).filter (fun k => decide (beyP l i k))).map (fun (k : Nat) => (k : Int))
def bey (l : List Element) (i : Int) : List Int := beyN l i l.length
theorem beyN_len {l : List Element} {i : Int} {n : Nat} : (beyN l i n).length ≤ n := by
  unfold beyN
  rw [List.length_map]
  have := List.length_filter_le (fun k => decide (beyP l i k)) (List.range n)
  rw [List.length_range] at this
  exact this
theorem beyN_step {l : List Element} {i : Int} {n : Nat} : beyN l i (n + 1) = beyN l i n ++ (if beyP l i n then [(n : Int)] else []) := by
  unfold beyN
  rw [List.range_succ, List.filter_append, List.map_append]
  by_cases h : beyP l i n <;> simp [h]
theorem mem_bey {l : List Element} {i k : Int} : k ∈ bey l i ↔ IsT l k ∧ i ∈ way l k := by
  unfold bey beyN
  constructor
  · intro h
    obtain ⟨j, hj, rfl⟩ := List.mem_map.1 h
    obtain ⟨h1, h2⟩ := List.mem_filter.1 hj
    have h2 := of_decide_eq_true h2
    unfold beyP at h2
    refine ⟨⟨by omega, ?_⟩, h2.2⟩
    have h3 := h2.1
    cases hx : l[j]? with
    | none => rw [hx] at h3; cases h3
    | some x => rw [hx] at h3; exact ⟨x, by simpa using hx, Option.some.inj h3⟩
  · rintro ⟨⟨h0, x, hx, hk⟩, h⟩
    refine List.mem_map.2 ⟨k.toNat, List.mem_filter.2 ⟨List.mem_range.2 (sc_lt hx), decide_eq_true ⟨by rw [hx]; simp [hk], ?_⟩⟩, by omega⟩
    rw [show ((k.toNat : Nat) : Int) = k from by omega]
    exact h
theorem way_self {l : List Element} (h : VL l) {i : Int} (h0 : 0 ≤ i) (h1 : i < l.length) : i ∈ way l i := by
  have hx : l[i.toNat]? = some l[i.toNat] := List.getElem?_eq_getElem (by omega)
  rw [way_at h h0 hx]
  simp
theorem beyond_m {l : List Element} (hv : VL l) {i : Int} : tree_beyond l i = some (bey l i) := by
  refine Ok.eq (?_ : Ok _ _)
  unfold tree_beyond
  have hlen := hv.len
  refine ok_ck (by omega) (ok_vl fun y1 hy1 => ?_)
  refine ok_lp (fun (z : List Bool × List Int × Int) => 0 ≤ z.2.2 ∧ z.2.2 ≤ l.length ∧ z.1.length = l.length ∧ (∀ k : Nat, k < z.2.2 → z.1[k]? = some (decide (i ∈ way l k))) ∧ z.2.1 = beyN l i z.2.2.toNat) (fun z => ((l.length : Int) - z.2.2).toNat) ?_ (by simp only [big_eq]; omega) ?_
  · refine ⟨Int.le_refl 0, by dsimp only; omega, ?_, fun k hk => ?_, rfl⟩
    · dsimp only; rw [hy1]; simp
    · dsimp only at hk; omega
  rintro ⟨m, o, k⟩ next ⟨k0, k1, ml, hm, ho⟩ hnx
  dsimp only at k0 k1 ml hm ho ⊢
  refine ok_if (fun hk => ok_ix k0 hk fun x hx => ?_) (fun hk => ok_some (by rw [ho, show k.toNat = l.length from by omega]; rfl))
  have ek : (k + 1).toNat = k.toNat + 1 := by omega
  have hol := beyN_len (l := l) (i := i) (n := k.toNat)
  have hkk : ((k.toNat : Nat) : Int) = k := by omega
  refine ok_jp (fun (m' : List Bool) => m' = m.set k.toNat (decide (i ∈ way l k))) (fun m' hm' => ?_) (fun kk hkk2 => ?_)
  · have hm2 : m'.length = l.length := by rw [hm', List.length_set]; exact ml
    have hm3 : ∀ j : Nat, j < k + 1 → m'[j]? = some (decide (i ∈ way l j)) := fun j hj => by
      rw [hm', List.getElem?_set]
      by_cases e : k.toNat = j
      · rw [if_pos e, if_pos (by omega), ← e, hkk]
      · rw [if_neg e]; exact hm j (by omega)
    have hmk := hm3 k.toNat (by omega)
    rw [hkk] at hmk
    rw [w64_eq (n := k + 1) (by omega)]
    have go : ∀ o', o' = beyN l i (k.toNat + 1) → Ok (next (m', o', k + 1)) (fun v => v = bey l i) := fun o' ho' => hnx _ ⟨by dsimp only; omega, by dsimp only; omega, hm2, hm3, by dsimp only; rw [ek]; exact ho'⟩ (by dsimp only; omega)
    have hP : beyP l i k.toNat ↔ x.Kind = 4 ∧ i ∈ way l k := by
      unfold beyP
      rw [hx, hkk]
      simp
    refine ok_ixe k0 hmk (ok_if (fun q1 => ok_if (fun q2 => ok_ck (by simp only [List.length_cons, List.length_nil]; rw [ho]; omega) (ok_vl fun o2 ho2 => go _ ?_)) (fun q2 => go _ ?_)) (fun q1 => go _ ?_))
    · rw [ho2, ho, beyN_step, if_pos (hP.2 ⟨q2, q1⟩), hkk]
    · rw [ho, beyN_step, if_neg (fun hh => q2 (hP.1 hh).1), List.append_nil]
    · rw [ho, beyN_step, if_neg (fun hh => q1 (hP.1 hh).2), List.append_nil]
  · have hw := way_at hv k0 hx
    have hp := hv.par hx
    have hkm := List.getElem?_eq_getElem (show k.toNat < m.length from by omega)
    refine ok_if (fun q => ok_ixe k0 hkm (ok_vl fun y hy => hkk2 _ ?_)) (fun q => ok_if (fun q1 => ?_) (fun q1 => ok_ixe k0 hkm (ok_vl fun y hy => hkk2 _ ?_)))
    · rw [hy, q, decide_eq_true (way_self hv (by omega) (by omega))]
    · have hel := (hv.el hx).2 (by omega)
      have hmp := hm x.Parent.toNat (by omega)
      rw [show ((x.Parent.toNat : Nat) : Int) = x.Parent from by omega] at hmp
      refine ok_ixe (by omega) hmp (ok_ixe k0 hkm (ok_vl fun y hy => hkk2 _ ?_))
      rw [hy]
      congr 1
      refine decide_eq_decide.2 ?_
      rw [hw, List.mem_append, List.mem_singleton]
      exact ⟨.inl, fun h => h.resolve_right fun e => q e.symm⟩
    · have e0 : k = 0 := by omega
      subst e0
      have hp0 := ((hv.el hx).1 rfl).2.1
      rw [hy]
      congr 1
      refine (decide_eq_false ?_).symm
      rw [hw, hp0, way_neg (by decide), List.nil_append, List.mem_singleton]
      exact fun e => q e.symm
theorem Beyond_m {l : List Element} {i : Int} (hn : Nms l) : tree_Beyond l i = some (aft (chkE l [i]) [] (bey l i)) := by
  refine Ok.eq (?_ : Ok _ _)
  unfold tree_Beyond aft
  refine ok_bde (check_m hn (by simp)) (ok_if (fun h => ok_some (by rw [if_pos h])) (fun h => ?_))
  rw [if_neg h]
  obtain ⟨hv, ht⟩ := chk_bad (Decidable.not_not.1 h)
  exact ok_bde (beyond_m hv) (ok_some rfl)
theorem Tracks_m {l : List Element} (hn : Nms l) : tree_Tracks l = some (aft (chkE l []) [] (bey l 0)) := by
  refine Ok.eq (?_ : Ok _ _)
  unfold tree_Tracks aft
  refine ok_bde (check_m hn (by simp)) (ok_if (fun h => ok_some (by rw [if_pos h])) (fun h => ?_))
  rw [if_neg h]
  obtain ⟨hv, ht⟩ := chk_bad (Decidable.not_not.1 h)
  exact ok_bde (beyond_m hv) (ok_some rfl)
end Go.Hy
