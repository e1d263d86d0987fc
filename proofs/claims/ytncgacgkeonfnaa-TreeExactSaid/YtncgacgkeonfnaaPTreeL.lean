/-
  The laws on trees, over made layouts.
-/
import Derived.Test.YtncgacgkeonfnaaPTree
import Derived.Test.YtncgacgkeonfnaaLift
namespace Go.Hy
set_option linter.unusedVariables false
set_option linter.unusedSimpArgs false
set_option maxHeartbeats 2000000
set_option maxRecDepth 10000

/-! ### More on ways -/
theorem ftE_par2 {l : List Element} {i : Nat} {x y : Element} (h : ftE l i = 0) (hx : l[i]? = some x) (hi : i ≠ 0) (hy : l[x.Parent.toNat]? = some y) : y.Kind ≠ 4 ∧ (y.Kind = 3 ↔ x.Side ≠ 0) ∧ PlFree l i x := by
  have hp := ftE_parent h hx hi
  unfold ftE at h
  rw [hx] at h
  dsimp only at h
  split at h
  · cases h
  split at h
  · cases h
  rw [if_neg (by omega), hy] at h
  dsimp only at h
  split at h
  · cases h
  rename_i h1
  split at h
  · cases h
  rename_i h2
  exact ⟨by omega, by omega, Decidable.not_not.1 h2⟩
/-- Two elements at one place are one. -/
theorem VL.place {l : List Element} (h : VL l) {i j : Nat} {x y : Element} (hx : l[i]? = some x) (hy : l[j]? = some y) (hi : i ≠ 0) (hj : j ≠ 0) (h1 : x.Parent = y.Parent) (h2 : x.Side = y.Side) : i = j := by
  have key : ∀ {i j : Nat} {x y : Element}, l[i]? = some x → l[j]? = some y → i ≠ 0 → j ≠ 0 → x.Parent = y.Parent → x.Side = y.Side → ¬ i < j := by
    intro i j x y hx hy hi hj h1 h2 hlt
    have hp := ftE_parent (h.ft j) hy hj
    have hl := sc_lt hy
    have hz : l[y.Parent.toNat]? = some l[y.Parent.toNat] := List.getElem?_eq_getElem (by omega)
    have := (ftE_par2 (h.ft j) hy hj hz).2.2 i hlt (by omega)
    rw [hx] at this
    exact this (by simp [h1, h2])
  have a := key hx hy hi hj h1 h2
  have b := key hy hx hj hi h1.symm h2.symm
  omega
theorem way_pre {l : List Element} (h : VL l) : ∀ (n : Nat) (t : Int), t < n → ∀ (k : Nat) (e : Int), (way l t)[k]? = some e → way l e = (way l t).take (k + 1) := by
  intro n
  induction n with
  | zero => intro t ht k e he; rw [way_neg (by omega)] at he; simp at he
  | succ n ih =>
    intro t ht k e he
    by_cases h0 : t < 0
    · rw [way_neg h0] at he; simp at he
    · cases hx : l[t.toNat]? with
      | none => unfold way wayF at he; rw [if_neg h0, hx] at he; simp at he
      | some x =>
        have hp := h.par hx
        have ew := way_at h (by omega) hx
        rw [ew] at he
        rcases get_app he with he | ⟨e1, rfl⟩
        · rw [ih x.Parent (by omega) k e he, ew, List.take_append_of_le_length (by have := sc_lt he; omega)]
        · rw [List.take_of_length_le (by rw [ew]; simp; omega)]
theorem way_pos {l : List Element} (h : VL l) {t e : Int} {j k : Nat} (hj : (way l t)[j]? = some e) (hk : (way l t)[k]? = some e) : j = k := by
  have a := congrArg List.length (way_pre h (t.toNat + 1) t (by omega) j e hj)
  have b := congrArg List.length (way_pre h (t.toNat + 1) t (by omega) k e hk)
  have := sc_lt hj
  have := sc_lt hk
  rw [List.length_take] at a b
  omega
theorem way_trans {l : List Element} (h : VL l) {i j t : Int} (hj : j ∈ way l t) (hi : i ∈ way l j) : i ∈ way l t := by
  obtain ⟨k, hk⟩ := List.getElem?_of_mem hj
  rw [way_pre h (t.toNat + 1) t (by omega) k j hk] at hi
  exact List.mem_of_mem_take hi
/-- The next on a way. -/
theorem way_next {l : List Element} (h : VL l) {t : Int} (h0 : 0 ≤ t) (h1 : t < l.length) {q : Nat} {e : Int} (he : (way l t)[q + 1]? = some e) : 1 ≤ e ∧ e < l.length ∧ ∃ x y : Element, l[e.toNat]? = some x ∧ (way l t)[q]? = some x.Parent ∧ 0 ≤ x.Parent ∧ x.Parent < e ∧ l[x.Parent.toNat]? = some y ∧ y.Kind ≠ 4 ∧ (y.Kind = 3 ↔ x.Side ≠ 0) := by
  obtain ⟨_, _, _, a4⟩ := way_step h (t.toNat + 1) t (by omega) h0 h1
  obtain ⟨e1, x, hx, hp⟩ := a4 q e he
  have hl := sc_lt hx
  have hel := (h.el hx).2 (by omega)
  have hy : l[x.Parent.toNat]? = some l[x.Parent.toNat] := List.getElem?_eq_getElem (by omega)
  have := ftE_par2 (h.ft e.toNat) hx (by omega) hy
  exact ⟨e1, by omega, x, _, hx, hp, hel.2.2.1, by omega, hy, this.1, this.2.1⟩
theorem way_kid {l : List Element} (h : VL l) {t a e : Int} (h0 : 0 ≤ t) (h1 : t < l.length) {q : Nat} (ha : (way l t)[q]? = some a) (hT : IsT l a) (he : (way l t)[q + 1]? = some e) : False := by
  obtain ⟨_, _, x, y, hx, hp, _, _, hy, hk, _⟩ := way_next h h0 h1 he
  rw [ha] at hp
  obtain rfl := Option.some.inj hp
  obtain ⟨_, z, hz, hzk⟩ := hT
  rw [hy] at hz
  cases hz
  exact hk hzk
/-- Where a track lies on a way: at its end. -/
theorem way_trk {l : List Element} (h : VL l) {t a : Int} (h0 : 0 ≤ t) (h1 : t < l.length) {q : Nat} (ha : (way l t)[q]? = some a) (hT : IsT l a) : q = (way l t).length - 1 ∧ a = t := by
  have hq := sc_lt ha
  obtain ⟨_, a2, a3, _⟩ := way_step h (t.toNat + 1) t (by omega) h0 h1
  have e : q = (way l t).length - 1 := by
    rcases Nat.lt_or_ge (q + 1) (way l t).length with hh | hh
    · exact absurd (List.getElem?_eq_getElem hh) (fun he => way_kid h h0 h1 ha hT he)
    · omega
  subst e
  rw [a2] at ha
  exact ⟨rfl, (Option.some.inj ha).symm⟩
theorem way_one {l : List Element} (h : VL l) {t : Int} (h0 : 0 ≤ t) (h1 : t < l.length) : 0 ∈ way l t :=
  sc_mem (way_step h (t.toNat + 1) t (by omega) h0 h1).1
theorem setF_eq {l : List Element} {e : Int} {x y : Element} (hx : l[e.toNat]? = some x) (hy : l[x.Parent.toNat]? = some y) : setF l e = if y.Kind = 3 then some ⟨x.Parent, x.Side⟩ else none := by
  unfold setF
  rw [hx]
  dsimp only
  rw [hy]
theorem tail_split {w : List Int} {q : Nat} {e : Int} (he : w[q + 1]? = some e) : ∃ r, w.tail = w.tail.take q ++ e :: r := by
  have h2 : w.tail[q]? = some e := by rw [List.getElem?_tail]; exact he
  refine ⟨w.tail.drop (q + 1), ?_⟩
  have := List.take_append_drop (q + 1) w.tail
  rw [sc_take h2, ← List.append_cons] at this
  exact this.symm

/-! ### Made layouts -/
structure TL (l : List Element) (n : Nat) : Prop where
  m : Made l n
  v : VL l
  e : lE l = 0
  n : Nms l
theorem TL.mk' {l : List Element} {n : Nat} (h : Made l n) (hn : n ≤ 12) : TL l n := ⟨h, h.vl hn, h.lE hn, h.u.nms⟩
theorem aft_ok {α : Type} {e : Int} {d v : α} (h : e = 0) : aft e d v = (v, 0) := by
  unfold aft
  rw [if_neg (by omega)]
theorem TL.path {l : List Element} {n : Nat} (h : TL l n) {i : Int} (h0 : 0 ≤ i) (h1 : i < l.length) : tree_Path l i = some (way l i, 0) := by
  rw [Path_m h.n, aft_ok (chk_ok h.e (by simp; omega))]
theorem TL.set {l : List Element} {n : Nat} (h : TL l n) {i : Int} (h0 : 0 ≤ i) (h1 : i < l.length) : tree_Settings l i = some (sets l i, 0) := by
  rw [Settings_m h.n, aft_ok (chk_ok h.e (by simp; omega))]
theorem TL.com {l : List Element} {n : Nat} (h : TL l n) {i j : Int} (h0 : 0 ≤ i) (h1 : i < l.length) (h2 : 0 ≤ j) (h3 : j < l.length) : tree_Common l i j = some (com l i j, 0) := by
  rw [Common_m h.n, aft_ok (chk_ok h.e (by simp; omega))]
theorem TL.bey {l : List Element} {n : Nat} (h : TL l n) {i : Int} (h0 : 0 ≤ i) (h1 : i < l.length) : tree_Beyond l i = some (bey l i, 0) := by
  rw [Beyond_m h.n, aft_ok (chk_ok h.e (by simp; omega))]
theorem TL.trk {l : List Element} {n : Nat} (h : TL l n) : tree_Tracks l = some (Go.Hy.bey l 0, 0) := by
  rw [Tracks_m h.n, aft_ok (chk_ok h.e (by simp))]
theorem Made.kid {l : List Element} {n : Nat} (h : Made l n) {i : Nat} {x : Element} (hx : l[i]? = some x) (hk : x.Kind ≠ 4) : ∃ (j : Nat) (a : Element), i < j ∧ l[j]? = some a ∧ a.Parent = i := by
  have no : ∀ s : Int, (0 ≤ s ∧ s ≤ 2) → (x.Kind = 3 ↔ s ≠ 0) → ∃ (j : Nat) (a : Element), i < j ∧ l[j]? = some a ∧ a.Parent = i := fun s hs h3 => by
    rcases h.u.cl ⟨(i : Int), s⟩ ⟨by simp, hs, x, by simpa using hx, hk, h3⟩ with hh | ⟨j, a, j1, ha, a1, a2⟩
    · cases hh
    · have := ftE_parent (h.u.ft j) ha (by omega)
      dsimp only at a1
      exact ⟨j, a, by omega, ha, a1⟩
  by_cases h3 : x.Kind = 3
  · exact no 1 (by omega) ⟨fun _ => by decide, fun _ => h3⟩
  · exact no 0 (by omega) ⟨fun h => absurd h h3, fun h => absurd rfl h⟩
/-- From each element a track can be reached. -/
theorem TL.leads {l : List Element} {n : Nat} (h : TL l n) : ∀ (m : Nat) (i : Nat), i < l.length → l.length ≤ i + m → ∃ t : Int, IsT l t ∧ (i : Int) ∈ way l t := by
  intro m
  induction m with
  | zero => intro i h1 h2; omega
  | succ m ih =>
    intro i h1 h2
    have hx : l[i]? = some l[i] := List.getElem?_eq_getElem h1
    generalize l[i] = x at hx
    by_cases hk : x.Kind = 4
    · exact ⟨i, ⟨by omega, x, by simpa using hx, hk⟩, way_self h.v (by omega) (by omega)⟩
    · obtain ⟨j, a, hij, ha, hp⟩ := h.m.kid hx hk
      have hl := sc_lt ha
      obtain ⟨t, ht, hj⟩ := ih j hl (by omega)
      refine ⟨t, ht, way_trans h.v hj ?_⟩
      have := way_at h.v (i := (j : Int)) (by omega) (by simpa using ha)
      rw [this, hp]
      exact List.mem_append_left _ (way_self h.v (by omega) (by omega))
theorem TL.bey1 {l : List Element} {n : Nat} (h : TL l n) {i : Int} (h0 : 0 ≤ i) (h1 : i < l.length) : 1 ≤ (Go.Hy.bey l i).length := by
  obtain ⟨t, ht, hi⟩ := h.leads l.length i.toNat (by omega) (by omega)
  rw [show ((i.toNat : Nat) : Int) = i from by omega] at hi
  exact List.length_pos_of_mem (mem_bey.2 ⟨ht, hi⟩)
theorem IsT.lt {l : List Element} {t : Int} (h : IsT l t) : 0 ≤ t ∧ t < l.length := by
  obtain ⟨h0, x, hx, _⟩ := h
  have := sc_lt hx
  omega
theorem lay10 {t : List Int} (ht : t.length ≤ 9223372036854775807) {n : Int} (hn : 0 ≤ n ∧ n ≤ 12) : Ok (gen_Maker_Layout (HumpgenMaker.mk t 0) n) fun r => TL r.1 n.toNat ∧ (1 ≤ r.1.length ∧ r.1.length ≤ 128) ∧ 0 ≤ r.2 ∧ r.2 ≤ 1000 :=
  (Layout_ok (Mk0 ht (by decide)) hn).mono fun r ⟨hm, h0, h1⟩ => ⟨TL.mk' hm (by omega), (hm.vl (by omega)).len, by dsimp only at h0; omega, by dsimp only at h1; omega⟩
theorem next10 {t : List Int} (ht : t.length ≤ 9223372036854775807) {c n : Int} (h0 : 0 ≤ c) (h1 : c ≤ 1000000) (hn : 1 ≤ n ∧ n ≤ 1000) : Ok (gen_Maker_Next (HumpgenMaker.mk t c) n) fun r => (0 ≤ r.1 ∧ r.1 < n) ∧ r.2 = c + 1 :=
  Next_ok ⟨h0, by unfold CM0; dsimp only; omega, ht⟩ (by omega)
theorem sane10 : law10_sane = some true := by kernel_rfl
theorem Ints_self {a : List Int} (h : a.length ≤ 1000000000) : gen_Ints a a = some true := by
  refine Ok.eq (?_ : Ok _ _)
  unfold gen_Ints
  refine ok_if0 (fun h => h rfl) (ok_lp (fun (z : Int) => 0 ≤ z ∧ z ≤ a.length) (fun z => ((a.length : Int) - z).toNat) ⟨Int.le_refl 0, by omega⟩ (by simp only [big_eq]; omega) ?_)
  intro z next ⟨z0, z1⟩ hnx
  refine ok_if (fun hz => ok_ix z0 hz fun x hx => ok_ixe z0 hx (ok_if0 (fun h => h rfl) ?_)) (fun _ => ok_some rfl)
  rw [w64_eq (by omega)]
  exact hnx _ ⟨by omega, by omega⟩ (by omega)

/-! ### Paths -/
theorem TreePaths_ok {t : List Int} (ht : t.length ≤ 9223372036854775807) : law10_TreePaths t = some true := by
  refine Ok.eq (?_ : Ok _ _)
  unfold law10_TreePaths
  refine ok_bde (gen_New_ok t) ?_
  dsimp only
  refine ok_bd (lay10 ht (by omega)) fun r ⟨hl, hlen, c0, c1⟩ => ?_
  obtain ⟨l, c⟩ := r
  dsimp only at hl hlen c0 c1 ⊢
  refine ok_bd (next10 ht c0 (by omega) (by omega)) fun v ⟨hv, ev⟩ => ?_
  obtain ⟨i, c'⟩ := v
  dsimp only at hv ev ⊢
  have hvl := hl.v
  refine ok_bde (hl.path hv.1 hv.2) ?_
  have hwl := way_len hvl (i.toNat + 1) i (by omega)
  have hmem := way_mem hvl (i.toNat + 1) i (by omega)
  obtain ⟨a1, a2, a3, a4⟩ := way_step hvl (i.toNat + 1) i (by omega) hv.1 hv.2
  have hpre := way_pre hvl (i.toNat + 1) i (by omega)
  dsimp only
  refine ok_if0 (fun h => h rfl) (ok_if0 (by omega) (ok_ixe (by decide) a1 (ok_if0 (fun h => h rfl) ?_)))
  rw [w64_eq (by omega)]
  refine ok_ixe (by omega) (by rw [← a2]; congr 1; omega) (ok_if0 (fun h => h rfl) ?_)
  refine ok_jp (fun _ => True) (fun _ _ => ?_) (fun k hk => ?_)
  · refine ok_bd (next10 ht (by omega) (by omega) (by omega)) fun w ⟨hw, ew⟩ => ?_
    refine ok_ix hw.1 hw.2 fun e he => ?_
    have hm := hmem e (sc_mem he)
    refine ok_bde (hl.path hm.1 hm.2.2) (ok_if1 rfl (ok_ck ?_ ?_))
    · rw [w64_eq (by omega)]; omega
    · rw [w64_eq (by omega), hpre _ _ he, show (w.1 + 1).toNat = w.1.toNat + 1 from by omega]
      refine ok_bde (Ints_self ?_) (ok_b (fun _ => ok_bde sane10 (ok_some rfl)) (fun h => by cases h))
      rw [List.length_take]; omega
  · refine ok_lp (fun (z : Int) => 1 ≤ z ∧ z ≤ (way l i).length) (fun z => (((way l i).length : Int) - z).toNat) ⟨Int.le_refl 1, by omega⟩ (by simp only [big_eq]; omega) ?_
    intro z next ⟨z0, z1⟩ hnx
    refine ok_if (fun hz => ok_ix (by omega) hz fun e he => ?_) (fun _ => hk _ trivial)
    have hm := hmem e (sc_mem he)
    obtain ⟨e1, e2, x, y, hx, hp, p0, p1, _⟩ := way_next hvl hv.1 hv.2 (q := z.toNat - 1) (by rw [show z.toNat - 1 + 1 = z.toNat from by omega]; exact he)
    rw [w64_eq (n := z - 1) (by omega)]
    have hp' : (way l i)[(z - 1).toNat]? = some x.Parent := by rw [← hp]; congr 1; omega
    refine ok_ixe (by omega) hp' (ok_if0 (by omega) (ok_ixe (by omega) he (ok_if0 (by omega) (ok_ixe (by omega) he (ok_ixe (by omega) hx (ok_ixe (by omega) hp' (ok_if0 (fun h => h rfl) ?_)))))))
    rw [w64_eq (by omega)]
    exact hnx _ ⟨by omega, by omega⟩ (by omega)

/-! ### The last common element -/
theorem com_sp {l : List Element} (h : VL l) {a b : Int} (ha : 0 ≤ a ∧ a < l.length) (hb : 0 ≤ b ∧ b < l.length) :
    1 ≤ cpl (way l a) (way l b) ∧ (way l a)[cpl (way l a) (way l b) - 1]? = some (com l a b) ∧ (way l b)[cpl (way l a) (way l b) - 1]? = some (com l a b) := by
  obtain ⟨a1, _⟩ := way_step h (a.toNat + 1) a (by omega) ha.1 ha.2
  obtain ⟨b1, _⟩ := way_step h (b.toNat + 1) b (by omega) hb.1 hb.2
  obtain ⟨h1, h2, h3, h4⟩ := @cpl_sp (way l a) (way l b)
  unfold com
  generalize way l a = u at *
  generalize way l b = v at *
  generalize cpl u v = p at *
  have hp : 1 ≤ p := by
    rcases Nat.eq_zero_or_pos p with e | e
    · subst e
      exact absurd b1 (h4 0 a1)
    · exact e
  have hu : u[p - 1]? = some u[p - 1] := List.getElem?_eq_getElem (by omega)
  refine ⟨hp, by rw [hu]; rfl, ?_⟩
  have e1 : (u.take p)[p - 1]? = u[p - 1]? := by rw [List.getElem?_take, if_pos (by omega)]
  have e2 : (v.take p)[p - 1]? = v[p - 1]? := by rw [List.getElem?_take, if_pos (by omega)]
  rw [← e2, ← h3, e1, hu]
  rfl
theorem com_symm {l : List Element} (h : VL l) {a b : Int} (ha : 0 ≤ a ∧ a < l.length) (hb : 0 ≤ b ∧ b < l.length) : com l a b = com l b a := by
  have h1 := (com_sp h ha hb).2.1
  have h2 := (com_sp h hb ha).2.2
  rw [cpl_symm] at h2
  rw [h1] at h2
  exact Option.some.inj h2
theorem com_self {l : List Element} (h : VL l) {a : Int} (ha : 0 ≤ a ∧ a < l.length) : com l a a = a := by
  obtain ⟨_, a2, _⟩ := way_step h (a.toNat + 1) a (by omega) ha.1 ha.2
  have h1 := (com_sp h ha ha).2.1
  rw [cpl_at (z := (way l a).length) (Nat.le_refl _) (Nat.le_refl _) rfl (fun c hc => by rw [List.getElem?_eq_none (Nat.le_refl _)] at hc; cases hc), a2] at h1
  exact (Option.some.inj h1).symm
/-- Where the ways to two tracks part. -/
theorem com_part {l : List Element} (h : VL l) {a b : Int} (ha : IsT l a) (hb : IsT l b) (hab : a ≠ b) :
    ∃ (z : Element) (s : List Arr2Int) (p q : Int) (u v : List Arr2Int), l[(com l a b).toNat]? = some z ∧ z.Kind = 3 ∧ p ≠ q ∧ sets l a = s ++ ⟨com l a b, p⟩ :: u ∧ sets l b = s ++ ⟨com l a b, q⟩ :: v := by
  have ha' := ha.lt
  have hb' := hb.lt
  obtain ⟨hc1, hc2, hc3⟩ := com_sp h ha' hb'
  obtain ⟨h1, h2, h3, h4⟩ := @cpl_sp (way l a) (way l b)
  generalize com l a b = c at *
  generalize cpl (way l a) (way l b) = p at *
  obtain ⟨_, a2, _⟩ := way_step h (a.toNat + 1) a (by omega) ha'.1 ha'.2
  obtain ⟨_, b2, _⟩ := way_step h (b.toNat + 1) b (by omega) hb'.1 hb'.2
  have hpa : p < (way l a).length := by
    rcases Nat.lt_or_ge p (way l a).length with hh | hh
    · exact hh
    · have e : p = (way l a).length := by omega
      rw [e, a2] at hc2
      have hca : a = c := Option.some.inj hc2
      rw [← hca] at hc3
      exact absurd (way_trk h hb'.1 hb'.2 hc3 ha).2 hab
  have hpb : p < (way l b).length := by
    rcases Nat.lt_or_ge p (way l b).length with hh | hh
    · exact hh
    · have e : p = (way l b).length := by omega
      rw [e, b2] at hc3
      have hcb : b = c := Option.some.inj hc3
      rw [← hcb] at hc2
      exact absurd (way_trk h ha'.1 ha'.2 hc2 hb).2.symm hab
  have hea : (way l a)[p - 1 + 1]? = some (way l a)[p] := by rw [show p - 1 + 1 = p from by omega]; exact List.getElem?_eq_getElem hpa
  have heb : (way l b)[p - 1 + 1]? = some (way l b)[p] := by rw [show p - 1 + 1 = p from by omega]; exact List.getElem?_eq_getElem hpb
  have hne : (way l a)[p] ≠ (way l b)[p] := fun e => h4 _ (List.getElem?_eq_getElem hpa) (by rw [e]; exact List.getElem?_eq_getElem hpb)
  generalize (way l a)[p] = ea at hea hne
  generalize (way l b)[p] = eb at heb hne
  obtain ⟨e1, e2, x, z, hx, hxp, x0, x1, hz, hz4, hz3⟩ := way_next h ha'.1 ha'.2 hea
  obtain ⟨f1, f2, y, z', hy, hyp, y0, y1, hz', _, hz3'⟩ := way_next h hb'.1 hb'.2 heb
  rw [hc2] at hxp
  rw [hc3] at hyp
  have ex := Option.some.inj hxp
  have ey := Option.some.inj hyp
  rw [← ey, ex, hz] at hz'
  cases hz'
  have hs : x.Side ≠ y.Side := fun hs => by
    have := h.place hx hy (by omega) (by omega) (by omega) hs
    omega
  have hk : z.Kind = 3 := by
    by_cases hk : z.Kind = 3
    · exact hk
    · exfalso
      have q1 : x.Side = 0 := Decidable.not_not.1 fun q => hk (hz3.2 q)
      have q2 : y.Side = 0 := Decidable.not_not.1 fun q => hk (hz3'.2 q)
      omega
  obtain ⟨ra, hra⟩ := tail_split hea
  obtain ⟨rb, hrb⟩ := tail_split heb
  have htk : (way l a).tail.take (p - 1) = (way l b).tail.take (p - 1) := by
    rw [← List.drop_one, ← List.drop_one, List.take_drop, List.take_drop, show 1 + (p - 1) = p from by omega, h3]
  have fa := setF_eq hx hz
  have fb := setF_eq hy (by rw [← ey, ex]; exact hz)
  rw [if_pos hk] at fa fb
  refine ⟨z, ((way l a).tail.take (p - 1)).filterMap (setF l), x.Side, y.Side, ra.filterMap (setF l), rb.filterMap (setF l), by rw [ex]; exact hz, hk, hs, ?_, ?_⟩
  · unfold sets
    conv => lhs; rw [hra]
    rw [List.filterMap_append, List.filterMap_cons, fa, ex]
  · unfold sets
    conv => lhs; rw [hrb]
    rw [List.filterMap_append, List.filterMap_cons, fb, htk, ← ey]
theorem TreeCommon_ok {t : List Int} (ht : t.length ≤ 9223372036854775807) : law10_TreeCommon t = some true := by
  refine Ok.eq (?_ : Ok _ _)
  unfold law10_TreeCommon
  refine ok_bde (gen_New_ok t) ?_
  dsimp only
  refine ok_bd (lay10 ht (by omega)) fun r ⟨hl, hlen, c0, c1⟩ => ?_
  obtain ⟨l, c⟩ := r
  dsimp only at hl hlen c0 c1 ⊢
  have hvl := hl.v
  refine ok_bde hl.trk ?_
  have hb1 := hl.bey1 (i := 0) (by omega) (by omega)
  have hb2 : (bey l 0).length ≤ l.length := beyN_len
  dsimp only
  refine ok_if0 (fun h => h rfl) (ok_if0 (by omega) ?_)
  refine ok_bd (next10 ht c0 (by omega) (by omega)) fun v ⟨hv, ev⟩ => ok_ix hv.1 hv.2 fun a ha => ?_
  refine ok_bd (next10 ht (by omega) (by omega) (by omega)) fun w ⟨hw, ew⟩ => ok_ix hw.1 hw.2 fun b hb => ?_
  have hTa := (mem_bey.1 (sc_mem ha)).1
  have hTb := (mem_bey.1 (sc_mem hb)).1
  have hla := hTa.lt
  have hlb := hTb.lt
  refine ok_bde (hl.com hla.1 hla.2 hlb.1 hlb.2) (ok_bde (hl.com hlb.1 hlb.2 hla.1 hla.2) ?_)
  have hsy := com_symm hvl hlb hla
  have hcr := way_mem hvl (a.toNat + 1) a (by omega) _ (sc_mem (com_sp hvl hla hlb).2.1)
  rw [hsy]
  dsimp only
  refine ok_if0 (fun h => h rfl) (ok_if0 (fun h => h rfl) (ok_if0 (fun h => h rfl) (ok_if0 (by omega) (ok_if0 (by omega) (ok_if (fun he => ?_) (fun he => ?_))))))
  · subst he
    exact ok_if1 (com_self hvl hla) (ok_bde sane10 (ok_some rfl))
  · refine ok_bde (hl.set hla.1 hla.2) (ok_bde (hl.set hlb.1 hlb.2) ?_)
    obtain ⟨z, s, p, q, u, v', hz, hk, hpq, e1, e2⟩ := com_part hvl hTa hTb he
    have hsl : (sets l a).length ≤ l.length := by
      unfold sets
      have h1 := List.length_filterMap_le (setF l) (way l a).tail
      have h2 := way_len hvl (a.toNat + 1) a (by omega)
      rw [List.length_tail] at h1
      omega
    generalize com l a b = cc at *
    rw [e1] at hsl
    rw [e1, e2]
    dsimp only
    refine ok_if0 (fun h => h rfl) (ok_if0 (fun h => h rfl) (ok_ixe (by omega) hz (ok_if0 (fun h => h hk) ?_)))
    refine ok_lp (fun (z : Int) => 0 ≤ z ∧ z ≤ s.length) (fun z => ((s.length : Int) - z).toNat) ⟨Int.le_refl 0, by omega⟩ (by simp only [big_eq]; simp only [List.length_append] at hsl; omega) ?_
    intro j next ⟨j0, j1⟩ hnx
    simp only [List.length_append, List.length_cons] at hsl
    refine ok_if1 (by simp only [List.length_append, List.length_cons]; omega) (ok_if1 (by simp only [List.length_append, List.length_cons]; omega) ?_)
    rcases Int.lt_or_le j s.length with hj | hj
    · have hg : s[j.toNat]? = some s[j.toNat] := List.getElem?_eq_getElem (by omega)
      have g : ∀ r : List Arr2Int, (s ++ r)[j.toNat]? = some s[j.toNat] := fun r => by rw [List.getElem?_append_left (by omega)]; exact hg
      refine ok_ixe j0 (g _) (ok_ixe j0 (g _) (ok_if0 (fun h => h ⟨rfl, rfl⟩) ?_))
      rw [w64_eq (by omega)]
      exact hnx _ ⟨by omega, by omega⟩ (by omega)
    · have g : ∀ (x : Arr2Int) (r : List Arr2Int), (s ++ x :: r)[j.toNat]? = some x := fun x r => by rw [List.getElem?_append_right (by omega), show j.toNat - s.length = 0 from by omega]; rfl
      exact ok_ixe j0 (g _ _) (ok_ixe j0 (g _ _) (ok_if1 (fun h => hpq h.2) (ok_ixe j0 (g _ _) (ok_if1 rfl (ok_ixe j0 (g _ _) (ok_if1 rfl (ok_ixe j0 (g _ _) (ok_ixe j0 (g _ _) (ok_if1 hpq (ok_bde sane10 (ok_some rfl)))))))))))
end Go.Hy
