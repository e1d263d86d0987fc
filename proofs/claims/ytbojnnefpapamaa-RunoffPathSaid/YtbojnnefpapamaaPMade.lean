/-
  A made layout is a valid one.
-/
import Derived.Test.YtbojnnefpapamaaPLayD
namespace Go.Hy
set_option linter.unusedVariables false
set_option linter.unusedSimpArgs false
set_option maxHeartbeats 2000000
set_option maxRecDepth 10000

/-! ### Names -/
def wd (i : Nat) : ByteArray := strOf [101, 48 + ((i / 100 % 10 : Nat) : Int), 48 + ((i / 10 % 10 : Nat) : Int), 48 + ((i % 10 : Nat) : Int)]
theorem word_m {i : Int} (h : 0 ≤ i ∧ i ≤ 1000000) : gen_word i = some (wd i.toNat) := by
  refine Ok.eq (?_ : Ok _ _)
  unfold gen_word
  have e1 : (i.toNat / 100 % 10 : Nat) = Int.tmod (w64 (Int.tdiv i 100)) 10 := by
    rw [Int.tdiv_eq_ediv_of_nonneg h.1, w64_eq (by omega), Int.tmod_eq_emod_of_nonneg (by omega)]; omega
  have e2 : (i.toNat / 10 % 10 : Nat) = Int.tmod (w64 (Int.tdiv i 10)) 10 := by
    rw [Int.tdiv_eq_ediv_of_nonneg h.1, w64_eq (by omega), Int.tmod_eq_emod_of_nonneg (by omega)]; omega
  have e3 : (i.toNat % 10 : Nat) = Int.tmod i 10 := by rw [Int.tmod_eq_emod_of_nonneg h.1]; omega
  rw [← e1, ← e2, ← e3]
  refine ok_vl fun x1 h1 => ok_vl fun x2 h2 => ok_vl fun x3 h3 => ok_vl fun x4 h4 => ok_vl fun x5 h5 => ok_some ?_
  rw [w64_eq (by omega), u8_wrap (by omega)] at h2 h4 h5
  unfold wd
  rw [h5, h4, h2, h1, h3]
theorem wd_bl (i : Nat) : bl (wd i) = [UInt8.ofNat 101, UInt8.ofNat (48 + i / 100 % 10), UInt8.ofNat (48 + i / 10 % 10), UInt8.ofNat (48 + i % 10)] := by
  have e : ∀ d : Nat, (48 + (d : Int)).toNat = 48 + d := fun d => by omega
  unfold bl wd strOf
  simp only [List.map_cons, List.map_nil, e]
  rfl
theorem u8_dig {d : Nat} (h : d < 10) : (UInt8.ofNat (48 + d)).toNat = 48 + d := by
  rw [UInt8.toNat_ofNat']
  omega
theorem wd_inj {i j : Nat} (hi : i < 1000) (hj : j < 1000) (h : wd i = wd j) : i = j := by
  have h1 := congrArg bl h
  rw [wd_bl, wd_bl] at h1
  simp only [List.cons.injEq, and_true, true_and] at h1
  obtain ⟨a, b, c⟩ := h1
  have a := congrArg UInt8.toNat a
  have b := congrArg UInt8.toNat b
  have c := congrArg UInt8.toNat c
  rw [u8_dig (by omega), u8_dig (by omega)] at a b c
  omega
theorem wd_nm (i : Nat) : nmB (wd i) = true ∧ (wd i).size = 4 := by
  have hl : (wd i).size = 4 := by rw [← bl_len, wd_bl]; rfl
  refine ⟨?_, hl⟩
  unfold nmB
  rw [hl, wd_bl]
  have hd : ∀ d, d < 10 → chB (UInt8.ofNat (48 + d)) = true := fun d hd => decide_eq_true (by rw [u8_dig hd]; omega)
  simp only [List.all_cons, List.all_nil, hd _ (Nat.mod_lt _ (by decide : 0 < 10))]
  decide

/-! ### One element -/
structure ElMade (x : Element) (kind : Int) (i : Nat) (pa sd : Int) : Prop where
  k : x.Kind = kind
  n : x.Name = wd i
  pa : x.Parent = pa
  sd : x.Side = sd
  l : 1000 ≤ x.Length ∧ x.Length ≤ 700000
  g : -150 ≤ x.Grade ∧ x.Grade ≤ 5000
  c : 0 ≤ x.Curve ∧ x.Curve ≤ 150
  p : (x.Kind = 2 → 500000 ≤ x.Power ∧ x.Power ≤ 30000000) ∧ (x.Kind ≠ 2 → x.Power = 0)
theorem Element_ok {k : HumpgenMaker} {kind i pa sd : Int} (h : Mk k 999999999999000) (hi : 0 ≤ i ∧ i ≤ 1000000) :
    Ok (gen_Maker_element k kind i pa sd) fun r => ElMade r.1 kind i.toNat pa sd ∧ k.fn ≤ r.2 ∧ r.2 ≤ k.fn + 5 := by
  have c0 := h.c0
  have c1 := h.c1
  have mk : ∀ c', k.fn ≤ c' → c' ≤ k.fn + 10 → Mk (HumpgenMaker.mk k.fl c') CM0 := fun c' h1 h2 => h.to h1 (by unfold CM0; omega)
  unfold gen_Maker_element
  refine ok_bde (word_m hi) ?_
  refine ok_bd (Pick_ok (h.up (by decide)) (by simp)) fun v1 ⟨m1, e1⟩ => ?_
  refine ok_bd (Pick_ok (mk v1.2 (by omega) (by omega)) (by simp)) fun v2 ⟨m2, e2⟩ => ?_
  dsimp only at e2
  refine ok_bd (Pick_ok (mk v2.2 (by omega) (by omega)) (by simp)) fun v3 ⟨m3, e3⟩ => ?_
  dsimp only at e3
  simp only [List.mem_cons, List.not_mem_nil, or_false] at m1 m2 m3
  refine ok_if (fun hk => ?_) (fun hk => ok_if (fun hk4 => ?_) (fun hk4 => ok_some ⟨⟨rfl, rfl, rfl, rfl, by dsimp only; omega, by dsimp only; omega, by dsimp only; omega, fun h => absurd h hk, fun _ => rfl⟩, by dsimp only; omega, by dsimp only; omega⟩))
  · refine ok_bd (Pick_ok (mk v3.2 (by omega) (by omega)) (by simp)) fun v4 ⟨m4, e4⟩ => ok_some ?_
    dsimp only at e4
    simp only [List.mem_cons, List.not_mem_nil, or_false] at m4
    exact ⟨⟨rfl, rfl, rfl, rfl, by dsimp only; omega, by dsimp only; omega, by dsimp only; omega, fun _ => by dsimp only; omega, fun h => absurd hk h⟩, by dsimp only; omega, by dsimp only; omega⟩
  · refine ok_bd (Pick_ok (mk v3.2 (by omega) (by omega)) (by simp)) fun v4 ⟨m4, e4⟩ => ?_
    dsimp only at e4
    refine ok_bd (Pick_ok (mk v4.2 (by omega) (by omega)) (by simp)) fun v5 ⟨m5, e5⟩ => ok_some ?_
    dsimp only at e5
    simp only [List.mem_cons, List.not_mem_nil, or_false] at m4 m5
    exact ⟨⟨rfl, rfl, rfl, rfl, by dsimp only; omega, by dsimp only; omega, by dsimp only; omega, fun h => absurd h hk, fun _ => rfl⟩, by dsimp only; omega, by dsimp only; omega⟩

/-! ### Places -/
abbrev Occ (l : List Element) (q : Arr2Int) : Prop := ∃ (j : Nat) (a : Element), 1 ≤ j ∧ l[j]? = some a ∧ a.Parent = q.a0 ∧ a.Side = q.a1
abbrev PlOk (l : List Element) (q : Arr2Int) : Prop := 0 ≤ q.a0 ∧ (0 ≤ q.a1 ∧ q.a1 ≤ 2) ∧ ∃ a : Element, l[q.a0.toNat]? = some a ∧ a.Kind ≠ 4 ∧ (a.Kind = 3 ↔ q.a1 ≠ 0)
/-- A layout under way: op are the open places. -/
structure Und (l : List Element) (op : List Arr2Int) : Prop where
  ne : 1 ≤ l.length
  ft : ∀ i, ftE l i = 0
  nm : ∀ (j : Nat) a, l[j]? = some a → a.Name = wd j
  r : ∀ a ∈ l, a.Length ≤ 700000 ∧ -150 ≤ a.Grade ∧ a.Grade ≤ 5000 ∧ 0 ≤ a.Curve ∧ a.Curve ≤ 150 ∧ a.Power ≤ 30000000 ∧ (a.Kind ≠ 0 → 1000 ≤ a.Length)
  opn : ∀ q ∈ op, PlOk l q ∧ ¬ Occ l q
  nd : op.Nodup
  cl : ∀ q, PlOk l q → q ∈ op ∨ Occ l q
theorem get_app {α : Type} {l : List α} {x a : α} {i : Nat} (h : (l ++ [x])[i]? = some a) : l[i]? = some a ∨ (i = l.length ∧ a = x) := by
  rcases Nat.lt_or_ge i l.length with h1 | h1
  · rw [List.getElem?_append_left h1] at h; exact .inl h
  · rw [List.getElem?_append_right h1] at h
    have e : i - l.length = 0 := by
      rcases Nat.eq_zero_or_pos (i - l.length) with h2 | h2
      · exact h2
      · rw [List.getElem?_eq_none (by simp; omega)] at h; cases h
    rw [e] at h
    simp only [List.getElem?_cons_zero, Option.some.injEq] at h
    exact .inr ⟨by omega, h.symm⟩
theorem get_old {α : Type} {l : List α} {x a : α} {i : Nat} (h : l[i]? = some a) : (l ++ [x])[i]? = some a := by
  rw [List.getElem?_append_left (sc_lt h)]; exact h
theorem get_new {α : Type} {l : List α} {x : α} : (l ++ [x])[l.length]? = some x := by simp
theorem ftE_parent {l : List Element} {i : Nat} {x : Element} (h : ftE l i = 0) (hx : l[i]? = some x) (hi : i ≠ 0) : 0 ≤ x.Parent ∧ x.Parent < i := by
  unfold ftE at h
  rw [hx] at h
  dsimp only at h
  split at h
  · cases h
  split at h
  · cases h
  by_cases hq : x.Parent < 0 ∨ (i : Int) ≤ x.Parent
  · rw [if_pos hq] at h; cases h
  · omega
theorem ftE_snd {l : List Element} {i : Nat} {x : Element} (h : ftE l i = 0) (hx : l[i]? = some x) : Snd i x := by
  unfold ftE at h
  rw [hx] at h
  dsimp only at h
  split at h
  · cases h
  · rename_i hs; exact Decidable.not_not.1 hs
theorem ftE_app {l : List Element} {x : Element} {i : Nat} (h : ftE l i = 0) (hi : i < l.length) : ftE (l ++ [x]) i = 0 := by
  have hg := List.getElem?_eq_getElem hi
  generalize l[i] = a at hg
  have hp := fun h0 => ftE_parent h hg h0
  unfold ftE at h ⊢
  rw [hg] at h
  rw [get_old hg]
  dsimp only at h ⊢
  have e : ∀ j, j < i → (l ++ [x])[j]? = l[j]? := fun j hj => List.getElem?_append_left (by omega)
  have n1 : NmFree (l ++ [x]) i a ↔ NmFree l i a := ⟨fun hh j hj => by rw [← e j hj]; exact hh j hj, fun hh j hj => by rw [e j hj]; exact hh j hj⟩
  have n2 : PlFree (l ++ [x]) i a ↔ PlFree l i a := ⟨fun hh j hj h1 => by rw [← e j hj]; exact hh j hj h1, fun hh j hj h1 => by rw [e j hj]; exact hh j hj h1⟩
  simp only [n1, n2]
  by_cases h0 : i = 0
  · simp only [h0, if_true] at h ⊢
    split at h
    · cases h
    split at h
    · cases h
    rename_i q1 q2
    rw [if_neg q1, if_neg q2]
  · have h1 := hp h0
    rw [e a.Parent.toNat (by omega)]
    exact h
/-- One more element at an open place. -/
theorem Und.add {l : List Element} {p : Arr2Int} {rest op' : List Arr2Int} {x : Element} {kind : Int} (h : Und l (p :: rest)) (hl : l.length < 1000) (hx : ElMade x kind l.length p.a0 p.a1) (hk : 1 ≤ kind ∧ kind ≤ 4)
    (h1 : ∀ q, q ∈ op' ↔ q ∈ rest ∨ (q.a0 = l.length ∧ (0 ≤ q.a1 ∧ q.a1 ≤ 2) ∧ kind ≠ 4 ∧ (kind = 3 ↔ q.a1 ≠ 0))) (h2 : op'.Nodup) : Und (l ++ [x]) op' := by
  obtain ⟨ne, ft, nm, rr, op, nd, cl⟩ := h
  obtain ⟨xk, xn, xp, xs, xl, xg, xc, xw⟩ := hx
  obtain ⟨⟨p0, ps, a, ha, ak, as⟩, pn⟩ := op p (List.mem_cons_self ..)
  have hal := sc_lt ha
  have nd' := List.nodup_cons.1 nd
  have occ : ∀ q, Occ (l ++ [x]) q ↔ Occ l q ∨ (q.a0 = p.a0 ∧ q.a1 = p.a1) := fun q => by
    constructor
    · rintro ⟨j, b, j1, hb, b1, b2⟩
      rcases get_app hb with hb | ⟨_, rfl⟩
      · exact .inl ⟨j, b, j1, hb, b1, b2⟩
      · exact .inr ⟨by rw [← b1, xp], by rw [← b2, xs]⟩
    · rintro (⟨j, b, j1, hb, b1, b2⟩ | ⟨b1, b2⟩)
      · exact ⟨j, b, j1, get_old hb, b1, b2⟩
      · exact ⟨l.length, x, ne, get_new, by rw [xp, b1], by rw [xs, b2]⟩
  have eqp : ∀ q : Arr2Int, q.a0 = p.a0 ∧ q.a1 = p.a1 → q = p := fun q hq => by
    obtain ⟨a, b⟩ := q; obtain ⟨c, d⟩ := p; simp only [Arr2Int.mk.injEq]; exact hq
  refine ⟨by simp, fun i => ?_, fun j b hb => ?_, fun b hb => ?_, fun q hq => ?_, h2, fun q hq => ?_⟩
  · rcases Nat.lt_or_ge i l.length with hi | hi
    · exact ftE_app (ft i) hi
    · unfold ftE
      rcases Nat.eq_or_lt_of_le hi with e | e
      · rw [← e, get_new]
        dsimp only
        have ha' : (l ++ [x])[x.Parent.toNat]? = some a := by rw [xp]; exact get_old ha
        have q1 : Snd l.length x := by
          refine ⟨?_, ⟨fun h => by omega, fun h => by omega⟩⟩
          unfold sdB
          rw [xn, (wd_nm _).1, if_neg (by omega), Bool.true_and]
          exact decide_eq_true ⟨by omega, by omega, by omega, by omega, by omega, fun h => by have := xw.1 h; omega, xw.2⟩
        have q2 : NmFree (l ++ [x]) l.length x := fun j hj => by
          rw [List.getElem?_append_left hj, List.getElem?_eq_getElem hj]
          simp only [Option.map_some, ne_eq, Option.some.injEq]
          rw [nm j _ (List.getElem?_eq_getElem hj), xn]
          intro hh
          have := wd_inj (by omega) (by omega) hh
          omega
        have q3 : PlFree (l ++ [x]) l.length x := fun j hj j1 => by
          rw [List.getElem?_append_left hj, List.getElem?_eq_getElem hj]
          simp only [Option.map_some, ne_eq, Option.some.injEq, Prod.mk.injEq]
          rintro ⟨b1, b2⟩
          exact pn ⟨j, _, j1, List.getElem?_eq_getElem hj, by rw [b1, xp], by rw [b2, xs]⟩
        rw [if_neg (fun hh => hh q1), if_neg (fun hh => hh q2), if_neg (by omega), if_neg (by omega), ha']
        dsimp only
        rw [if_neg, if_neg (fun hh => hh q3)]
        rintro (hh | hh)
        · exact ak hh
        · rw [as, xs] at hh
          by_cases h0 : p.a1 = 0
          · exact (hh.2 h0) h0
          · exact h0 (hh.1 h0)
      · rw [List.getElem?_eq_none (by simp; omega)]
  · rcases get_app hb with hb | ⟨rfl, rfl⟩
    · exact nm j b hb
    · exact xn
  · rcases List.mem_append.1 hb with hb | hb
    · exact rr b hb
    · obtain rfl := List.mem_singleton.1 hb
      refine ⟨by omega, by omega, by omega, by omega, by omega, ?_, fun _ => by omega⟩
      by_cases h : b.Kind = 2
      · have := xw.1 h; omega
      · have := xw.2 h; omega
  · rcases (h1 q).1 hq with hq | ⟨e0, e1, e2, e3⟩
    · obtain ⟨⟨q0, qs, b, hb, bk, bs⟩, qn⟩ := op q (List.mem_cons_of_mem _ hq)
      refine ⟨⟨q0, qs, b, get_old hb, bk, bs⟩, fun ho => ?_⟩
      rcases (occ q).1 ho with ho | ho
      · exact qn ho
      · rw [eqp q ho] at hq; exact nd'.1 hq
    · refine ⟨⟨by omega, e1, x, by rw [e0]; exact get_new, by omega, by rw [xk]; exact e3⟩, fun ho => ?_⟩
      rcases (occ q).1 ho with ⟨j, b, j1, hb, b1, b2⟩ | ho
      · have := ftE_parent (ft j) hb (by omega)
        have := sc_lt hb
        omega
      · omega
  · obtain ⟨q0, qs, b, hb, bk, bs⟩ := hq
    rcases get_app hb with hb | ⟨e, rfl⟩
    · rcases cl q ⟨q0, qs, b, hb, bk, bs⟩ with hq | hq
      · rcases List.mem_cons.1 hq with rfl | hq
        · exact .inr ((occ q).2 (.inr ⟨rfl, rfl⟩))
        · exact .inl ((h1 q).2 (.inl hq))
      · exact .inr ((occ q).2 (.inl hq))
    · exact .inl ((h1 q).2 (.inr ⟨by omega, qs, by omega, by rw [← xk]; exact bs⟩))
theorem Und.fE {l : List Element} {op : List Arr2Int} (h : Und l op) : ∀ k, fE l k = 0 := by
  intro k
  induction k with
  | zero => rfl
  | succ k ih => unfold Go.Hy.fE; rw [if_neg (by simp [ih])]; exact h.ft k
theorem kds_mono {l : List Element} {i : Int} {a b : Nat} (h : a ≤ b) : kds l i a ≤ kds l i b := by
  induction b with
  | zero => obtain rfl : a = 0 := by omega
            exact Nat.le_refl _
  | succ b ih =>
    by_cases e : a = b + 1
    · subst e; exact Nat.le_refl _
    · have h2 : kds l i b ≤ kds l i (b + 1) := Nat.le_add_right _ _
      exact Nat.le_trans (ih (by omega)) h2
theorem kds_hit {l : List Element} {i : Int} {j : Nat} {a : Element} (h1 : 1 ≤ j) (ha : l[j]? = some a) (hp : a.Parent = i) : kds l i (j + 1) = kds l i j + 1 := by
  rw [kds, ha, if_pos ⟨h1, by simp [hp]⟩]
theorem Und.kidd {l : List Element} (h : Und l []) {i : Nat} : Kidd l i := by
  intro x hx
  have occ : ∀ s : Int, (0 ≤ s ∧ s ≤ 2) → x.Kind ≠ 4 → (x.Kind = 3 ↔ s ≠ 0) → Occ l ⟨i, s⟩ := fun s hs hk h3 => by
    rcases h.cl ⟨i, s⟩ ⟨by simp, hs, x, by simpa using hx, hk, h3⟩ with hh | hh
    · cases hh
    · exact hh
  unfold wantK
  by_cases h3 : x.Kind = 3
  · rw [if_pos h3]
    obtain ⟨j, a, j1, ha, a1, a2⟩ := occ 1 (by omega) (by omega) ⟨fun _ => by decide, fun _ => h3⟩
    obtain ⟨k, b, k1, hb, b1, b2⟩ := occ 2 (by omega) (by omega) ⟨fun _ => by decide, fun _ => h3⟩
    have hj := sc_lt ha
    have hk := sc_lt hb
    dsimp only at a1 a2 b1 b2
    have e1 := kds_hit j1 ha a1
    have e2 := kds_hit k1 hb b1
    have hjk : j ≠ k := fun e => by
      subst e
      rw [ha] at hb
      cases hb
      omega
    rcases Nat.lt_or_ge j k with hlt | hlt
    · have := kds_mono (l := l) (i := (i : Int)) (a := j + 1) (b := k) (by omega)
      have := kds_mono (l := l) (i := (i : Int)) (a := k + 1) (b := l.length) (by omega)
      omega
    · have := kds_mono (l := l) (i := (i : Int)) (a := k + 1) (b := j) (by omega)
      have := kds_mono (l := l) (i := (i : Int)) (a := j + 1) (b := l.length) (by omega)
      omega
  · rw [if_neg h3]
    by_cases h4 : x.Kind = 4
    · rw [if_pos h4]; exact Nat.zero_le _
    · rw [if_neg h4]
      obtain ⟨j, a, j1, ha, a1, a2⟩ := occ 0 (by omega) h4 ⟨fun h => absurd h h3, fun h => absurd rfl h⟩
      have hj := sc_lt ha
      dsimp only at a1 a2
      have e1 := kds_hit j1 ha a1
      have := kds_mono (l := l) (i := (i : Int)) (a := j + 1) (b := l.length) (by omega)
      omega
theorem trk_app {l : List Element} {x : Element} {k : Nat} (h : k ≤ l.length) : trk (l ++ [x]) k = trk l k := by
  induction k with
  | zero => rfl
  | succ k ih =>
    unfold trk
    rw [ih (by omega), List.getElem?_append_left (by omega)]
theorem trk_new {l : List Element} {x : Element} : trk (l ++ [x]) (l ++ [x]).length = trk l l.length + if x.Kind = 4 then 1 else 0 := by
  rw [List.length_append, List.length_singleton, trk, trk_app (Nat.le_refl _), get_new]
  simp
/-! ### The made layout -/
structure Made (l : List Element) (n : Nat) : Prop where
  u : Und l []
  len : l.length ≤ 4 + 6 * n
  trk : trk l l.length ≤ n + 1
theorem Made.lE {l : List Element} {n : Nat} (h : Made l n) (hn : n ≤ 12) : lE l = 0 := by
  have h1 := h.len
  have h2 := h.trk
  have h3 := h.u.ne
  unfold Go.Hy.lE
  rw [if_neg (by omega), if_neg (by omega), if_neg (by simp [h.u.fE]), if_neg (fun hh => hh fun i _ => h.u.kidd), if_neg (by omega)]
theorem Und.nms {l : List Element} {op : List Arr2Int} (h : Und l op) : Nms l := fun x hx => by
  obtain ⟨i, hi⟩ := List.getElem?_of_mem hx
  rw [h.nm i x hi, (wd_nm i).2]
  decide
theorem Layout_ok {k : HumpgenMaker} {n : Int} (h : Mk k 900000000000000) (hn : 0 ≤ n ∧ n ≤ 12) : Ok (gen_Maker_Layout k n) fun r => Made r.1 n.toNat ∧ k.fn ≤ r.2 ∧ r.2 ≤ k.fn + 1000 := by
  have c0 := h.c0
  have c1 := h.c1
  have mk : ∀ c', k.fn ≤ c' → c' ≤ k.fn + 100000 → Mk (HumpgenMaker.mk k.fl c') CM0 := fun c' h1 h2 => h.to h1 (by unfold CM0; omega)
  have mk2 : ∀ c', k.fn ≤ c' → c' ≤ k.fn + 100000 → Mk (HumpgenMaker.mk k.fl c') 999999999999000 := fun c' h1 h2 => h.to h1 (by omega)
  unfold gen_Maker_Layout
  refine ok_bde (word_m (by omega)) ?_
  rw [w64_eq (n := n + 1) (by omega)]
  refine ok_bd (Next_ok (h.up (by decide)) (by omega)) fun v ⟨hv, ev⟩ => ?_
  refine ok_lp (fun (z : List Element × List Arr2Int × Int × Int) => Und z.1 z.2.1 ∧ 0 ≤ z.2.2.1 ∧ z.1.length + 3 * (z.2.1.length + 2 * z.2.2.1) ≤ 4 + 6 * n ∧ trk z.1 z.1.length + z.2.1.length + z.2.2.1 ≤ n + 1 ∧ k.fn ≤ z.2.2.2 ∧ z.2.2.2 + 20 * (z.2.1.length + 2 * z.2.2.1) ≤ k.fn + 1 + 20 * (1 + 2 * n))
    (fun z => (z.2.1.length + 2 * z.2.2.1).toNat) ?_ (by simp only [big_eq]; simp; omega) ?_
  · refine ⟨⟨by simp, fun i => ?_, fun j a ha => ?_, fun a ha => ?_, fun q hq => ?_, by simp, fun q hq => ?_⟩, hv.1, by dsimp only [List.length]; omega, ?_, by dsimp only; omega, by dsimp only [List.length]; omega⟩
    · cases i with
      | zero =>
        have q1 : Snd 0 (Element.mk 0 (wd (Int.toNat 0)) (-1) 0 0 0 0 0) := by
          refine ⟨?_, by simp⟩
          unfold sdB
          simp only [if_true]
          rw [show wd (Int.toNat 0) = wd 0 from rfl, (wd_nm 0).1]
          rfl
        have q2 : NmFree [Element.mk 0 (wd (Int.toNat 0)) (-1) 0 0 0 0 0] 0 (Element.mk 0 (wd (Int.toNat 0)) (-1) 0 0 0 0 0) := fun j hj => by omega
        unfold ftE
        simp only [List.getElem?_cons_zero]
        rw [if_neg (fun hh => hh q1), if_neg (fun hh => hh q2)]
        rfl
      | succ i => unfold ftE; simp
    · cases j with
      | zero => simp only [List.getElem?_cons_zero, Option.some.injEq] at ha; subst ha; rfl
      | succ j => simp at ha
    · obtain rfl := List.mem_singleton.1 ha
      exact ⟨by decide, by decide, by decide, by decide, by decide, by decide, fun h => absurd rfl h⟩
    · obtain rfl := List.mem_singleton.1 hq
      refine ⟨⟨by decide, by decide, _, rfl, by decide, by decide⟩, ?_⟩
      rintro ⟨j, b, j1, hb, _⟩
      rw [List.getElem?_eq_none (by simpa using j1)] at hb
      cases hb
    · obtain ⟨q0, qs, a, ha, ak, as⟩ := hq
      left
      have hl := sc_lt ha
      have e0 : q.a0 = 0 := by simp at hl; omega
      rw [e0] at ha
      simp only [Int.toNat_zero, List.getElem?_cons_zero, Option.some.injEq] at ha
      subst ha
      have e1 : q.a1 = 0 := by
        by_cases h : q.a1 = 0
        · exact h
        · have := as.2 h; cases this
      obtain ⟨q1, q2⟩ := q
      dsimp only at e0 e1
      subst e0 e1
      exact List.mem_singleton.2 rfl
    · dsimp only
      have : ∀ x : Element, x.Kind = 0 → trk [x] [x].length = 0 := fun x hx => by simp [trk, hx]
      rw [this _ rfl]
      simp only [List.length_cons, List.length_nil]
      omega
  rintro ⟨l, op, s, c⟩ next ⟨hu, s0, hlen, htr, cc0, cc1⟩ hnx
  dsimp only at hu s0 hlen htr cc0 cc1 ⊢
  refine ok_if (fun ho => ?_) (fun ho => ok_some ⟨?_, by dsimp only; omega, by dsimp only; omega⟩)
  rotate_left
  · have : op = [] := List.eq_nil_of_length_eq_zero (by omega)
    subst this
    exact ⟨hu, by dsimp only; simp only [List.length_nil] at hlen; omega, by dsimp only; simp only [List.length_nil] at htr; omega⟩
  obtain ⟨p, rest, rfl⟩ : ∃ p rest, op = p :: rest := by
    cases op with
    | nil => simp at ho
    | cons p rest => exact ⟨p, rest, rfl⟩
  simp only [List.length_cons] at hlen htr cc1
  refine ok_ixe (a := p) (by decide) rfl (ok_ck (by simp only [List.length_cons]; omega) ?_)
  have er : (p :: rest).drop (Int.toNat 1) = rest := rfl
  simp only [er]
  refine ok_jp (fun (z : List Element × Int × Int × Int) => Und z.1 (⟨z.2.1, z.2.2.1⟩ :: rest) ∧ z.1.length ≤ l.length + 2 ∧ trk z.1 z.1.length = trk l l.length ∧ c ≤ z.2.2.2 ∧ z.2.2.2 ≤ c + 13) (fun z hz => ?_) (fun kk hk => ?_)
  · obtain ⟨l', pa, sd, c'⟩ := z
    dsimp only at hz ⊢
    obtain ⟨hu', hl', ht', d0, d1⟩ := hz
    have nd' := List.nodup_cons.1 hu'.nd
    have hrl : ∀ q ∈ rest, q.a0 < l'.length := fun q hq => by
      obtain ⟨⟨q0, _, a, ha, _⟩, _⟩ := hu'.opn q (List.mem_cons_of_mem _ hq)
      have := sc_lt ha
      omega
    refine ok_if (fun hs => ?_) (fun hs => ?_)
    · refine ok_bd (Element_ok (mk2 c' (by omega) (by omega)) (by omega)) fun w ⟨hw, w1, w2⟩ => ?_
      dsimp only at w1 w2
      rw [show ((l'.length : Int)).toNat = l'.length from by omega] at hw
      refine ok_ck (by simp; omega) (ok_vl fun y hy => ?_)
      have ey : w64 ((y.length : Int) - 1) = l'.length := by rw [w64_eq (by rw [hy]; simp; omega), hy]; simp
      rw [ey]
      refine ok_ck (by simp; omega) (ok_vl fun op2 hop => ?_)
      subst hy hop
      have hk3 := hw.k
      have htn := trk_new (l := l') (x := w.1)
      rw [if_neg (by omega)] at htn
      rw [w64_eq (n := s - 1) (by omega)]
      refine hnx _ ⟨hu'.add (by omega) hw (by omega) (fun q => ?_) ?_, by dsimp only; omega, by dsimp only; simp; omega, by dsimp only; rw [htn]; simp; omega, by dsimp only; omega, by dsimp only; simp; omega⟩ (by dsimp only; simp; omega)
      · rw [List.mem_append]
        simp only [List.mem_cons, List.not_mem_nil, or_false]
        obtain ⟨q1, q2⟩ := q
        simp only [Arr2Int.mk.injEq]
        constructor
        · rintro (hh | hh | hh)
          · exact .inl hh
          · have h22 := hh.2
            exact .inr ⟨hh.1, by omega, by simp, by simp [h22]⟩
          · have h22 := hh.2
            exact .inr ⟨hh.1, by omega, by simp, by simp [h22]⟩
        · rintro (hh | ⟨e0, e1, _, e3⟩)
          · exact .inl hh
          · have : q2 ≠ 0 := by simpa using e3
            omega
      · rw [List.nodup_append]
        refine ⟨nd'.2, by simp, fun a ha b hb => ?_⟩
        have := hrl a ha
        simp only [List.mem_cons, List.not_mem_nil, or_false] at hb
        rintro rfl
        rcases hb with rfl | rfl <;> (dsimp only at this; omega)
    · refine ok_bd (Element_ok (mk2 c' (by omega) (by omega)) (by omega)) fun w ⟨hw, w1, w2⟩ => ?_
      dsimp only at w1 w2
      rw [show ((l'.length : Int)).toNat = l'.length from by omega] at hw
      refine ok_ck (by simp; omega) (ok_vl fun y hy => ?_)
      subst hy
      have hk3 := hw.k
      have htn := trk_new (l := l') (x := w.1)
      rw [if_pos hk3] at htn
      refine hnx _ ⟨hu'.add (by omega) hw (by omega) (fun q => ⟨fun hh => .inl hh, fun hh => ?_⟩) nd'.2, by dsimp only; omega, by dsimp only; simp; omega, by dsimp only; rw [htn]; omega, by dsimp only; omega, by dsimp only; omega⟩ (by dsimp only; simp; omega)
      rcases hh with hh | ⟨_, _, hh, _⟩
      · exact hh
      · exact absurd rfl hh
  · refine ok_bd (Next_ok (mk c (by omega) (by omega)) (by omega)) fun u ⟨hu1, eu⟩ => ?_
    dsimp only at eu
    refine ok_lp (fun (z : List Element × Int × Int × Int × Int) => Und z.1 (⟨z.2.1, z.2.2.1⟩ :: rest) ∧ (z.2.2.2.1 ≤ 2) ∧ 0 ≤ z.2.2.2.1 ∧ z.1.length + z.2.2.2.1 ≤ l.length + 2 ∧ trk z.1 z.1.length = trk l l.length ∧ c ≤ z.2.2.2.2 ∧ z.2.2.2.2 + 6 * z.2.2.2.1 ≤ c + 13) (fun z => z.2.2.2.1.toNat) ?_ (by simp only [big_eq]; omega) ?_
    · exact ⟨hu, by dsimp only; omega, by dsimp only; omega, by dsimp only; omega, rfl, by dsimp only; omega, by dsimp only; omega⟩
    rintro ⟨l', pa, sd, r, c'⟩ nx ⟨hu', r2, r0, hl', ht', d0, d1⟩ hn2
    dsimp only at hu' r2 r0 hl' ht' d0 d1 ⊢
    refine ok_if (fun hr => ?_) (fun hr => hk _ ⟨hu', by dsimp only; omega, ht', by dsimp only; omega, by dsimp only; omega⟩)
    refine ok_bd (Pick_ok (mk c' (by omega) (by omega)) (by simp)) fun u1 ⟨m1, e1⟩ => ?_
    dsimp only at e1
    simp only [List.mem_cons, List.not_mem_nil, or_false] at m1
    refine ok_bd (Element_ok (mk2 u1.2 (by omega) (by omega)) (by omega)) fun w ⟨hw, w1, w2⟩ => ?_
    dsimp only at w1 w2
    rw [show ((l'.length : Int)).toNat = l'.length from by omega] at hw
    refine ok_ck (by simp; omega) (ok_vl fun y hy => ?_)
    have ey : w64 ((y.length : Int) - 1) = l'.length := by rw [w64_eq (by rw [hy]; simp; omega), hy]; simp
    rw [ey]
    subst hy
    have nd' := List.nodup_cons.1 hu'.nd
    have hrl : ∀ q ∈ rest, q.a0 < l'.length := fun q hq => by
      obtain ⟨⟨q0, _, a, ha, _⟩, _⟩ := hu'.opn q (List.mem_cons_of_mem _ hq)
      have := sc_lt ha
      omega
    have hk3 := hw.k
    have htn := trk_new (l := l') (x := w.1)
    rw [if_neg (by omega)] at htn
    rw [w64_eq (n := r - 1) (by omega)]
    refine hn2 _ ⟨hu'.add (by omega) hw (by omega) (fun q => ?_) ?_, by dsimp only; omega, by dsimp only; omega, by dsimp only; simp; omega, by dsimp only; rw [htn]; omega, by dsimp only; omega, by dsimp only; omega⟩ (by dsimp only; omega)
    · rw [List.mem_cons]
      obtain ⟨q1, q2⟩ := q
      simp only [Arr2Int.mk.injEq]
      constructor
      · rintro (hh | hh)
        · exact .inr ⟨hh.1, by omega, by omega, by omega⟩
        · exact .inl hh
      · rintro (hh | ⟨e0, e1, _, e3⟩)
        · exact .inr hh
        · left
          refine ⟨e0, ?_⟩
          by_cases h0 : q2 = 0
          · exact h0
          · have := e3.2 h0; omega
    · rw [List.nodup_cons]
      refine ⟨fun hh => ?_, nd'.2⟩
      have := hrl _ hh
      dsimp only at this
      omega
end Go.Hy
