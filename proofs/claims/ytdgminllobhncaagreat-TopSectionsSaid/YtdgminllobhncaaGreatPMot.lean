/-
  The makers of motions and of runs.
-/
import Derived.Test.YtdgminllobhncaaGreatPBase
namespace Go.Hy
set_option linter.unusedVariables false
set_option linter.unusedSimpArgs false
set_option maxHeartbeats 2000000
set_option maxRecDepth 10000
open Go.Hy.Iv

/-- Two lists of one length whose members are related one by one. -/
inductive L2 {α β : Type} (R : α → β → Prop) : List α → List β → Prop
  | nil : L2 R [] []
  | cons {a b l m} : R a b → L2 R l m → L2 R (a :: l) (b :: m)
theorem L2.snoc {α β : Type} {R : α → β → Prop} {l : List α} {m : List β} {a : α} {b : β} (h : L2 R l m) (hr : R a b) : L2 R (l ++ [a]) (m ++ [b]) := by
  induction h with
  | nil => exact .cons hr .nil
  | cons h1 _ ih => exact .cons h1 ih
theorem L2.len {α β : Type} {R : α → β → Prop} {l : List α} {m : List β} (h : L2 R l m) : l.length = m.length := by
  induction h with
  | nil => rfl
  | cons _ _ ih => simp [ih]
theorem L2.mem {α β : Type} {R : α → β → Prop} {l : List α} {m : List β} (h : L2 R l m) : ∀ b ∈ m, ∃ a ∈ l, R a b := by
  induction h with
  | nil => intro b hb; cases hb
  | cons h1 _ ih =>
    intro b hb
    rcases List.mem_cons.1 hb with e | hb
    · subst e; exact ⟨_, List.mem_cons_self, h1⟩
    · obtain ⟨a, ha, hr⟩ := ih b hb
      exact ⟨a, List.mem_cons_of_mem _ ha, hr⟩
theorem take_at {α : Type} {l : List α} {i : Nat} {a : α} (h : l[i]? = some a) : l.take (i + 1) = l.take i ++ [a] := by
  have hk := (List.getElem?_eq_some_iff.1 h).1
  rw [List.take_succ_eq_append_getElem hk, (List.getElem?_eq_some_iff.1 h).2]

abbrev ClsOk (v : Interval) : Prop := -5000 ≤ v.Lo ∧ v.Lo ≤ v.Hi ∧ v.Hi ≤ 10000
structure MotOk (ps : List Piece) (m : Motion) : Prop where
  sp : 0 ≤ m.Speed.Lo ∧ m.Speed.Lo ≤ m.Speed.Hi ∧ m.Speed.Hi ≤ 20000
  cls : m.Class.length = ps.length
  c : ∀ v ∈ m.Class, ClsOk v
  err : 0 ≤ m.Error ∧ m.Error ≤ 1000
  tgs : m.Targets.length = nret ps
  t : ∀ v ∈ m.Targets, Tg v
abbrev Bent (ps : List Piece) : Prop := ∀ p ∈ ps, 0 ≤ p.Curve ∧ p.Curve ≤ 5000
theorem Motion_ok {k : HumpgenMaker} {ps : List Piece} (h : Mk k 950000000000000) (hb : Bent ps) (hl : ps.length ≤ 1000000) :
    Ok (gen_Maker_Motion k ps) fun r => MotOk ps r.1 ∧ (∀ v ∈ r.1.Targets, v ≤ 5000) ∧ r.1.Error ≤ 100 ∧ r.1.Speed.Hi ≤ 2100 ∧ (∀ v ∈ r.1.Class, 0 ≤ v.Lo ∧ v.Hi ≤ 5210) ∧ k.fn ≤ r.2 ∧ r.2 ≤ k.fn + 5 + ps.length := by
  have c0 := h.c0
  have c1 := h.c1
  have hnr := nret_le ps
  have mk : ∀ c', k.fn ≤ c' → c' ≤ 960000000000000 → Mk (HumpgenMaker.mk k.fl c') CM0 := fun c' h1 h2 => h.to h1 (by unfold CM0; omega)
  unfold gen_Maker_Motion
  refine ok_bd (Pick_ok (h.up (by decide)) (by simp)) fun v1 ⟨hv1, e1⟩ => ?_
  refine ok_bd (Pick_ok (mk v1.2 (by omega) (by omega)) (by simp)) fun v2 ⟨hv2, e2⟩ => ?_
  dsimp only at e2
  refine ok_bd (Pick_ok (mk v2.2 (by omega) (by omega)) (by simp)) fun v3 ⟨hv3, e3⟩ => ?_
  dsimp only at e3
  refine ok_bd (Pick_ok (mk v3.2 (by omega) (by omega)) (by simp)) fun v4 ⟨hv4, e4⟩ => ?_
  dsimp only at e4
  refine ok_bd (Pick_ok (mk v4.2 (by omega) (by omega)) (by simp)) fun v5 ⟨hv5, e5⟩ => ?_
  dsimp only at e5
  simp only [List.mem_cons, List.not_mem_nil, or_false] at hv1 hv2 hv3 hv4 hv5
  have s1 : 0 ≤ v1.1 ∧ v1.1 ≤ 2000 := by omega
  have s2 : 0 ≤ v2.1 ∧ v2.1 ≤ 100 := by omega
  have s3 : 0 ≤ v3.1 ∧ v3.1 ≤ 100 := by omega
  have s4 : 0 ≤ v4.1 ∧ v4.1 ≤ 60 := by omega
  have s5 : 0 ≤ v5.1 ∧ v5.1 ≤ 150 := by omega
  clear hv1 hv2 hv3 hv4 hv5
  refine ok_jp (fun (z : List Interval) => z.length = ps.length ∧ (∀ v ∈ z, ClsOk v) ∧ ∀ v ∈ z, 0 ≤ v.Lo ∧ v.Hi ≤ 5210) (fun cl ⟨hc1, hc2, hc3⟩ => ?_) (fun kk hk => ?_)
  · refine ok_bde (Retarders_m (by omega)) ?_
    rw [w64_eq (n := v1.1 + v2.1) (by omega)]
    refine ok_lp (fun (z : List Int × Int × Int) => 0 ≤ z.2.1 ∧ z.1.length + z.2.1 = nret ps ∧ (∀ v ∈ z.1, Tg v ∧ v ≤ 5000) ∧ v5.2 ≤ z.2.2 ∧ z.2.2 ≤ v5.2 + z.1.length) (fun z => z.2.1.toNat) ?_ (by simp only [big_eq]; omega) ?_
    · exact ⟨by dsimp only; omega, by dsimp only; simp, by simp, by dsimp only; omega, by dsimp only; simp⟩
    rintro ⟨l, n, c⟩ next ⟨n0, n1, n2, n3, n4⟩ hn
    dsimp only at n0 n1 n2 n3 n4 ⊢
    refine ok_if (fun hi => ?_) (fun hi => ok_some ?_)
    rotate_left
    · refine ⟨⟨by dsimp only; omega, hc1, hc2, by dsimp only; omega, by dsimp only; omega, fun v hv => (n2 v hv).1⟩, fun v hv => (n2 v hv).2, by dsimp only; omega, by dsimp only; omega, hc3, by dsimp only; omega, by dsimp only; omega⟩
    refine ok_bd (Pick_ok (mk c (by omega) (by omega)) (by simp)) fun v6 ⟨hv6, e6⟩ => ?_
    dsimp only at e6
    simp only [List.mem_cons, List.not_mem_nil, or_false] at hv6
    refine ok_ck (by simp; omega) (ok_vl fun y hy => ?_)
    subst hy
    rw [w64_eq (by omega)]
    refine hn _ ⟨by dsimp only; omega, by simp; omega, fun v hv => ?_, by dsimp only; omega, by simp; omega⟩ (by dsimp only; omega)
    rcases List.mem_append.1 hv with hv | hv
    · exact n2 v hv
    · simp only [List.mem_singleton] at hv; subst hv; omega
  · refine ok_lp (fun (z : List Interval × Int) => 0 ≤ z.2 ∧ z.2 ≤ ps.length ∧ z.1.length = z.2.toNat ∧ ∀ v ∈ z.1, ClsOk v ∧ 0 ≤ v.Lo ∧ v.Hi ≤ 5210) (fun z => ((ps.length : Int) - z.2).toNat) ?_ (by simp only [big_eq]; omega) ?_
    · exact ⟨by dsimp only; omega, by dsimp only; omega, rfl, by simp⟩
    rintro ⟨l, i⟩ next ⟨i0, i1, i2, i3⟩ hn
    dsimp only at i0 i1 i2 i3 ⊢
    refine ok_if (fun hi => ?_) (fun hi => hk _ ⟨by omega, fun v hv => (i3 v hv).1, fun v hv => (i3 v hv).2⟩)
    refine ok_ix i0 hi fun p hp => ok_ix i0 hi fun p2 hp2 => ?_
    obtain rfl : p = p2 := Option.some.inj (hp.symm.trans hp2)
    have hcv := hb p (memat hp)
    rw [w64_eq (n := v4.1 + v5.1) (by omega), w64_eq (n := v4.1 + v5.1 + p.Curve) (by omega), w64_eq (n := v4.1 + p.Curve) (by omega), w64_eq (n := i + 1) (by omega)]
    refine ok_vl fun x hx => ok_ck (by simp; omega) (ok_vl fun y hy => ?_)
    subst hy
    refine hn _ ⟨by dsimp only; omega, by dsimp only; omega, by simp; omega, fun v hv => ?_⟩ (by dsimp only; omega)
    rcases List.mem_append.1 hv with hv | hv
    · exact i3 v hv
    · simp only [List.mem_singleton] at hv; subst hv; exact ⟨⟨by dsimp only; omega, by dsimp only; omega, by dsimp only; omega⟩, by dsimp only; omega⟩
theorem From_ok {k : HumpgenMaker} {a b : Int} (h : Mk k CM0) (hab : a ≤ b ∧ -1000000 ≤ a ∧ b ≤ 1000000) : Ok (gen_Maker_From k a b) fun r => (a ≤ r.1 ∧ r.1 ≤ b) ∧ r.2 = k.fn + 1 := by
  unfold gen_Maker_From
  rw [w64_eq (n := b - a) (by omega), w64_eq (by omega)]
  refine ok_bd (Next_ok h (by omega)) fun v ⟨hv, hc⟩ => ok_some ⟨?_, hc⟩
  rw [w64_eq (by omega)]
  omega

/-- What a run's resistance and target may be for those of a motion. -/
abbrev ClsIn (c : Interval) (w : Int) : Prop := c.Lo ≤ w ∧ w ≤ c.Hi
def TgIn (err : Int) (t u : Int) : Prop := (t < 0 → u = t) ∧ (0 ≤ t → max 0 (t - err) ≤ u ∧ u ≤ t + err)
structure RunIn (m : Motion) (r : Run) : Prop where
  sp : m.Speed.Lo ≤ r.Speed ∧ r.Speed ≤ m.Speed.Hi
  cls : L2 ClsIn m.Class r.Resist
  tgs : L2 (TgIn m.Error) m.Targets r.Targets
theorem Run_ok {k : HumpgenMaker} {ps : List Piece} {m : Motion} (h : Mk k 960000000000000) (hm : MotOk ps m) (hl : ps.length ≤ 1000000) :
    Ok (gen_Maker_Run k m) fun r => RunOk ps r.1 ∧ RunIn m r.1 ∧ k.fn ≤ r.2 ∧ r.2 ≤ k.fn + 1 + 2 * ps.length := by
  have c0 := h.c0
  have c1 := h.c1
  have hnr := nret_le ps
  obtain ⟨hsp, hcl, hc, her, htl, ht⟩ := hm
  have mk : ∀ c', k.fn ≤ c' → c' ≤ 970000000000000 → Mk (HumpgenMaker.mk k.fl c') CM0 := fun c' h1 h2 => h.to h1 (by unfold CM0; omega)
  unfold gen_Maker_Run
  refine ok_bd (From_ok (h.up (by decide)) (by omega)) fun v ⟨hv, ev⟩ => ?_
  refine ok_jp (fun (z : List Int × Int) => L2 ClsIn m.Class z.1 ∧ k.fn ≤ z.2 ∧ z.2 ≤ k.fn + 1 + ps.length) (fun z ⟨z0, z1, z2⟩ => ?_) (fun kk hk => ?_)
  · refine ok_lp (fun (y : List Int × Int × Int) => 0 ≤ y.2.1 ∧ y.2.1 ≤ nret ps ∧ L2 (TgIn m.Error) (m.Targets.take y.2.1.toNat) y.1 ∧ (∀ v ∈ y.1, Tg v) ∧ k.fn ≤ y.2.2 ∧ y.2.2 ≤ k.fn + 1 + ps.length + y.2.1) (fun y => ((nret ps : Int) - y.2.1).toNat) ?_ (by simp only [big_eq]; omega) ?_
    · exact ⟨by dsimp only; omega, by dsimp only; omega, .nil, by simp, by dsimp only; omega, by dsimp only; omega⟩
    rintro ⟨l, i, c⟩ next ⟨i0, i1, i2, i3, i4, i5⟩ hn
    dsimp only at i0 i1 i2 i3 i4 i5 ⊢
    refine ok_if (fun hi => ?_) (fun hi => ok_some ?_)
    rotate_left
    · rw [List.take_of_length_le (by omega)] at i2
      refine ⟨⟨by dsimp only; have := z0.len; omega, by dsimp only; have := i2.len; omega, by dsimp only; omega, fun w hw => ?_, i3⟩, ⟨hv, z0, i2⟩, by dsimp only; omega, by dsimp only; omega⟩
      obtain ⟨a, ha, hr⟩ := z0.mem w hw
      have := hc a ha
      omega
    refine ok_ix i0 hi fun t hti => ?_
    have htt := ht t (memat hti)
    have hln := i2.len
    simp only [List.length_take] at hln
    refine ok_jp (fun (q : Int × Int) => TgIn m.Error t q.1 ∧ Tg q.1 ∧ k.fn ≤ q.2 ∧ q.2 ≤ c + 1) (fun q ⟨q0, q1, q2, q3⟩ => ?_) (fun k2 hk2 => ?_)
    · refine ok_ck (by simp; omega) (ok_vl fun y hy => ?_)
      subst hy
      rw [w64_eq (by omega)]
      have e : (i + 1).toNat = i.toNat + 1 := by omega
      refine hn _ ⟨by dsimp only; omega, by dsimp only; omega, by dsimp only; rw [e, take_at hti]; exact i2.snoc q0, fun v hv => ?_, q2, by dsimp only; omega⟩ (by dsimp only; omega)
      rcases List.mem_append.1 hv with hv | hv
      · exact i3 v hv
      · simp only [List.mem_singleton] at hv; subst hv; exact q1
    · refine ok_if (fun h0 => ?_) (fun h0 => ?_)
      · rw [w64_eq (n := t - m.Error) (by omega), w64_eq (n := t + m.Error) (by omega)]
        refine ok_bd (From_ok (mk c (by omega) (by omega)) (by omega)) fun u ⟨hu, eu⟩ => ?_
        dsimp only at eu
        exact hk2 _ ⟨⟨fun h => by omega, fun _ => by dsimp only; omega⟩, by dsimp only; omega, by dsimp only; omega, by dsimp only; omega⟩
      · exact hk2 _ ⟨⟨fun _ => rfl, fun h => by omega⟩, htt, by dsimp only; omega, by dsimp only; omega⟩
  · refine ok_lp (fun (y : List Int × Int × Int) => 0 ≤ y.2.1 ∧ y.2.1 ≤ ps.length ∧ L2 ClsIn (m.Class.take y.2.1.toNat) y.1 ∧ k.fn ≤ y.2.2 ∧ y.2.2 ≤ k.fn + 1 + y.2.1) (fun y => ((ps.length : Int) - y.2.1).toNat) ?_ (by simp only [big_eq]; omega) ?_
    · exact ⟨by dsimp only; omega, by dsimp only; omega, .nil, by dsimp only; omega, by dsimp only; omega⟩
    rintro ⟨l, i, c⟩ next ⟨i0, i1, i2, i4, i5⟩ hn
    dsimp only at i0 i1 i2 i4 i5 ⊢
    refine ok_if (fun hi => ?_) (fun hi => ?_)
    rotate_left
    · rw [List.take_of_length_le (by omega)] at i2
      exact hk _ ⟨i2, by dsimp only; omega, by dsimp only; omega⟩
    refine ok_ix i0 hi fun t hti => ok_ix i0 hi fun t2 ht2 => ?_
    obtain rfl : t = t2 := Option.some.inj (hti.symm.trans ht2)
    have htt := hc t (memat hti)
    have hln := i2.len
    simp only [List.length_take] at hln
    refine ok_bd (From_ok (mk c (by omega) (by omega)) (by omega)) fun u ⟨hu, eu⟩ => ?_
    dsimp only at eu
    refine ok_ck (by simp; omega) (ok_vl fun y hy => ?_)
    subst hy
    rw [w64_eq (by omega)]
    have e : (i + 1).toNat = i.toNat + 1 := by omega
    exact hn _ ⟨by dsimp only; omega, by dsimp only; omega, by dsimp only; rw [e, take_at hti]; exact i2.snoc hu, by dsimp only; omega, by dsimp only; omega⟩ (by dsimp only; omega)
end Go.Hy
