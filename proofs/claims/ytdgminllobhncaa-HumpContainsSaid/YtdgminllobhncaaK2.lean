/-
  What the proof leans on, part 2: plain rules, plain models of the functions, and what they give. No condition.
-/
import Derived.Test.YtdgminllobhncaaK1
namespace Go.Hy
set_option linter.unusedVariables false
set_option linter.unusedSimpArgs false
set_option maxHeartbeats 2000000
set_option maxRecDepth 10000
structure SpOk (l : List Span) : Prop where
  len : l.length ≤ 128
  r : ∀ s ∈ l, 0 ≤ s.Element ∧ (0 ≤ s.Side ∧ s.Side ≤ 2) ∧ 0 ≤ s.From ∧ s.From < s.To ∧ s.To ≤ 1000000000
  d : ∀ (i j : Nat) s t, i < j → l[i]? = some s → l[j]? = some t → s.Element ≠ t.Element
theorem SpOk.one {l : List Span} (h : SpOk l) {s t : Span} (hs : s ∈ l) (ht : t ∈ l) (he : s.Element = t.Element) : s = t := by
  obtain ⟨i, hi⟩ := List.getElem?_of_mem hs
  obtain ⟨j, hj⟩ := List.getElem?_of_mem ht
  rcases Nat.lt_trichotomy i j with h1 | h1 | h1
  · exact absurd he (h.d i j s t h1 hi hj)
  · subst h1; rw [hi] at hj; cases hj; rfl
  · exact absurd he.symm (h.d j i t s h1 hj hi)
theorem Ziy {l : List Span} : Ok (Zcb l) fun b => b = true → SpOk l := by
  unfold Zcb
  refine Zas (fun _ => Zak (fun h => by cases h)) fun hl => ?_
  refine Za4 (fun z => 0 ≤ z ∧ z ≤ (l.length : Int) ∧ (∀ (i : Nat) s, (i : Int) < z → l[i]? = some s → 0 ≤ s.Element ∧ (0 ≤ s.Side ∧ s.Side ≤ 2) ∧ 0 ≤ s.From ∧ s.From < s.To ∧ s.To ≤ 1000000000) ∧ ∀ (i j : Nat) s t, i < j → (j : Int) < z → l[i]? = some s → l[j]? = some t → s.Element ≠ t.Element) (fun z => ((l.length : Int) - z).toNat) ⟨Int.le_refl 0, by omega, fun i s h => by omega, fun i j s t _ h => by omega⟩ (by rw [ZaJ]; omega) fun z k ⟨hz, hzl, h1, h2⟩ hk => ?_
  refine Zas (fun h => ZaQ hz h fun a ha => ?_) (fun h => Zak (fun _ => ⟨by omega, fun s hs => ?_, fun i j s t hij hi hj => h2 i j s t hij (by have := Zbl hj; omega) hi hj⟩))
  · refine Zas (fun _ => Zak (fun h => by cases h)) fun c1 => Zas (fun _ => Zak (fun h => by cases h)) fun c2 => Zas (fun _ => Zak (fun h => by cases h)) fun c3 => Zas (fun _ => Zak (fun h => by cases h)) fun c4 => Zas (fun _ => Zak (fun h => by cases h)) fun c5 => Zas (fun _ => Zak (fun h => by cases h)) fun c6 => ?_
    refine Za4 (fun y => 0 ≤ y ∧ y ≤ z ∧ ∀ (i : Nat) s, (i : Int) < y → l[i]? = some s → s.Element ≠ a.Element) (fun y => (z - y).toNat) ⟨Int.le_refl 0, hz, fun i s h => by omega⟩ (by rw [ZaJ]; omega) fun y k2 ⟨hy, hyz, hyy⟩ hk2 => ?_
    refine Zas (fun h3 => ZaQ hy (by omega) fun b hb => Zas (fun _ => Zak (fun h => by cases h)) fun hne => ?_) (fun h3 => ?_)
    · rw [Zaw (by omega)]
      refine hk2 _ ⟨by omega, by omega, fun i s hi hs => ?_⟩ (by omega)
      by_cases hiy : (i : Int) < y
      · exact hyy i s hiy hs
      · have e : i = y.toNat := by omega
        subst e
        rw [hb] at hs; cases hs; exact hne
    · rw [Zaw (by omega)]
      refine hk _ ⟨by omega, by omega, fun i s hi hs => ?_, fun i j s t hij hj hs ht => ?_⟩ (by omega)
      · by_cases hiz : (i : Int) < z
        · exact h1 i s hiz hs
        · have e : i = z.toNat := by omega
          subst e
          rw [ha] at hs; cases hs; omega
      · by_cases hjz : (j : Int) < z
        · exact h2 i j s t hij hjz hs ht
        · have e : j = z.toNat := by omega
          subst e
          rw [ha] at ht; cases ht
          exact hyy i s (by omega) hs
  · obtain ⟨i, hi⟩ := List.getElem?_of_mem hs
    exact h1 i s (by have := Zbl hi; omega) hi
theorem Zhj {l : List Span} (h : Zcb l = some true) : SpOk l := by
  obtain ⟨b, hb, hq⟩ := Ziy (l := l)
  rw [h] at hb
  cases hb
  exact hq rfl
theorem Zjl {l : List Span} {e : Int} (hl : l.length ≤ 1000000000) : Ok (Zc9 l e) fun v => (v = -1 ∧ ∀ s ∈ l, s.Element ≠ e) ∨ (0 ≤ v ∧ ∃ s, l[v.toNat]? = some s ∧ s.Element = e) := by
  unfold Zc9
  refine Za4 (fun z => 0 ≤ z ∧ z ≤ (l.length : Int) ∧ ∀ (i : Nat) s, (i : Int) < z → l[i]? = some s → s.Element ≠ e) (fun z => ((l.length : Int) - z).toNat) ⟨Int.le_refl 0, by omega, fun i s h => by omega⟩ (by rw [ZaJ]; omega) fun z k ⟨hz, hzl, hh⟩ hk => ?_
  refine Zas (fun h => ZaQ hz h fun a ha => Zas (fun he => Zak (.inr ⟨hz, a, ha, he⟩)) fun hne => ?_) (fun h => Zak (.inl ⟨rfl, fun s hs => ?_⟩))
  · rw [Zaw (by omega)]
    refine hk _ ⟨by omega, by omega, fun i s hi hs => ?_⟩ (by omega)
    by_cases hiz : (i : Int) < z
    · exact hh i s hiz hs
    · have e : i = z.toNat := by omega
      subst e
      rw [ha] at hs; cases hs; exact hne
  · obtain ⟨i, hi⟩ := List.getElem?_of_mem hs
    exact hh i s (by have := Zbl hi; omega) hi
theorem ZhY {ll : List (List Span)} {t : Int} : Ok (ZcE ll t) fun e => e = 0 → ll.length ≤ 96 ∧ (0 ≤ t ∧ t ≤ 1000000000) := by
  unfold ZcE
  refine Zas (fun _ => Zak (fun h => by cases h)) fun hl => ?_
  refine Zbp (fun b => b = true → 0 ≤ t ∧ t ≤ 1000000000) (fun z1 hz1 => ?_) (fun k' hk' => Zas (fun h => hk' _ (fun h2 => ⟨h, of_decide_eq_true h2⟩)) (fun _ => hk' _ (fun h => by cases h)))
  refine Za4 (fun z => 0 ≤ z.2 ∧ (z.1 = true → 0 ≤ t ∧ t ≤ 1000000000)) (fun z => ((ll.length : Int) - z.2).toNat) ⟨Int.le_refl 0, hz1⟩ (by rw [ZaJ]; dsimp only; omega) fun z k ⟨hz, hzt⟩ hk => ?_
  refine Zas (fun h => ok_b (fun hb => ZaQ hz h fun a ha => Zbt ZdV fun b _ => ?_) (fun _ => ?_)) (fun h => Zcc (fun _ => Zak (fun h => by cases h)) (fun hb => Zak (fun _ => ⟨by omega, hzt hb⟩)))
  · rw [Zaw (by omega)]; exact hk _ ⟨by dsimp only; omega, fun _ => hzt hb⟩ (by dsimp only; omega)
  · rw [Zaw (by omega)]; exact hk _ ⟨by dsimp only; omega, fun h => by cases h⟩ (by dsimp only; omega)
theorem Zj6 {a b : Span} {t : Int} (ha : 0 ≤ a.To ∧ a.To ≤ 1000000000) (ht : 0 ≤ t ∧ t ≤ 1000000000) : Ok (ZcY a b t) fun v => a.To ≤ v ∧ v ≤ 2000000000 := by
  unfold ZcY
  have : w64 (a.To + t) = a.To + t := Zaw (by omega)
  exact Zas (fun _ => Zas (fun _ => Zas (fun _ => Zak (by rw [this]; omega)) fun _ => Zak (by omega)) fun _ => Zak (by omega)) fun _ => Zak (by omega)
theorem rgap_s {a b : List Span} {t : Int} (ha : SpOk a) (hb : SpOk b) (ht : 0 ≤ t ∧ t ≤ 1000000000) : Ok (ZdX a b t) fun r => r.2 = 0 → (0 ≤ r.1 ∧ r.1 ≤ 2000000000) ∧ ∀ y ∈ b, ∀ x ∈ a, x.Element = y.Element → x.To - y.From ≤ r.1 ∧ x.To ≠ 1000000000 := by
  have hal := ha.len
  have hbl := hb.len
  unfold ZdX
  refine Za4 (fun z => 0 ≤ z.2 ∧ z.2 ≤ (b.length : Int) ∧ (0 ≤ z.1 ∧ z.1 ≤ 2000000000) ∧ ∀ (i : Nat) y, (i : Int) < z.2 → b[i]? = some y → ∀ x ∈ a, x.Element = y.Element → x.To - y.From ≤ z.1 ∧ x.To ≠ 1000000000) (fun z => ((b.length : Int) - z.2).toNat) ⟨Int.le_refl 0, by dsimp only; omega, by dsimp only; omega, fun i y h => by dsimp only at h; omega⟩ (by rw [ZaJ]; dsimp only; omega) fun z k ⟨hz, hzl, hz1, hh⟩ hk => ?_
  refine Zas (fun h => ZaQ hz h fun y hy => Zbt (Zjl (by omega)) fun v hv => Zas (fun hv0 => ?_) fun hv0 => ?_) (fun h => Zak (fun _ => ⟨hz1, fun y hy => ?_⟩))
  · rw [Zaw (by omega)]
    refine hk _ ⟨by dsimp only; omega, by dsimp only; omega, hz1, fun i u hi hu x hx he => ?_⟩ (by dsimp only; omega)
    by_cases hiz : (i : Int) < z.2
    · exact hh i u hiz hu x hx he
    · have e : i = z.2.toNat := by dsimp only at hi; omega
      subst e
      rw [hy] at hu; cases hu
      rcases hv with ⟨_, hn⟩ | ⟨h0, _⟩
      · exact absurd he (hn x hx)
      · omega
  · rcases hv with ⟨h0, _⟩ | ⟨h0, s, hs, hse⟩
    · omega
    have hsr := ha.r s (Za5 hs)
    have hyr := hb.r y (Za5 hy)
    refine ZaM h0 hs (Zas (fun _ => Zak (fun h => by cases h)) fun hne => ZaM h0 hs (ZaM hz hy (Zbt (Zj6 (by omega) ht) fun u hu => ZaM hz hy (Zbd fun w hw => ?_))))
    rw [Zaw (n := u - y.From) (by omega)] at hw
    rw [Zaw (n := z.2 + 1) (by omega)]
    refine hk _ ⟨by dsimp only; omega, by dsimp only; omega, by dsimp only; omega, fun i q hi hq x hx he => ?_⟩ (by dsimp only; omega)
    dsimp only at hi ⊢
    by_cases hiz : (i : Int) < z.2
    · have := hh i q hiz hq x hx he
      exact ⟨by omega, this.2⟩
    · have e : i = z.2.toNat := by omega
      subst e
      rw [hy] at hq; cases hq
      have := ha.one hx (Za5 hs) (by rw [he, hse])
      subst this
      exact ⟨by omega, hne⟩
  · obtain ⟨i, hi⟩ := List.getElem?_of_mem hy
    exact hh i y (by have := Zbl hi; omega) hi
structure RelOk (S : List (List Span)) (R : List Int) : Prop where
  len : R.length = S.length
  r : ∀ (i : Nat) v, R[i]? = some v → 0 ≤ v ∧ v ≤ 1000000000
  g : ∀ (i b : Nat) v u y x, b < i → R[i]? = some v → R[b]? = some u → (∃ si, S[i]? = some si ∧ y ∈ si) → (∃ sb, S[b]? = some sb ∧ x ∈ sb) → x.Element = y.Element → u + x.To ≤ v + y.From
theorem Zhm {ll : List (List Span)} {t : Int} (hb : ∀ l ∈ ll, SpOk l) : Ok (ZbO ll t) fun r => r.2 = 0 → RelOk ll r.1 := by
  unfold ZbO
  refine Zbt ZhY fun e he => Zas (fun h => Zak (fun h2 => absurd h2 h)) fun h0 => ?_
  obtain ⟨hl, ht⟩ := he (by omega)
  refine Za4 (fun z => 0 ≤ z.2 ∧ z.2 ≤ (ll.length : Int) ∧ (z.1.length : Int) = z.2 ∧ RelOk (ll.take z.2.toNat) z.1) (fun z => ((ll.length : Int) - z.2).toNat) ⟨Int.le_refl 0, by dsimp only; omega, rfl, rfl, fun i v h => by simp at h, fun i b v u y x _ h => by simp at h⟩ (by rw [ZaJ]; dsimp only; omega) fun z k ⟨hz, hzl, hzz, hr⟩ hk => ?_
  refine Zas (fun h => ?_) (fun h => Zak (fun _ => by rw [List.take_of_length_le (by omega)] at hr; exact hr))
  obtain ⟨sz, hsz⟩ : ∃ q, ll[z.2.toNat]? = some q := ⟨_, List.getElem?_eq_getElem (by omega)⟩
  refine Zbp (fun v => 0 ≤ v ∧ ∀ (b : Nat) u sb, z.1[b]? = some u → ll[b]? = some sb → ∀ y ∈ sz, ∀ x ∈ sb, x.Element = y.Element → u + x.To ≤ v + y.From) (fun v ⟨v0, hv⟩ => ?_) (fun k' hk' => ?_)
  · refine Zas (fun _ => Zak (fun h2 => by cases h2)) fun hv1 => Zbr (by simp only [List.length_singleton]; omega) (Zbd fun w hw => ?_)
    rw [Zaw (by omega)]
    have e1 : (z.2 + 1).toNat = z.2.toNat + 1 := by omega
    refine hk _ ⟨by dsimp only; omega, by dsimp only; omega, by dsimp only; rw [hw]; simp only [List.length_append, List.length_singleton]; omega, ?_⟩ (by dsimp only; omega)
    dsimp only
    rw [hw]
    refine ⟨by rw [List.length_append, List.length_singleton, List.length_take]; omega, fun i q hq => ?_, fun i b q u y x hbi hq hu hy hx hxy => ?_⟩
    · by_cases hi : i < z.1.length
      · rw [List.getElem?_append_left hi] at hq; exact hr.r i q hq
      · rw [List.getElem?_append_right (by omega)] at hq
        have := List.mem_singleton.1 (Za5 hq)
        omega
    · obtain ⟨si, hsi, hys⟩ := hy
      obtain ⟨sb, hsb, hxs⟩ := hx
      have hbl := Zbl hu
      have hil := Zbl hq
      rw [List.length_append, List.length_singleton] at hbl hil
      rw [List.getElem?_append_left (by omega)] at hu
      rw [List.getElem?_take, if_pos (by omega)] at hsi hsb
      by_cases hi : i < z.1.length
      · rw [List.getElem?_append_left hi] at hq
        exact hr.g i b q u y x hbi hq hu ⟨si, by rw [List.getElem?_take, if_pos (by omega)]; exact hsi, hys⟩ ⟨sb, by rw [List.getElem?_take, if_pos (by omega)]; exact hsb, hxs⟩ hxy
      · rw [List.getElem?_append_right (by omega)] at hq
        have e2 := List.mem_singleton.1 (Za5 hq)
        have e3 : i = z.2.toNat := by omega
        subst e3
        rw [hsz] at hsi; cases hsi
        rw [e2]
        exact hv b u sb hu hsb y hys x hxs hxy
  · refine Za4 (fun y => 0 ≤ y.2 ∧ y.2 ≤ z.2 ∧ (0 ≤ y.1 ∧ y.1 ≤ 3000000000) ∧ ∀ (b : Nat) u sb, (b : Int) < y.2 → z.1[b]? = some u → ll[b]? = some sb → ∀ q ∈ sz, ∀ x ∈ sb, x.Element = q.Element → u + x.To ≤ y.1 + q.From) (fun y => (z.2 - y.2).toNat) ⟨Int.le_refl 0, hz, by dsimp only; omega, fun b u sb h => by dsimp only at h; omega⟩ (by rw [ZaJ]; dsimp only; omega) fun y k2 ⟨hy, hyl, hy1, hyy⟩ hk2 => ?_
    refine Zas (fun h2 => ZaQ hy (by omega) fun a ha => ZaM hz hsz ?_) (fun h2 => hk' _ ⟨hy1.1, fun b u sb hu hsb => hyy b u sb (by have := Zbl hu; omega) hu hsb⟩)
    refine Zbt (rgap_s (hb a (Za5 ha)) (hb sz (Za5 hsz)) ht) fun v hv => Zas (fun hv => Zak (fun h2 => absurd h2 hv)) fun hv0 => ZaQ hy (by omega) fun c hc => ?_
    obtain ⟨g1, g2⟩ := hv (by omega)
    have hcr := hr.r _ c hc
    rw [Zaw (n := y.2 + 1) (by omega), Zaw (n := c + v.1) (by omega)]
    refine hk2 _ ⟨by dsimp only; omega, by dsimp only; omega, by dsimp only; omega, fun b u sb hbb hu hsb q hq x hx hxq => ?_⟩ (by dsimp only; omega)
    dsimp only at hbb ⊢
    by_cases hby : (b : Int) < y.2
    · have := hyy b u sb hby hu hsb q hq x hx hxq; omega
    · have e : b = y.2.toNat := by omega
      subst e
      rw [hc] at hu; cases hu
      rw [ha] at hsb; cases hsb
      have := g2 q hq x hx hxq
      omega
end Go.Hy
namespace Go.Hy
set_option linter.unusedVariables false
set_option linter.unusedSimpArgs false
set_option maxHeartbeats 2000000
set_option maxRecDepth 10000
def firstS (st : List Throw) (e : Int) : Int := match st.find? (fun t => decide (t.Element = e)) with
  | some t => t.Side
  | none => 1
def lastS (st : List Throw) (U : List Command) (e : Int) : Int := match (U.filter (fun x => decide (x.Element = e))).getLast? with
  | some x => x.Side
  | none => firstS st e
theorem Zj5 {l : List Throw} {e : Int} (hl : l.length ≤ 1000000000) : ZcX l e = some (firstS l e) := by
  refine Ok.eq (?_ : Ok _ _)
  unfold ZcX
  refine Za4 (fun z => 0 ≤ z ∧ z ≤ (l.length : Int) ∧ firstS (l.drop z.toNat) e = firstS l e) (fun z => ((l.length : Int) - z).toNat) ⟨Int.le_refl 0, by omega, rfl⟩ (by rw [ZaJ]; omega) fun z k ⟨hz, hzl, he⟩ hk => ?_
  refine Zas (fun h => ZaQ hz h fun a ha => ?_) (fun h => Zak ?_)
  · have hk' := (List.getElem?_eq_some_iff.1 ha).1
    have ed : l.drop z.toNat = a :: l.drop (z.toNat + 1) := by rw [List.drop_eq_getElem_cons hk', (List.getElem?_eq_some_iff.1 ha).2]
    rw [ed] at he
    unfold firstS at he
    rw [List.find?_cons] at he
    refine Zas (fun h1 => ZaM hz ha (Zak ?_)) fun h1 => ?_
    · rw [decide_eq_true h1] at he
      unfold firstS
      rw [← he]
    · rw [decide_eq_false h1] at he
      rw [Zaw (by omega)]
      refine hk _ ⟨by omega, by omega, ?_⟩ (by omega)
      rw [show (z + 1).toNat = z.toNat + 1 from by omega]
      unfold firstS
      exact he
  · rw [List.drop_eq_nil_of_le (by omega)] at he
    rw [← he]; rfl
theorem Zi8 {l : List Throw} : Ok (Zcy l) fun b => b = true → l.length ≤ 128 := by
  unfold Zcy
  refine Zas (fun _ => Zak (fun h => by cases h)) fun hl => ?_
  refine Za4 (fun z => 0 ≤ z) (fun z => ((l.length : Int) - z).toNat) (Int.le_refl 0) (by rw [ZaJ]; omega) fun z k hz hk => ?_
  refine Zas (fun h => Zbp (fun _ => True) (fun _ _ => ?_) (fun k' hk' => ?_)) (fun h => Zak (fun _ => by omega))
  · refine Za4 (fun y => 0 ≤ y) (fun y => (z - y).toNat) (Int.le_refl 0) (by rw [ZaJ]; omega) fun y k2 hy hk2 => ?_
    refine Zas (fun h2 => ZaQ hy (by omega) fun a _ => ZaQ hz h fun b _ => Zas (fun _ => Zak (fun h => by cases h)) fun _ => ?_) (fun _ => ?_)
    · rw [Zaw (by omega)]; exact hk2 _ (by omega) (by omega)
    · rw [Zaw (by omega)]; exact hk _ (by omega) (by omega)
  · exact ZaQ hz h fun a _ => Zas (fun _ => Zak (fun h => by cases h)) fun _ => ZaQ hz h fun b _ => Zas (fun _ => ZaQ hz h fun c _ => Zas (fun _ => Zak (fun h => by cases h)) fun _ => hk' _ trivial) fun _ => hk' _ trivial
structure RelB (R : List Int) : Prop where
  r : ∀ (i : Nat) v, R[i]? = some v → 0 ≤ v ∧ v ≤ 1000000000
  m : ∀ (i : Nat) v u, 1 ≤ i → R[i]? = some v → R[i - 1]? = some u → u ≤ v
theorem Zix {ll : List (List Span)} {rs : List Int} {t : Int} {st : List Throw} (hr : rs.length ≤ 1000000000) : Ok (ZcW ll rs t st) fun e => e = 0 → ll.length ≤ 96 ∧ (0 ≤ t ∧ t ≤ 1000000000) ∧ rs.length = ll.length ∧ RelB rs := by
  unfold ZcW
  refine Zbt ZhY fun e he => Zas (fun h => Zak (fun h2 => absurd h2 h)) fun h0 => ?_
  obtain ⟨hl, ht⟩ := he (by omega)
  refine Zbp (fun b => b = true → rs.length = ll.length) (fun z1 hz1 => ?_) (fun k' hk' => Zas (fun h => Zbt Zi8 fun b _ => hk' _ (fun _ => by omega)) (fun _ => hk' _ (fun h => by cases h)))
  refine Za4 (fun z => 0 ≤ z.2 ∧ z.2 ≤ (rs.length : Int) ∧ (z.1 = true → rs.length = ll.length ∧ (∀ (i : Nat) v, (i : Int) < z.2 → rs[i]? = some v → 0 ≤ v ∧ v ≤ 1000000000) ∧ ∀ (i : Nat) v u, (i : Int) < z.2 → 1 ≤ i → rs[i]? = some v → rs[i - 1]? = some u → u ≤ v)) (fun z => ((rs.length : Int) - z.2).toNat) ⟨Int.le_refl 0, by dsimp only; omega, fun h => ⟨hz1 h, fun i v h => by dsimp only at h; omega, fun i v u h => by dsimp only at h; omega⟩⟩ (by rw [ZaJ]; dsimp only; omega) fun z k ⟨hz, hzl, hz2⟩ hk => ?_
  refine Zas (fun h => ?_) (fun h => Zcc (fun _ => Zak (fun h => by cases h)) (fun hb => Zak (fun _ => ⟨hl, ht, (hz2 hb).1, fun i v hv => (hz2 hb).2.1 i v (by have := Zbl hv; omega) hv, fun i v u hi hv hu => (hz2 hb).2.2 i v u (by have := Zbl hv; omega) hi hv hu⟩)))
  rw [Zaw (n := z.2 + 1) (by omega)]
  have no : Ok (k (false, z.2 + 1)) fun e => e = 0 → ll.length ≤ 96 ∧ (0 ≤ t ∧ t ≤ 1000000000) ∧ rs.length = ll.length ∧ RelB rs := hk _ ⟨by dsimp only; omega, by dsimp only; omega, fun h => by cases h⟩ (by dsimp only; omega)
  refine ok_b (fun hb => ?_) (fun _ => no)
  obtain ⟨q1, q2, q3⟩ := hz2 hb
  refine ZaQ hz h fun a ha => Zas (fun c1 => ZaM hz ha (Zas (fun c2 => ?_) fun _ => no)) fun _ => no
  have yes : ∀ b : Bool, (b = true → ∀ u, 1 ≤ z.2.toNat → rs[z.2.toNat - 1]? = some u → u ≤ a) → Ok (k (b, z.2 + 1)) fun e => e = 0 → ll.length ≤ 96 ∧ (0 ≤ t ∧ t ≤ 1000000000) ∧ rs.length = ll.length ∧ RelB rs := fun b hbb => hk _ ⟨by dsimp only; omega, by dsimp only; omega, fun hbt => ⟨q1, fun i v hi hv => by
      dsimp only at hi
      by_cases hiz : (i : Int) < z.2
      · exact q2 i v hiz hv
      · have e : i = z.2.toNat := by omega
        subst e
        rw [ha] at hv; cases hv; exact ⟨c1, c2⟩, fun i v u hi h1 hv hu => by
      dsimp only at hi
      by_cases hiz : (i : Int) < z.2
      · exact q3 i v u hiz h1 hv hu
      · have e : i = z.2.toNat := by omega
        subst e
        rw [ha] at hv; cases hv; exact hbb hbt u h1 hu⟩⟩ (by dsimp only; omega)
  refine Zas (fun hz0 => yes true (fun _ u h1 => by omega)) fun hz0 => ZaM hz ha ?_
  rw [Zaw (n := z.2 - 1) (by omega)]
  refine ZaQ (by omega) (by omega) fun d hd => yes _ fun hdt u h1 hu => ?_
  rw [show (z.2 - 1).toNat = z.2.toNat - 1 from by omega] at hd
  rw [hd] at hu; cases hu
  exact of_decide_eq_true hdt
structure CmdOk (S : List (List Span)) (R : List Int) (th : Int) (x : Command) : Prop where
  c : 0 ≤ x.Cut
  t : 0 ≤ x.Time ∧ x.Time ≤ 1000000000
  o : ∃ ss r sp, S[x.Cut.toNat]? = some ss ∧ R[x.Cut.toNat]? = some r ∧ sp ∈ ss ∧ sp.Element = x.Element ∧ sp.Side = x.Side ∧ sp.Side ≠ 0 ∧ x.Time + th ≤ r + sp.From
  b : ∀ (b : Nat) sb rb y, (b : Int) < x.Cut → S[b]? = some sb → R[b]? = some rb → y ∈ sb → y.Element = x.Element → rb + y.To ≤ x.Time ∧ y.To ≠ 1000000000
abbrev Ord (x y : Command) : Prop := x.Cut < y.Cut ∨ (x.Cut = y.Cut ∧ x.Element ≠ y.Element)
structure CmS (S : List (List Span)) (R : List Int) (th : Int) (st : List Throw) (I : Int) (J : Int) (U : List Command) : Prop where
  ok : ∀ x ∈ U, CmdOk S R th x ∧ x.Cut ≤ I
  ord : U.Pairwise Ord
  don : ∀ (i j : Nat) ss sp, ((i : Int) < I ∨ ((i : Int) = I ∧ (j : Int) < J)) → S[i]? = some ss → ss[j]? = some sp → sp.Side ≠ 0 → lastS st (U.filter (fun x => decide (x.Cut ≤ i))) sp.Element = sp.Side
  cur : ∀ x ∈ U, x.Cut = I → ∃ (j : Nat) (ss : List Span) (sp : Span), (j : Int) < J ∧ S[x.Cut.toNat]? = some ss ∧ ss[j]? = some sp ∧ sp.Element = x.Element
theorem Zew {st : List Throw} {U : List Command} {x : Command} {e : Int} : lastS st (U ++ [x]) e = if x.Element = e then x.Side else lastS st U e := by
  unfold lastS
  rw [List.filter_append, List.filter_cons]
  by_cases h : x.Element = e
  · rw [if_pos (decide_eq_true h), if_pos h, List.filter_nil, List.getLast?_append]; rfl
  · rw [if_neg (by simp [h]), if_neg h, List.filter_nil, List.append_nil]
theorem Zhn {ll : List (List Span)} {rs : List Int} {t : Int} {st : List Throw} (hb : ∀ l ∈ ll, SpOk l) (hr : rs.length ≤ 1000000000) (hs : st.length ≤ 1000000000) :
    Ok (ZbN ll rs t st) fun r => r.2 = 0 → RelB rs ∧ rs.length = ll.length ∧ (0 ≤ t ∧ t ≤ 1000000000) ∧ ∃ U, r.1.Perm U ∧ CmS ll rs t st ll.length 0 U := by
  unfold ZbN
  refine Zbt (Zix hr) fun e he => Zas (fun h => Zak (fun h2 => absurd h2 h)) fun h0 => ?_
  obtain ⟨hl, ht, hrl, hrb⟩ := he (by omega)
  refine Zbp (fun z => z.length ≤ 1024 ∧ CmS ll rs t st ll.length 0 z) (fun z ⟨hz, hcs⟩ => ?_) (fun k' hk' => ?_)
  · refine Za4 (fun y => 0 ≤ y.2 ∧ y.2 ≤ (z.length : Int) ∧ y.1.Perm (z.take y.2.toNat)) (fun y => ((z.length : Int) - y.2).toNat) ⟨Int.le_refl 0, by dsimp only; omega, List.Perm.refl _⟩ (by rw [ZaJ]; dsimp only; omega) fun y k ⟨hy, hyl, hyp⟩ hk => ?_
    have hyy : (y.1.length : Int) = y.2 := by have := hyp.length_eq; rw [List.length_take] at this; omega
    refine Zas (fun h => ?_) (fun h => Zak (fun _ => ⟨hrb, hrl, ht, z, by dsimp only; rw [List.take_of_length_le (by omega)] at hyp; exact hyp, hcs⟩))
    refine Zbp (fun q => 0 ≤ q ∧ q ≤ (y.1.length : Int)) (fun q hq => ?_) (fun k2 hk2 => ?_)
    · refine Zbr hq (ZaQ hy h fun a ha => Zbr hq (Zbr ?_ (Zbd fun u hu => Zbr ?_ (Zbd fun v hv => ?_))))
      · simp only [List.length_singleton, List.length_drop]; omega
      · rw [hu]; simp only [List.length_singleton, List.length_append, List.length_take, List.length_drop]; omega
      · rw [Zaw (by omega)]
        refine hk _ ⟨by dsimp only; omega, by dsimp only; omega, ?_⟩ (by dsimp only; omega)
        dsimp only
        rw [hv, hu, show (y.2 + 1).toNat = y.2.toNat + 1 from by omega, ZbK ha]
        refine List.Perm.trans ?_ (hyp.append_right [a])
        have e9 : y.1 = y.1.take q.toNat ++ y.1.drop q.toNat := (List.take_append_drop _ _).symm
        refine List.Perm.trans (List.Perm.append_left _ (List.perm_append_comm)) ?_
        rw [← List.append_assoc, List.take_append_drop]
    · refine Za4 (fun q => 0 ≤ q ∧ q ≤ (y.1.length : Int)) (fun q => q.toNat) ⟨by omega, Int.le_refl _⟩ (by rw [ZaJ]; omega) fun q k3 hq hk3 => ?_
      refine Zas (fun hq0 => ?_) (fun _ => hk2 _ hq)
      rw [Zaw (by omega)]
      exact ZaQ (by omega) (by omega) fun a _ => ZaQ hy h fun b _ => Zas (fun _ => hk3 _ ⟨by omega, by omega⟩ (by omega)) fun _ => hk2 _ hq
  · refine Za4 (fun y => 0 ≤ y.2 ∧ y.2 ≤ (ll.length : Int) ∧ y.1.length ≤ 1024 ∧ CmS ll rs t st y.2 0 y.1) (fun y => ((ll.length : Int) - y.2).toNat) ⟨Int.le_refl 0, by dsimp only; omega, by simp, fun x hx => by simp at hx, List.Pairwise.nil, fun i j ss sp h => by dsimp only at h; omega, fun x hx => by simp at hx⟩ (by rw [ZaJ]; dsimp only; omega) fun y k ⟨hy, hyll, hyl, hyc⟩ hk => ?_
    refine Zas (fun h => ?_) (fun h => hk' _ ⟨hyl, by rw [show y.2 = (ll.length : Int) from by omega] at hyc; exact hyc⟩)
    obtain ⟨a, ha⟩ : ∃ q, ll[y.2.toNat]? = some q := ⟨_, List.getElem?_eq_getElem (by omega)⟩
    obtain ⟨ri, hri⟩ : ∃ q, rs[y.2.toNat]? = some q := ⟨_, List.getElem?_eq_getElem (by omega)⟩
    have hrir := hrb.r _ _ hri
    have haok := hb a (Za5 ha)
    have hal := haok.len
    refine Za4 (fun q => 0 ≤ q.2 ∧ q.2 ≤ (a.length : Int) ∧ q.1.length ≤ 1024 ∧ CmS ll rs t st y.2 q.2 q.1) (fun q => ((a.length : Int) - q.2).toNat) ⟨Int.le_refl 0, by dsimp only; omega, hyl, hyc⟩ (by rw [ZaJ]; dsimp only; omega) fun q k2 ⟨hq, hqal, hql, hqc⟩ hk2 => ?_
    refine ZaM hy ha ?_
    refine Zas (fun h2 => ?_) (fun h2 => ?_)
    · obtain ⟨sp, hsp⟩ : ∃ s, a[q.2.toNat]? = some s := ⟨_, List.getElem?_eq_getElem (by omega)⟩
      have hspr := haok.r sp (Za5 hsp)
      -- the next state, when nothing is added
      have go : (sp.Side ≠ 0 → lastS st q.1 sp.Element = sp.Side) → Ok (k2 (q.1, w64 (q.2 + 1))) fun r => r.2 = 0 → RelB rs ∧ rs.length = ll.length ∧ (0 ≤ t ∧ t ≤ 1000000000) ∧ ∃ U, r.1.Perm U ∧ CmS ll rs t st ll.length 0 U := fun hg => by
        rw [Zaw (by omega)]
        refine hk2 _ ⟨by dsimp only; omega, by dsimp only; omega, hql, hqc.ok, hqc.ord, fun i j ss s hij hss hs hsn => ?_, fun x hx hxc => ?_⟩ (by dsimp only; omega)
        · dsimp only at hij ⊢
          by_cases hold : (i : Int) < y.2 ∨ ((i : Int) = y.2 ∧ (j : Int) < q.2)
          · exact hqc.don i j ss s hold hss hs hsn
          · have ei : i = y.2.toNat := by omega
            have ej : j = q.2.toNat := by omega
            subst ei ej
            rw [ha] at hss; cases hss
            rw [hsp] at hs; cases hs
            rw [List.filter_eq_self.2 (fun x hx => decide_eq_true (by have := (hqc.ok x hx).2; omega))]
            exact hg hsn
        · obtain ⟨j, ss, s, h1, h2⟩ := hqc.cur x hx hxc
          exact ⟨j, ss, s, by dsimp only; omega, h2⟩
      refine ZaM hy ha (ZaM hq hsp (Zas (fun h0 => go (fun h => absurd h0 h)) fun hsd => ZaP (Zj5 hs) ?_))
      refine Zbp (fun s1 => s1 = lastS st q.1 sp.Element) (fun s1 hs1 => Zas (fun he => go (fun _ => by rw [← hs1, he])) fun hne => ?_) (fun k3 hk3 => ?_)
      · refine Zbp (fun w => w.2 = false → (0 ≤ w.1 ∧ w.1 ≤ 2000000000) ∧ ∀ (b : Nat) sb rb z, (b : Int) < y.2 → ll[b]? = some sb → rs[b]? = some rb → z ∈ sb → z.Element = sp.Element → rb + z.To ≤ w.1 ∧ z.To ≠ 1000000000) (fun w hw => ok_b (fun _ => Zak (fun h => by cases h)) fun hw2 => Zas (fun _ => Zak (fun h => by cases h)) fun hw1 => ZaM hy hri (Zas (fun _ => Zak (fun h => by cases h)) fun hge => Zas (fun _ => Zak (fun h => by cases h)) fun hne2 => ?_)) (fun k4 hk4 => ?_)
        · obtain ⟨w0, wb⟩ := hw hw2
          rw [Zaw (n := ri + sp.From) (by omega), Zaw (n := w.1 + t) (by omega)] at hge
          refine Zbr (by simp only [List.length_singleton]; omega) (Zbd fun u hu => ?_)
          rw [Zaw (n := q.2 + 1) (by omega)]
          have ecut : ((y.2.toNat : Nat) : Int) = y.2 := by omega
          refine hk2 _ ⟨by dsimp only; omega, by dsimp only; omega, by dsimp only; rw [hu]; simp only [List.length_append, List.length_singleton]; omega, ?_⟩ (by dsimp only; omega)
          dsimp only
          rw [hu]
          refine ⟨fun x hx => ?_, ?_, fun i j ss s hij hss hsj hsn => ?_, fun x hx hxc => ?_⟩
          · rw [List.mem_append, List.mem_singleton] at hx
            rcases hx with hx | hx
            · exact hqc.ok x hx
            · subst hx
              exact ⟨⟨hy, by dsimp only; omega, ⟨a, ri, sp, ha, hri, Za5 hsp, rfl, rfl, hsd, by dsimp only; omega⟩, wb⟩, Int.le_refl _⟩
          · rw [List.pairwise_append]
            refine ⟨hqc.ord, List.pairwise_singleton _ _, fun x hx z hz => ?_⟩
            rw [List.mem_singleton] at hz
            subst hz
            have hxc := (hqc.ok x hx).2
            rcases Int.lt_or_eq_of_le hxc with h1 | h1
            · exact .inl h1
            · refine .inr ⟨h1, ?_⟩
              obtain ⟨j, ss, s, g1, g2, g3, g4⟩ := hqc.cur x hx h1
              rw [h1, ha] at g2
              cases g2
              dsimp only
              rw [← g4]
              exact haok.d j q.2.toNat s sp (by omega) g3 hsp
          · rw [List.filter_append]
            by_cases hi : (i : Int) < y.2
            · rw [List.filter_cons, if_neg (by simp; omega), List.filter_nil, List.append_nil]
              exact hqc.don i j ss s (.inl hi) hss hsj hsn
            · have ei : i = y.2.toNat := by omega
              subst ei
              rw [ha] at hss; cases hss
              rw [List.filter_cons, if_pos (decide_eq_true (by dsimp only; omega)), List.filter_nil, Zew]
              dsimp only
              by_cases hes : sp.Element = s.Element
              · have := haok.one (Za5 hsp) (Za5 hsj) hes
                rw [if_pos hes, this]
              · rw [if_neg hes]
                refine hqc.don _ j a s (.inr ⟨by omega, ?_⟩) ha hsj hsn
                by_cases hj : (j : Int) < q.2
                · exact hj
                · have ej : j = q.2.toNat := by omega
                  subst ej
                  rw [hsp] at hsj; cases hsj
                  exact absurd rfl hes
          · rw [List.mem_append, List.mem_singleton] at hx
            rcases hx with hx | hx
            · obtain ⟨j, ss, s, h1, h2⟩ := hqc.cur x hx hxc
              exact ⟨j, ss, s, by omega, h2⟩
            · subst hx
              exact ⟨q.2.toNat, a, sp, by omega, ha, hsp, rfl⟩
        · refine Za4 (fun x => 0 ≤ x.2.2 ∧ x.2.2 ≤ y.2 ∧ (x.2.1 = false → (0 ≤ x.1 ∧ x.1 ≤ 2000000000) ∧ ∀ (b : Nat) sb rb z, (b : Int) < x.2.2 → ll[b]? = some sb → rs[b]? = some rb → z ∈ sb → z.Element = sp.Element → rb + z.To ≤ x.1 ∧ z.To ≠ 1000000000)) (fun x => (y.2 - x.2.2).toNat) ⟨Int.le_refl 0, hy, fun _ => ⟨by dsimp only; omega, fun b sb rb z h => by dsimp only at h; omega⟩⟩ (by rw [ZaJ]; dsimp only; omega) fun x k5 ⟨hx, hxl, hxx⟩ hk5 => ?_
          refine Zas (fun h3 => ?_) (fun h3 => hk4 _ fun hf => ?_)
          · obtain ⟨c, hc⟩ : ∃ s, ll[x.2.2.toNat]? = some s := ⟨_, List.getElem?_eq_getElem (by omega)⟩
            obtain ⟨rc, hrc⟩ : ∃ s, rs[x.2.2.toNat]? = some s := ⟨_, List.getElem?_eq_getElem (by omega)⟩
            have hcok := hb c (Za5 hc)
            have hcl := hcok.len
            have hrcr := hrb.r _ _ hrc
            refine ZaM hx hc (Zbt (Zjl (by omega)) fun f hf => ?_)
            rw [Zaw (n := x.2.2 + 1) (by omega)]
            refine Zas (fun hf0 => ?_) (fun hf0 => ?_)
            · rcases hf with ⟨f1, _⟩ | ⟨_, g, hg, hge⟩
              · omega
              have hgr := hcok.r g (Za5 hg)
              refine Zbp (fun b => b = false → x.2.1 = false ∧ g.To ≠ 1000000000) (fun b hbb => ZaM hx hrc (ZaM hx hc (ZaM hf0 hg ?_))) (fun k6 hk6 => ?_)
              · rw [Zaw (n := rc + g.To) (by omega)]
                refine hk5 _ ⟨by dsimp only; omega, by dsimp only; omega, fun hbf => ?_⟩ (by dsimp only; omega)
                dsimp only at hbf ⊢
                obtain ⟨q1, q2⟩ := hbb hbf
                obtain ⟨q3, q4⟩ := hxx q1
                refine ⟨by omega, fun b' sb rb z hbz hsb hrb' hz hze => ?_⟩
                by_cases hbx : (b' : Int) < x.2.2
                · have := q4 b' sb rb z hbx hsb hrb' hz hze
                  exact ⟨by omega, this.2⟩
                · have e9 : b' = x.2.2.toNat := by omega
                  subst e9
                  rw [hc] at hsb; cases hsb
                  rw [hrc] at hrb'; cases hrb'
                  have := hcok.one hz (Za5 hg) (by rw [hze, hge])
                  subst this
                  exact ⟨by omega, q2⟩
              · refine ok_b (fun hb1 => hk6 _ (fun h => by cases h)) (fun hb0 => ZaM hx hc (ZaM hf0 hg (hk6 _ fun h => ⟨hb0, of_decide_eq_false h⟩)))
            · rcases hf with ⟨_, f2⟩ | ⟨f1, _⟩
              · refine hk5 _ ⟨by dsimp only; omega, by dsimp only; omega, fun hbf => ?_⟩ (by dsimp only; omega)
                dsimp only at hbf ⊢
                obtain ⟨q3, q4⟩ := hxx hbf
                refine ⟨q3, fun b' sb rb z hbz hsb hrb' hz hze => ?_⟩
                by_cases hbx : (b' : Int) < x.2.2
                · exact q4 b' sb rb z hbx hsb hrb' hz hze
                · have e9 : b' = x.2.2.toNat := by omega
                  subst e9
                  rw [hc] at hsb; cases hsb
                  exact absurd hze (f2 z hz)
              · omega
          · obtain ⟨q3, q4⟩ := hxx hf
            exact ⟨q3, fun b sb rb z hbz => q4 b sb rb z (by omega)⟩
      · refine Za4 (fun x => 0 ≤ x.2 ∧ x.2 ≤ (q.1.length : Int) ∧ x.1 = lastS st (q.1.take x.2.toNat) sp.Element) (fun x => ((q.1.length : Int) - x.2).toNat) ⟨Int.le_refl 0, by dsimp only; omega, rfl⟩ (by rw [ZaJ]; dsimp only; omega) fun x k5 ⟨hx, hxl, hxe⟩ hk5 => ?_
        refine Zas (fun h3 => ZaQ hx h3 fun c hc => ?_) (fun h3 => hk3 _ (by rw [hxe, List.take_of_length_le (by omega)]))
        have e9 : (x.2 + 1).toNat = x.2.toNat + 1 := by omega
        rw [Zaw (n := x.2 + 1) (by omega)]
        refine Zas (fun hce => ZaM hx hc (hk5 _ ⟨by dsimp only; omega, by dsimp only; omega, ?_⟩ (by dsimp only; omega))) fun hce => hk5 _ ⟨by dsimp only; omega, by dsimp only; omega, ?_⟩ (by dsimp only; omega)
        · dsimp only; rw [e9, ZbK hc, Zew, if_pos hce]
        · dsimp only; rw [e9, ZbK hc, Zew, if_neg hce]; exact hxe
    · rw [Zaw (by omega)]
      refine hk _ ⟨by dsimp only; omega, by dsimp only; omega, hql, fun x hx => ⟨(hqc.ok x hx).1, by have := (hqc.ok x hx).2; dsimp only; omega⟩, hqc.ord, fun i j ss s hij hss hsj hsn => hqc.don i j ss s ?_ hss hsj hsn, fun x hx hxc => ?_⟩ (by dsimp only; omega)
      · dsimp only at hij
        by_cases hi : (i : Int) < y.2
        · exact .inl hi
        · have ei : i = y.2.toNat := by omega
          subst ei
          rw [ha] at hss; cases hss
          have := Zbl hsj
          exact .inr ⟨by omega, by omega⟩
      · have := (hqc.ok x hx).2
        dsimp only at hxc; omega
end Go.Hy
namespace Go.Hy
set_option linter.unusedVariables false
set_option linter.unusedSimpArgs false
set_option maxHeartbeats 2000000
set_option maxRecDepth 10000
open Go.Hy.Iv
def oP : Option RunoffState → Passage
  | none => stopP
  | some s => toP s
def psO (err : Int) (ps : List Piece) (cs : List Interval) (ts : List Int) : Option RunoffState → List Passage
  | none => List.replicate ps.length stopP
  | some s => psRun err ps cs ts s
theorem Zkb {err : Int} {p : Piece} {ps : List Piece} {cs : List Interval} {ts : List Int} {q : Option RunoffState} :
    psO err (p :: ps) cs ts q = oP (q.bind (psNext p (cs.headD ⟨0, 0⟩) (tgOf p ts) err)) :: psO err ps cs.tail (tsOf p ts) (q.bind (psNext p (cs.headD ⟨0, 0⟩) (tgOf p ts) err)) := by
  cases q with
  | none => rfl
  | some s =>
    cases h : psNext p (cs.headD ⟨0, 0⟩) (tgOf p ts) err s with
    | none => simp only [psO, Option.bind_some, h, oP, Zdk h, List.replicate_succ]
    | some s' => simp only [psO, Option.bind_some, h, oP, ZcT h]
theorem rstep_m {p : Piece} {c : Interval} {x : Passage} {s : RunoffState} {i : Nat} (hx : s = ⟨x.Time, x.Energy, x.Slow⟩) (hp : PieceOk p) (hc : ClsOk c) (hs : StOk s i) (hi : i ≤ 128) : Zeb x p c = some (oP (psStep p c s)) := by
  refine Ok.eq (?_ : Ok _ _)
  have a1 : x.Energy = s.fenergy := by rw [hx]
  have a2 : x.Time = s.ftime := by rw [hx]
  have a3 : x.Slow = s.fslow := by rw [hx]
  have hs0 := hs
  obtain ⟨e0, e1, e2, t0, t1, t2⟩ := hs
  have hw := ZjJ hc
  have hg := ZiT hp hw.2
  have hu := gu_bd hp hw.1
  have hl := hp.l
  have hgu : gd p c.Hi ≤ gu p c.Lo := Int.le_trans (dn_mono' (by decide) (Zgj hp hc.2.1)) gd_le
  unfold Zeb
  rw [a1, a2, a3]
  clear hx a1 a2 a3
  refine ZaP (ZgM hp hw.2) (ZaP (Zj0 hp hw.2) (ZaP (ZgM hp hw.1) (ZaP (rup_gn hp hw.1) ?_)))
  rw [Zaw (n := s.fenergy.Hi + gu p c.Lo) (by omega), Zaw (n := s.fenergy.Lo + gd p c.Hi) (by omega)]
  have eh : s.fenergy.Hi + gu p c.Lo = hiE p c s := rfl
  rw [eh]
  refine Zas (fun h => Zak ?_) (fun h => ?_)
  · unfold psStep; rw [if_pos h]; rfl
  have hlo : 0 ≤ loE p c s ∧ loE p c s ≤ hiE p c s := by unfold loE hiE at *; omega
  have hhi : hiE p c s ≤ 400000000 + 3924000000 * ((i : Int) + 1) := by unfold hiE; omega
  have r1 := ZeD e0 (by omega)
  have r2 := ZeD (n := s.fenergy.Hi) (by omega) (by omega)
  have r3 := ZeD hlo.1 (by omega)
  have r4 := ZeD (n := hiE p c s) (by omega) (by omega)
  refine ZaP (ZgF (by omega) (by omega)) (ZaP (ZgF (by omega) (by omega)) ?_)
  rw [Zaw (n := isu s.fenergy.Hi + isu (hiE p c s)) (by omega)]
  refine Zas (fun h2 => Zak ?_) (fun h2 => ?_)
  · unfold psStep; rw [if_neg h, if_pos h2]; rfl
  refine Zbp (fun (z : Bool) => z = true ↔ s.fslow = true ∨ s.fenergy.Lo + gd p c.Hi < 0) (fun z z1 => ?_) (fun kk hk => ?_)
  rotate_left
  · refine ok_b (fun h3 => hk _ ?_) (fun h3 => hk _ ?_)
    · simp [h3]
    · simp [h3]
  have el : max (s.fenergy.Lo + gd p c.Hi) 0 = loE p c s := Int.max_comm _ _
  refine Zbd fun x15 hx15 => ?_
  rw [el] at hx15
  subst hx15
  refine ZaP (ZdW e0 (by omega)) (ZaP (ZdW hlo.1 (by omega)) ?_)
  rw [Zaw (n := isq s.fenergy.Lo + isq (loE p c s)) (by omega), Zaw (n := 2000 * p.Length) (by omega)]
  refine Zbp (fun (z : Bool) => z = true ↔ SlowP p c s) (fun z hz => ?_) (fun kk hk => ?_)
  rotate_left
  · refine ok_b (fun h3 => hk _ ?_) (fun h3 => hk _ ?_)
    · have := z1.1 h3
      unfold SlowP
      simp only [true_iff]
      rcases this with h4 | h4
      · exact .inl h4
      · exact .inr (.inl h4)
    · have : ¬ (s.fslow = true ∨ s.fenergy.Lo + gd p c.Hi < 0) := fun h => by rw [z1.2 h] at h3; cases h3
      unfold SlowP
      rw [decide_eq_true_iff]
      exact ⟨fun h => .inr (.inr h), fun h => by
        rcases h with h | h | h
        · exact absurd (.inl h) this
        · exact absurd (.inr h) this
        · exact h⟩
  refine Zbr h2 ?_
  have d1 := dn_nn (x := 2000 * p.Length) (d := isu s.fenergy.Hi + isu (hiE p c s)) (by omega) (by omega)
  have ed : (2000 * p.Length).tdiv (isu s.fenergy.Hi + isu (hiE p c s)) = dn (2000 * p.Length) (isu s.fenergy.Hi + isu (hiE p c s)) := Int.tdiv_eq_ediv_of_nonneg (by omega)
  rw [ed, Zaw (n := dn (2000 * p.Length) (isu s.fenergy.Hi + isu (hiE p c s))) (by omega)]
  refine Zbd fun y15 hy15 => ?_
  rw [Zaw (n := s.ftime.Lo + y15) (by omega), hy15]
  refine Zbd fun x16 hx16 => ?_
  have fin : ∀ th, th = (if SlowP p c s then 1000000000 else min 1000000000 (s.ftime.Hi + up (2000 * p.Length) (isq s.fenergy.Lo + isq (loE p c s)))) →
      Passage.mk (Interval.mk x16 th) (Interval.mk (loE p c s) (hiE p c s)) z false = oP (psStep p c s) := by
    intro th hth
    have ezs : z = decide (SlowP p c s) := by
      by_cases hsl : SlowP p c s
      · rw [decide_eq_true hsl]; exact hz.2 hsl
      · rw [decide_eq_false hsl]; exact Bool.eq_false_iff.2 fun h => hsl (hz.1 h)
    unfold psStep
    rw [if_neg h, if_neg h2, hx16, hth, ezs]
    rfl
  refine Zcc (fun hzf => ?_) (fun hzt => Zak (fin _ (by rw [if_pos (hz.1 hzt)])))
  have hns : ¬ SlowP p c s := fun h => by rw [hz.2 h] at hzf; cases hzf
  have hz3 : ¬ isq s.fenergy.Lo + isq (loE p c s) = 0 := fun h => hns (.inr (.inr h))
  have hup := ZiX (x := 2000 * p.Length) (d := isq s.fenergy.Lo + isq (loE p c s)) (by omega) (by omega)
  refine ZaP (rUp_m (by omega) hz3) ?_
  have eu : upm (2000 * p.Length) (isq s.fenergy.Lo + isq (loE p c s)) = up (2000 * p.Length) (isq s.fenergy.Lo + isq (loE p c s)) := Zhg (by omega) (by omega)
  rw [eu, Zaw (n := s.ftime.Hi + up (2000 * p.Length) (isq s.fenergy.Lo + isq (loE p c s))) (by omega)]
  exact Zbd fun x26 hx26 => Zak (fin _ (by rw [if_neg hns, hx26]))
theorem Zj2 {e : Interval} {pw t er : Int} (hp : 0 ≤ pw ∧ pw ≤ 1000000000) (ht : 0 ≤ t ∧ t ≤ 20000) (he : 0 ≤ er ∧ er ≤ 1000) (h0 : 0 ≤ e.Hi ∧ e.Hi ≤ 1000000000000) :
    Zdx e pw t er = some ⟨min e.Lo (max 0 (t - er) * max 0 (t - er)), max (min e.Hi ((t + er) * (t + er))) (e.Hi - pw)⟩ := by
  refine Ok.eq (?_ : Ok _ _)
  unfold Zdx
  have q1 := Zhi (v := max 0 (t - er)) (by omega)
  have q2 := Zhi (v := t + er) (by omega)
  rw [Zaw (n := t - er) (by omega), Zaw (n := t + er) (by omega), Zaw (n := max 0 (t - er) * max 0 (t - er)) (by omega), Zaw (n := (t + er) * (t + er)) (by omega), Zaw (n := e.Hi - pw) (by omega)]
  exact Zbd fun x hx => Zbd fun y hy => Zbd fun z hz => Zak (by rw [hx, hz, hy])
def psOut (ps : List Piece) (m : Motion) : List Passage × Int := if vE ps ≠ 0 then ([], vE ps) else if mE ps m ≠ 0 then ([], mE ps m) else (psAll ps m, 0)
theorem rPass_e {ps : List Piece} {m : Motion} : Zed ps m = some (psOut ps m) := by
  refine Ok.eq (?_ : Ok _ _)
  unfold Zed psOut
  refine ZaP Zes (Zas (fun h => Zak (by rw [if_pos h])) (fun h => ?_))
  have hv : vE ps = 0 := Decidable.not_not.1 h
  have hp := Zhf hv
  have hl := hp.len
  have hnr := Zgc ps
  rw [if_neg h]
  refine ZaP (Zjj hl.2) (Zas (fun h => Zak (by rw [if_pos h])) (fun h => ?_))
  have hm : mE ps m = 0 := Decidable.not_not.1 h
  rw [if_neg h]
  have hmo := mE_ok hm
  obtain ⟨hsp, hcl, hc, her, htl, ht⟩ := hmo
  have q1 := Zhi (v := m.Speed.Lo) (by omega)
  have q2 : m.Speed.Hi * m.Speed.Hi ≤ 400000000 := Zc8 (b := 20000) (by omega) hsp.2.2
  have q3 := Zc8 hsp.1 hsp.2.1
  rw [Zaw (n := m.Speed.Lo * m.Speed.Lo) (by omega), Zaw (n := m.Speed.Hi * m.Speed.Hi) (by omega)]
  refine Zbd fun x4 hx4 => Zbd fun x5 hx5 => ?_
  refine Za4 (fun (z : Int × Int × Int × Int × Bool × Bool × List Passage × Int × Int) => ∃ q, (∀ s, q = some s → StOk s z.2.2.2.2.2.2.2.2.toNat) ∧ Passage.mk ⟨z.1, z.2.1⟩ ⟨z.2.2.1, z.2.2.2.1⟩ z.2.2.2.2.1 z.2.2.2.2.2.1 = oP q ∧ 0 ≤ z.2.2.2.2.2.2.2.1 ∧ 0 ≤ z.2.2.2.2.2.2.2.2 ∧ z.2.2.2.2.2.2.2.2 ≤ ps.length ∧ z.2.2.2.2.2.2.1.length = z.2.2.2.2.2.2.2.2.toNat + 1 ∧
      z.2.2.2.2.2.2.2.1.toNat + nret (ps.drop z.2.2.2.2.2.2.2.2.toNat) = m.Targets.length ∧ z.2.2.2.2.2.2.1 ++ psO m.Error (ps.drop z.2.2.2.2.2.2.2.2.toNat) (m.Class.drop z.2.2.2.2.2.2.2.2.toNat) (m.Targets.drop z.2.2.2.2.2.2.2.1.toNat) q = psAll ps m)
    (fun z => ((ps.length : Int) - z.2.2.2.2.2.2.2.2).toNat) ?_ ?_ ?_
  · refine ⟨some (ps0 m), fun s hs => ?_, by dsimp only; rw [hx4, hx5]; rfl, by dsimp only; omega, by dsimp only; omega, by dsimp only; omega, rfl, by dsimp only; simp [htl], by dsimp only; rw [hx4, hx5]; rfl⟩
    obtain rfl := Option.some.inj hs
    exact Zh5 ⟨hsp, hcl, hc, her, htl, ht⟩
  · simp only [ZaJ]; omega
  rintro ⟨tl, th, el, eh, sl, so, out, k, i⟩ next ⟨q, hq, gq, k0, i0, i1, ol, kn, hf⟩ hn
  dsimp only at hq gq k0 i0 i1 ol kn hf ⊢
  refine Zas (fun hi => ?_) (fun hi => Zak ?_)
  rotate_left
  · have : ps.drop i.toNat = [] := List.drop_eq_nil_of_le (by omega)
    rw [this] at hf
    have e0 : psO m.Error [] (m.Class.drop i.toNat) (m.Targets.drop k.toNat) q = [] := by cases q <;> rfl
    rw [e0, List.append_nil] at hf
    rw [hf]
  have hip : i.toNat < ps.length := by omega
  have hpi := List.getElem?_eq_getElem hip
  generalize ps[i.toNat] = p at hpi
  have hpo := hp.ok p (Zfj hpi)
  have ei : (i + 1).toNat = i.toNat + 1 := by omega
  have hki := kn
  rw [Zb9 hpi] at hki
  simp only [nret] at hki
  have hic : i.toNat < m.Class.length := by omega
  have hci := List.getElem?_eq_getElem hic
  generalize m.Class[i.toNat] = c at hci
  have hco := hc _ (Zfj hci)
  rw [Zb9 hpi, Zb9 hci, Zkb] at hf
  have go : ∀ (q2 : Option RunoffState) (a b c1 d : Int) (e f : Bool) (k' : Int), q.bind (psNext p c (tgOf p (m.Targets.drop k.toNat)) m.Error) = q2 → Passage.mk ⟨a, b⟩ ⟨c1, d⟩ e f = oP q2 → (k' = if 0 < p.Power then k + 1 else k) →
      Ok (ck (decide (out.length + ([(Passage.mk (Interval.mk a b) (Interval.mk c1 d) e f)] : List Passage).length ≤ 1000000000)) <| vl (out ++ ([(Passage.mk (Interval.mk a b) (Interval.mk c1 d) e f)] : List Passage)) fun y => next (a, b, c1, d, e, f, y, k', w64 (i + 1))) (fun v => v = (psAll ps m, 0)) := by
    intro q2 a b c1 d e f k' hb hP hk'
    refine Zbr (by simp; omega) (Zbd fun y hy => ?_)
    subst hy
    rw [Zaw (by omega)]
    refine hn _ ⟨q2, fun s2 hs2 => ?_, hP, by dsimp only; rw [hk']; split <;> omega, by dsimp only; omega, by dsimp only; omega, by simp; omega, ?_, ?_⟩ (by dsimp only; omega)
    · dsimp only
      rw [ei]
      cases q with
      | none => rw [← hb] at hs2; cases hs2
      | some s =>
        rw [← hb] at hs2
        have htg : Tg (tgOf p (m.Targets.drop k.toNat)) := by
          unfold tgOf
          split
          · rename_i hpp
            rw [if_pos hpp] at hki
            have hkk : k.toNat < m.Targets.length := by omega
            rw [Zb9 (List.getElem?_eq_getElem hkk)]
            exact ht _ (List.getElem_mem hkk)
          · exact ⟨by decide, by decide⟩
        exact Zfe hpo hco htg her (hq s rfl) hs2
    · dsimp only
      rw [ei, hk']
      by_cases h : 0 < p.Power
      · rw [if_pos h] at hki ⊢; omega
      · rw [if_neg h] at hki ⊢; omega
    · dsimp only
      have e1 : (c :: List.drop (i.toNat + 1) m.Class).headD ⟨0, 0⟩ = c := rfl
      rw [e1, hb] at hf
      rw [ei, hP, ← hf, List.append_assoc]
      congr 1
      simp only [List.singleton_append, List.tail_cons, tsOf]
      by_cases h : 0 < p.Power
      · rw [if_pos h, hk', if_pos h, List.tail_drop]
        have : (k + 1).toNat = k.toNat + 1 := by omega
        rw [this]
      · rw [if_neg h, hk', if_neg h]
  refine Zbp (fun (z : Int × Int × Int × Int × Bool × Bool) => Passage.mk ⟨z.1, z.2.1⟩ ⟨z.2.2.1, z.2.2.2.1⟩ z.2.2.2.2.1 z.2.2.2.2.2 = oP (q.bind (psStep p c))) (fun z hz => ?_) (fun kk hk => ?_)
  rotate_left
  · refine Zcc (fun hs => ZaM i0 hpi (ZaM i0 hci ?_)) (fun hs => hk _ ?_)
    · cases q with
      | none => rw [oP] at gq; unfold stopP at gq; simp only [Passage.mk.injEq] at gq; rw [gq.2.2.2] at hs; cases hs
      | some s =>
        rw [gq]
        refine ZaP (rstep_m (s := s) rfl hpo hco (hq s rfl) (by omega)) (hk _ ?_)
        rfl
    · cases q with
      | none => exact gq
      | some s => unfold oP toP at gq; simp only [Passage.mk.injEq] at gq; rw [gq.2.2.2] at hs; cases hs
  obtain ⟨a, b, c1, d, e, f⟩ := z
  dsimp only at hz ⊢
  have nxE : ∀ s, q.bind (psStep p c) = some s → q.bind (psNext p c (tgOf p (m.Targets.drop k.toNat)) m.Error) = some ⟨s.ftime, brk p (tgOf p (m.Targets.drop k.toNat)) m.Error s.fenergy, s.fslow⟩ := fun s hs => by
    cases q with
    | none => cases hs
    | some s0 => rw [Option.bind_some] at hs ⊢; unfold psNext; rw [hs]; rfl
  have nxN : q.bind (psStep p c) = none → q.bind (psNext p c (tgOf p (m.Targets.drop k.toNat)) m.Error) = none := fun hs => by
    cases q with
    | none => rfl
    | some s0 => rw [Option.bind_some] at hs ⊢; unfold psNext; rw [hs]; rfl
  have same : (¬ (0 < p.Power ∧ 0 ≤ tgOf p (m.Targets.drop k.toNat))) → q.bind (psNext p c (tgOf p (m.Targets.drop k.toNat)) m.Error) = q.bind (psStep p c) := fun hh => by
    cases hs : q.bind (psStep p c) with
    | none => exact nxN hs
    | some s =>
      have eb : brk p (tgOf p (m.Targets.drop k.toNat)) m.Error s.fenergy = s.fenergy := by unfold brk; rw [if_neg hh]
      rw [nxE s hs, eb]
  refine ZaM i0 hpi (Zas (fun hpp => ?_) (fun hpp => ?_))
  rotate_left
  · exact go _ a b c1 d e f k (same (by omega)) hz (by rw [if_neg hpp])
  rw [if_pos hpp] at hki
  have hkk : k.toNat < m.Targets.length := by omega
  have htk := List.getElem?_eq_getElem hkk
  generalize m.Targets[k.toNat] = tg at htk
  have htt := ht tg (Zfj htk)
  have etg : tgOf p (m.Targets.drop k.toNat) = tg := by unfold tgOf; rw [if_pos hpp, Zb9 htk]; rfl
  rw [Zaw (n := k + 1) (by omega)]
  refine Zbp (fun (z : Bool) => z = true ↔ f = false ∧ 0 ≤ tg) (fun z hzz => ?_) (fun kk hk => ?_)
  rotate_left
  · refine Zcc (fun hs => ZaM k0 htk (hk _ ?_)) (fun hs => hk _ ?_)
    · rw [decide_eq_true_iff]; exact ⟨fun h => ⟨hs, h⟩, fun h => h.2⟩
    · simp [hs]
  refine ok_b (fun hb => ?_) (fun hb => ?_)
  · obtain ⟨hf0, ht0⟩ := hzz.1 hb
    refine ZaM i0 hpi (ZaM k0 htk ?_)
    cases hs : q.bind (psStep p c) with
    | none => rw [hs] at hz; unfold oP stopP at hz; simp only [Passage.mk.injEq] at hz; rw [hz.2.2.2] at hf0; cases hf0
    | some s =>
      have hso : StOk s (i.toNat + 1) := by
        cases q with
        | none => cases hs
        | some s0 => exact ZgO hpo hco (hq s0 rfl) hs
      obtain ⟨a0, a1, a2, a3, a4, a5⟩ := hso
      have nx := nxE s hs
      rw [hs] at hz
      unfold oP toP at hz
      simp only [Passage.mk.injEq] at hz
      obtain ⟨z1, z2, z3, z4⟩ := hz
      have hpw := hpo.p
      rw [z2]
      refine ZaP (Zj2 hpw ⟨ht0, htt.2⟩ her ⟨by omega, by omega⟩) ?_
      refine go _ a b _ _ e f (k + 1) nx ?_ (by rw [if_pos hpp])
      rw [etg]
      unfold oP toP brk
      rw [if_pos ⟨hpp, ht0⟩, ← z1, z3, z4]
  · by_cases hf1 : f = true
    · have hs : q.bind (psStep p c) = none := by
        cases hs : q.bind (psStep p c) with
        | none => rfl
        | some s => rw [hs] at hz; unfold oP toP at hz; simp only [Passage.mk.injEq] at hz; rw [hz.2.2.2] at hf1; cases hf1
      rw [hs] at hz
      exact go _ a b c1 d e f (k + 1) (nxN hs) hz (by rw [if_pos hpp])
    · refine go _ a b c1 d e f (k + 1) (same fun hh => ?_) hz (by rw [if_pos hpp])
      rw [etg] at hh
      rw [hzz.2 ⟨by simpa using hf1, hh.2⟩] at hb
      cases hb
theorem Zj8 : ∀ {ps : List Piece} {ws ts : List Int} {x : Moment}, (ptRun ps ws ts x).length ≤ ps.length := by
  intro ps
  induction ps with
  | nil => intro ws ts x; simp [ptRun]
  | cons p ps ih =>
    intro ws ts x
    cases h : ptStep p (ws.headD 0) (tgOf p ts) x with
    | none => rw [ZcS h]; simp
    | some y => rw [ZcR h, List.length_cons, List.length_cons]; have := ih (ws := ws.tail) (ts := tsOf p ts) (x := y); omega
theorem Zj9 {ps : List Piece} {m : Motion} : (psOut ps m).1.length ≤ 1000000000 := by
  unfold psOut
  split
  · simp
  · rename_i h
    have hl := (Zhf (Decidable.not_not.1 h)).len
    split
    · simp
    · rw [ZgP]; omega
end Go.Hy
namespace Go.Hy
set_option linter.unusedVariables false
set_option linter.unusedSimpArgs false
set_option maxHeartbeats 2000000
set_option maxRecDepth 10000
open Go.Hy.Iv
theorem Zhe {ps : List Piece} (h : PsOk ps) : vE ps = 0 := by
  unfold vE
  have : ps.all pB = true := by
    rw [List.all_eq_true]
    intro p hp
    have := h.ok p hp
    exact decide_eq_true ⟨this.e, this.l, this.g, this.c, this.p⟩
  rw [if_pos h.len, if_pos this]
theorem Zka {ps : List Piece} {m : Motion} (hp : PsOk ps) (hm : MotOk ps m) : psOut ps m = (psAll ps m, 0) := by
  have h1 : mE ps m = 0 := by
    obtain ⟨sp, cl, c, er, tg, t⟩ := hm
    have q1 : m.Class.all Go.Hy.cB = true := by
      rw [List.all_eq_true]; intro x hx; have := c x hx; exact decide_eq_true (by omega)
    have q2 : m.Class.all dB = true := by
      rw [List.all_eq_true]; intro x hx; have := c x hx; exact decide_eq_true (by omega)
    have q3 : m.Targets.all tB = true := by
      rw [List.all_eq_true]; intro x hx; exact decide_eq_true (t x hx)
    unfold mE
    rw [if_pos ⟨by omega, cl, tg, q1⟩, if_pos ⟨q2, by omega, q3⟩]
  unfold psOut
  rw [if_neg (by simp [Zhe hp]), if_neg (by simp [h1])]
def setL (ps : List Piece) (n : Int) : List Piece := match ps[ps.length - 1]? with
  | none => ps
  | some x => ps.set (ps.length - 1) ⟨x.Element, n, x.Grade, x.Curve, x.Power⟩
theorem Zf5 {ps : List Piece} {n : Int} {x : Piece} (hx : ps[ps.length - 1]? = some x) (hl : 1 ≤ ps.length) : (setL ps n).length = ps.length ∧ (setL ps n)[ps.length - 1]? = some ⟨x.Element, n, x.Grade, x.Curve, x.Power⟩ ∧ ∀ i, i ≠ ps.length - 1 → (setL ps n)[i]? = ps[i]? := by
  unfold setL
  rw [hx]
  dsimp only
  refine ⟨by simp, ?_, fun i hi => ?_⟩
  · rw [List.getElem?_set_self (by omega)]
  · rw [List.getElem?_set_ne (by omega)]
theorem setL_ok {ps : List Piece} {n : Int} (h : PsOk ps) (hn : 1 ≤ n ∧ n ≤ 1000000) : PsOk (setL ps n) := by
  have hl := h.len
  have hx : ps[ps.length - 1]? = some ps[ps.length - 1] := List.getElem?_eq_getElem (by omega)
  generalize ps[ps.length - 1] = x at hx
  obtain ⟨g1, g2, g3⟩ := Zf5 (n := n) hx (by omega)
  refine ⟨by omega, fun p hp => ?_⟩
  obtain ⟨i, hi⟩ := List.getElem?_of_mem hp
  by_cases e : i = ps.length - 1
  · subst e
    rw [g2] at hi
    cases hi
    have := h.ok x (Za5 hx)
    exact ⟨this.e, hn, this.g, this.c, this.p⟩
  · rw [g3 i e] at hi
    exact h.ok p (Za5 hi)
end Go.Hy
namespace Go.Hy
set_option linter.unusedVariables false
set_option linter.unusedSimpArgs false
set_option maxHeartbeats 2000000
set_option maxRecDepth 10000
open Go.Hy.Iv
def apE (ps : List Piece) (n : Int) : List Piece × Int :=
  if vE ps ≠ 0 then ([], vE ps) else if n < 1 ∨ 1000000 < n then ([], 2) else match ps[ps.length - 1]? with
    | none => ([], 0)
    | some x => if x.Length < n then ([], 14) else (setL ps n, 0)
theorem Zho {ps : List Piece} {n : Int} : ZcF ps n = some (apE ps n) := by
  refine Ok.eq (?_ : Ok _ _)
  unfold ZcF apE
  refine ZaP Zes (Zas (fun h => Zak (by rw [if_pos h])) (fun h => ?_))
  rw [if_neg h]
  have hl := (Zhf (Decidable.not_not.1 h)).len
  refine Zas (fun q => Zak (by rw [if_pos (by omega)])) (fun q1 => Zas (fun q => Zak (by rw [if_pos (by omega)])) (fun q2 => ?_))
  rw [if_neg (by omega), Zaw (by omega)]
  have e : ((ps.length : Int) - 1).toNat = ps.length - 1 := by omega
  refine ZaQ (by omega) (by omega) fun x hx => ?_
  rw [e] at hx
  rw [hx]
  dsimp only
  refine Zas (fun q => Zak (by rw [if_pos q])) (fun q => ?_)
  rw [if_neg q]
  refine Zbr (by simp only [List.length_nil]; omega) (Zbd fun y hy => ?_)
  rw [List.nil_append] at hy
  subst hy
  refine ZaM (by omega) (by rw [e]; exact hx) (Zbd fun z hz => Zak ?_)
  rw [hz, e]
  unfold setL
  rw [hx]
def clN (ps : List Piece) (n : Int) : Nat → Int → Int → Int
  | 0, _, _ => -1
  | f + 1, j, s => if n ≤ s then j else match ps[(j + 1).toNat]? with
    | none => -1
    | some p => clN ps n f (j + 1) (s + p.Length)
def clr (ps : List Piece) (i n : Int) : Int := clN ps n (ps.length + 1) i 0
def lB (p : Piece) : Bool := decide (1 ≤ p.Length ∧ p.Length ≤ 1000000)
def clE (ps : List Piece) (i n : Int) : Int := if 0 ≤ i ∧ i < ps.length ∧ 0 ≤ n ∧ n ≤ 1000000 ∧ ps.all lB = true then clr ps i n else -1
theorem Zin {ps : List Piece} {n : Int} : ∀ (f g : Nat) (j s : Int), 0 ≤ j → (ps.length : Int) ≤ f + j → (ps.length : Int) ≤ g + j → 1 ≤ f → 1 ≤ g → clN ps n f j s = clN ps n g j s := by
  intro f
  induction f with
  | zero => intro g j s h0 h1 h2 h3; omega
  | succ f ih =>
    intro g j s h0 h1 h2 _ h4
    obtain ⟨g, rfl⟩ : ∃ g', g = g' + 1 := ⟨g - 1, by omega⟩
    unfold clN
    by_cases h : n ≤ s
    · rw [if_pos h, if_pos h]
    · rw [if_neg h, if_neg h]
      cases hx : ps[(j + 1).toNat]? with
      | none => rfl
      | some p =>
        dsimp only
        have := Zbl hx
        exact ih g (j + 1) _ (by omega) (by omega) (by omega) (by omega) (by omega)
theorem Clear_e {ps : List Piece} {i n : Int} (hl : ps.length ≤ 1000000000) : Zb2 ps i n = some (clE ps i n) := by
  refine Ok.eq (?_ : Ok _ _)
  unfold Zb2 clE
  refine Zas (fun q => Zak (by rw [if_neg (by omega)])) (fun q1 => Zas (fun q => Zak (by rw [if_neg (by omega)])) (fun q2 => Zas (fun q => Zak (by rw [if_neg (by omega)])) (fun q3 => Zas (fun q => Zak (by rw [if_neg (by omega)])) (fun q4 => ?_))))
  refine Zbp (fun _ => ps.all lB = true) (fun _ ha => ?_) (fun k hk => ?_)
  rotate_left
  · refine Za4 (fun (z : Int) => Scan lB ps z) (fun z => ((ps.length : Int) - z).toNat) Scan.zero (by simp only [ZaJ]; omega) ?_
    intro z next hz hn
    have z0 := hz.1
    refine Zas (fun h => ZaQ z0 h fun a ha => ?_) (fun h => hk _ (hz.done h))
    have bad : lB a = false → Ok (some (-1 : Int)) (fun v => v = if 0 ≤ i ∧ i < ps.length ∧ 0 ≤ n ∧ n ≤ 1000000 ∧ ps.all lB = true then clr ps i n else -1) := fun h => Zak (by rw [if_neg (by rw [ZdT ha h]; simp)])
    refine Zas (fun q => bad (decide_eq_false (by omega))) (fun q5 => Zas (fun q => bad (decide_eq_false (by omega))) (fun q6 => ?_))
    rw [Zaw (by omega)]
    exact hn _ (hz.step ha (decide_eq_true (by omega))) (by omega)
  rw [if_pos ⟨by omega, by omega, by omega, by omega, ha⟩]
  rw [List.all_eq_true] at ha
  refine Za4 (fun (z : Int × Int) => i ≤ z.1 ∧ z.1 < ps.length ∧ 0 ≤ z.2 ∧ z.2 ≤ 2000000 ∧ clN ps n (ps.length + 1) z.1 z.2 = clr ps i n) (fun z => ((ps.length : Int) - z.1).toNat) ⟨by dsimp only; omega, by dsimp only; omega, by dsimp only; omega, by dsimp only; omega, rfl⟩ (by simp only [ZaJ]; omega) ?_
  rintro ⟨j, s⟩ next ⟨j0, j1, s0, s1, hc⟩ hn
  dsimp only at j0 j1 s0 s1 hc ⊢
  rw [Zaw (n := j + 1) (by omega)]
  have hce := hc
  unfold clN at hc
  refine Zas (fun h => ?_) (fun h => Zak (by rw [if_pos (by omega)] at hc; exact hc))
  rw [if_neg (by omega)] at hc
  refine Zas (fun h1 => Zak ?_) (fun h1 => ZaQ (by omega) (by omega) fun p hp => ?_)
  · rw [List.getElem?_eq_none (by omega)] at hc
    exact hc
  rw [hp] at hc
  dsimp only at hc
  have hpl := of_decide_eq_true (ha p (Za5 hp))
  rw [Zaw (n := s + p.Length) (by omega)]
  refine hn _ ⟨by dsimp only; omega, by dsimp only; omega, by dsimp only; omega, by dsimp only; omega, ?_⟩ (by dsimp only; omega)
  dsimp only
  rw [← hc]
  exact Zin _ _ _ _ (by omega) (by omega) (by omega) (by omega) (by omega)
theorem Zh0 {ps : List Piece} {i n : Int} (hl : ps.length ≤ 1000000000) : Zdg ps i n = some (clE ps i n) := by
  refine Ok.eq (?_ : Ok _ _)
  unfold Zdg clE
  refine Zas (fun q => Zak (by rw [if_neg (by omega)])) (fun q1 => Zas (fun q => Zak (by rw [if_neg (by omega)])) (fun q2 => Zas (fun q => Zak (by rw [if_neg (by omega)])) (fun q3 => Zas (fun q => Zak (by rw [if_neg (by omega)])) (fun q4 => ?_))))
  refine Zbp (fun _ => ps.all lB = true) (fun _ ha => ?_) (fun k hk => ?_)
  rotate_left
  · refine Za4 (fun (z : Int) => Scan lB ps z) (fun z => ((ps.length : Int) - z).toNat) Scan.zero (by simp only [ZaJ]; omega) ?_
    intro z next hz hn
    have z0 := hz.1
    refine Zas (fun h => ZaQ z0 h fun a ha => ?_) (fun h => hk _ (hz.done h))
    have bad : lB a = false → Ok (some (-1 : Int)) (fun v => v = if 0 ≤ i ∧ i < ps.length ∧ 0 ≤ n ∧ n ≤ 1000000 ∧ ps.all lB = true then clr ps i n else -1) := fun h => Zak (by rw [if_neg (by rw [ZdT ha h]; simp)])
    refine Zas (fun q => bad (decide_eq_false (by omega))) (fun q5 => ZaM z0 ha (Zas (fun q => bad (decide_eq_false (by omega))) (fun q6 => ?_)))
    rw [Zaw (by omega)]
    exact hn _ (hz.step ha (decide_eq_true (by omega))) (by omega)
  rw [if_pos ⟨by omega, by omega, by omega, by omega, ha⟩]
  rw [List.all_eq_true] at ha
  refine Za4 (fun (z : Int × Int) => i ≤ z.2 ∧ z.2 ≤ ps.length ∧ 0 ≤ z.1 ∧ z.1 ≤ 2000000 ∧ (z.2 = i → z.1 = 0) ∧ (i < z.2 → z.1 < n ∧ clN ps n (ps.length + 1) (z.2 - 1) z.1 = clr ps i n)) (fun z => ((ps.length : Int) - z.2).toNat) ⟨by dsimp only; omega, by dsimp only; omega, by dsimp only; omega, by dsimp only; omega, fun _ => rfl, fun h => by dsimp only at h; omega⟩ (by simp only [ZaJ]; omega) ?_
  rintro ⟨s, j⟩ next ⟨j0, j1, s0, s1, hz, hc⟩ hn
  dsimp only at j0 j1 s0 s1 hz hc ⊢
  rw [Zaw (n := j + 1) (by omega)]
  refine Zas (fun h => ?_) (fun h => Zak ?_)
  rotate_left
  · obtain ⟨c1, c2⟩ := hc (by omega)
    unfold clN at c2
    rw [if_neg (by omega), List.getElem?_eq_none (by omega)] at c2
    exact c2
  refine Zas (fun h1 => ZaQ (by omega) h fun p hp => ?_) (fun h1 => ?_)
  · obtain ⟨c1, c2⟩ := hc h1
    unfold clN at c2
    have ej : j - 1 + 1 = j := by omega
    rw [if_neg (by omega), ej, hp] at c2
    dsimp only at c2
    have hpl := of_decide_eq_true (ha p (Za5 hp))
    rw [Zaw (n := s + p.Length) (by omega)]
    have c3 : clN ps n (ps.length + 1) j (s + p.Length) = clr ps i n := by
      rw [← c2]
      exact Zin _ _ _ _ (by omega) (by omega) (by omega) (by omega) (by omega)
    refine Zas (fun h2 => Zak ?_) (fun h2 => ?_)
    · unfold clN at c3; rw [if_pos h2] at c3; exact c3
    · refine hn _ ⟨by dsimp only; omega, by dsimp only; omega, by dsimp only; omega, by dsimp only; omega, fun h => by dsimp only at h; omega, fun _ => ⟨by dsimp only; omega, ?_⟩⟩ (by dsimp only; omega)
      dsimp only
      rw [show j + 1 - 1 = j from by omega]
      exact c3
  · have eji : j = i := by omega
    have es := hz eji
    refine Zas (fun h2 => Zak ?_) (fun h2 => ?_)
    · unfold clr clN; rw [if_pos (by omega)]; exact eji
    · refine hn _ ⟨by dsimp only; omega, by dsimp only; omega, by dsimp only; omega, by dsimp only; omega, fun h => by dsimp only at h; omega, fun _ => ⟨by dsimp only; omega, ?_⟩⟩ (by dsimp only; omega)
      dsimp only
      rw [show j + 1 - 1 = j from by omega, es, eji]
      rfl
theorem clN_rng {ps : List Piece} {n : Int} : ∀ (f : Nat) (j s : Int), 0 ≤ j → j < ps.length → clN ps n f j s = -1 ∨ (j ≤ clN ps n f j s ∧ clN ps n f j s < ps.length) := by
  intro f
  induction f with
  | zero => intro j s _ _; left; rfl
  | succ f ih =>
    intro j s h0 h1
    unfold clN
    by_cases h : n ≤ s
    · rw [if_pos h]; right; omega
    · rw [if_neg h]
      cases hx : ps[(j + 1).toNat]? with
      | none => left; rfl
      | some p =>
        dsimp only
        have := Zbl hx
        rcases ih (j + 1) (s + p.Length) (by omega) (by omega) with h | h
        · exact .inl h
        · right; omega
theorem PsOk.lb {ps : List Piece} (h : PsOk ps) : ps.all lB = true := by
  rw [List.all_eq_true]
  exact fun p hp => decide_eq_true (h.ok p hp).l
theorem ZjL {ps : List Piece} {i n : Int} (hp : PsOk ps) (hi : 0 ≤ i ∧ i < ps.length) (hn : 0 ≤ n ∧ n ≤ 1000000) : clE ps i n = clr ps i n := by
  unfold clE; rw [if_pos ⟨hi.1, hi.2, hn.1, hn.2, hp.lb⟩]
theorem clr_rng {ps : List Piece} {i n : Int} (hi : 0 ≤ i ∧ i < ps.length) : clr ps i n = -1 ∨ (i ≤ clr ps i n ∧ clr ps i n < ps.length) := clN_rng _ i 0 hi.1 hi.2
def bhs (ps : List Piece) (n : Int) : List Int := (List.range (ps.length - 1)).map fun (i : Nat) => clr ps i n
def inB (l : List Element) (p : Piece) : Bool := decide (p.Element < l.length)
def nnB (v : Int) : Bool := decide (0 ≤ v)
def bE (l : List Element) (ps : List Piece) (ok : Bool) (n : Int) : Int :=
  if vE ps ≠ 0 then vE ps else if n < 1 ∨ 1000000 < n then 2 else if ok = true ∧ ps.all (inB l) = true then (if (bhs ps n).all nnB = true then 0 else 14) else 1
theorem Zgo {ps : List Piece} {n : Int} {i : Nat} (h : i + 1 < ps.length) : (bhs ps n)[i]? = some (clr ps i n) := by
  unfold bhs
  rw [List.getElem?_map, List.getElem?_range (by omega)]
  rfl
theorem ZhH {ps : List Piece} {n : Int} : (bhs ps n).length = ps.length - 1 := by unfold bhs; simp
theorem Zkp {l : List Element} {ps : List Piece} {pts least n : Int} : ZbS l ps pts least n = some (if bE l ps (decide (least ≤ pts ∧ pts ≤ ps.length + 1)) n ≠ 0 then ([], bE l ps (decide (least ≤ pts ∧ pts ≤ ps.length + 1)) n) else (bhs ps n, 0)) := by
  refine Ok.eq (?_ : Ok _ _)
  generalize hE : bE l ps (decide (least ≤ pts ∧ pts ≤ ps.length + 1)) n = E
  unfold bE at hE
  unfold ZbS
  refine ZaP Zks (Zas (fun h => Zak ?_) (fun h => ?_))
  · rw [if_pos h] at hE; rw [← hE, if_pos h]
  rw [if_neg h] at hE
  have hp := Zhf (Decidable.not_not.1 h)
  have hl := hp.len
  have e2 : n < 1 ∨ 1000000 < n → Ok (some (([] : List Int), (2 : Int))) (fun v => v = if E ≠ 0 then ([], E) else (bhs ps n, 0)) := fun h => Zak (by rw [if_pos h] at hE; rw [← hE]; rfl)
  refine Zas (fun q => e2 (by omega)) (fun q1 => Zas (fun q => e2 (by omega)) (fun q2 => ?_))
  rw [if_neg (by omega)] at hE
  have e1 : ¬ (decide (least ≤ pts ∧ pts ≤ (ps.length : Int) + 1) = true ∧ ps.all (inB l) = true) → Ok (some (([] : List Int), (1 : Int))) (fun v => v = if E ≠ 0 then ([], E) else (bhs ps n, 0)) := fun h => Zak (by rw [if_neg h] at hE; rw [← hE]; rfl)
  rw [Zaw (n := (ps.length : Int) + 1) (by omega)]
  refine Zas (fun q => e1 (fun hh => by have := of_decide_eq_true hh.1; omega)) (fun q3 => Zas (fun q => e1 (fun hh => by have := of_decide_eq_true hh.1; omega)) (fun q4 => ?_))
  refine Zbp (fun _ => ps.all (inB l) = true) (fun _ ha => ?_) (fun k hk => ?_)
  rotate_left
  · refine Za4 (fun (z : Int) => Scan (inB l) ps z) (fun z => ((ps.length : Int) - z).toNat) Scan.zero (by simp only [ZaJ]; omega) ?_
    intro z next hz hn
    have z0 := hz.1
    refine Zas (fun h => ZaQ z0 h fun a ha => ?_) (fun h => hk _ (hz.done h))
    have hae := (hp.ok a (Za5 ha)).e
    refine Zcn (by omega) (Zas (fun q => e1 (fun hh => by rw [ZdT ha (decide_eq_false (by omega))] at hh; cases hh.2)) (fun q => ?_))
    rw [Zaw (by omega)]
    exact hn _ (hz.step ha (decide_eq_true (by omega))) (by omega)
  rw [if_pos ⟨decide_eq_true (by omega), ha⟩] at hE
  refine Za4 (fun (z : List Int × Int) => 0 ≤ z.2 ∧ z.2 ≤ ps.length - 1 ∧ z.1 = (bhs ps n).take z.2.toNat ∧ ((bhs ps n).take z.2.toNat).all nnB = true) (fun z => ((ps.length : Int) - z.2).toNat) ⟨Int.le_refl 0, by dsimp only; omega, by simp, by simp⟩ (by simp only [ZaJ]; omega) ?_
  rintro ⟨out, i⟩ next ⟨i0, i1, ho, hnn⟩ hn
  dsimp only at i0 i1 ho hnn ⊢
  have hbl := ZhH (ps := ps) (n := n)
  rw [Zaw (n := i + 1) (by omega)]
  refine Zas (fun hi => ?_) (fun hi => Zak ?_)
  rotate_left
  · rw [List.take_of_length_le (by omega)] at ho hnn
    rw [if_pos hnn] at hE
    rw [← hE, ho]
    rfl
  have hg := Zgo (ps := ps) (n := n) (i := i.toNat) (by omega)
  rw [show ((i.toNat : Nat) : Int) = i from by omega] at hg
  refine ZaP (Clear_e (by omega)) ?_
  rw [ZjL hp (by omega) (by omega)]
  refine Zas (fun hc => Zak ?_) (fun hc => ?_)
  · have : ¬ (bhs ps n).all nnB = true := fun hh => by
      rw [ZdT hg (decide_eq_false (by omega))] at hh; cases hh
    rw [if_neg this] at hE
    rw [← hE]
    rfl
  · refine Zbr (by rw [ho]; simp only [List.length_take, List.length_cons, List.length_nil]; omega) (Zbd fun y hy => ?_)
    have ei : (i + 1).toNat = i.toNat + 1 := by omega
    refine hn _ ⟨by dsimp only; omega, by dsimp only; omega, by dsimp only; rw [hy, ei, ZbK hg, ho], ?_⟩ (by dsimp only; omega)
    dsimp only
    rw [ei, ZbK hg, List.all_append, hnn]
    simp only [List.all_cons, List.all_nil, Bool.and_true, Bool.true_and]
    exact decide_eq_true (by omega)
theorem Zj1 {l : List Element} {ps : List Piece} {ok : Bool} {n : Int} : Zdv l ps ok n = some (bE l ps ok n) := by
  refine Ok.eq (?_ : Ok _ _)
  unfold Zdv bE
  refine ZaP Zes (Zas (fun h => Zak (by rw [if_pos h])) (fun h => ?_))
  rw [if_neg h]
  have hp := Zhf (Decidable.not_not.1 h)
  have hl := hp.len
  refine Zas (fun q => Zak (by rw [if_pos (by omega)])) (fun q1 => Zas (fun q => Zak (by rw [if_pos (by omega)])) (fun q2 => ?_))
  rw [if_neg (by omega)]
  refine Zbp (fun (b : Bool) => b = true ↔ (ok = true ∧ ps.all (inB l) = true)) (fun b hb => ?_) (fun k hk => ?_)
  rotate_left
  · refine Za4 (fun (y : Bool × Int) => 0 ≤ y.2 ∧ (y.1 = true ↔ ok = true ∧ (ps.take y.2.toNat).all (inB l) = true)) (fun y => ((ps.length : Int) - y.2).toNat) ⟨Int.le_refl 0, by simp⟩ (by simp only [ZaJ]; omega) ?_
    rintro ⟨b, i⟩ next ⟨i0, hb⟩ hn
    dsimp only at i0 hb ⊢
    refine Zas (fun hi => ?_) (fun hi => ?_)
    rotate_left
    · rw [List.take_of_length_le (by omega)] at hb
      exact hk _ hb
    rw [Zaw (by omega)]
    have hii : i.toNat < ps.length := by omega
    have ha := List.getElem?_eq_getElem hii
    generalize ps[i.toNat] = a at ha
    have ei : (i + 1).toNat = i.toNat + 1 := by omega
    have nx : ∀ c : Bool, (c = true ↔ b = true ∧ inB l a = true) → Ok (next (c, i + 1)) (fun v => v = if ok = true ∧ ps.all (inB l) = true then (if (bhs ps n).all nnB = true then 0 else 14) else 1) := fun c hc => hn _ ⟨by dsimp only; omega, by
      dsimp only
      rw [hc, hb, ei, ZbK ha, List.all_append]
      simp [and_assoc]⟩ (by dsimp only; omega)
    refine ok_b (fun h => ZaM i0 ha (nx _ ?_)) (fun h => nx _ ?_)
    · unfold inB; simp [h]
    · simp [h]
  refine Zcc (fun h => Zak ?_) (fun h => ?_)
  · rw [if_neg]
    intro hh
    rw [hb.2 hh] at h; cases h
  rw [if_pos (hb.1 h)]
  refine Za4 (fun (z : Int) => 0 ≤ z ∧ z ≤ ps.length - 1 ∧ ((bhs ps n).take z.toNat).all nnB = true) (fun z => ((ps.length : Int) - z).toNat) ⟨Int.le_refl 0, by omega, by simp⟩ (by simp only [ZaJ]; omega) ?_
  intro i next ⟨i0, i1, hnn⟩ hn
  have hbl := ZhH (ps := ps) (n := n)
  rw [Zaw (n := i + 1) (by omega)]
  refine Zas (fun hi => ?_) (fun hi => Zak ?_)
  rotate_left
  · rw [List.take_of_length_le (by omega)] at hnn
    rw [if_pos hnn]
  have hg := Zgo (ps := ps) (n := n) (i := i.toNat) (by omega)
  rw [show ((i.toNat : Nat) : Int) = i from by omega] at hg
  refine ZaP (Zh0 (by omega)) ?_
  rw [ZjL hp (by omega) (by omega)]
  refine Zas (fun hc => Zak ?_) (fun hc => ?_)
  · rw [if_neg]
    intro hh
    rw [ZdT hg (decide_eq_false (by omega))] at hh; cases hh
  · have ei : (i + 1).toNat = i.toNat + 1 := by omega
    refine hn _ ⟨by omega, by omega, ?_⟩ (by omega)
    rw [ei, ZbK hg, List.all_append, hnn]
    simp only [List.all_cons, List.all_nil, Bool.and_true, Bool.true_and]
    exact decide_eq_true (by omega)
def sdOf (l : List Element) (ps : List Piece) (i : Nat) : Int := match ps[i]? with
  | none => 0
  | some p => match l[p.Element.toNat]? with
    | none => 0
    | some x => if x.Kind = 3 then (match ps[i + 1]? with
      | none => 0
      | some q => match l[q.Element.toNat]? with
        | none => 0
        | some y => y.Side) else 0
def elOf (ps : List Piece) (i : Nat) : Int := match ps[i]? with
  | none => 0
  | some p => p.Element
def toP2 (p : List Passage) (j : Int) : Int := match p[j.toNat]? with
  | none => 1000000000
  | some q => if q.Stops = true then 1000000000 else q.Time.Hi
def spF (l : List Element) (ps : List Piece) (p : List Passage) (n : Int) (i : Nat) : Option Span := match p[i]? with
  | none => none
  | some x => if x.Stops = true then none else some ⟨elOf ps i, sdOf l ps i, x.Time.Lo, toP2 p (clr ps i n + 1)⟩
def toM (m : List Moment) (j : Int) : Int := match m[j.toNat]? with
  | none => 1000000000
  | some q => q.Time
def exF (l : List Element) (ps : List Piece) (m : List Moment) (n : Int) (i : Nat) : Option Span := match m[i]? with
  | none => none
  | some x => some ⟨elOf ps i, sdOf l ps i, x.Time, toM m (clr ps i n + 1)⟩
def rows (f : Nat → Option Span) : Nat → Nat → List Span
  | 0, _ => []
  | k + 1, i => match f i with
    | none => []
    | some s => s :: rows f k (i + 1)
theorem Ze1 {f : Nat → Option Span} {k i : Nat} (h : f i = none) : rows f k i = [] := by
  cases k with
  | zero => rfl
  | succ k => unfold rows; rw [h]
theorem Zd8 {f : Nat → Option Span} {k i : Nat} {s : Span} (h : f i = some s) : rows f (k + 1) i = s :: rows f k (i + 1) := by rw [rows, h]
def spE (l : List Element) (ps : List Piece) (p : List Passage) (n : Int) : List Span × Int :=
  if bE l ps (decide (p.length = ps.length + 1)) n ≠ 0 then ([], bE l ps (decide (p.length = ps.length + 1)) n) else (rows (spF l ps p n) (ps.length - 1) 0, 0)
def exE (l : List Element) (ps : List Piece) (m : List Moment) (n : Int) : List Span × Int :=
  if bE l ps (decide (1 ≤ m.length ∧ m.length ≤ ps.length + 1)) n ≠ 0 then ([], bE l ps (decide (1 ≤ m.length ∧ m.length ≤ ps.length + 1)) n) else (rows (exF l ps m n) (ps.length - 1) 0, 0)
structure Chk (l : List Element) (ps : List Piece) (n : Int) : Prop where
  p : PsOk ps
  nb : 1 ≤ n ∧ n ≤ 1000000
  e : ∀ p ∈ ps, 0 ≤ p.Element ∧ p.Element < l.length
  c : ∀ i : Nat, i + 1 < ps.length → (i : Int) ≤ clr ps i n ∧ clr ps i n < ps.length
theorem Zkq {l : List Element} {ps : List Piece} {ok : Bool} {n : Int} (h : bE l ps ok n = 0) : Chk l ps n ∧ ok = true := by
  unfold bE at h
  split at h
  · rename_i h1; exact absurd h h1
  rename_i h1
  have hp := Zhf (Decidable.not_not.1 h1)
  split at h
  · cases h
  rename_i h2
  split at h
  · rename_i h3
    split at h
    · rename_i h4
      rw [List.all_eq_true] at h4
      have h5 := List.all_eq_true.1 h3.2
      refine ⟨⟨hp, by omega, fun p hp2 => ⟨(hp.ok p hp2).e.1, of_decide_eq_true (h5 p hp2)⟩, fun i hi => ?_⟩, h3.1⟩
      have := of_decide_eq_true (h4 _ (Za5 (Zgo (n := n) hi)))
      rcases clr_rng (ps := ps) (i := i) (n := n) (by omega) with h | h <;> omega
    · cases h
  · cases h
theorem span_m {l : List Element} {ps : List Piece} {n : Int} (h : Chk l ps n) {i : Int} (i0 : 0 ≤ i) (i1 : i + 1 < ps.length) : Zcd l ps i = some ⟨elOf ps i.toNat, sdOf l ps i.toNat, 0, 1000000000⟩ := by
  refine Ok.eq (?_ : Ok _ _)
  have hl := h.p.len
  unfold Zcd elOf sdOf
  have e : (i + 1).toNat = i.toNat + 1 := by omega
  refine ZaQ i0 (by omega) fun p hp => ?_
  have hpe := h.e p (Za5 hp)
  rw [hp]
  refine ZaQ hpe.1 hpe.2 fun x hx => ?_
  dsimp only
  rw [hx]
  dsimp only
  refine Zas (fun hk => ?_) (fun hk => Zak (by rw [if_neg hk]))
  rw [if_pos hk, Zaw (by omega)]
  refine ZaQ (by omega) i1 fun q hq => ?_
  have hqe := h.e q (Za5 hq)
  refine ZaQ hqe.1 hqe.2 fun y hy => Zak ?_
  rw [e] at hq
  rw [hq]
  dsimp only
  rw [hy]
theorem rSide_m {l : List Element} {ps : List Piece} {n : Int} (h : Chk l ps n) {i : Int} (i0 : 0 ≤ i) (i1 : i + 1 < ps.length) : Zea l ps i = some (sdOf l ps i.toNat) := by
  refine Ok.eq (?_ : Ok _ _)
  have hl := h.p.len
  unfold Zea sdOf
  have e : (i + 1).toNat = i.toNat + 1 := by omega
  refine ZaQ i0 (by omega) fun p hp => ?_
  have hpe := h.e p (Za5 hp)
  rw [hp]
  refine ZaQ hpe.1 hpe.2 fun x hx => ?_
  dsimp only
  rw [hx]
  dsimp only
  refine Zas (fun hk => Zak (by rw [if_neg hk])) (fun hk => ?_)
  rw [if_pos (Decidable.not_not.1 hk), Zaw (by omega)]
  refine ZaQ (by omega) i1 fun q hq => ?_
  have hqe := h.e q (Za5 hq)
  refine ZaQ hqe.1 hqe.2 fun y hy => Zak ?_
  rw [e] at hq
  rw [hq]
  dsimp only
  rw [hy]
theorem Zj4 {l : List Element} {ps : List Piece} {p : List Passage} {n : Int} (hpl : p.length ≤ 1000000000) : Zdw l ps p n = some (spE l ps p n) := by
  refine Ok.eq (?_ : Ok _ _)
  have eqE : bE l ps (decide ((p.length : Int) = w64 ((ps.length : Int) + 1))) n = bE l ps (decide (p.length = ps.length + 1)) n := by
    by_cases hv : vE ps ≠ 0
    · unfold bE; rw [if_pos hv, if_pos hv]
    · have := (Zhf (Decidable.not_not.1 hv)).len
      rw [Zaw (by omega)]
      congr 1
      exact decide_eq_decide.2 (by omega)
  unfold Zdw spE
  refine ZaP Zj1 ?_
  rw [eqE]
  refine Zas (fun h => Zak (by rw [if_pos h])) (fun hb => ?_)
  rw [if_neg hb]
  obtain ⟨hc, hok⟩ := Zkq (Decidable.not_not.1 hb)
  have hpp : p.length = ps.length + 1 := of_decide_eq_true hok
  have hl := hc.p.len
  refine Za4 (fun (z : List Span × Int) => 0 ≤ z.2 ∧ z.2 ≤ ps.length - 1 ∧ z.1.length = z.2.toNat ∧ z.1 ++ rows (spF l ps p n) (ps.length - 1 - z.2.toNat) z.2.toNat = rows (spF l ps p n) (ps.length - 1) 0) (fun z => ((ps.length : Int) - z.2).toNat) ⟨Int.le_refl 0, by dsimp only; omega, rfl, rfl⟩ (by simp only [ZaJ]; omega) ?_
  rintro ⟨out, i⟩ next ⟨i0, i1, ol, hf⟩ hn
  dsimp only at i0 i1 ol hf ⊢
  rw [Zaw (n := i + 1) (by omega)]
  refine Zas (fun hi => ?_) (fun hi => Zak ?_)
  rotate_left
  · rw [show ps.length - 1 - i.toNat = 0 from by omega] at hf
    simp only [rows, List.append_nil] at hf
    rw [hf]
  have ez : ((i.toNat : Nat) : Int) = i := by omega
  have hcr := hc.c i.toNat (by omega)
  refine ZaQ i0 (by omega) fun x hx => Zcc (fun hs => ZaQ i0 (by omega) fun pc hpc => ?_) (fun hs => Zak ?_)
  rotate_left
  · have : spF l ps p n i.toNat = none := by unfold spF; rw [hx]; dsimp only; rw [if_pos hs]
    rw [Ze1 this, List.append_nil] at hf
    rw [hf]
  have epc : pc.Element = elOf ps i.toNat := by unfold elOf; rw [hpc]
  refine ZaP (rSide_m hc i0 (by omega)) (ZaM i0 hx (ZaP (Zh0 (by omega)) ?_))
  have ecl : clr ps i n = clr ps (i.toNat : Int) n := by rw [ez]
  rw [ZjL hc.p (by omega) (by have := hc.nb; omega), epc, ecl]
  rw [Zaw (n := clr ps i.toNat n + 1) (by omega)]
  have ei : (i + 1).toNat = i.toNat + 1 := by omega
  have go : ∀ t, t = toP2 p (clr ps i.toNat n + 1) → Ok (ck (decide (out.length + ([Span.mk (elOf ps i.toNat) (sdOf l ps i.toNat) x.Time.Lo t] : List Span).length ≤ 1000000000)) <| vl (out ++ ([Span.mk (elOf ps i.toNat) (sdOf l ps i.toNat) x.Time.Lo t] : List Span)) fun y => next (y, i + 1)) (fun v => v = (rows (spF l ps p n) (ps.length - 1) 0, 0)) := fun t ht => by
    refine Zbr (by simp only [List.length_cons, List.length_nil]; omega) (Zbd fun y hy => ?_)
    have hsf : spF l ps p n i.toNat = some (Span.mk (elOf ps i.toNat) (sdOf l ps i.toNat) x.Time.Lo t) := by
      unfold spF; rw [hx]; dsimp only; rw [if_neg (by rw [hs]; decide), ht]
    rw [show ps.length - 1 - i.toNat = (ps.length - 1 - (i.toNat + 1)) + 1 from by omega, Zd8 hsf] at hf
    refine hn _ ⟨by dsimp only; omega, by dsimp only; omega, by dsimp only; rw [hy]; simp; omega, ?_⟩ (by dsimp only; omega)
    dsimp only
    rw [hy, ei, List.append_assoc]
    exact hf
  refine ZaQ (by omega) (by omega) fun q hq => Zcc (fun hqs => go _ ?_) (fun hqs => go _ ?_)
  · unfold toP2; rw [hq]; dsimp only; rw [if_neg (by rw [hqs]; decide)]
  · unfold toP2; rw [hq]; dsimp only; rw [if_pos hqs]
theorem Exact_e {l : List Element} {ps : List Piece} {m : List Moment} {n : Int} (hml : m.length ≤ 1000000000) : Zb1 l ps m n = some (exE l ps m n) := by
  refine Ok.eq (?_ : Ok _ _)
  have eqE : decide ((1 : Int) ≤ (m.length : Int) ∧ (m.length : Int) ≤ (ps.length : Int) + 1) = decide (1 ≤ m.length ∧ m.length ≤ ps.length + 1) := decide_eq_decide.2 (by omega)
  unfold Zb1 exE
  refine ZaP Zkp ?_
  rw [eqE]
  refine Zas (fun h => ?_) (fun h => ?_)
  · by_cases hb : bE l ps (decide (1 ≤ m.length ∧ m.length ≤ ps.length + 1)) n ≠ 0
    · rw [if_pos hb, if_pos hb] at *; exact Zak rfl
    · rw [if_neg hb] at h; exact absurd rfl h
  have hb : ¬ bE l ps (decide (1 ≤ m.length ∧ m.length ≤ ps.length + 1)) n ≠ 0 := fun hb => by rw [if_pos hb] at h; exact h hb
  rw [if_neg hb, if_neg hb]
  obtain ⟨hc, hok⟩ := Zkq (Decidable.not_not.1 hb)
  have hpp := of_decide_eq_true hok
  have hl := hc.p.len
  have hbl := ZhH (ps := ps) (n := n)
  dsimp only
  refine Za4 (fun (z : List Span × Int) => 0 ≤ z.2 ∧ z.2 ≤ ps.length - 1 ∧ z.1.length = z.2.toNat ∧ z.1 ++ rows (exF l ps m n) (ps.length - 1 - z.2.toNat) z.2.toNat = rows (exF l ps m n) (ps.length - 1) 0) (fun z => ((ps.length : Int) - z.2).toNat) ⟨Int.le_refl 0, by dsimp only; omega, rfl, rfl⟩ (by simp only [ZaJ]; omega) ?_
  rintro ⟨out, i⟩ next ⟨i0, i1, ol, hf⟩ hn
  dsimp only at i0 i1 ol hf ⊢
  refine Zas (fun hi => ?_) (fun hi => Zak ?_)
  rotate_left
  · rw [show ps.length - 1 - i.toNat = 0 from by omega] at hf
    simp only [rows, List.append_nil] at hf
    rw [hf]
  have hg := Zgo (ps := ps) (n := n) (i := i.toNat) (by omega)
  have hcr := hc.c i.toNat (by omega)
  refine ZaM i0 hg (Zas (fun hs => Zak ?_) (fun hs => ?_))
  · have : exF l ps m n i.toNat = none := by unfold exF; rw [List.getElem?_eq_none (by omega)]
    rw [Ze1 this, List.append_nil] at hf
    rw [hf]
  refine ZaP (span_m hc i0 (by omega)) (ZaQ i0 (by omega) fun x hx => ?_)
  rw [Zaw (n := clr ps i.toNat n + 1) (by omega), Zaw (n := i + 1) (by omega)]
  have ei : (i + 1).toNat = i.toNat + 1 := by omega
  have go : ∀ t, t = toM m (clr ps i.toNat n + 1) → Ok (ck (decide (out.length + ([Span.mk (elOf ps i.toNat) (sdOf l ps i.toNat) x.Time t] : List Span).length ≤ 1000000000)) <| vl (out ++ ([Span.mk (elOf ps i.toNat) (sdOf l ps i.toNat) x.Time t] : List Span)) fun y => next (y, i + 1)) (fun v => v = (rows (exF l ps m n) (ps.length - 1) 0, 0)) := fun t ht => by
    refine Zbr (by simp only [List.length_cons, List.length_nil]; omega) (Zbd fun y hy => ?_)
    have hsf : exF l ps m n i.toNat = some (Span.mk (elOf ps i.toNat) (sdOf l ps i.toNat) x.Time t) := by
      unfold exF; rw [hx, ht]
    rw [show ps.length - 1 - i.toNat = (ps.length - 1 - (i.toNat + 1)) + 1 from by omega, Zd8 hsf] at hf
    refine hn _ ⟨by dsimp only; omega, by dsimp only; omega, by dsimp only; rw [hy]; simp; omega, ?_⟩ (by dsimp only; omega)
    dsimp only
    rw [hy, ei, List.append_assoc]
    exact hf
  refine Zas (fun h1 => ZaQ (by omega) h1 fun q hq => go _ ?_) (fun h1 => go _ ?_)
  · unfold toM; rw [hq]
  · unfold toM; rw [List.getElem?_eq_none (by omega)]
end Go.Hy
namespace Go.Hy
set_option linter.unusedVariables false
set_option linter.unusedSimpArgs false
set_option maxHeartbeats 2000000
set_option maxRecDepth 10000
open Go.Hy.Iv
def clsP (cl : List Interval) (ps : List Piece) : List Interval := ps.map fun p => (cl[p.Element.toNat]?).getD ⟨0, 0⟩
def resP (xs : List Int) (ps : List Piece) : List Int := ps.map fun p => (xs[p.Element.toNat]?).getD 0
def selP (xs : List Int) (ps : List Piece) : List Int := (ps.filter fun p => decide (0 < p.Power)).map fun p => (xs[p.Element.toNat]?).getD 0
section
variable {ps : List Piece} {p : Piece} {z : Int}
theorem ZjK {cl : List Interval} {x : Interval} (hz : 0 ≤ z) (hp : ps[z.toNat]? = some p) (hx : cl[p.Element.toNat]? = some x) : clsP cl (ps.take (z + 1).toNat) = clsP cl (ps.take z.toNat) ++ [x] := by
  have e : (z + 1).toNat = z.toNat + 1 := by omega
  unfold clsP
  rw [e, ZbK hp, List.map_append, List.map_cons, List.map_nil, hx]; rfl
theorem Zjh {xs : List Int} {x : Int} (hz : 0 ≤ z) (hp : ps[z.toNat]? = some p) (hx : xs[p.Element.toNat]? = some x) : resP xs (ps.take (z + 1).toNat) = resP xs (ps.take z.toNat) ++ [x] := by
  have e : (z + 1).toNat = z.toNat + 1 := by omega
  unfold resP
  rw [e, ZbK hp, List.map_append, List.map_cons, List.map_nil, hx]; rfl
theorem Zgx {xs : List Int} {x : Int} (hz : 0 ≤ z) (hp : ps[z.toNat]? = some p) (hpw : 0 < p.Power) (hx : xs[p.Element.toNat]? = some x) : selP xs (ps.take (z + 1).toNat) = selP xs (ps.take z.toNat) ++ [x] := by
  have e : (z + 1).toNat = z.toNat + 1 := by omega
  unfold selP
  rw [e, ZbK hp, List.filter_append, List.map_append, List.filter_cons, if_pos (decide_eq_true hpw), List.filter_nil, List.map_cons, List.map_nil, hx]; rfl
theorem Zgy {xs : List Int} (hz : 0 ≤ z) (hp : ps[z.toNat]? = some p) (hpw : ¬ 0 < p.Power) : selP xs (ps.take (z + 1).toNat) = selP xs (ps.take z.toNat) := by
  have e : (z + 1).toNat = z.toNat + 1 := by omega
  unfold selP
  rw [e, ZbK hp, List.filter_append, List.map_append, List.filter_cons, if_neg (by simp [hpw]), List.filter_nil, List.map_nil, List.append_nil]
theorem ZeM {α : Type} {l : List α} (hz : ¬ z < (l.length : Int)) : l.take z.toNat = l := List.take_of_length_le (by omega)
theorem ZhS {xs : List Int} : (selP xs ps).length ≤ ps.length := by
  unfold selP
  rw [List.length_map]; exact List.length_filter_le _ _
theorem ZhU {xs : List Int} : (resP xs ps).length = ps.length := by unfold resP; rw [List.length_map]
theorem Zim {cl : List Interval} : (clsP cl ps).length = ps.length := by unfold clsP; rw [List.length_map]
end
def cpth (l : List Element) (c : Rolling) : List Piece := setL (pth l c.Track) c.Length
def mot (cl : List Interval) (tg : List Int) (sp v : Int) (ps : List Piece) : Motion := ⟨⟨v, v + sp⟩, clsP cl ps, sp, selP tg ps⟩
structure PlCut (l : List Element) (cl : List Interval) (tg : List Int) (sp : Int) (c : Rolling) (ss : List Span) : Prop where
  trk : IsTr l c.Track
  len : 1 ≤ c.Length ∧ c.Length ≤ sh l
  rl : c.Resist.length = l.length
  tl : c.Targets.length = l.length
  r : ∀ (j : Nat) w i, c.Resist[j]? = some w → cl[j]? = some i → i.Lo ≤ w ∧ w ≤ i.Hi
  t : ∀ (j : Nat) w u, c.Targets[j]? = some w → tg[j]? = some u → (0 ≤ u → u - sp ≤ w ∧ w ≤ u + sp) ∧ (u < 0 → w = u)
  sl : ss.length ≤ 128
  sv : Zcb ss = some true
  m : ∃ v p, (v = 1200 ∨ v = 1500 ∨ v = 3000) ∧ (v ≤ c.Speed ∧ c.Speed ≤ v + sp) ∧ spE l (cpth l c) (psOut (cpth l c) (mot cl tg sp v (cpth l c))).1 c.Length = (ss, 0) ∧
    (psOut (cpth l c) (mot cl tg sp v (cpth l c))).1[(psOut (cpth l c) (mot cl tg sp v (cpth l c))).1.length - 1]? = some p ∧ p.Slow = false ∧ p.Stops = false ∧ p.Time.Hi ≤ 10000000
theorem PlCut.rel {l : List Element} {cl : List Interval} {tg : List Int} {sp : Int} {c : Rolling} {ss : List Span} (h : PlCut l cl tg sp c ss) (r : Int) : PlCut l cl tg sp ⟨r, c.Length, c.Track, c.Speed, c.Resist, c.Targets⟩ ss := ⟨h.trk, h.len, h.rl, h.tl, h.r, h.t, h.sl, h.sv, h.m⟩
structure Clss (l : List Element) (cl : List Interval) (tg : List Int) (sp : Int) : Prop where
  cn : cl.length = l.length
  tn : tg.length = l.length
  c : ∃ lo wd, (lo = 0 ∨ lo = 10 ∨ lo = 20) ∧ (wd = 0 ∨ wd = 5 ∨ wd = 30) ∧ ∀ (j : Nat) i x, cl[j]? = some i → l[j]? = some x → i = ⟨lo + x.Curve, lo + x.Curve + wd⟩
  t : ∀ u ∈ tg, u = -1 ∨ u = 1500 ∨ u = 3000 ∨ u = 6000
  s : sp = 0 ∨ sp = 20
structure PlanOk (p : YardgenPush) (n : Int) : Prop where
  md : Made p.Scene.Elements 4
  th : 0 ≤ p.Scene.Throw ∧ p.Scene.Throw ≤ 2500
  sl : p.Scene.Start.length ≤ p.Scene.Elements.length
  st : ∀ (i : Nat) t, p.Scene.Start[i]? = some t → (Kd p.Scene.Elements t.Element 3 ∧ Lies t.Side) ∧ ∀ (j : Nat) u, j < i → p.Scene.Start[j]? = some u → u.Element ≠ t.Element
  cm : p.Scene.Commands.length ≤ 1024
  ct : (p.Scene.Cuts.length : Int) ≤ n
  sn : p.Spans.length = p.Scene.Cuts.length
  c : ∃ cl tg sp, Clss p.Scene.Elements cl tg sp ∧ ∀ (i : Nat) c ss, p.Scene.Cuts[i]? = some c → p.Spans[i]? = some ss → PlCut p.Scene.Elements cl tg sp c ss
  ok : p.OK = true → ∃ rel, ZbO p.Spans p.Scene.Throw = some (rel, 0) ∧ rel.length = p.Scene.Cuts.length ∧ p.Releases.length = rel.length ∧ (∀ (i : Nat) c r, p.Scene.Cuts[i]? = some c → rel[i]? = some r → p.Releases[i]? = some (w64 (r + p.Scene.Throw)) ∧ c.Release = w64 (r + p.Scene.Throw)) ∧
    ZbN p.Spans p.Releases p.Scene.Throw p.Scene.Start = some (p.Scene.Commands, 0)
theorem Made.last {l : List Element} {n : Nat} (h : Made l n) : ∃ x, l[l.length - 1]? = some x ∧ x.Kind = 4 := by
  have hn := h.u.ne
  obtain ⟨x, hx⟩ : ∃ x, l[l.length - 1]? = some x := ⟨_, List.getElem?_eq_getElem (by omega)⟩
  refine ⟨x, hx, ?_⟩
  by_cases hk : x.Kind = 4
  · exact hk
  · exfalso
    have key : ∀ sd : Int, 0 ≤ sd ∧ sd ≤ 2 → (x.Kind = 3 ↔ sd ≠ 0) → False := fun sd hs hd => by
      rcases h.u.cl ⟨((l.length - 1 : Nat) : Int), sd⟩ ⟨by dsimp only; omega, hs, x, by dsimp only; rw [Int.toNat_natCast]; exact hx, hk, hd⟩ with hm | ⟨j, a, hj, ha, hp, _⟩
      · simp at hm
      · have := Zdn (h.u.ft j) ha (by omega)
        have hjl := Zbl ha
        dsimp only at hp
        omega
    by_cases h3 : x.Kind = 3
    · exact key 1 (by omega) ⟨fun _ => by omega, fun _ => h3⟩
    · exact key 0 (by omega) ⟨fun h => absurd h h3, fun h => absurd rfl h⟩
theorem ZjI {l : List Element} (h : VL l) {t n : Int} (ht : IsTr l t) (hn : 1 ≤ n ∧ n ≤ sh l) : ptE l t = (pth l t, 0) ∧ apE (pth l t) n = (setL (pth l t) n, 0) ∧ PsOk (setL (pth l t) n) ∧ ∀ p ∈ setL (pth l t) n, 1 ≤ p.Element ∧ p.Element < l.length := by
  have hl0 : lE l = 0 := by
    have h1 := h.len
    unfold lE
    rw [if_neg (by omega), if_neg (by omega), if_neg (by
      have : ∀ k, fE l k = 0 := fun k => by
        induction k with
        | zero => rfl
        | succ k ih => unfold fE; rw [if_neg (by omega)]; exact h.ft k
      rw [this]; simp), if_neg (fun hh => hh h.kid), if_neg (by have := h.trk; omega)]
  obtain ⟨g1, g2, g3⟩ := pth_ok h ht
  have hs := ZhQ h
  obtain ⟨t0, x, hx, hk⟩ := ht
  have hpl := g1.len
  have hle := sh_le hx hk
  have hpc : (pcOf l t).Length = x.Length := by unfold pcOf; rw [hx]
  refine ⟨?_, ?_, setL_ok g1 (by omega), fun p hp => ?_⟩
  · unfold ptE
    rw [if_neg (by rw [hl0]; simp), if_pos ⟨t0, x, hx, hk⟩]
  · unfold apE
    rw [Zhe g1, if_neg (by simp), if_neg (by omega), g3]
    dsimp only
    rw [if_neg (by omega)]
  · obtain ⟨i, hi⟩ := List.getElem?_of_mem hp
    obtain ⟨q1, q2, q3⟩ := Zf5 (n := n) g3 (by omega)
    by_cases e : i = (pth l t).length - 1
    · subst e
      rw [q2] at hi
      cases hi
      have := g2 _ (Za5 g3)
      exact ⟨this.1, this.2.1⟩
    · rw [q3 i e] at hi
      have := g2 p (Za5 hi)
      exact ⟨this.1, this.2.1⟩
end Go.Hy
namespace Go.Hy
set_option linter.unusedVariables false
set_option linter.unusedSimpArgs false
set_option maxHeartbeats 2000000
set_option maxRecDepth 10000
structure ScB (s : Scene) : Prop where
  nm : Nms s.Elements
  st : s.Start.length ≤ 1000000000000
theorem lE_len {l : List Element} (h : lE l = 0) : l.length ≤ 128 := (Zhz h).len.2
theorem Zj3 {s : Scene} (hb : ScB s) : Ok (Ze7 s) (VSp s) := by
  unfold Ze7
  refine ZaP (Ze6 hb.nm) (Zas (fun h => Zak (.inl ⟨h, rfl⟩)) fun h0 => ?_)
  have h0 : lE s.Elements = 0 := by omega
  have hlen := lE_len h0
  refine Zas (fun h => Zak (.inr (.inl ⟨h0, .inl (by omega), rfl⟩))) fun h1 => Zas (fun h => Zak (.inr (.inl ⟨h0, .inr (by omega), rfl⟩))) fun h2 => ?_
  have hL : ¬ Long s := by rintro (h | h) <;> omega
  refine ZaP Zhk ?_
  refine Zbp (fun b => b = true ↔ (0 ≤ s.Throw ∧ s.Throw ≤ 1000000000) ∧ ∀ (i : Nat) t, s.Start[i]? = some t → StOk' s i t) (fun b hb1 => ?_) (fun k' hk' => ?_)
  · refine Zbp (fun b2 => b2 = true ↔ b = true ∧ ∀ (i : Nat) x, s.Commands[i]? = some x → CmOk s i x) (fun b2 hb2 => ?_) (fun k' hk' => ?_)
    · refine Za4 (fun z => 0 ≤ z.2 ∧ z.2 ≤ (s.Cuts.length : Int) ∧ (z.1 = true ↔ b2 = true ∧ Upto (CtOk s) s.Cuts z.2)) (fun z => ((s.Cuts.length : Int) - z.2).toNat) ⟨Int.le_refl 0, by dsimp only; omega, fun h => ⟨h, Upto.zero⟩, fun h => h.1⟩ (by rw [ZaJ]; dsimp only; omega) fun z k ⟨hz, hzl, he⟩ hk => ?_
      refine Zas (fun h => ?_) (fun h => Zcc (fun hf => Zak (.inr (.inr (.inr ⟨h0, hL, fun sv => ?_, rfl⟩)))) (fun ht => Zak (.inr (.inr (.inl ⟨h0, hL, ?_, rfl⟩)))))
      · rw [Zaw (n := z.2 + 1) (by omega)]
        obtain ⟨c, hc⟩ : ∃ c, s.Cuts[z.2.toNat]? = some c := ⟨_, List.getElem?_eq_getElem (by omega : z.2.toNat < s.Cuts.length)⟩
        have no : ¬ (b2 = true ∧ Upto (CtOk s) s.Cuts (z.2 + 1)) → Ok (k (false, z.2 + 1)) (VSp s) := fun hn => hk _ ⟨by dsimp only; omega, by dsimp only; omega, fun h => by simp at h, fun h => absurd h hn⟩ (by dsimp only; omega)
        refine ok_b (fun hz1 => ?_) (fun hz1 => no fun hh => ?_)
        · obtain ⟨hbt, hu⟩ := he.1 hz1
          refine ZaM hz hc (Zbt (rcut_ok (by omega)) fun q hq => ok_b (fun hqt => Zas (fun hz0 => ?_) fun hz0 => ZaM hz hc ?_) (fun hqf => no fun hh => ?_))
          · refine hk _ ⟨by dsimp only; omega, by dsimp only; omega, fun _ => ⟨hbt, hu.step hz hc ⟨hq.1 hqt, fun d h1 _ => by omega⟩⟩, fun _ => rfl⟩ (by dsimp only; omega)
          · rw [Zaw (n := z.2 - 1) (by omega)]
            refine ZaQ (by omega) (by omega) fun d hd => ?_
            have e1 : (z.2 - 1).toNat = z.2.toNat - 1 := by omega
            rw [e1] at hd
            refine hk _ ⟨by dsimp only; omega, by dsimp only; omega, fun h => ⟨hbt, hu.step hz hc ⟨hq.1 hqt, fun d' _ hd' => ?_⟩⟩, fun hh => ?_⟩ (by dsimp only; omega)
            · rw [hd] at hd'; cases hd'; exact of_decide_eq_true h
            · exact decide_eq_true (((Upto.iff hz hc).1 hh.2).2.2 d (by omega) hd)
          · have := hq.2 ((Upto.iff hz hc).1 hh.2).2.1
            rw [hqf] at this; simp at this
        · have := he.2 ⟨hh.1, ((Upto.iff hz hc).1 hh.2).1⟩
          rw [hz1] at this; simp at this
      · have := he.2 ⟨hb2.2 ⟨hb1.2 ⟨sv.th, sv.st⟩, sv.cm⟩, fun i a _ ha => sv.ct i a ha⟩
        rw [hf] at this; simp at this
      · obtain ⟨g1, g2⟩ := he.1 ht
        obtain ⟨g3, g4⟩ := hb2.1 g1
        obtain ⟨g5, g6⟩ := hb1.1 g3
        exact ⟨g5, g6, g4, g2.all h⟩
    · refine Za4 (fun z => 0 ≤ z.2 ∧ z.2 ≤ (s.Commands.length : Int) ∧ (z.1 = true ↔ b = true ∧ Upto (CmOk s) s.Commands z.2)) (fun z => ((s.Commands.length : Int) - z.2).toNat) ⟨Int.le_refl 0, by dsimp only; omega, fun h => ⟨h, Upto.zero⟩, fun h => h.1⟩ (by rw [ZaJ]; dsimp only; omega) fun z k ⟨hz, hzl, he⟩ hk => ?_
      refine Zas (fun h => ZaQ hz h fun x hx => ?_) (fun h => hk' _ ⟨fun hh => ⟨(he.1 hh).1, (he.1 hh).2.all h⟩, fun hh => he.2 ⟨hh.1, fun i a _ ha => hh.2 i a ha⟩⟩)
      rw [Zaw (n := z.2 + 1) (by omega)]
      have no : ¬ (z.1 = true ∧ CmOk s z.2.toNat x) → Ok (k (false, z.2 + 1)) (VSp s) := fun hn => hk _ ⟨by dsimp only; omega, by dsimp only; omega, fun h => by simp at h, fun hh => absurd ⟨he.2 ⟨hh.1, ((Upto.iff hz hx).1 hh.2).1⟩, ((Upto.iff hz hx).1 hh.2).2⟩ hn⟩ (by dsimp only; omega)
      refine ok_b (fun hz1 => ZaP Zhk (Zas (fun ht => Zbt ZfN fun q hq => ok_b (fun hqt => Zas (fun hc => hk _ ⟨by dsimp only; omega, by dsimp only; omega, fun hd => ⟨(he.1 hz1).1, (he.1 hz1).2.step hz hx ⟨ht, hq.1 hqt, hc, of_decide_eq_true hd⟩⟩, fun hh => decide_eq_true ((Upto.iff hz hx).1 hh.2).2.2.2.2⟩ (by dsimp only; omega)) (fun hc => no fun hh => hc hh.2.2.2.1)) (fun hqf => no fun hh => ?_)) (fun ht => no fun hh => ht hh.2.1))) (fun hz1 => no fun hh => by rw [hz1] at hh; simp at hh)
      have := hq.2 hh.2.2.1
      rw [hqf] at this; simp at this
  · refine Za4 (fun z => 0 ≤ z.2 ∧ z.2 ≤ (s.Start.length : Int) ∧ (z.1 = true ↔ (0 ≤ s.Throw ∧ s.Throw ≤ 1000000000) ∧ Upto (StOk' s) s.Start z.2)) (fun z => ((s.Start.length : Int) - z.2).toNat) ⟨Int.le_refl 0, by dsimp only; omega, fun h => ⟨of_decide_eq_true h, Upto.zero⟩, fun h => decide_eq_true h.1⟩ (by have := hb.st; rw [ZaJ]; dsimp only; omega) fun z k ⟨hz, hzl, he⟩ hk => ?_
    have hbs := hb.st
    refine Zas (fun h => ?_) (fun h => hk' _ ⟨fun hh => ⟨(he.1 hh).1, (he.1 hh).2.all h⟩, fun hh => he.2 ⟨hh.1, fun i a _ ha => hh.2 i a ha⟩⟩)
    obtain ⟨t, ht⟩ : ∃ t, s.Start[z.2.toNat]? = some t := ⟨_, List.getElem?_eq_getElem (by omega : z.2.toNat < s.Start.length)⟩
    refine Zbp (fun b => b = true ↔ z.1 = true ∧ Kd s.Elements t.Element 3 ∧ Lies t.Side) (fun b hb3 => ?_) (fun k3 hk3 => ?_)
    · refine Za4 (fun y => 0 ≤ y.2 ∧ y.2 ≤ z.2 ∧ (y.1 = true ↔ b = true ∧ ∀ (j : Nat) u, (j : Int) < y.2 → s.Start[j]? = some u → u.Element ≠ t.Element)) (fun y => (z.2 - y.2).toNat) ⟨Int.le_refl 0, hz, fun h => ⟨h, fun j u hj _ => by dsimp only at hj; omega⟩, fun h => h.1⟩ (by rw [ZaJ]; dsimp only; omega) fun y k2 ⟨hy, hyl, hye⟩ hk2 => ?_
      refine Zas (fun h2 => ?_) (fun h2 => ?_)
      · rw [Zaw (n := y.2 + 1) (by omega)]
        refine ok_b (fun hy1 => ZaQ hy (by omega) fun u hu => ZaM hz ht (hk2 _ ⟨by dsimp only; omega, by dsimp only; omega, fun hd => ⟨(hye.1 hy1).1, fun j v hj hv => ?_⟩, fun hh => decide_eq_true (hh.2 y.2.toNat u (by dsimp only; omega) hu)⟩ (by dsimp only; omega))) (fun hy0 => hk2 _ ⟨by dsimp only; omega, by dsimp only; omega, fun h => by simp at h, fun hh => ?_⟩ (by dsimp only; omega))
        · dsimp only at hj
          by_cases hjy : (j : Int) < y.2
          · exact (hye.1 hy1).2 j v hjy hv
          · have e : j = y.2.toNat := by omega
            subst e
            rw [hu] at hv; cases hv; exact of_decide_eq_true hd
        · have := hye.2 ⟨hh.1, fun j v hj hv => hh.2 j v (by dsimp only; omega) hv⟩
          rw [hy0] at this; simp at this
      · rw [Zaw (n := z.2 + 1) (by omega)]
        refine hk _ ⟨by dsimp only; omega, by dsimp only; omega, fun h => ?_, fun hh => ?_⟩ (by dsimp only; omega)
        · obtain ⟨g1, g2⟩ := hye.1 h
          obtain ⟨g3, g4⟩ := hb3.1 g1
          obtain ⟨g5, g6⟩ := he.1 g3
          exact ⟨g5, g6.step hz ht ⟨g4, fun j u hj hu => g2 j u (by omega) hu⟩⟩
        · have g := (Upto.iff hz ht).1 hh.2
          exact hye.2 ⟨hb3.2 ⟨he.2 ⟨hh.1, g.1⟩, g.2.1⟩, fun j u hj hu => g.2.2 j u (by omega) hu⟩
    · refine ok_b (fun hz1 => ZaM hz ht (ZaM hz ht (Zbt ZfN fun q hq => hk3 _ ⟨fun h => ⟨hz1, hq.1 h⟩, fun h => hq.2 h.2⟩))) (fun hz1 => hk3 _ ⟨fun h => by simp at h, fun h => by rw [hz1] at h; simp at h⟩)
theorem hin_e {n lo hi : Int} : Zcx n lo hi = some (decide (lo ≤ n ∧ n ≤ hi)) := by
  refine Ok.eq (?_ : Ok _ _)
  unfold Zcx
  exact Zas (fun h => Zak (by simp [h])) (fun h => Zak (by simp [h]))
theorem Zgi {l : List Element} {i k : Int} (hl : l.length ≤ 1000000000) : Ok (Zc7 l i k) fun b => b = true ↔ Kd l i k := by
  unfold Zc7
  rw [Zaw (by omega)]
  refine ZaP hin_e (Zas (fun h => ZaQ h.1 (by omega) fun x hx => Zak ⟨fun hd => ⟨h.1, x, hx, of_decide_eq_true hd⟩, ?_⟩) (fun h => Zak ⟨fun h => by simp at h, fun hk => ?_⟩))
  · rintro ⟨_, y, hy, hk⟩
    rw [hx] at hy; cases hy; exact decide_eq_true hk
  · obtain ⟨g1, y, hy, _⟩ := hk
    have := Zbl hy
    exact absurd ⟨g1, by omega⟩ h
theorem Zih {s : Int} : Ok (Zdl s) fun b => b = true ↔ Lies s := by
  unfold Zdl
  exact Zas (fun h => Zak ⟨fun _ => .inl h, fun _ => rfl⟩) (fun h => Zak ⟨fun hd => .inr (of_decide_eq_true hd), fun hh => decide_eq_true (hh.resolve_left h)⟩)
theorem ZeB {β : Type} {Q : β → Prop} {n lo hi : Int} {A B : Option β} (hA : ¬ (lo ≤ n ∧ n ≤ hi) → Ok A Q) (hB : lo ≤ n ∧ n ≤ hi → Ok B Q) : Ok (bd (Zcx n lo hi) fun v => cond (!v) A B) Q := ZdA hin_e hA hB
theorem ZhE {l : List Element} {c : Rolling} (hl : l.length ≤ 1000000000) : Ok (ZcK l c (sh l)) fun b => b = true ↔ RlOk l c := by
  unfold ZcK
  have no : ¬ RlOk l c → Ok (some false) fun b => b = true ↔ RlOk l c := fun hn => Zak ⟨fun h => by simp at h, fun h => absurd h hn⟩
  refine ZeB (fun h => no fun hh => h hh.rel) fun h1 => ZeB (fun h => no fun hh => h hh.len) fun h2 => Zbt (Zgi hl) fun q hq => Zcc (fun h => no fun hh => ?_) fun h3 => ZeB (fun h => no fun hh => h hh.sp) fun h4 => Zas (fun h => no fun hh => h (by rw [hh.rl])) fun h5 => Zas (fun h => no fun hh => h (by rw [hh.tl])) fun h6 => ?_
  · have := hq.2 hh.trk
    rw [h] at this; simp at this
  · refine Za4 (fun z => 0 ≤ z ∧ z ≤ (l.length : Int) ∧ RT c.Resist c.Targets z) (fun z => ((l.length : Int) - z).toNat) ⟨Int.le_refl 0, by omega, Upto.zero, Upto.zero⟩ (by rw [ZaJ]; omega) fun z k ⟨hz, hzl, hr, ht⟩ hk => ?_
    refine Zas (fun h => ZaQ hz (by omega) fun a ha => ZeB (fun hn => no fun hh => ?_) fun hw => ZaQ hz (by omega) fun t htt => ZeB (fun hn => no fun hh => ?_) fun hu => ?_) (fun h => Zak ⟨fun _ => ?_, fun _ => rfl⟩)
    · have := List.all_eq_true.1 hh.r a (List.mem_of_getElem? ha)
      unfold wB at this
      exact hn (of_decide_eq_true this)
    · have := List.all_eq_true.1 hh.t t (List.mem_of_getElem? htt)
      unfold tB at this
      exact hn (of_decide_eq_true this)
    · rw [Zaw (by omega)]
      exact hk _ ⟨by omega, by omega, hr.step hz ha (by unfold wB; exact decide_eq_true hw), ht.step hz htt (by unfold tB; exact decide_eq_true hu)⟩ (by omega)
    · exact ⟨h1, h2, hq.1 h3, h4, by omega, by omega, ZdL.2 fun i a _ ha => hr i a (by have := Zbl ha; omega) ha, ZdL.2 fun i a _ ha => ht i a (by have := Zbl ha; omega) ha⟩
theorem Zkl {s : Scene} (hb : ScB s) : Ok (ZbV s) (VSp s) := by
  unfold ZbV
  refine ZaP (Valid_e hb.nm) (Zas (fun h => Zak (.inl ⟨h, rfl⟩)) fun h0 => ?_)
  have h0 : lE s.Elements = 0 := by omega
  have hlen := lE_len h0
  refine Zas (fun h => Zak (.inr (.inl ⟨h0, .inl (by omega), rfl⟩))) fun h1 => Zas (fun h => Zak (.inr (.inl ⟨h0, .inr (by omega), rfl⟩))) fun h2 => ?_
  have hL : ¬ Long s := by rintro (h | h) <;> omega
  have no : ¬ SVt s → Ok (some (1 : Int)) (VSp s) := fun hn => Zak (.inr (.inr (.inr ⟨h0, hL, hn, rfl⟩)))
  refine ZeB (fun h => no fun sv => h sv.th) fun hth => ?_
  refine Zbp (fun _ => ∀ (i : Nat) t, s.Start[i]? = some t → StOk' s i t) (fun _ hst => ?_) (fun k' hk' => ?_)
  · refine Zbp (fun _ => ∀ (i : Nat) x, s.Commands[i]? = some x → CmOk s i x) (fun _ hcm => ?_) (fun k' hk' => ?_)
    · refine ZaP (ZhD (by omega)) ?_
      refine Za4 (fun z => 0 ≤ z ∧ z ≤ (s.Cuts.length : Int) ∧ Upto (CtOk s) s.Cuts z) (fun z => ((s.Cuts.length : Int) - z).toNat) ⟨Int.le_refl 0, by omega, Upto.zero⟩ (by rw [ZaJ]; omega) fun z k ⟨hz, hzl, hu⟩ hk => ?_
      refine Zas (fun h => ZaQ hz h fun c hc => Zbt (ZhE (by omega)) fun q hq => Zcc (fun hf => no fun sv => ?_) fun ht => ?_) (fun h => Zak (.inr (.inr (.inl ⟨h0, hL, ⟨hth, hst, hcm, hu.all h⟩, rfl⟩))))
      · have := hq.2 (sv.ct _ c hc).1
        rw [hf] at this; simp at this
      · rw [Zaw (n := z + 1) (by omega)]
        refine Zas (fun hz0 => ?_) (fun hz0 => hk _ ⟨by omega, by omega, hu.step hz hc ⟨hq.1 ht, fun d h1 _ => by omega⟩⟩ (by omega))
        rw [Zaw (n := z - 1) (by omega)]
        refine ZaQ (by omega) (by omega) fun d hd => ?_
        have e1 : (z - 1).toNat = z.toNat - 1 := by omega
        rw [e1] at hd
        refine Zas (fun hlt => no fun sv => ?_) (fun hlt => hk _ ⟨by omega, by omega, hu.step hz hc ⟨hq.1 ht, fun d' _ hd' => ?_⟩⟩ (by omega))
        · have := (sv.ct _ c hc).2 d (by omega) hd
          omega
        · rw [hd] at hd'; cases hd'; omega
    · refine Za4 (fun z => 0 ≤ z ∧ z ≤ (s.Commands.length : Int) ∧ Upto (CmOk s) s.Commands z) (fun z => ((s.Commands.length : Int) - z).toNat) ⟨Int.le_refl 0, by omega, Upto.zero⟩ (by rw [ZaJ]; omega) fun z k ⟨hz, hzl, hu⟩ hk => ?_
      refine Zas (fun h => ZaQ hz h fun x hx => ZeB (fun hn => no fun sv => hn (sv.cm _ x hx).1) fun ht => Zbt (Zgi (by omega)) fun q hq => Zcc (fun hf => no fun sv => ?_) fun hqt => Zbt Zih fun r hr => Zcc (fun hf => no fun sv => ?_) fun hrt => Zbd fun y hy => ZeB (fun hn => no fun sv => hn ?_) fun hc => ?_) (fun h => hk' _ (hu.all h))
      · have := hq.2 (sv.cm _ x hx).2.1.1
        rw [hf] at this; simp at this
      · have := hr.2 (sv.cm _ x hx).2.1.2
        rw [hf] at this; simp at this
      · have := (sv.cm _ x hx).2.2
        rw [hy, Zaw (by omega)]; omega
      · rw [hy, Zaw (by omega)] at hc
        rw [Zaw (n := z + 1) (by omega)]
        exact hk _ ⟨by omega, by omega, hu.step hz hx ⟨ht, ⟨hq.1 hqt, hr.1 hrt⟩, by omega, by omega⟩⟩ (by omega)
  · have hbs := hb.st
    refine Za4 (fun z => 0 ≤ z.2 ∧ z.2 ≤ (s.Start.length : Int) ∧ Upto (StOk' s) s.Start z.2 ∧ ∀ e, inS e z.1 = true ↔ ∃ (j : Nat) (u : Throw), (j : Int) < z.2 ∧ s.Start[j]? = some u ∧ u.Element = e) (fun z => ((s.Start.length : Int) - z.2).toNat) ⟨Int.le_refl 0, by dsimp only; omega, Upto.zero, fun e => ⟨fun h => by simp [inS] at h, fun ⟨j, u, hj, _⟩ => by dsimp only at hj; omega⟩⟩ (by rw [ZaJ]; dsimp only; omega) fun z k ⟨hz, hzl, hu, hs⟩ hk => ?_
    refine Zas (fun h => ZaQ hz h fun t ht => Zbt (Zgi (by omega)) fun q hq => Zcc (fun hf => no fun sv => ?_) fun hqt => ok_b (fun hin => no fun sv => ?_) fun hin => Zbt Zih fun r hr => Zcc (fun hf => no fun sv => ?_) fun hrt => Zjx hin (Zbd fun y hy => ?_)) (fun h => hk' _ (hu.all h))
    · have := hq.2 (sv.st _ t ht).1.1
      rw [hf] at this; simp at this
    · obtain ⟨j, u, hj, hju, he⟩ := (hs _).1 hin
      exact (sv.st _ t ht).2 j u (by omega) hju he
    · have := hr.2 (sv.st _ t ht).1.2
      rw [hf] at this; simp at this
    · rw [Zaw (n := z.2 + 1) (by omega)]
      have fresh : ∀ (j : Nat) u, j < z.2.toNat → s.Start[j]? = some u → u.Element ≠ t.Element := fun j u hj hju he => by
        have := (hs t.Element).2 ⟨j, u, by omega, hju, he⟩
        rw [hin] at this; simp at this
      refine hk _ ⟨by dsimp only; omega, by dsimp only; omega, hu.step hz ht ⟨⟨hq.1 hqt, hr.1 hrt⟩, fresh⟩, fun e => ?_⟩ (by dsimp only; omega)
      dsimp only
      rw [hy]
      have hh : inS e (z.1 ++ [t.Element]) = true ↔ inS e z.1 = true ∨ t.Element = e := by simp [inS]
      rw [hh, hs]
      constructor
      · rintro (⟨j, u, hj, hju, he⟩ | he)
        · exact ⟨j, u, by omega, hju, he⟩
        · exact ⟨z.2.toNat, t, by omega, ht, he⟩
      · rintro ⟨j, u, hj, hju, he⟩
        by_cases hjz : (j : Int) < z.2
        · exact .inl ⟨j, u, hjz, hju, he⟩
        · have e2 : j = z.2.toNat := by omega
          subst e2
          rw [ht] at hju; cases hju
          exact .inr he
theorem Zis {s : Scene} (hb : ScB s) : ∃ e, Ze7 s = some e ∧ ZbV s = some e ∧ VSp s e := by
  obtain ⟨e, h1, h2⟩ := Zj3 hb
  obtain ⟨f, h3, h4⟩ := Zkl hb
  have := h2.uniq h4
  subst this
  exact ⟨e, h1, h3, h2⟩
theorem VSp.sv {s : Scene} (h : VSp s 0) : lE s.Elements = 0 ∧ ¬ Long s ∧ SVt s := by
  rcases h with ⟨h1, h2⟩ | ⟨h1, h2, h3⟩ | ⟨h1, h2, h3, h4⟩ | ⟨h1, h2, h3, h4⟩
  · exact absurd h2.symm h1
  · omega
  · exact ⟨h1, h2, h3⟩
  · omega
end Go.Hy
namespace Go.Hy
set_option linter.unusedVariables false
set_option linter.unusedSimpArgs false
set_option maxHeartbeats 2000000
set_option maxRecDepth 10000
open Go.Hy.Iv
theorem Point_m {ps : List Piece} {r : Run} (hp : PsOk ps) (hr : RunOk ps r) : ZcD ps r = some (ptAll ps r, ptStop ps r, 0) := by
  refine Ok.eq (?_ : Ok _ _)
  have hl := hp.len
  have hnr := Zgc ps
  obtain ⟨h1, h2, h3, h4, h5⟩ := hr
  unfold ZcD
  refine ZaP (ZjO hp) (Zcn (by decide) (Zcn (by omega) (ZaP (Ze4 (by omega)) (Zcn (by omega) ?_))))
  refine Zbp (fun _ => True) (fun _ _ => ?_) (fun k hk => ?_)
  rotate_left
  · refine Za4 (fun (z : Int) => 0 ≤ z) (fun z => ((r.Resist.length : Int) - z).toNat) (Int.le_refl 0) (by simp only [ZaJ]; omega) ?_
    intro z next z0 hn
    refine Zas (fun h => ZaQ z0 h fun a ha => ?_) (fun _ => hk _ trivial)
    refine ZdA (in_m _ _ _) (fun h => absurd (h4 a (Zfj ha)) h) fun _ => ?_
    rw [Zaw (by omega)]
    exact hn _ (by omega) (by omega)
  refine ZdA (in_m _ _ _) (fun h => absurd h3 h) fun _ => ?_
  refine ZaP (Zi1 (by omega) h5) ?_
  have hq := Zhi (v := r.Speed) (by omega)
  have hq2 : r.Speed * r.Speed ≤ 400000000 := Zc8 (b := 20000) h3.1 h3.2
  rw [Zaw (n := r.Speed * r.Speed) (by omega)]
  refine Za4 (fun (z : Int × Int × List Moment × Int × Int) => ∃ x, MomOk x z.2.2.2.2.toNat ∧ z.1 = x.Time ∧ z.2.1 = x.Energy ∧ 0 ≤ z.2.2.2.1 ∧ 0 ≤ z.2.2.2.2 ∧ z.2.2.2.2 ≤ ps.length ∧ z.2.2.1.length = z.2.2.2.2.toNat + 1 ∧
      z.2.2.2.1.toNat + nret (ps.drop z.2.2.2.2.toNat) = r.Targets.length ∧ z.2.2.1 ++ ptRun (ps.drop z.2.2.2.2.toNat) (r.Resist.drop z.2.2.2.2.toNat) (r.Targets.drop z.2.2.2.1.toNat) x = ptAll ps r)
    (fun z => ((ps.length : Int) - z.2.2.2.2).toNat) ?_ ?_ ?_
  · exact ⟨pt0 r, ⟨by dsimp only [pt0]; omega, by dsimp only [pt0]; omega, by dsimp only [pt0]; omega, by dsimp only [pt0]; omega⟩, rfl, rfl, by dsimp only; omega, by dsimp only; omega, by dsimp only; omega, rfl, by dsimp only; simp [h2], rfl⟩
  · simp only [ZaJ]; omega
  rintro ⟨t, e, out, k, i⟩ next ⟨x, hx, e1, e2, k0, i0, i1, ol, kn, hf⟩ hn
  dsimp only at hx e1 e2 k0 i0 i1 ol kn hf ⊢
  subst e1 e2
  have hlen : (ptAll ps r).length = 1 + (ptRun ps r.Resist r.Targets (pt0 r)).length := by simp [ptAll]; omega
  refine Zas (fun hi => ?_) (fun hi => Zak ?_)
  rotate_left
  · have : ps.drop i.toNat = [] := List.drop_eq_nil_of_le (by omega)
    rw [this] at hf
    simp only [ptRun, List.append_nil] at hf
    rw [hf] at ol ⊢
    unfold ptStop
    rw [if_pos (by omega)]
  refine ZaQ i0 hi fun p hpi => ?_
  have hpo := hp.ok p (Zfj hpi)
  obtain ⟨m0, m1, m2, m3⟩ := hx
  have stop : ∀ w, r.Resist[i.toNat]? = some w → ptStep p w (tgOf p (r.Targets.drop k.toNat)) x = none → (out, i, (0 : Int)) = (ptAll ps r, ptStop ps r, 0) := fun w hw hs => by
    rw [Zb9 hpi, Zb9 hw, ZcS (by simpa using hs), List.append_nil] at hf
    rw [hf] at ol ⊢
    unfold ptStop
    rw [if_neg (by omega)]
    simp only [Prod.mk.injEq, true_and, and_true]
    omega
  have go : ∀ w y k', r.Resist[i.toNat]? = some w → Wr w → ptStep p w (tgOf p (r.Targets.drop k.toNat)) x = some y → (0 < p.Power → k' = k + 1) → (¬ 0 < p.Power → k' = k) →
      Ok (ck (decide (out.length + ([(Moment.mk y.Time y.Energy)] : List Moment).length ≤ 1000000000)) <| vl (out ++ ([(Moment.mk y.Time y.Energy)] : List Moment)) fun o => next (y.Time, y.Energy, o, k', w64 (i + 1))) (fun v => v = (ptAll ps r, ptStop ps r, 0)) := by
    intro w y k' hw hwr hs hk1 hk2
    have hy := Zfd (i := i.toNat) hpo hwr ⟨m0, m1, m2, m3⟩ hs
    have ei : (i + 1).toNat = i.toNat + 1 := by omega
    refine Zbr (by simp; omega) (Zbd fun o ho => ?_)
    subst ho
    rw [Zaw (by omega)]
    rw [Zb9 hpi, Zb9 hw, ZcR (by simpa using hs)] at hf
    rw [Zb9 hpi] at kn
    simp only [nret] at kn
    refine hn _ ⟨y, by dsimp only; rw [ei]; exact hy, rfl, rfl, ?_, by dsimp only; omega, by dsimp only; omega, by simp; omega, ?_, ?_⟩ (by dsimp only; omega)
    · dsimp only; by_cases h : 0 < p.Power
      · have := hk1 h; omega
      · have := hk2 h; omega
    · dsimp only
      rw [ei]
      by_cases h : 0 < p.Power
      · rw [if_pos h] at kn; have := hk1 h; omega
      · rw [if_neg h] at kn; have := hk2 h; omega
    · dsimp only
      rw [ei, ← hf, List.append_assoc]
      congr 1
      simp only [List.singleton_append, List.cons.injEq, true_and, List.tail_cons, tsOf]
      by_cases h : 0 < p.Power
      · rw [if_pos h, hk1 h, List.tail_drop]
        congr 3
        omega
      · rw [if_neg h, hk2 h]
  refine ZaP (Zja m0 (by omega)) ?_
  have hiw : i.toNat < r.Resist.length := by omega
  refine ZaQ i0 (by omega) fun w hw => ?_
  have hwr := h4 w (Zfj hw)
  have hg := ZiT hpo hwr
  have b0 := ZeD m0 (by omega)
  refine ZaP (gain_m hpo hwr) ?_
  dsimp only
  rw [Zaw (n := x.Energy + gd p w) (by omega)]
  refine Zas (fun hs => Zak (stop w hw (by unfold ptStep; rw [if_pos hs]))) (fun hs => ?_)
  have b1 := ZeD (n := x.Energy + gd p w) (by omega) (by omega)
  refine ZaP (Zja (by omega) (by omega)) ?_
  dsimp only
  rw [Zaw (n := isq x.Energy + isq (x.Energy + gd p w)) (by omega)]
  refine Zas (fun hz => Zak (stop w hw (by unfold ptStep; rw [if_neg hs, if_pos hz]))) (fun hz => ?_)
  have hpl := hpo.l
  have hpw := hpo.p
  have hu := ZiX (x := 2000 * p.Length) (d := isq x.Energy + isq (x.Energy + gd p w)) (by omega) (by omega)
  rw [Zaw (n := 2000 * p.Length) (by omega), Zaw (n := 2000 * p.Length + isq x.Energy) (by omega)]
  refine Zbd fun x25 hx25 => ?_
  have e25 : x25 + isq (x.Energy + gd p w) - 1 = 2000 * p.Length + (isq x.Energy + isq (x.Energy + gd p w)) - 1 := by omega
  rw [Zaw (n := x25 + isq (x.Energy + gd p w)) (by omega), Zaw (n := x25 + isq (x.Energy + gd p w) - 1) (by omega), e25]
  refine Zbr hz ?_
  rw [Int.tdiv_eq_ediv_of_nonneg (by omega), ← up_eq (by omega) (by omega), Zaw (n := up (2000 * p.Length) (isq x.Energy + isq (x.Energy + gd p w))) (by omega)]
  refine Zbd fun x27 hx27 => ?_
  rw [Zaw (n := x.Time + x27) (by omega), Int.min_comm, hx27]
  refine Zbd fun x28 hx28 => ?_
  have st : ∀ E, E = bk p (tgOf p (r.Targets.drop k.toNat)) (x.Energy + gd p w) → ptStep p w (tgOf p (r.Targets.drop k.toNat)) x = some ⟨x28, E⟩ := fun E hE => by
    unfold ptStep; rw [if_neg hs, if_neg hz, hx28, hE]
  rw [Zb9 hpi] at kn
  simp only [nret] at kn
  refine Zas (fun hpp => ?_) (fun hpp => ?_)
  · rw [if_pos hpp] at kn
    refine ZaQ k0 (by omega) fun tg htg => ?_
    have htt := h5 tg (Zfj htg)
    have etg : tgOf p (r.Targets.drop k.toNat) = tg := by unfold tgOf; rw [if_pos hpp, Zb9 htg]; rfl
    rw [Zaw (n := k + 1) (by omega)]
    refine Zas (fun ht => ?_) (fun ht => ?_)
    · have hsq := Zhi (v := tg) (by omega)
      rw [Zaw (n := tg * tg) (by omega), Zaw (by omega)]
      refine Zbd fun x31 hx31 => Zbd fun x32 hx32 => ?_
      exact go w ⟨x28, max x31 x32⟩ (k + 1) hw hwr (st _ (by rw [etg]; unfold bk; rw [if_pos ⟨hpp, ht⟩, hx31, hx32])) (fun _ => rfl) (fun h => absurd hpp h)
    · exact go w ⟨x28, x.Energy + gd p w⟩ (k + 1) hw hwr (st _ (by rw [etg]; unfold bk; rw [if_neg (by omega)])) (fun _ => rfl) (fun h => absurd hpp h)
  · exact go w ⟨x28, x.Energy + gd p w⟩ k hw hwr (st _ (by unfold bk; rw [if_neg (by omega)])) (fun h => absurd h hpp) (fun _ => rfl)
end Go.Hy
namespace Go.Hy
set_option linter.unusedVariables false
set_option linter.unusedSimpArgs false
set_option maxHeartbeats 2000000
set_option maxRecDepth 10000
open Go.Hy.Iv
abbrev CP (i s : Int) (x : Element) : Prop := x.Kind ≠ 0 ∧ x.Parent = i ∧ x.Side = s
def chN (l : List Element) (i s : Int) : Nat → Nat → Int
  | 0, _ => -1
  | k + 1, j => match l[j]? with
    | none => -1
    | some x => if CP i s x then (j : Int) else chN l i s k (j + 1)
def chF (l : List Element) (i s : Int) : Int := chN l i s l.length 0
theorem ZjM {l : List Element} {i s : Int} (hl : l.length ≤ 1000000000) : ZcU l i s = some (chF l i s) := by
  refine Ok.eq (?_ : Ok _ _)
  unfold ZcU
  refine Za4 (fun z => 0 ≤ z ∧ z ≤ (l.length : Int) ∧ chN l i s (l.length - z.toNat) z.toNat = chF l i s) (fun z => ((l.length : Int) - z).toNat) ⟨Int.le_refl 0, by omega, rfl⟩ (by rw [ZaJ]; omega) fun z k ⟨hz, hzl, he⟩ hk => ?_
  refine Zas (fun h => ZaQ hz h fun x hx => ?_) (fun h => Zak ?_)
  · have e : l.length - z.toNat = (l.length - (z + 1).toNat) + 1 := by omega
    have e2 : (z + 1).toNat = z.toNat + 1 := by omega
    rw [e, chN, hx] at he
    dsimp only at he
    rw [Zaw (by omega)]
    have no : ¬ CP i s x → Ok (k (z + 1)) (· = chF l i s) := fun hn => hk _ ⟨by omega, by omega, by rw [if_neg hn, ← e2] at he; exact he⟩ (by omega)
    refine Zas (fun h1 => Zas (fun h2 => Zas (fun h3 => Zak ?_) (fun h3 => no fun hh => h3 hh.2.2)) (fun h2 => no fun hh => h2 hh.2.1)) (fun h1 => no fun hh => h1 hh.1)
    rw [if_pos ⟨h1, h2, h3⟩] at he
    omega
  · have e : l.length - z.toNat = 0 := by omega
    rw [e, chN] at he
    exact he
theorem Zip {l : List Element} {i s : Int} : ∀ (k j : Nat), l.length ≤ k + j → (∃ (m : Nat) (x : Element), chN l i s k j = m ∧ j ≤ m ∧ l[m]? = some x ∧ CP i s x) ∨ (chN l i s k j = -1 ∧ ∀ (m : Nat) x, j ≤ m → l[m]? = some x → ¬ CP i s x)
  | 0, j => fun h => .inr ⟨rfl, fun m x hm hx => by have := Zbl hx; omega⟩
  | k + 1, j => fun h => by
    rw [chN]
    cases hx : l[j]? with
    | none => exact .inr ⟨rfl, fun m y hm hy => by have := Zbl hy; rw [List.getElem?_eq_none_iff] at hx; omega⟩
    | some x =>
      dsimp only
      split
      · rename_i hc
        exact .inl ⟨j, x, rfl, Nat.le_refl _, hx, hc⟩
      · rename_i hc
        rcases Zip (l := l) (i := i) (s := s) k (j + 1) (by omega) with ⟨m, y, h1, h2, h3, h4⟩ | ⟨h1, h2⟩
        · exact .inl ⟨m, y, h1, by omega, h3, h4⟩
        · refine .inr ⟨h1, fun m y hm hy => ?_⟩
          by_cases e : m = j
          · subst e; rw [hx] at hy; cases hy; exact hc
          · exact h2 m y (by omega) hy
theorem ZhA {l : List Element} {i : Int} : ∀ k, 1 ≤ kds l i k → ∃ (j : Nat) (y : Element), j < k ∧ 1 ≤ j ∧ l[j]? = some y ∧ y.Parent = i
  | 0 => fun h => by simp [kds] at h
  | k + 1 => fun h => by
    rw [kds] at h
    by_cases hk : 1 ≤ kds l i k
    · obtain ⟨j, y, h1, h2⟩ := ZhA k hk
      exact ⟨j, y, by omega, h2⟩
    · split at h
      · rename_i hc
        obtain ⟨h1, h2⟩ := hc
        cases hx : l[k]? with
        | none => rw [hx] at h2; simp at h2
        | some x => rw [hx] at h2; exact ⟨k, x, by omega, h1, hx, by simpa using h2⟩
      · omega
theorem Zjy {l : List Element} {i : Int} : ∀ k, 2 ≤ kds l i k → ∃ (j m : Nat) (y z : Element), j < m ∧ m < k ∧ 1 ≤ j ∧ l[j]? = some y ∧ y.Parent = i ∧ l[m]? = some z ∧ z.Parent = i
  | 0 => fun h => by simp [kds] at h
  | k + 1 => fun h => by
    rw [kds] at h
    by_cases hk : 2 ≤ kds l i k
    · obtain ⟨j, m, y, z, h1, h2, h3⟩ := Zjy k hk
      exact ⟨j, m, y, z, h1, by omega, h3⟩
    · split at h
      · rename_i hc
        obtain ⟨h1, h2⟩ := hc
        obtain ⟨j, y, g1, g2, g3, g4⟩ := ZhA (l := l) (i := i) k (by omega)
        cases hx : l[k]? with
        | none => rw [hx] at h2; simp at h2
        | some x => rw [hx] at h2; exact ⟨j, k, y, x, g1, by omega, g2, g3, g4, hx, by simpa using h2⟩
      · omega
theorem Zio {l : List Element} (h : VL l) {i : Nat} {x : Element} (hx : l[i]? = some x) (h4 : x.Kind ≠ 4) {s : Int} (h3 : x.Kind = 3 → Lies s) (h0 : x.Kind ≠ 3 → s = 0) : ∃ (j : Nat) (y : Element), chF l i s = j ∧ i < j ∧ l[j]? = some y ∧ y.Kind ≠ 0 := by
  have hi := Zbl hx
  have kid := h.kid i hi x hx
  -- a child's place
  have place : ∀ (j : Nat) y, 1 ≤ j → l[j]? = some y → y.Parent = i → (¬ (x.Kind = 3 ↔ y.Side = 0)) ∧ PlFree l j y ∧ y.Kind ≠ 0 ∧ (0 ≤ y.Side ∧ y.Side ≤ 2) := fun j y hj hy hp => by
    have ft := h.ft j
    have el := (h.el hy).2 (by omega)
    have eb := el.1
    unfold elB at eb
    rw [decide_eq_true_iff] at eb
    unfold ftE at ft
    rw [hy] at ft
    dsimp only at ft
    split at ft
    · omega
    · split at ft
      · omega
      · split at ft
        · omega
        · split at ft
          · omega
          · have hx' : l[y.Parent.toNat]? = some x := by rw [hp, Int.toNat_natCast]; exact hx
            rw [hx'] at ft
            dsimp only at ft
            split at ft
            · omega
            · rename_i g1
              split at ft
              · omega
              · rename_i g2
                exact ⟨fun hh => g1 (.inr hh), Decidable.not_not.1 g2, el.2.1, eb.2.2.2.2.1⟩
  have ex : ∃ (j : Nat) (y : Element), 1 ≤ j ∧ l[j]? = some y ∧ y.Parent = i ∧ y.Side = s := by
    by_cases hk : x.Kind = 3
    · have hs := h3 hk
      unfold wantK at kid
      rw [if_pos hk] at kid
      obtain ⟨j, m, y, z, h1, h2, h5, hy, hpy, hz, hpz⟩ := Zjy _ kid
      have py := place j y h5 hy hpy
      have pz := place m z (by omega) hz hpz
      have n1 : y.Side ≠ 0 := fun e => py.1 ⟨fun _ => e, fun _ => hk⟩
      have n2 : z.Side ≠ 0 := fun e => pz.1 ⟨fun _ => e, fun _ => hk⟩
      have n3 : y.Side ≠ z.Side := fun e => pz.2.1 j h1 h5 (by rw [hy, Option.map_some, hpy, hpz, e])
      have r1 := py.2.2.2
      have r2 := pz.2.2.2
      by_cases e : y.Side = s
      · exact ⟨j, y, h5, hy, hpy, e⟩
      · exact ⟨m, z, by omega, hz, hpz, by rcases hs with hs | hs <;> omega⟩
    · have hs := h0 hk
      unfold wantK at kid
      rw [if_neg hk, if_neg h4] at kid
      obtain ⟨j, y, h1, h2, hy, hp⟩ := ZhA _ kid
      have py := place j y h2 hy hp
      refine ⟨j, y, h2, hy, hp, ?_⟩
      by_cases e : y.Side = 0
      · rw [e, hs]
      · exact absurd ⟨fun h => absurd h hk, fun h => absurd h e⟩ py.1
  obtain ⟨j, y, hj, hy, hp, hs⟩ := ex
  have py := place j y hj hy hp
  rcases Zip (l := l) (i := (i : Int)) (s := s) l.length 0 (by omega) with ⟨m, z, e, _, hz, hc⟩ | ⟨_, hn⟩
  · have := h.par hz
    exact ⟨m, z, e, by have := hc.2.1; omega, hz, hc.1⟩
  · exact absurd ⟨py.2.2.1, hp, hs⟩ (hn j y (by omega) hy)
end Go.Hy
namespace Go.Hy
set_option linter.unusedVariables false
set_option linter.unusedSimpArgs false
set_option maxHeartbeats 2000000
set_option maxRecDepth 10000
open Go.Hy.Iv
def rnOf (c : Rolling) (ps : List Piece) : Run := ⟨c.Speed, resP c.Resist ps, selP c.Targets ps⟩
theorem Ze0 {xs : List Int} : ∀ {ps : List Piece}, (selP xs ps).length = nret ps
  | [] => rfl
  | p :: ps => by
    have ih := Ze0 (xs := xs) (ps := ps)
    unfold selP at ih ⊢
    unfold nret
    rw [List.filter_cons]
    by_cases hp : 0 < p.Power
    · rw [if_pos (decide_eq_true hp), if_pos hp, List.map_cons, List.length_cons, ih]; omega
    · rw [if_neg (by simp [hp]), if_neg hp, ih]; omega
theorem Zii {f : Int → Bool} {xs : List Int} (h : xs.all f = true) (h0 : f 0 = true) (e : Nat) : f ((xs[e]?).getD 0) = true := by
  cases hx : xs[e]? with
  | none => exact h0
  | some x => exact List.all_eq_true.1 h x (Za5 hx)
theorem rn_ok {l : List Element} {c : Rolling} (hc : RlOk l c) {ps : List Piece} : RunOk ps (rnOf c ps) := by
  refine rE_ok ⟨ZhU, Ze0⟩ ⟨?_, hc.sp, ?_⟩
  · show (resP c.Resist ps).all wB = true
    unfold resP
    rw [List.all_map, List.all_eq_true]
    exact fun p _ => Zii hc.r (by decide) _
  · show (selP c.Targets ps).all tB = true
    unfold selP
    rw [List.all_map, List.all_eq_true]
    exact fun p _ => Zii hc.t (by decide) _
abbrev InL (l : List Element) (ps : List Piece) : Prop := ∀ p ∈ ps, 0 ≤ p.Element ∧ p.Element < l.length
theorem run_e {l : List Element} {c : Rolling} (hc : RlOk l c) {ps : List Piece} (hp : PsOk ps) (hi : InL l ps) : ZdH ps c = some (ptAll ps (rnOf c ps), ptStop ps (rnOf c ps)) := by
  refine Ok.eq (?_ : Ok _ _)
  have hl := hp.len
  have h1 := hc.rl
  have h2 := hc.tl
  unfold ZdH
  refine Zbp (fun z => z.1 = resP c.Resist ps ∧ z.2 = selP c.Targets ps) (fun z ⟨hz1, hz2⟩ => ?_) (fun k hk => ?_)
  · rw [hz1, hz2]
    refine ZaP (Point_m hp (rn_ok hc)) (Zak rfl)
  · refine Za4 (fun z => 0 ≤ z.2.2 ∧ z.2.2 ≤ (ps.length : Int) ∧ z.1 = resP c.Resist (ps.take z.2.2.toNat) ∧ z.2.1 = selP c.Targets (ps.take z.2.2.toNat)) (fun z => ((ps.length : Int) - z.2.2).toNat) ⟨Int.le_refl 0, by dsimp only; omega, by simp [resP], by simp [selP]⟩ (by rw [ZaJ]; dsimp only; omega) fun z k2 ⟨z0, z1, zr, zt⟩ hk2 => ?_
    refine Zas (fun h => ZaQ z0 h fun p hpp => ?_) (fun h => hk _ ⟨by dsimp only; rw [zr, ZeM h], by dsimp only; rw [zt, ZeM h]⟩)
    have hpe := hi p (Za5 hpp)
    have l1 : z.1.length ≤ ps.length := by rw [zr, ZhU, List.length_take]; omega
    have l2 : z.2.1.length ≤ ps.length := by rw [zt]; exact Nat.le_trans ZhS (by rw [List.length_take]; omega)
    refine ZaQ hpe.1 (by omega) fun r hr => Zbr (by simp only [List.length_singleton]; omega) (Zbd fun y1 hy1 => ?_)
    have s1 := Zjh z0 hpp hr
    rw [Zaw (n := z.2.2 + 1) (by omega)]
    refine Zas (fun hpw => ZaQ hpe.1 (by omega) fun u hu => Zbr (by simp only [List.length_singleton]; omega) (Zbd fun y2 hy2 => ?_)) (fun hpw => ?_)
    · exact hk2 _ ⟨by dsimp only; omega, by dsimp only; omega, by dsimp only; rw [hy1, s1, zr], by dsimp only; rw [hy2, Zgx z0 hpp hpw hu, zt]⟩ (by dsimp only; omega)
    · exact hk2 _ ⟨by dsimp only; omega, by dsimp only; omega, by dsimp only; rw [hy1, s1, zr], by dsimp only; rw [Zgy z0 hpp hpw, zt]⟩ (by dsimp only; omega)
def entF (c : Rolling) (ps : List Piece) : Int × Bool :=
  if ps.length = 0 then (c.Release, true) else if 0 ≤ ptStop ps (rnOf c ps) then (0, false) else
  match (ptAll ps (rnOf c ps))[(ptAll ps (rnOf c ps)).length - 1]? with
  | none => (0, false)
  | some m => (w64 (c.Release + m.Time), true)
theorem ZeO {ps : List Piece} {r : Run} : 1 ≤ (ptAll ps r).length ∧ (ptAll ps r).length ≤ ps.length + 1 := by
  unfold ptAll
  have := Zj8 (ps := ps) (ws := r.Resist) (ts := r.Targets) (x := pt0 r)
  rw [List.length_cons]; omega
theorem entry_e {l : List Element} {c : Rolling} (hc : RlOk l c) {ps : List Piece} (hp : ps.length = 0 ∨ PsOk ps) (hi : InL l ps) : Zdm ps c = some (entF c ps) := by
  refine Ok.eq (?_ : Ok _ _)
  unfold Zdm entF
  refine Zas (fun h => Zak (by rw [if_pos (by omega)])) (fun h => ?_)
  rw [if_neg (by omega)]
  have hp := hp.resolve_left (by omega)
  have hl := hp.len
  have hm := ZeO (ps := ps) (r := rnOf c ps)
  refine ZaP (run_e hc hp hi) (Zas (fun h => Zak (by rw [if_pos h])) (fun h => ?_))
  rw [if_neg h]
  dsimp only
  rw [Zaw (n := ((ptAll ps (rnOf c ps)).length : Int) - 1) (by omega)]
  refine ZaQ (by omega) (by omega) fun m hmm => Zak ?_
  have e : ((((ptAll ps (rnOf c ps)).length : Nat) : Int) - 1).toNat = (ptAll ps (rnOf c ps)).length - 1 := by omega
  rw [e] at hmm
  rw [hmm]
def ov (a b : Span) : Bool := decide (a.Element = b.Element) && (decide (a.From < b.To) && decide (b.From < a.To))
theorem Zg6 {a b : Span} : Zcp a b = some (decide (a.From < b.To) && decide (b.From < a.To)) := by
  refine Ok.eq (?_ : Ok _ _)
  unfold Zcp
  exact Zas (fun h => Zak (by simp [h])) (fun h => Zak (by simp [h]))
def meN (x : Span) : List Ride → Nat → Int
  | [], _ => -1
  | r :: rs, j => if r.Spans.any (ov x) then (j : Int) else meN x rs (j + 1)
theorem ZjN {α : Type} {f : α → Bool} {l : List α} (h : Scan (fun a => !f a) l l.length) : l.any f = false := by
  have := h.2
  rw [Int.toNat_natCast, List.take_length] at this
  rw [List.any_eq_false]
  intro a ha hf
  have := List.all_eq_true.1 this a ha
  rw [hf] at this; simp at this
theorem meets_e {p : HumpPush} {x : Span} (hl : p.frides.length ≤ 1000000000) (hs : ∀ r ∈ p.frides, r.Spans.length ≤ 1000000000) : Zb5 p x = some (meN x p.frides 0) := by
  refine Ok.eq (?_ : Ok _ _)
  unfold Zb5
  refine Za4 (fun z => 0 ≤ z ∧ z ≤ (p.frides.length : Int) ∧ meN x (p.frides.drop z.toNat) z.toNat = meN x p.frides 0) (fun z => ((p.frides.length : Int) - z).toNat) ⟨Int.le_refl 0, by omega, rfl⟩ (by rw [ZaJ]; omega) fun z k ⟨z0, z1, ze⟩ hk => ?_
  refine Zas (fun h => ZaQ z0 h fun r hr => ?_) (fun h => Zak ?_)
  · have hrl := hs r (Za5 hr)
    rw [Zb9 hr, meN] at ze
    refine Za4 (fun y => 0 ≤ y ∧ y ≤ (r.Spans.length : Int) ∧ Scan (fun a => !ov x a) r.Spans y) (fun y => ((r.Spans.length : Int) - y).toNat) ⟨Int.le_refl 0, by omega, Scan.zero⟩ (by rw [ZaJ]; omega) fun y k2 ⟨y0, y1, ys⟩ hk2 => ?_
    refine Zas (fun h2 => ZaQ y0 h2 fun b hb => ?_) (fun h2 => ?_)
    · rw [Zaw (n := y + 1) (by omega)]
      have go : ov x b = false → Ok (k2 (y + 1)) (· = meN x p.frides 0) := fun hov => hk2 _ ⟨by omega, by omega, ys.step hb (by rw [hov]; rfl)⟩ (by omega)
      refine Zas (fun he => ZaP Zg6 (ok_b (fun ht => Zak ?_) (fun hf => go ?_))) (fun he => go ?_)
      · rw [if_pos (List.any_eq_true.2 ⟨b, Za5 hb, by unfold ov; rw [decide_eq_true he, ht]; rfl⟩)] at ze
        omega
      · unfold ov; rw [hf]; simp
      · unfold ov; rw [decide_eq_false he]; rfl
    · rw [Zaw (n := z + 1) (by omega)]
      have e : (r.Spans.length : Int) = y := by omega
      rw [if_neg (by rw [ZjN (e ▸ ys)]; simp)] at ze
      have e2 : (z + 1).toNat = z.toNat + 1 := by omega
      exact hk _ ⟨by omega, by omega, by rw [e2]; exact ze⟩ (by omega)
  · rw [List.drop_eq_nil_of_le (by omega), meN] at ze
    exact ze
def movF (th : Int) (done : List (Int × List Command)) (x : Command) : Bool := (listOf x.Element done).any (fun d => decide (x.Time < w64 (d.Time + th))) && decide (0 < th)
theorem Zke {p : HumpPush} {x : Command} (hl : (listOf x.Element p.fdone).length ≤ 1000000000) : ZbT p x = some (movF p.fs.Throw p.fdone x) := by
  refine Ok.eq (?_ : Ok _ _)
  unfold ZbT movF
  refine Zbd fun n hn => ?_
  subst hn
  refine Za4 (fun y => 0 ≤ y ∧ y ≤ ((listOf x.Element p.fdone).length : Int) ∧ Scan (fun d => !decide (x.Time < w64 (d.Time + p.fs.Throw))) (listOf x.Element p.fdone) y) (fun y => (((listOf x.Element p.fdone).length : Int) - y).toNat) ⟨Int.le_refl 0, by omega, Scan.zero⟩ (by rw [ZaJ]; omega) fun y k2 ⟨y0, y1, ys⟩ hk2 => ?_
  refine Zas (fun h2 => ZaQ y0 h2 fun b hb => Zas (fun hlt => Zak ?_) (fun hge => ?_)) (fun h2 => Zak ?_)
  · rw [List.any_eq_true.2 ⟨b, Za5 hb, decide_eq_true hlt⟩]; rfl
  · rw [Zaw (n := y + 1) (by omega)]
    exact hk2 _ ⟨by omega, by omega, ys.step hb (by rw [decide_eq_false hge]; rfl)⟩ (by omega)
  · have e : ((listOf x.Element p.fdone).length : Int) = y := by omega
    rw [ZjN (e ▸ ys)]; rfl
def sideF (th : Int) (start : List (Int × Int)) (done : List (Int × List Command)) (i t : Int) : Int × Bool :=
  match (listOf i done).reverse.find? (fun c => decide (c.Time ≤ t)) with
  | some c => (c.Side, decide (t < w64 (c.Time + th)))
  | none => if (mfind keyP i start).isSome then (intOf i start, false) else (1, false)
theorem side_e {p : HumpPush} {i t : Int} (hl : (listOf i p.fdone).length ≤ 1000000000) : Zci p i t = some (sideF p.fs.Throw p.fstart p.fdone i t) := by
  refine Ok.eq (?_ : Ok _ _)
  unfold Zci
  refine Zbp (fun _ => (listOf i p.fdone).reverse.find? (fun c => decide (c.Time ≤ t)) = none) (fun _ hn => ?_) (fun k hk => ?_)
  · unfold sideF
    rw [hn]
    dsimp only
    refine ok_b (fun hb => Zak (by rw [if_pos hb])) (fun hb => Zak (by rw [if_neg (by rw [hb]; simp)]))
  · refine Zbd fun n hn => ?_
    subst hn
    rw [Zaw (n := ((listOf i p.fdone).length : Int) - 1) (by omega)]
    refine Za4 (fun z => -1 ≤ z ∧ z < ((listOf i p.fdone).length : Int) ∧ ((listOf i p.fdone).take (z + 1).toNat).reverse.find? (fun c => decide (c.Time ≤ t)) = (listOf i p.fdone).reverse.find? (fun c => decide (c.Time ≤ t))) (fun z => (z + 1).toNat) ⟨by omega, by omega, by rw [List.take_of_length_le (by omega)]⟩ (by rw [ZaJ]; omega) fun z k2 ⟨z0, z1, ze⟩ hk2 => ?_
    refine Zas (fun h => ZaQ h z1 fun c hc => ?_) (fun h => hk _ ?_)
    · have e : (z + 1).toNat = z.toNat + 1 := by omega
      rw [e, ZbK hc, List.reverse_append, List.reverse_singleton, List.singleton_append, List.find?_cons] at ze
      refine Zas (fun ht => ZaM h hc (ZaM h hc (Zak ?_))) (fun ht => ?_)
      · rw [decide_eq_true ht] at ze
        dsimp only at ze
        unfold sideF
        rw [← ze]
      · rw [decide_eq_false ht] at ze
        dsimp only at ze
        rw [Zaw (n := z - 1) (by omega)]
        refine hk2 _ ⟨by omega, by omega, ?_⟩ (by omega)
        have e2 : z - 1 + 1 = z := by omega
        rw [e2]; exact ze
    · have e : (z + 1).toNat = 0 := by omega
      rw [e, List.take_zero, List.reverse_nil, List.find?_nil] at ze
      exact ze.symm
end Go.Hy
namespace Go.Hy
set_option linter.unusedVariables false
set_option linter.unusedSimpArgs false
set_option maxHeartbeats 2000000
set_option maxRecDepth 10000
open Go.Hy.Iv
abbrev Done := List (Int × List Command)
def pcX (i : Int) (x : Element) (len : Int) : Piece := ⟨i, len, x.Grade, x.Curve, x.Power⟩
def swF (s : Scene) (start : List (Int × Int)) (done : Done) (k : Int) (c : Rolling) (ps : List Piece) (i : Int) (x : Element) (inc : List Incident) : List Incident × Int :=
  if x.Kind = 3 then
    if (entF c ps).2 = true then
      (if (sideF s.Throw start done i (entF c ps).1).2 = true then inc ++ [⟨2, k, -1, i, (entF c ps).1⟩] else inc, (sideF s.Throw start done i (entF c ps).1).1)
    else (inc, 1)
  else (inc, 0)
def pathF (s : Scene) (start : List (Int × Int)) (done : Done) (k : Int) (c : Rolling) : Nat → List Incident → List Piece → Int → List Incident × List Piece
  | 0, inc, ps, _ => (inc, ps)
  | n + 1, inc, ps, i => if i < 1 then (inc, ps) else match s.Elements[i.toNat]? with
    | none => (inc, ps)
    | some x => if x.Kind = 4 then (inc, ps ++ [pcX i x c.Length]) else
      pathF s start done k c n (swF s start done k c ps i x inc).1 (ps ++ [pcX i x x.Length]) (chF s.Elements i (swF s start done k c ps i x inc).2)
theorem ch_up {l : List Element} (h : VL l) {i s : Int} : chF l i s < 1 ∨ i < chF l i s := by
  rcases Zip (l := l) (i := i) (s := s) l.length 0 (by omega) with ⟨m, z, e, _, hz, hc⟩ | ⟨e, _⟩
  · have := h.par hz
    refine .inr ?_
    unfold chF
    rw [e, ← hc.2.1]; omega
  · exact .inl (by unfold chF; omega)
theorem ZiL {s : Scene} (h : VL s.Elements) {start : List (Int × Int)} {done : Done} {k : Int} {c : Rolling} : ∀ (n m : Nat) (inc : List Incident) (ps : List Piece) (i : Int), (i < 1 ∨ s.Elements.length ≤ n + i.toNat) → (i < 1 ∨ s.Elements.length ≤ m + i.toNat) → pathF s start done k c n inc ps i = pathF s start done k c m inc ps i := by
  intro n
  induction n with
  | zero =>
    intro m inc ps i h1 h2
    cases m with
    | zero => rfl
    | succ m =>
      rw [pathF, pathF]
      by_cases hi : i < 1
      · rw [if_pos hi]
      · rw [if_neg hi, List.getElem?_eq_none (by omega)]
  | succ n ih =>
    intro m inc ps i h1 h2
    cases m with
    | zero =>
      rw [pathF, pathF]
      by_cases hi : i < 1
      · rw [if_pos hi]
      · rw [if_neg hi, List.getElem?_eq_none (by omega)]
    | succ m =>
      rw [pathF, pathF]
      by_cases hi : i < 1
      · rw [if_pos hi, if_pos hi]
      · rw [if_neg hi, if_neg hi]
        cases hx : s.Elements[i.toNat]? with
        | none => rfl
        | some x =>
          dsimp only
          split
          · rfl
          · have := ch_up h (i := i) (s := (swF s start done k c ps i x inc).2)
            exact ih m _ _ _ (by omega) (by omega)
def shiftF (c : Rolling) (y : Span) : Span := ⟨y.Element, y.Side, w64 (y.From + c.Release), if y.To = 1000000000 then 2000000000 else w64 (y.To + c.Release)⟩
def rideF (l : List Element) (c : Rolling) (ps : List Piece) : Ride :=
  ⟨if ptStop ps (rnOf c ps) < 0 ∨ ptStop ps (rnOf c ps) = (ps.length : Int) - 1 then ((ps[ps.length - 1]?).map (·.Element)).getD (-1) else -1, (exE l ps (ptAll ps (rnOf c ps)) c.Length).1.map (shiftF c)⟩
def metF (k : Int) (sp : List Span) : List Ride → Nat → List Incident
  | [], _ => []
  | r :: rs, j => (match sp.find? (fun x => r.Spans.any (ov x)) with
    | none => []
    | some x => [⟨3, k, j, x.Element, x.From⟩]) ++ metF k sp rs (j + 1)
def cmdF (th k : Int) (rides : List Ride) (st : Done × List Incident) (x : Command) : Done × List Incident :=
  if x.Cut = k then
    if 0 ≤ meN ⟨x.Element, 0, x.Time, w64 (x.Time + th)⟩ rides 0 ∨ movF th st.1 x = true then (st.1, st.2 ++ [⟨1, x.Cut, meN ⟨x.Element, 0, x.Time, w64 (x.Time + th)⟩ rides 0, x.Element, x.Time⟩])
    else (mput (fun p => p.1) (x.Element, listOf x.Element st.1 ++ [x]) st.1, st.2)
  else st
def startF (s : Scene) : List (Int × Int) := s.Start.foldl (fun m t => mput keyP (t.Element, t.Side) m) []
structure PSt where
  done : Done
  rides : List Ride
  inc : List Incident
def stepF (s : Scene) (st : PSt) (k : Int) (c : Rolling) : PSt :=
  let a := s.Commands.foldl (cmdF s.Throw k st.rides) (st.done, st.inc)
  let b := pathF s (startF s) a.1 k c s.Elements.length a.2 [] (chF s.Elements 0 0)
  let r := rideF s.Elements c b.2
  ⟨a.1, st.rides ++ [r], (b.1 ++ metF k r.Spans st.rides 0) ++ (if r.Track ≠ c.Track then [⟨4, k, -1, -1, 0⟩] else [])⟩
def runN (s : Scene) : Nat → PSt
  | 0 => ⟨[], [], []⟩
  | n + 1 => match s.Cuts[n]? with
    | none => runN s n
    | some c => stepF s (runN s n) n c
theorem Zev {e : Int} {l : List Command} : ∀ {m : Done}, listOf e (mput (fun p => p.1) (e, l) m) = l ∧ ∀ d, d ≠ e → listOf d (mput (fun p => p.1) (e, l) m) = listOf d m
  | [] => by
    refine ⟨?_, fun d hd => ?_⟩
    · unfold listOf mput mfind; simp
    · unfold listOf mput mfind mfind; simp [Ne.symm hd]
  | b :: m => by
    obtain ⟨ih1, ih2⟩ := Zev (e := e) (l := l) (m := m)
    unfold mput
    by_cases hb : b.1 = e
    · rw [if_pos hb]
      refine ⟨?_, fun d hd => ?_⟩
      · unfold listOf mfind; simp
      · unfold listOf
        rw [mfind, mfind, if_neg (Ne.symm hd), if_neg (by rw [hb]; exact Ne.symm hd)]
    · rw [if_neg hb]
      refine ⟨?_, fun d hd => ?_⟩
      · unfold listOf at ih1 ⊢
        rw [mfind, if_neg hb]; exact ih1
      · have := ih2 d hd
        unfold listOf at this ⊢
        rw [mfind, mfind]
        split
        · rfl
        · exact this
theorem Zfp {e v : Int} : ∀ {m : List (Int × Int)}, (intOf e (mput keyP (e, v) m) = v ∧ (mfind keyP e (mput keyP (e, v) m)).isSome = true) ∧ ∀ d, d ≠ e → intOf d (mput keyP (e, v) m) = intOf d m ∧ (mfind keyP d (mput keyP (e, v) m)).isSome = (mfind keyP d m).isSome
  | [] => by
    refine ⟨?_, fun d hd => ?_⟩
    · unfold intOf mput mfind keyP; simp
    · unfold intOf mput mfind mfind keyP; simp [Ne.symm hd]
  | b :: m => by
    obtain ⟨⟨ih1, ih3⟩, ih2⟩ := Zfp (e := e) (v := v) (m := m)
    unfold mput
    by_cases hb : keyP b = keyP (e, v)
    · rw [if_pos hb]
      have hb : keyP b = e := hb
      refine ⟨?_, fun d hd => ?_⟩
      · unfold intOf mfind; simp [keyP]
      · unfold intOf
        rw [mfind, mfind, if_neg (by unfold keyP; exact Ne.symm hd), if_neg (by rw [hb]; exact Ne.symm hd)]
        exact ⟨rfl, rfl⟩
    · rw [if_neg hb]
      have hb : ¬ keyP b = e := hb
      refine ⟨?_, fun d hd => ?_⟩
      · unfold intOf at ih1 ⊢
        rw [mfind, if_neg hb]; exact ⟨ih1, ih3⟩
      · have := ih2 d hd
        unfold intOf at this ⊢
        rw [mfind, mfind]
        split
        · exact ⟨rfl, rfl⟩
        · exact this
end Go.Hy
namespace Go.Hy
set_option linter.unusedVariables false
set_option linter.unusedSimpArgs false
set_option maxHeartbeats 2000000
set_option maxRecDepth 10000
open Go.Hy.Iv
structure SV (s : Scene) : Prop where
  l0 : lE s.Elements = 0
  cm : s.Commands.length ≤ 1024
  ct : s.Cuts.length ≤ 96
  sl : s.Start.length ≤ 1000000000000
  v : SVt s
theorem ZfX {α β : Type} {f : β → α → β} {b : β} {l : List α} {z : Int} {a : α} (hz : 0 ≤ z) (ha : l[z.toNat]? = some a) : (l.take (z + 1).toNat).foldl f b = f ((l.take z.toNat).foldl f b) a := by
  have e : (z + 1).toNat = z.toNat + 1 := by omega
  rw [e, ZbK ha, List.foldl_append]; rfl
theorem Zi9 {f : Nat → Option Span} : ∀ {k i : Nat}, (rows f k i).length ≤ k
  | 0, i => by simp [rows]
  | k + 1, i => by
    rw [rows]
    cases f i with
    | none => simp
    | some s => dsimp only; rw [List.length_cons]; have := Zi9 (f := f) (k := k) (i := i + 1); omega
theorem exE_len {l : List Element} {ps : List Piece} {m : List Moment} {n : Int} : (exE l ps m n).1.length ≤ ps.length := by
  unfold exE
  split
  · simp
  · have := Zi9 (f := exF l ps m n) (k := ps.length - 1) (i := 0)
    dsimp only; omega
theorem find_at {α : Type} {f : α → Bool} {l : List α} {z : Int} {a : α} (hs : Scan (fun x => !f x) l z) (ha : l[z.toNat]? = some a) (hf : f a = true) : l.find? f = some a := by
  have e : l = l.take z.toNat ++ a :: l.drop (z.toNat + 1) := by rw [← Zb9 ha, List.take_append_drop]
  rw [e, List.find?_append, List.find?_eq_none.2 (fun x hx hfx => by
    have := List.all_eq_true.1 hs.2 x hx
    rw [hfx] at this; simp at this), Option.none_or, List.find?_cons, hf]
theorem find_no {α : Type} {f : α → Bool} {l : List α} {z : Int} (hs : Scan (fun x => !f x) l z) (hz : ¬ z < (l.length : Int)) : l.find? f = none := by
  rw [List.find?_eq_none]
  intro x hx hfx
  have := List.all_eq_true.1 (hs.done hz) x hx
  rw [hfx] at this; simp at this
theorem pcX_ok {l : List Element} (h : VL l) {i : Int} {x : Element} (hi : 1 ≤ i) (hx : l[i.toNat]? = some x) {len : Int} (hl : 1 ≤ len ∧ len ≤ 1000000) : PieceOk (pcX i x len) := by
  have el := (h.el hx).2 (by omega)
  have eb := el.1
  unfold elB at eb
  rw [decide_eq_true_iff] at eb
  have hlt := Zbl hx
  have hv := h.len
  obtain ⟨_, _, g3, g4, _, g6, g7⟩ := eb
  refine ⟨⟨by show 0 ≤ i; omega, by show i ≤ 127; omega⟩, hl, g3, g4, ?_⟩
  show 0 ≤ x.Power ∧ x.Power ≤ 1000000000
  by_cases hk : x.Kind = 2
  · have := g6 hk; omega
  · have := g7 hk; omega
theorem PsOk.snoc {ps : List Piece} {p : Piece} (h : ps.length = 0 ∨ PsOk ps) (hl : ps.length ≤ 127) (hp : PieceOk p) : PsOk (ps ++ [p]) := by
  refine ⟨by simp; omega, fun q hq => ?_⟩
  rw [List.mem_append, List.mem_singleton] at hq
  rcases hq with hq | hq
  · rcases h with h | h
    · rw [List.length_eq_zero_iff] at h; rw [h] at hq; simp at hq
    · exact h.ok q hq
  · rw [hq]; exact hp
abbrev StL (m : List (Int × Int)) : Prop := ∀ d, (mfind keyP d m).isSome = true → Lies (intOf d m)
theorem StL.put {m : List (Int × Int)} (h : StL m) {e v : Int} (hv : Lies v) : StL (mput keyP (e, v) m) := fun d hd => by
  obtain ⟨⟨g1, _⟩, g2⟩ := Zfp (e := e) (v := v) (m := m)
  by_cases hde : d = e
  · rw [hde, g1]; exact hv
  · rw [(g2 d hde).1]
    rw [(g2 d hde).2] at hd
    exact h d hd
structure DnOk (n : Nat) (d : Done) : Prop where
  l : ∀ e, (listOf e d).length ≤ n
  s : ∀ e, ∀ x ∈ listOf e d, Lies x.Side
theorem DnOk.put {n : Nat} {d : Done} (h : DnOk n d) {x : Command} (hx : Lies x.Side) : DnOk (n + 1) (mput (fun p => p.1) (x.Element, listOf x.Element d ++ [x]) d) := by
  obtain ⟨g1, g2⟩ := Zev (e := x.Element) (l := listOf x.Element d ++ [x]) (m := d)
  refine ⟨fun e => ?_, fun e y hy => ?_⟩
  · by_cases he : e = x.Element
    · rw [he, g1, List.length_append, List.length_singleton]; have := h.l x.Element; omega
    · rw [g2 e he]; have := h.l e; omega
  · by_cases he : e = x.Element
    · rw [he, g1, List.mem_append, List.mem_singleton] at hy
      rcases hy with hy | hy
      · exact h.s _ y hy
      · rw [hy]; exact hx
    · rw [g2 e he] at hy; exact h.s e y hy
theorem DnOk.up {n m : Nat} {d : Done} (h : DnOk n d) (hm : n ≤ m) : DnOk m d := ⟨fun e => Nat.le_trans (h.l e) hm, h.s⟩
theorem ZfK {th i t : Int} {start : List (Int × Int)} {d : Done} {n : Nat} (hs : StL start) (hd : DnOk n d) : Lies (sideF th start d i t).1 := by
  unfold sideF
  cases hf : (listOf i d).reverse.find? (fun c => decide (c.Time ≤ t)) with
  | some c =>
    have := List.mem_of_find?_eq_some hf
    rw [List.mem_reverse] at this
    exact hd.s i c this
  | none =>
    dsimp only
    split
    · rename_i h; exact hs i h
    · exact .inl rfl
structure RInv (s : Scene) (n : Nat) (st : PSt) : Prop where
  rl : st.rides.length = n
  sp : ∀ r ∈ st.rides, r.Spans.length ≤ 128
  il : st.inc.length ≤ 2000 * n
  dn : DnOk (1024 * n) st.done
abbrev RQ (s : Scene) (v : List Ride × List Incident × Int) : Prop := v = ((runN s s.Cuts.length).rides, (runN s s.Cuts.length).inc, 0) ∧ RInv s s.Cuts.length (runN s s.Cuts.length)
theorem Zf0 {s : Scene} (h : SV s) (hv : ZbV s = some 0) : Ok (ZcO s) (RQ s) := by
  have vl := Zhz h.l0
  have hlen := vl.len
  have hcm := h.cm
  have hct := h.ct
  have hsl := h.sl
  have hsh := ZhQ vl
  have hth := h.v.th
  unfold ZcO
  refine ZaP hv (Zcn (by simp) ?_)
  refine Zbp (fun z => z = startF s ∧ StL z) (fun z8 ⟨e8, s8⟩ => ?_) (fun k10 hk10 => ?_)
  · subst e8
    refine Zbp (fun z => z = ((runN s s.Cuts.length).done, (runN s s.Cuts.length).rides, (runN s s.Cuts.length).inc) ∧ RInv s s.Cuts.length (runN s s.Cuts.length)) (fun z13 ⟨e13, ri⟩ => Zak ⟨by rw [e13], ri⟩) (fun k15 hk15 => ?_)
    refine Za4 (fun z => 0 ≤ z.2.2.2 ∧ z.2.2.2 ≤ (s.Cuts.length : Int) ∧ runN s z.2.2.2.toNat = ⟨z.1, z.2.1, z.2.2.1⟩ ∧ RInv s z.2.2.2.toNat ⟨z.1, z.2.1, z.2.2.1⟩) (fun z => ((s.Cuts.length : Int) - z.2.2.2).toNat) ⟨Int.le_refl 0, by dsimp only; omega, rfl, rfl, fun r hr => by simp at hr, by simp, fun e => by simp [listOf, mfind], fun e x hx => by simp [listOf, mfind] at hx⟩ (by rw [ZaJ]; dsimp only; omega) fun z19 k21 ⟨z0, z1, zr, zi⟩ hk21 => ?_
    obtain ⟨zdone, zrides, zinc, zk⟩ := z19
    dsimp only at z0 z1 zr zi hk21 ⊢
    have irl := zi.rl
    have isp := zi.sp
    have iil := zi.il
    have idn := zi.dn
    dsimp only at irl isp iil idn
    refine Zas (fun hlt => ZaQ z0 hlt fun c hc => ?_) (fun hge => hk15 _ ?_)
    · have hrl := (h.v.ct _ c hc).1
      have hcl := hrl.len
      refine Zbp (fun w => w = s.Commands.foldl (cmdF s.Throw zk zrides) (zdone, zinc) ∧ w.2.length ≤ zinc.length + 1024 ∧ DnOk (1024 * zk.toNat + 1024) w.1) (fun w ⟨ew, wl, wd⟩ => ?_) (fun k34 hk34 => ?_)
      · obtain ⟨wdone, winc⟩ := w
        dsimp only at wl wd ew ⊢
        have hdl : ∀ e, (listOf e wdone).length ≤ 1000000000 := fun e => by have := wd.l e; omega
        refine ZaM z0 hc (ZaM z0 hc (ZaP (ZjM (by omega)) ?_))
        have hroot : ∃ x, s.Elements[0]? = some x := ⟨_, List.getElem?_eq_getElem (by omega)⟩
        obtain ⟨x0, hx0⟩ := hroot
        have k0 := ((vl.el hx0).1 rfl).1
        obtain ⟨j0, y0, hj0, hj1, hy0, _⟩ := Zio vl hx0 (by omega) (s := 0) (fun h => by omega) (fun _ => rfl)
        have hj0' : chF s.Elements 0 0 = j0 := hj0
        have hj2 := Zbl hy0
        generalize hP : pathF s (startF s) wdone zk c s.Elements.length winc [] (chF s.Elements 0 0) = P0
        refine Za4 (fun z => 1 ≤ z.2.2 ∧ z.2.2 < (s.Elements.length : Int) ∧ (z.2.1.length : Int) < z.2.2 ∧ (z.2.1.length = 0 ∨ PsOk z.2.1) ∧ InL s.Elements z.2.1 ∧ z.1.length ≤ winc.length + z.2.1.length ∧ pathF s (startF s) wdone zk c s.Elements.length z.1 z.2.1 z.2.2 = P0) (fun z => ((s.Elements.length : Int) - z.2.2).toNat)
          ⟨by dsimp only; omega, by dsimp only; omega, by dsimp only [List.length_nil]; omega, .inl rfl, fun p hp => by simp at hp, by simp, hP⟩ (by rw [ZaJ]; dsimp only; omega) fun z52 k54 ⟨i0, i1, pl, pok, pin, pil, pP⟩ hk54 => ?_
        obtain ⟨inc, ps, i⟩ := z52
        dsimp only at i0 i1 pl pok pin pil pP hk54 ⊢
        refine ZaQ (by omega) i1 fun x hx => ?_
        have hpl : ps.length ≤ 126 := by omega
        obtain ⟨fu, hfu⟩ : ∃ fu, s.Elements.length = fu + 1 := ⟨s.Elements.length - 1, by omega⟩
        have pP' := pP
        rw [hfu, pathF, if_neg (by omega), hx] at pP'
        dsimp only at pP'
        have el := (vl.el hx).2 (by omega)
        refine Zbp (fun q => q = swF s (startF s) wdone zk c ps i x inc ∧ x.Kind ≠ 4 ∧ q.1.length ≤ inc.length + 1 ∧ (x.Kind = 3 → Lies q.2) ∧ (x.Kind ≠ 3 → q.2 = 0)) (fun q ⟨eq, hk4, ql, q3, q0⟩ => ?_) (fun k65 hk65 => ?_)
        · have eb := el.1
          unfold elB at eb
          rw [decide_eq_true_iff] at eb
          refine Zbr (by simp only [List.length_singleton]; omega) (Zbd fun y hy => ZaP (ZjM (by omega)) ?_)
          have hxi : s.Elements[i.toNat]? = some x := hx
          obtain ⟨j, yy, hj, hij, hyy, _⟩ := Zio vl hxi hk4 (s := q.2) q3 q0
          have ei : ((i.toNat : Nat) : Int) = i := by omega
          rw [ei] at hj
          have hjl := Zbl hyy
          rw [if_neg hk4, ← eq] at pP'
          have hlen2 : y.length = ps.length + 1 := by rw [hy]; simp
          refine hk54 _ ⟨by dsimp only; omega, by dsimp only; omega, by dsimp only; omega, .inr ?_, ?_, by dsimp only; omega, ?_⟩ (by dsimp only; omega)
          · dsimp only; rw [hy]; exact PsOk.snoc pok (by omega) (pcX_ok vl i0 hx eb.2.1)
          · dsimp only
            rw [hy]
            intro p hp
            rw [List.mem_append, List.mem_singleton] at hp
            rcases hp with hp | hp
            · exact pin p hp
            · rw [hp]; exact ⟨by dsimp only; omega, i1⟩
          · dsimp only
            rw [hy, ← pP']
            exact ZiL vl _ _ _ _ _ (by omega) (by omega)
        · refine Zas (fun hk4 => ?_) (fun hk4 => Zas (fun hk3 => ?_) (fun hk3 => hk65 _ ⟨?_, hk4, by dsimp only; omega, fun h => absurd h hk3, fun _ => rfl⟩))
          · rw [if_pos hk4] at pP'
            refine Zbr (by simp only [List.length_singleton]; omega) (Zbd fun qs hqs => ?_)
            have eqs : qs = ps ++ [pcX i x c.Length] := hqs
            have hok : PsOk qs := by rw [eqs]; exact PsOk.snoc pok (by omega) (pcX_ok vl i0 hx (by omega))
            have hin : InL s.Elements qs := by
              rw [eqs]
              intro p hp
              rw [List.mem_append, List.mem_singleton] at hp
              rcases hp with hp | hp
              · exact pin p hp
              · rw [hp]; exact ⟨by show 0 ≤ i; omega, i1⟩
            rw [← eqs] at pP'
            have hql := hok.len
            refine ZaP (run_e hrl hok hin) ?_
            have hstep : runN s (zk + 1).toNat = stepF s ⟨zdone, zrides, zinc⟩ zk c := by
              have e1 : (zk + 1).toNat = zk.toNat + 1 := by omega
              rw [e1, runN, hc]
              dsimp only
              rw [zr]
              have e2 : ((zk.toNat : Nat) : Int) = zk := by omega
              rw [e2]
            have hstep2 : stepF s ⟨zdone, zrides, zinc⟩ zk c = ⟨wdone, zrides ++ [rideF s.Elements c qs], (inc ++ metF zk (rideF s.Elements c qs).Spans zrides 0) ++ (if (rideF s.Elements c qs).Track ≠ c.Track then [⟨4, zk, -1, -1, 0⟩] else [])⟩ := by
              unfold stepF
              dsimp only
              rw [← ew]
              dsimp only
              rw [hP, ← pP']
            refine Zbp (fun t => t = (rideF s.Elements c qs).Track) (fun t ht => ?_) (fun k81 hk81 => ?_)
            · have hml := ZeO (ps := qs) (r := rnOf c qs)
              refine ZaP (Exact_e (by dsimp only; omega)) ?_
              dsimp only
              have hel := exE_len (l := s.Elements) (ps := qs) (m := ptAll qs (rnOf c qs)) (n := c.Length)
              have hsp : (rideF s.Elements c qs).Spans = (exE s.Elements qs (ptAll qs (rnOf c qs)) c.Length).1.map (shiftF c) := rfl
              generalize (exE s.Elements qs (ptAll qs (rnOf c qs)) c.Length).1 = sp0 at *
              refine Za4 (fun z => 0 ≤ z.2 ∧ z.2 ≤ (sp0.length : Int) ∧ z.1.length = sp0.length ∧ ∀ (j : Nat) y, sp0[j]? = some y → z.1[j]? = some (if (j : Int) < z.2 then shiftF c y else y)) (fun z => ((sp0.length : Int) - z.2).toNat) ⟨Int.le_refl 0, by dsimp only; omega, rfl, fun j y hy => by rw [if_neg (by dsimp only; omega)]; exact hy⟩ (by rw [ZaJ]; dsimp only; omega) fun z87 k89 ⟨a0, a1, al, ag⟩ hk89 => ?_
              obtain ⟨sp, a⟩ := z87
              dsimp only at a0 a1 al ag hk89 ⊢
              refine Zas (fun hal => ?_) (fun hage => ?_)
              · obtain ⟨y, hy⟩ : ∃ y, sp0[a.toNat]? = some y := ⟨_, List.getElem?_eq_getElem (by omega)⟩
                have hsy := ag _ y hy
                rw [if_neg (by omega)] at hsy
                rw [Zaw (n := a + 1) (by omega)]
                refine ZaM a0 hsy (Zbd fun u hu => ?_)
                have hul : u.length = sp0.length := by rw [hu, List.length_set]; exact al
                have hus : u[a.toNat]? = some ⟨y.Element, y.Side, w64 (y.From + c.Release), y.To⟩ := by rw [hu, List.getElem?_set_self (by omega)]
                have nx : ∀ v : List Span, v = u.set a.toNat (shiftF c y) → Ok (k89 (v, a + 1)) (RQ s) := fun v hv => hk89 _ ⟨by dsimp only; omega, by dsimp only; omega, by dsimp only; rw [hv, List.length_set]; exact hul, fun j yy hyy => by
                  dsimp only
                  by_cases hj : j = a.toNat
                  · subst hj
                    rw [hy] at hyy; cases hyy
                    rw [hv, List.getElem?_set_self (by omega), if_pos (by omega)]
                  · rw [hv, List.getElem?_set_ne (by omega), hu, List.getElem?_set_ne (by omega), ag j yy hyy]
                    by_cases hja : (j : Int) < a
                    · rw [if_pos hja, if_pos (by omega)]
                    · rw [if_neg hja, if_neg (by omega)]⟩ (by dsimp only; omega)
                refine ZaM a0 hus (Zas (fun hto => ZaM a0 hus (Zbd fun v hv => nx v ?_)) (fun hto => ZaM a0 hus (ZaM a0 hus (Zbd fun v hv => nx v ?_))))
                · rw [hv]; unfold shiftF; rw [if_pos hto]
                · rw [hv]; unfold shiftF; rw [if_neg hto]
              · have esp : sp = (rideF s.Elements c qs).Spans := by
                  rw [hsp]
                  refine List.ext_getElem? fun j => ?_
                  rw [List.getElem?_map]
                  cases hj : sp0[j]? with
                  | none => rw [Option.map_none, List.getElem?_eq_none_iff]; rw [List.getElem?_eq_none_iff] at hj; omega
                  | some y =>
                    have := ag j y hj
                    rw [if_pos (by have := Zbl hj; omega)] at this
                    rw [this]; rfl
                have hspl : sp.length ≤ 128 := by omega
                refine Za4 (fun z => 0 ≤ z.2 ∧ z.2 ≤ (zrides.length : Int) ∧ z.1.length ≤ inc.length + z.2.toNat ∧ z.1 ++ metF zk sp (zrides.drop z.2.toNat) z.2.toNat = inc ++ metF zk sp zrides 0) (fun z => ((zrides.length : Int) - z.2).toNat) ⟨Int.le_refl 0, by dsimp only; omega, by dsimp only; omega, rfl⟩ (by rw [ZaJ]; dsimp only; omega) fun z109 k111 ⟨b0, b1, bl, be⟩ hk111 => ?_
                obtain ⟨bi, b⟩ := z109
                dsimp only at b0 b1 bl be hk111 ⊢
                refine Zas (fun hbl => ZaQ b0 hbl fun r hr => ?_) (fun hbge => ?_)
                · rw [Zaw (n := b + 1) (by omega)]
                  have hrs := isp r (Za5 hr)
                  rw [Zb9 hr, metF] at be
                  have eb1 : (b + 1).toNat = b.toNat + 1 := by omega
                  refine Za4 (fun z => 0 ≤ z ∧ z ≤ (sp.length : Int) ∧ Scan (fun x => !(r.Spans.any (ov x))) sp z) (fun z => ((sp.length : Int) - z).toNat) ⟨Int.le_refl 0, by omega, Scan.zero⟩ (by rw [ZaJ]; omega) fun d k123 ⟨d0, d1, ds⟩ hk123 => ?_
                  refine Zas (fun hdl => ZaQ d0 hdl fun xs hxs => ?_) (fun hdge => ?_)
                  · refine Za4 (fun z => 0 ≤ z ∧ z ≤ (r.Spans.length : Int) ∧ Scan (fun y => !(ov xs y)) r.Spans z) (fun z => ((r.Spans.length : Int) - z).toNat) ⟨Int.le_refl 0, by omega, Scan.zero⟩ (by rw [ZaJ]; omega) fun e k133 ⟨e0, e1, es⟩ hk133 => ?_
                    refine Zas (fun hel => ZaQ e0 hel fun ys hys => ?_) (fun hege => ?_)
                    · refine Zbp (fun t => t = ov xs ys) (fun t ht => ?_) (fun k143 hk143 => ?_)
                      · refine ok_b (fun htt => ?_) (fun htf => ?_)
                        · have hany : r.Spans.any (ov xs) = true := List.any_eq_true.2 ⟨ys, Za5 hys, by rw [← ht]; exact htt⟩
                          rw [find_at ds hxs hany] at be
                          dsimp only at be
                          have eb2 : ((b.toNat : Nat) : Int) = b := by omega
                          rw [eb2] at be
                          refine Zbr (by simp only [List.length_singleton]; omega) (Zbd fun v hv => hk111 _ ⟨by dsimp only; omega, by dsimp only; omega, by dsimp only; rw [hv, List.length_append, List.length_singleton]; omega, ?_⟩ (by dsimp only; omega))
                          dsimp only
                          rw [hv, eb1, ← be, List.append_assoc]
                        · rw [Zaw (n := e + 1) (by omega)]
                          exact hk133 _ ⟨by omega, by omega, es.step hys (by rw [← ht, htf]; rfl)⟩ (by omega)
                      · refine Zas (fun hee => ZaP Zg6 (hk143 _ ?_)) (fun hee => hk143 _ ?_)
                        · unfold ov; rw [decide_eq_true hee, Bool.true_and]
                        · unfold ov; rw [decide_eq_false hee, Bool.false_and]
                    · rw [Zaw (n := d + 1) (by omega)]
                      refine hk123 _ ⟨by omega, by omega, ds.step hxs ?_⟩ (by omega)
                      have ee : (r.Spans.length : Int) = e := by omega
                      rw [ZjN (ee ▸ es)]; rfl
                  · rw [find_no ds hdge] at be
                    refine hk111 _ ⟨by dsimp only; omega, by dsimp only; omega, by dsimp only; omega, ?_⟩ (by dsimp only; omega)
                    dsimp only
                    rw [eb1, ← be]; rfl
                · rw [List.drop_eq_nil_of_le (by omega), metF, List.append_nil, esp] at be
                  refine Zbp (fun t => t = (inc ++ metF zk (rideF s.Elements c qs).Spans zrides 0) ++ (if (rideF s.Elements c qs).Track ≠ c.Track then [⟨4, zk, -1, -1, 0⟩] else []) ∧ t.length ≤ bi.length + 1) (fun t' ⟨ht1, ht2⟩ => ?_) (fun k153 hk153 => ?_)
                  · refine Zbr (by simp only [List.length_singleton]; omega) (Zbd fun v hv => ?_)
                    have ev : v = zrides ++ [rideF s.Elements c qs] := by
                      rw [hv, ht, esp]
                    rw [Zaw (n := zk + 1) (by omega)]
                    refine hk21 _ ⟨by dsimp only; omega, by dsimp only; omega, ?_, ?_, ?_, ?_, ?_⟩ (by dsimp only; omega)
                    · dsimp only
                      rw [hstep, hstep2, ev, ht1]
                    · dsimp only; rw [ev, List.length_append, List.length_singleton]; omega
                    · dsimp only
                      rw [ev]
                      intro r hr
                      rw [List.mem_append, List.mem_singleton] at hr
                      rcases hr with hr | hr
                      · exact isp r hr
                      · rw [hr, ← esp]; exact hspl
                    · dsimp only; omega
                    · dsimp only; exact wd.up (by omega)
                  · refine Zas (fun hne => Zbr (by simp only [List.length_singleton]; omega) (Zbd fun v hv => hk153 _ ⟨?_, by rw [hv, List.length_append, List.length_singleton]; omega⟩)) (fun heq => hk153 _ ⟨?_, by omega⟩)
                    · rw [hv, be, if_pos (by rw [← ht]; exact hne)]
                    · rw [be, if_neg (by rw [← ht]; exact heq), List.append_nil]
            · rw [Zaw (n := (qs.length : Int) - 1) (by omega)]
              refine Zbp (fun t => t = decide (ptStop qs (rnOf c qs) < 0 ∨ ptStop qs (rnOf c qs) = (qs.length : Int) - 1)) (fun t ht => ok_b (fun hb => ?_) (fun hb => ?_)) (fun k169 hk169 => ?_)
              · rw [hb] at ht
                refine ZaQ (by omega) (by omega) fun p hp => hk81 _ ?_
                have e9 : ((qs.length : Int) - 1).toNat = qs.length - 1 := by omega
                rw [e9] at hp
                unfold rideF
                dsimp only
                rw [if_pos (of_decide_eq_true ht.symm), hp]; rfl
              · rw [hb] at ht
                refine hk81 _ ?_
                unfold rideF
                dsimp only
                rw [if_neg (of_decide_eq_false ht.symm)]
              · exact Zas (fun hs => hk169 _ (by simp [hs])) (fun hs => hk169 _ (by simp [hs]))
          · refine ZaP (entry_e hrl pok pin) (ok_b (fun he => ZaP (side_e (hdl i)) (ok_b (fun hm => Zbr (by simp only [List.length_singleton]; omega) (Zbd fun v hv => hk65 _ ⟨?_, hk4, ?_, ?_, fun h => absurd hk3 h⟩)) (fun hm => hk65 _ ⟨?_, hk4, ?_, ?_, fun h => absurd hk3 h⟩))) (fun he => hk65 _ ⟨?_, hk4, by dsimp only; omega, fun _ => .inl rfl, fun h => absurd hk3 h⟩))
            · unfold swF
              rw [if_pos hk3, if_pos he, if_pos hm, hv]
            · dsimp only; rw [hv, List.length_append, List.length_singleton]; omega
            · exact fun _ => ZfK s8 wd
            · unfold swF
              rw [if_pos hk3, if_pos he, if_neg (by dsimp only at hm; rw [hm]; simp)]
            · dsimp only; omega
            · exact fun _ => ZfK s8 wd
            · unfold swF
              rw [if_pos hk3, if_neg (by rw [he]; simp)]
          · unfold swF
            rw [if_neg hk3]
      · refine Za4 (fun z => 0 ≤ z.2.2 ∧ z.2.2 ≤ (s.Commands.length : Int) ∧ (z.1, z.2.1) = (s.Commands.take z.2.2.toNat).foldl (cmdF s.Throw zk zrides) (zdone, zinc) ∧ z.2.1.length ≤ zinc.length + z.2.2.toNat ∧ DnOk (1024 * zk.toNat + z.2.2.toNat) z.1) (fun z => ((s.Commands.length : Int) - z.2.2).toNat) ⟨Int.le_refl 0, by dsimp only; omega, rfl, by dsimp only; omega, idn⟩ (by rw [ZaJ]; dsimp only; omega) fun z k182 ⟨a0, a1, ae, ail, adn⟩ hk182 => ?_
        obtain ⟨adone, ainc, a⟩ := z
        dsimp only at a0 a1 ae ail adn hk182 ⊢
        refine Zas (fun hal => ZaQ a0 hal fun x hx => ?_) (fun hage => hk34 _ ⟨?_, by dsimp only; omega, adn.up (by omega)⟩)
        · rw [Zaw (n := a + 1) (by omega)]
          have st := ZfX (f := cmdF s.Throw zk zrides) (b := (zdone, zinc)) a0 hx
          rw [← ae] at st
          have hxo := h.v.cm _ x hx
          refine Zas (fun hck => ?_) (fun hck => hk182 _ ⟨by dsimp only; omega, by dsimp only; omega, ?_, by dsimp only; omega, adn.up (by dsimp only; omega)⟩ (by dsimp only; omega))
          · refine ZaP (meets_e (by dsimp only; omega) (fun r hr => by have := isp r hr; omega)) ?_
            have hal2 := adn.l x.Element
            refine Zbp (fun t => t = decide (0 ≤ meN ⟨x.Element, 0, x.Time, w64 (x.Time + s.Throw)⟩ zrides 0 ∨ movF s.Throw adone x = true)) (fun t ht => ok_b (fun hb => Zbr (by simp only [List.length_singleton]; omega) (Zbd fun v hv => hk182 _ ⟨by dsimp only; omega, by dsimp only; omega, ?_, ?_, adn.up (by dsimp only; omega)⟩ (by dsimp only; omega))) (fun hb => Zbr (by simp only [List.length_singleton]; omega) (Zbd fun v hv => hk182 _ ⟨by dsimp only; omega, by dsimp only; omega, ?_, by dsimp only; omega, ?_⟩ (by dsimp only; omega)))) (fun k194 hk194 => ?_)
            · rw [hb] at ht
              dsimp only
              rw [st]
              unfold cmdF
              rw [if_pos hck, if_pos (of_decide_eq_true ht.symm), hv]
            · dsimp only; rw [hv, List.length_append, List.length_singleton]; omega
            · rw [hb] at ht
              dsimp only
              rw [st]
              unfold cmdF
              rw [if_pos hck, if_neg (of_decide_eq_false ht.symm), hv]
            · dsimp only
              rw [hv]
              exact (adn.put hxo.2.1.2).up (by omega)
            · refine Zas (fun h0 => hk194 _ ?_) (fun h0 => ZaP (Zke (by dsimp only; omega)) (hk194 _ ?_))
              · exact (decide_eq_true (.inl h0)).symm
              · show movF s.Throw adone x = _
                cases hm : movF s.Throw adone x with
                | true => exact (decide_eq_true (.inr rfl)).symm
                | false => exact (decide_eq_false (by rintro (h1 | h1); exact h0 h1; simp at h1)).symm
          · dsimp only
            rw [st]
            unfold cmdF
            rw [if_neg hck]
        · rw [List.take_of_length_le (by omega)] at ae
          exact ae
    · have e : zk.toNat = s.Cuts.length := by omega
      rw [e] at zr zi
      exact ⟨by rw [zr], by rw [zr]; exact zi⟩
  · refine Za4 (fun z => 0 ≤ z.2 ∧ z.2 ≤ (s.Start.length : Int) ∧ z.1 = (s.Start.take z.2.toNat).foldl (fun m t => mput keyP (t.Element, t.Side) m) [] ∧ StL z.1) (fun z => ((s.Start.length : Int) - z.2).toNat) ⟨Int.le_refl 0, by dsimp only; omega, rfl, fun d hd => by simp [mfind] at hd⟩ (by rw [ZaJ]; dsimp only; omega) fun z k ⟨z0, z1, ze, zs⟩ hk => ?_
    refine Zas (fun hlt => ZaQ z0 hlt fun t ht => ?_) (fun hge => hk10 _ ⟨by unfold startF; rw [ze, List.take_of_length_le (by omega)], zs⟩)
    rw [Zaw (n := z.2 + 1) (by omega)]
    have hto := (h.v.st _ t ht).1
    exact hk _ ⟨by dsimp only; omega, by dsimp only; omega, by dsimp only; rw [ZfX z0 ht, ← ze], zs.put hto.2⟩ (by dsimp only; omega)
theorem Run_e {s : Scene} (h : SV s) (hv : ZbV s = some 0) : ZcO s = some ((runN s s.Cuts.length).rides, (runN s s.Cuts.length).inc, 0) := by
  obtain ⟨v, e, hv, _⟩ := Zf0 h hv
  rw [e, hv]
theorem ZgB {s : Scene} (h : SV s) (hv : ZbV s = some 0) : (∀ r ∈ (runN s s.Cuts.length).rides, r.Spans.length ≤ 128) ∧ (runN s s.Cuts.length).inc.length ≤ 1000000000 := by
  obtain ⟨v, e, _, ri⟩ := Zf0 h hv
  have := ri.il
  have := h.ct
  exact ⟨ri.sp, by omega⟩
end Go.Hy
namespace Go.Hy
set_option linter.unusedVariables false
set_option linter.unusedSimpArgs false
set_option maxHeartbeats 2000000
set_option maxRecDepth 10000
open Go.Hy.Iv
theorem ZcP {α : Type} {l : List α} {x a : α} {i : Nat} (h : (l ++ [x])[i]? = some a) : l[i]? = some a ∨ (i = l.length ∧ a = x) := Zd0 h
theorem spE_len {l : List Element} {ps : List Piece} {p : List Passage} {n : Int} (h : (spE l ps p n).2 = 0) : p.length = ps.length + 1 := by
  unfold spE at h
  split at h
  · rename_i h1; exact absurd h h1
  · rename_i h1
    exact of_decide_eq_true (Zkq (Decidable.not_not.1 h1)).2
structure I1 (l : List Element) (lo wd c : Int) (z : List Int × List Interval × List Int × Int × Int) : Prop where
  z0 : 0 ≤ z.2.2.2.1
  z1 : z.2.2.2.1 ≤ (l.length : Int)
  cl : (z.2.1.length : Int) = z.2.2.2.1
  tl : (z.2.2.1.length : Int) = z.2.2.2.1
  tk : (z.1.length : Int) ≤ z.2.2.2.1
  tr : ∀ t ∈ z.1, IsTr l t
  al : ∀ (j : Nat) x, (j : Int) < z.2.2.2.1 → l[j]? = some x → x.Kind = 4 → (j : Int) ∈ z.1
  cs : ∀ (j : Nat) i x, z.2.1[j]? = some i → l[j]? = some x → i = ⟨lo + x.Curve, lo + x.Curve + wd⟩
  ts : ∀ u ∈ z.2.2.1, u = -1 ∨ u = 1500 ∨ u = 3000 ∨ u = 6000
  n0 : c ≤ z.2.2.2.2
  n1 : z.2.2.2.2 ≤ c + z.2.2.2.1
structure R1 (l : List Element) (lo wd c : Int) (z : List Int × List Interval × List Int × Int) : Prop where
  cl : z.2.1.length = l.length
  tl : z.2.2.1.length = l.length
  tk : z.1.length ≤ l.length
  tr : ∀ t ∈ z.1, IsTr l t
  ne : 1 ≤ z.1.length
  cs : ∀ (j : Nat) i x, z.2.1[j]? = some i → l[j]? = some x → i = ⟨lo + x.Curve, lo + x.Curve + wd⟩
  ts : ∀ u ∈ z.2.2.1, u = -1 ∨ u = 1500 ∨ u = 3000 ∨ u = 6000
  n0 : c ≤ z.2.2.2
  n1 : z.2.2.2 ≤ c + l.length
structure I2 (l : List Element) (cl : List Interval) (tg : List Int) (sp n c : Int) (z : List Rolling × List (List Span) × Int × Int) : Prop where
  z0 : 0 ≤ z.2.2.1
  z1 : z.2.2.1 ≤ n
  ct : (z.1.length : Int) ≤ n - z.2.2.1
  sn : z.2.1.length = z.1.length
  pl : ∀ (i : Nat) c ss, z.1[i]? = some c → z.2.1[i]? = some ss → PlCut l cl tg sp c ss
  n0 : c ≤ z.2.2.2
  n1 : z.2.2.2 ≤ c + 100 * (n - z.2.2.1)
structure R2 (l : List Element) (cl : List Interval) (tg : List Int) (sp n c : Int) (z : List Rolling × List (List Span) × Int) : Prop where
  ct : (z.1.length : Int) ≤ n
  sn : z.2.1.length = z.1.length
  pl : ∀ (i : Nat) c ss, z.1[i]? = some c → z.2.1[i]? = some ss → PlCut l cl tg sp c ss
  n0 : c ≤ z.2.2
  n1 : z.2.2 ≤ c + 1000
structure I3 (l : List Element) (c : Int) (z : List Throw × Int × Int) : Prop where
  z0 : 0 ≤ z.2.1
  z1 : z.2.1 ≤ (l.length : Int)
  sl : (z.1.length : Int) ≤ z.2.1
  st : ∀ (i : Nat) t, z.1[i]? = some t → (Kd l t.Element 3 ∧ Lies t.Side) ∧ ∀ (j : Nat) u, j < i → z.1[j]? = some u → u.Element ≠ t.Element
  lt : ∀ t ∈ z.1, t.Element < z.2.1
  n0 : c ≤ z.2.2
  n1 : z.2.2 ≤ c + 2 * z.2.1
structure R3 (l : List Element) (c : Int) (z : List Throw × Int) : Prop where
  sl : z.1.length ≤ l.length
  st : ∀ (i : Nat) t, z.1[i]? = some t → (Kd l t.Element 3 ∧ Lies t.Side) ∧ ∀ (j : Nat) u, j < i → z.1[j]? = some u → u.Element ≠ t.Element
  n0 : c ≤ z.2
  n1 : z.2 ≤ c + 100
structure I4 (C0 : List Rolling) (R0 : List Int) (th : Int) (z : List Rolling × List Int × Int) : Prop where
  z0 : 0 ≤ z.2.2
  z1 : z.2.2 ≤ (R0.length : Int)
  rl : z.2.1.length = R0.length
  cl : z.1.length = C0.length
  r : ∀ (j : Nat) r, R0[j]? = some r → z.2.1[j]? = some (if (j : Int) < z.2.2 then w64 (r + th) else r)
  c : ∀ (j : Nat) c, z.1[j]? = some c → ∃ d, C0[j]? = some d ∧ c = ⟨c.Release, d.Length, d.Track, d.Speed, d.Resist, d.Targets⟩ ∧ ((j : Int) < z.2.2 → ∀ r, R0[j]? = some r → c.Release = w64 (r + th))
structure I5 (cl : List Interval) (tg : List Int) (ps : List Piece) (z : List Interval × List Int × Int) : Prop where
  z0 : 0 ≤ z.2.2
  z1 : z.2.2 ≤ (ps.length : Int)
  c : z.1 = clsP cl (ps.take z.2.2.toNat)
  t : z.2.1 = selP tg (ps.take z.2.2.toNat)
structure I6 (l : List Element) (cl : List Interval) (tg : List Int) (sp c : Int) (z : List Int × List Int × Int × Int) : Prop where
  z0 : 0 ≤ z.2.2.1
  z1 : z.2.2.1 ≤ (l.length : Int)
  rl : (z.1.length : Int) = z.2.2.1
  tl : (z.2.1.length : Int) = z.2.2.1
  r : ∀ (j : Nat) w i, z.1[j]? = some w → cl[j]? = some i → i.Lo ≤ w ∧ w ≤ i.Hi
  t : ∀ (j : Nat) w u, z.2.1[j]? = some w → tg[j]? = some u → (0 ≤ u → u - sp ≤ w ∧ w ≤ u + sp) ∧ (u < 0 → w = u)
  n0 : c ≤ z.2.2.2
  n1 : z.2.2.2 ≤ c + 2 * z.2.2.1
structure R6 (l : List Element) (cl : List Interval) (tg : List Int) (sp c : Int) (z : List Int × List Int × Int) : Prop where
  rl : z.1.length = l.length
  tl : z.2.1.length = l.length
  r : ∀ (j : Nat) w i, z.1[j]? = some w → cl[j]? = some i → i.Lo ≤ w ∧ w ≤ i.Hi
  t : ∀ (j : Nat) w u, z.2.1[j]? = some w → tg[j]? = some u → (0 ≤ u → u - sp ≤ w ∧ w ≤ u + sp) ∧ (u < 0 → w = u)
  n0 : c ≤ z.2.2
  n1 : z.2.2 ≤ c + 60
theorem crv {l : List Element} {n : Nat} (h : Made l n) {i : Nat} {x : Element} (hx : l[i]? = some x) : 0 ≤ x.Curve ∧ x.Curve ≤ 150 := by
  have := h.u.r x (Za5 hx); omega
theorem Plan_ok {k0 : HumpgenMaker} {n : Int} (h : Mk k0 800000000000000) (hn : 0 ≤ n ∧ n ≤ 8) : Ok (ZbY k0 n) fun r => PlanOk r.1 n ∧ k0.fn ≤ r.2 ∧ r.2 ≤ k0.fn + 10000 := by
  have c0 := h.c0
  have c1 := h.c1
  have mk : ∀ c', k0.fn ≤ c' → c' ≤ k0.fn + 100000 → Mk (HumpgenMaker.mk k0.fl c') CM0 := fun c' h1 h2 => h.to h1 (by unfold CM0; omega)
  unfold ZbY
  refine Zbt (ZjP (h.up (by omega)) (by omega)) fun v2 ⟨md, hc2⟩ => ?_
  have md : Made v2.1 4 := md
  have vl := md.vl (by omega)
  have hlen : v2.1.length ≤ 28 := md.len
  have hne := md.u.ne
  have hsh := ZhQ vl
  refine Zbt (Zck (mk _ (by omega) (by omega)) (by decide)) fun v5 ⟨hv5, hc5⟩ => ?_
  dsimp only at hc5
  refine Zbt (Zck (mk _ (by omega) (by omega)) (by decide)) fun v9 ⟨hv9, hc9⟩ => ?_
  dsimp only at hc9
  refine Zbt (Zck (mk _ (by omega) (by omega)) (by decide)) fun v12 ⟨hv12, hc12⟩ => ?_
  dsimp only at hc12
  simp only [List.mem_cons, List.not_mem_nil, or_false] at hv5 hv9 hv12
  refine Zbp (R1 v2.1 v9.1 v12.1 v12.2) (fun z14 h14 => ?_) (fun k16 hk16 => ?_)
  · have hn0 := h14.n0
    have hn1 := h14.n1
    refine Zbt (Zck (mk _ (by omega) (by omega)) (by decide)) fun v19 ⟨hv19, hc19⟩ => ?_
    dsimp only at hc19
    simp only [List.mem_cons, List.not_mem_nil, or_false] at hv19
    have hcls : Clss v2.1 z14.2.1 z14.2.2.1 v19.1 := ⟨h14.cl, h14.tl, ⟨v9.1, v12.1, hv9, hv12, h14.cs⟩, h14.ts, hv19⟩
    refine Zbp (R2 v2.1 z14.2.1 z14.2.2.1 v19.1 n v19.2) (fun z21 h21 => ?_) (fun k23 hk23 => ?_)
    · have hm0 := h21.n0
      have hm1 := h21.n1
      refine Zbp (R3 v2.1 z21.2.2) (fun z26 h26 => ?_) (fun k28 hk28 => ?_)
      · have hq0 := h26.n0
        have hq1 := h26.n1
        have hsl := h26.sl
        have bd2 : Bd2 z21.2.1 := fun ss hss => by
          obtain ⟨i, hi⟩ := List.getElem?_of_mem hss
          have hil := Zbl hi
          have := h21.sn
          have := (h21.pl i _ ss (List.getElem?_eq_getElem (by omega : i < z21.1.length)) hi).sl
          omega
        obtain ⟨v31, e31, h31⟩ := ZgG (t := v5.1) bd2
        refine ZaP e31 (Zas (fun hne => Zak ⟨⟨md, by dsimp only; omega, hsl, h26.st, by simp, h21.ct, h21.sn, ⟨_, _, _, hcls, h21.pl⟩, fun h => by simp at h⟩, by dsimp only; omega, by dsimp only; omega⟩) fun heq => ?_)
        have heq : v31.2 = 0 := by omega
        obtain ⟨hrl, hr96⟩ := h31 heq
        have hsn := h21.sn
        refine Zbp (fun z => I4 z21.1 v31.1 v5.1 (z.1, z.2, (v31.1.length : Int))) (fun z33 h33 => ?_) (fun k35 hk35 => ?_)
        · have hrl3 := h33.rl
          have hcl3 := h33.cl
          dsimp only at hrl3 hcl3
          obtain ⟨v38, e38, h38⟩ := ZgJ (t := v5.1) (rs := z33.2) (st := z26.1) bd2 (by omega) (by omega)
          refine ZaP e38 (Zak ⟨⟨md, by dsimp only; omega, hsl, h26.st, h38, by dsimp only; rw [hcl3]; exact h21.ct, by dsimp only; rw [hcl3]; exact h21.sn, ⟨_, _, _, hcls, ?_⟩, ?_⟩, by dsimp only; omega, by dsimp only; omega⟩)
          · intro i c ss hc hss
            obtain ⟨d, hd, e, _⟩ := h33.c i c hc
            have := (h21.pl i d ss hd hss).rel c.Release
            rw [← e] at this
            exact this
          · intro hok
            have hz : v38.2 = 0 := of_decide_eq_true hok
            refine ⟨v31.1, ?_, by dsimp only; omega, by dsimp only; omega, ?_, ?_⟩
            · dsimp only; rw [e31, ← heq]
            · intro i c r hc hr
              have hil := Zbl hr
              obtain ⟨d, hd, e, hrr⟩ := h33.c i c hc
              have hri := h33.r i r hr
              rw [if_pos (by dsimp only; omega)] at hri
              exact ⟨hri, hrr (by dsimp only; omega) r hr⟩
            · dsimp only; rw [e38, ← hz]
        · refine Za4 (I4 z21.1 v31.1 v5.1) (fun z => ((v31.1.length : Int) - z.2.2).toNat) ⟨Int.le_refl 0, by dsimp only; omega, rfl, rfl, fun j r hr => ?_, fun j c hc => ⟨c, hc, rfl, fun hj => by dsimp only at hj; omega⟩⟩ (by rw [ZaJ]; dsimp only; omega) fun z k hz hk => ?_
          · rw [if_neg (by dsimp only; omega)]; exact hr
          · have z0 := hz.z0
            have z1 := hz.z1
            have zr := hz.rl
            have zc := hz.cl
            refine Zas (fun hlt => ?_) (fun hge => hk35 _ ?_)
            · obtain ⟨r, hr⟩ : ∃ r, v31.1[z.2.2.toNat]? = some r := ⟨_, List.getElem?_eq_getElem (by omega)⟩
              have hzr := hz.r _ r hr
              rw [if_neg (by omega)] at hzr
              refine ZaM z0 hzr (ZaM z0 hzr (Zbd fun y hy => ?_))
              have hy1 : y[z.2.2.toNat]? = some (w64 (r + v5.1)) := by rw [hy, List.getElem?_set_self (by omega)]
              refine ZaM z0 hy1 (ZaQ z0 (by omega) fun c hc => Zbd fun w hw => ?_)
              rw [Zaw (n := z.2.2 + 1) (by omega)]
              refine hk _ ⟨by dsimp only; omega, by dsimp only; omega, by dsimp only; rw [hy, List.length_set]; omega, by dsimp only; rw [hw, List.length_set]; omega, fun j s hs => ?_, fun j d hd => ?_⟩ (by dsimp only; omega)
              · dsimp only
                by_cases hj : j = z.2.2.toNat
                · subst hj
                  rw [hr] at hs; cases hs
                  rw [if_pos (by omega)]; exact hy1
                · rw [hy, List.getElem?_set_ne (by omega), hz.r j s hs]
                  by_cases hjz : (j : Int) < z.2.2
                  · rw [if_pos hjz, if_pos (by omega)]
                  · rw [if_neg hjz, if_neg (by omega)]
              · dsimp only at hd ⊢
                by_cases hj : j = z.2.2.toNat
                · subst hj
                  rw [hw, List.getElem?_set_self (by omega)] at hd
                  cases hd
                  obtain ⟨d0, hd0, e, _⟩ := hz.c _ c hc
                  refine ⟨d0, hd0, ?_, fun _ r' hr' => ?_⟩
                  · rw [e]
                  · rw [hr] at hr'; cases hr'; rfl
                · rw [hw, List.getElem?_set_ne (by omega)] at hd
                  obtain ⟨d0, hd0, e, hrr⟩ := hz.c j d hd
                  exact ⟨d0, hd0, e, fun hj2 => hrr (by omega)⟩
            · have e : z.2.2 = (v31.1.length : Int) := by omega
              rw [← e]; exact hz
      · refine Za4 (I3 v2.1 z21.2.2) (fun z => ((v2.1.length : Int) - z.2.1).toNat) ⟨Int.le_refl 0, by dsimp only; omega, by simp, fun i t ht => by simp at ht, fun t ht => by simp at ht, Int.le_refl _, by dsimp only; omega⟩ (by rw [ZaJ]; dsimp only; omega) fun z k hz hk => ?_
        have z0 := hz.z0
        have z1 := hz.z1
        have zs := hz.sl
        have p0 := hz.n0
        have p1 := hz.n1
        refine Zas (fun hlt => ?_) (fun hge => hk28 _ ⟨by dsimp only; omega, hz.st, p0, by dsimp only; omega⟩)
        obtain ⟨x, hx⟩ : ∃ x, v2.1[z.2.1.toNat]? = some x := ⟨_, List.getElem?_eq_getElem (by omega)⟩
        refine Zbp (fun y => (y.1 = true → x.Kind = 3) ∧ z.2.2 ≤ y.2 ∧ y.2 ≤ z.2.2 + 1) (fun y ⟨hy1, hy2, hy3⟩ => ?_) (fun k68 hk68 => ?_)
        · refine ok_b (fun hyt => Zbt (Zck (mk _ (by omega) (by omega)) (by decide)) fun v72 ⟨hv72, hc72⟩ => Zbr (by simp only [List.length_singleton]; omega) (Zbd fun w hw => ?_)) (fun hyf => ?_)
          · dsimp only at hc72
            simp only [List.mem_cons, List.not_mem_nil, or_false] at hv72
            rw [Zaw (n := z.2.1 + 1) (by omega)]
            refine hk _ ⟨by dsimp only; omega, by dsimp only; omega, by dsimp only; rw [hw]; simp only [List.length_append, List.length_singleton]; omega, fun i t ht => ?_, fun t ht => ?_, by dsimp only; omega, by dsimp only; omega⟩ (by dsimp only; omega)
            · dsimp only at ht ⊢
              rw [hw] at ht ⊢
              rcases ZcP ht with h1 | ⟨h1, h2⟩
              · refine ⟨(hz.st i t h1).1, fun j u hj hu => (hz.st i t h1).2 j u hj ?_⟩
                rcases ZcP hu with h3 | ⟨h3, h4⟩
                · exact h3
                · have := Zbl h1; omega
              · subst h2
                refine ⟨⟨⟨z0, x, hx, hy1 hyt⟩, hv72⟩, fun j u hj hu => ?_⟩
                rcases ZcP hu with h3 | ⟨h3, h4⟩
                · have := hz.lt u (Za5 h3)
                  dsimp only; omega
                · omega
            · dsimp only at ht ⊢
              rw [hw, List.mem_append, List.mem_singleton] at ht
              rcases ht with ht | ht
              · have := hz.lt t ht; omega
              · subst ht; dsimp only; omega
          · rw [Zaw (n := z.2.1 + 1) (by omega)]
            exact hk _ ⟨by dsimp only; omega, by dsimp only; omega, by dsimp only; omega, hz.st, fun t ht => by have := hz.lt t ht; dsimp only; omega, by dsimp only; omega, by dsimp only; omega⟩ (by dsimp only; omega)
        · refine ZaM z0 hx (Zas (fun h3 => Zbt (Zd2 (mk _ (by omega) (by omega)) (by omega)) fun v79 ⟨hv79, hc79⟩ => hk68 _ ⟨fun _ => h3, ?_, ?_⟩) (fun _ => hk68 _ ⟨fun h => by simp at h, by dsimp only; omega, by dsimp only; omega⟩))
          · dsimp only at hc79 ⊢; omega
          · dsimp only at hc79 ⊢; omega
    · rw [Zaw (n := n + 1) (by omega)]
      refine Zbt (Zd2 (mk _ (by omega) (by omega)) (by omega)) fun v81 ⟨hv81, hc81⟩ => ?_
      dsimp only at hc81
      refine Za4 (I2 v2.1 z14.2.1 z14.2.2.1 v19.1 v81.1 v81.2) (fun z => z.2.2.1.toNat) ⟨hv81.1, Int.le_refl _, by simp, rfl, fun i c ss hc => by simp at hc, Int.le_refl _, by dsimp only; omega⟩ (by rw [ZaJ]; dsimp only; omega) fun z k hz hk => ?_
      have z0 := hz.z0
      have z1 := hz.z1
      have zc := hz.ct
      have zs := hz.sn
      have p0 := hz.n0
      have p1 := hz.n1
      refine Zas (fun hlt => ?_) (fun hge => hk23 _ ⟨by dsimp only; omega, zs, hz.pl, by dsimp only; omega, by dsimp only; omega⟩)
      rw [Zaw (n := z.2.2.1 - 1) (by omega)]
      refine Zbt (Zck (mk _ (by omega) (by omega)) (by decide)) fun v90 ⟨hv90, hc90⟩ => ?_
      dsimp only at hc90
      simp only [List.mem_cons, List.not_mem_nil, or_false] at hv90
      have tk1 := h14.ne
      have tk2 := h14.tk
      refine Zbt (Zd2 (mk _ (by omega) (by omega)) (by omega)) fun v92 ⟨hv92, hc92⟩ => ?_
      dsimp only at hc92
      refine ZaQ hv92.1 hv92.2 fun t ht => ?_
      have itr := h14.tr t (Za5 ht)
      refine ZaP (Ze5 (by omega)) ?_
      have hmin : 1 ≤ min v90.1 (sh v2.1) ∧ min v90.1 (sh v2.1) ≤ sh v2.1 := by omega
      generalize min v90.1 (sh v2.1) = len at hmin
      obtain ⟨e1, e2, hps, hel⟩ := ZjI vl itr hmin
      have hpl := hps.len
      refine ZaP (rPath_m md.u.nms) (ZaP (Zho (ps := (ptE v2.1 t).1)) ?_)
      rw [e1]
      dsimp only
      rw [e2]
      dsimp only
      refine Zbt (Zck (mk _ (by omega) (by omega)) (by decide)) fun v103 ⟨hv103, hc103⟩ => ?_
      dsimp only at hc103
      simp only [List.mem_cons, List.not_mem_nil, or_false] at hv103
      have skip : Ok (k (z.1, z.2.1, z.2.2.1 - 1, v103.2)) fun r => PlanOk r.1 n ∧ k0.fn ≤ r.2 ∧ r.2 ≤ k0.fn + 10000 := hk _ ⟨by dsimp only; omega, by dsimp only; omega, by dsimp only; omega, zs, hz.pl, by dsimp only; omega, by dsimp only; omega⟩ (by dsimp only; omega)
      generalize hps' : setL (pth v2.1 t) len = ps at *
      have hcl := h14.cl
      have htl := h14.tl
      refine Zbp (fun y => y.1 = clsP z14.2.1 ps ∧ y.2 = selP z14.2.2.1 ps) (fun y ⟨hy1, hy2⟩ => ?_) (fun k108 hk108 => ?_)
      · rw [hy1, hy2, Zaw (n := v103.1 + v19.1) (by omega)]
        refine ZaP rPass_e (ZaP (Zj4 Zj9) ?_)
        refine Zas (fun _ => skip) fun hsp => ?_
        have hsp : (spE v2.1 ps (psOut ps ⟨⟨v103.1, v103.1 + v19.1⟩, clsP z14.2.1 ps, v19.1, selP z14.2.2.1 ps⟩).1 len).2 = 0 := by omega
        have hpn := spE_len hsp
        refine Zbd fun i1 hi1 => ?_
        rw [Zaw (by omega)] at hi1
        subst hi1
        refine ZaQ (by omega) (by omega) fun q hq => ok_b (fun _ => skip) fun hq1 => Zbd fun i2 hi2 => ?_
        rw [Zaw (by omega)] at hi2
        subst hi2
        refine ZaM (by omega) hq (ok_b (fun _ => skip) fun hq2 => Zbd fun i3 hi3 => ?_)
        rw [Zaw (by omega)] at hi3
        subst hi3
        refine ZaM (by omega) hq (Zas (fun _ => skip) fun hq3 => ?_)
        obtain ⟨bv, ebv, hbv⟩ := ZdV (l := (spE v2.1 ps (psOut ps ⟨⟨v103.1, v103.1 + v19.1⟩, clsP z14.2.1 ps, v19.1, selP z14.2.2.1 ps⟩).1 len).1)
        refine ZaP ebv (Zcc (fun _ => skip) fun hbt => ?_)
        refine Zbt (ZhK (mk _ (by omega) (by omega)) (by omega)) fun v125 ⟨hv125, hc125⟩ => ?_
        dsimp only at hc125
        refine Zbp (R6 v2.1 z14.2.1 z14.2.2.1 v19.1 v125.2) (fun w hw => ?_) (fun k129 hk129 => ?_)
        · have w0 := hw.n0
          have w1 := hw.n1
          refine Zbr (by simp only [List.length_singleton]; omega) (Zbd fun y1 hy1 => Zbr (by simp only [List.length_singleton]; omega) (Zbd fun y2 hy2 => ?_))
          refine hk _ ⟨by dsimp only; omega, by dsimp only; omega, by dsimp only; rw [hy1]; simp only [List.length_append, List.length_singleton]; omega, by dsimp only; rw [hy1, hy2]; simp only [List.length_append, List.length_singleton]; omega, fun i c ss hc hss => ?_, by dsimp only; omega, by dsimp only; omega⟩ (by dsimp only; omega)
          dsimp only at hc hss
          rw [hy1] at hc
          rw [hy2] at hss
          have ih := Zbl hc
          rcases ZcP hc with h1 | ⟨h1, h2⟩
          · rcases ZcP hss with h3 | ⟨h3, h4⟩
            · exact hz.pl i c ss h1 h3
            · have := Zbl h1; omega
          · rcases ZcP hss with h3 | ⟨h3, h4⟩
            · have := Zbl h3; omega
            · subst h2
              subst h4
              refine ⟨itr, hmin, hw.rl, hw.tl, hw.r, hw.t, hbv hbt, by rw [ebv, hbt], v103.1, q, hv103, hv125, ?_, ?_, hq1, hq2, by omega⟩
              · show spE v2.1 (setL (pth v2.1 t) len) (psOut (setL (pth v2.1 t) len) (mot z14.2.1 z14.2.2.1 v19.1 v103.1 (setL (pth v2.1 t) len))).1 len = _
                rw [hps', ← hsp]; rfl
              · show (psOut (setL (pth v2.1 t) len) (mot z14.2.1 z14.2.2.1 v19.1 v103.1 (setL (pth v2.1 t) len))).1[(psOut (setL (pth v2.1 t) len) (mot z14.2.1 z14.2.2.1 v19.1 v103.1 (setL (pth v2.1 t) len))).1.length - 1]? = _
                rw [hps', ← hq]
                congr 1
                show _ = (((psOut ps ⟨⟨v103.1, v103.1 + v19.1⟩, clsP z14.2.1 ps, v19.1, selP z14.2.2.1 ps⟩).1.length : Int) - 1).toNat
                unfold mot
                omega
        · refine Za4 (I6 v2.1 z14.2.1 z14.2.2.1 v19.1 v125.2) (fun z => ((v2.1.length : Int) - z.2.2.1).toNat) ⟨Int.le_refl 0, by dsimp only; omega, rfl, rfl, fun j w i hw => by simp at hw, fun j w u hw => by simp at hw, Int.le_refl _, by dsimp only; omega⟩ (by rw [ZaJ]; dsimp only; omega) fun w k454 hw hk454 => ?_
          have w0 := hw.z0
          have w1 := hw.z1
          have wr := hw.rl
          have wt := hw.tl
          have u0 := hw.n0
          have u1 := hw.n1
          refine Zas (fun hlt2 => ?_) (fun hge => hk129 _ ⟨by dsimp only; omega, by dsimp only; omega, hw.r, hw.t, by dsimp only; omega, by dsimp only; omega⟩)
          obtain ⟨x, hx⟩ : ∃ x, v2.1[w.2.2.1.toNat]? = some x := ⟨_, List.getElem?_eq_getElem (by omega)⟩
          obtain ⟨ci, hci⟩ : ∃ x, z14.2.1[w.2.2.1.toNat]? = some x := ⟨_, List.getElem?_eq_getElem (by omega)⟩
          obtain ⟨u, hu⟩ : ∃ x, z14.2.2.1[w.2.2.1.toNat]? = some x := ⟨_, List.getElem?_eq_getElem (by omega)⟩
          have hcx := h14.cs _ ci x hci hx
          have hux := h14.ts u (Za5 hu)
          have hcv := crv md hx
          refine ZaM w0 hci (ZaM w0 hci (Zbt (ZhK (mk _ (by omega) (by omega)) (by rw [hcx]; dsimp only; omega)) fun v462 ⟨hv462, hc462⟩ => Zbr (by simp only [List.length_singleton]; omega) (Zbd fun y3 hy3 => ZaM w0 hu ?_)))
          dsimp only at hc462
          refine Zbp (fun y => ((0 ≤ u → u - v19.1 ≤ y.1 ∧ y.1 ≤ u + v19.1) ∧ (u < 0 → y.1 = u)) ∧ v462.2 ≤ y.2 ∧ y.2 ≤ v462.2 + 1) (fun y ⟨hyr, hy5, hy6⟩ => ?_) (fun k471 hk471 => ?_)
          · refine Zbr (by simp only [List.length_singleton]; omega) (Zbd fun y4 hy4 => ?_)
            rw [Zaw (n := w.2.2.1 + 1) (by omega)]
            refine hk454 _ ⟨by dsimp only; omega, by dsimp only; omega, by dsimp only; rw [hy3]; simp only [List.length_append, List.length_singleton]; omega, by dsimp only; rw [hy4]; simp only [List.length_append, List.length_singleton]; omega, fun j a i ha hi => ?_, fun j a i ha hi => ?_, by dsimp only; omega, by dsimp only; omega⟩ (by dsimp only; omega)
            · dsimp only at ha
              rw [hy3] at ha
              rcases ZcP ha with h1 | ⟨h1, h2⟩
              · exact hw.r j a i h1 hi
              · have e : j = w.2.2.1.toNat := by omega
                subst e
                rw [hci] at hi; cases hi
                rw [h2]; exact hv462
            · dsimp only at ha
              rw [hy4] at ha
              rcases ZcP ha with h1 | ⟨h1, h2⟩
              · exact hw.t j a i h1 hi
              · have e : j = w.2.2.1.toNat := by omega
                subst e
                rw [hu] at hi; cases hi
                rw [h2]; exact hyr
          · refine Zas (fun hu0 => ?_) (fun hu0 => hk471 _ ⟨⟨fun h => absurd h hu0, fun _ => rfl⟩, by dsimp only; omega, by dsimp only; omega⟩)
            rw [Zaw (n := u - v19.1) (by omega), Zaw (n := u + v19.1) (by omega)]
            refine Zbt (ZhK (mk _ (by omega) (by omega)) (by omega)) fun v477 ⟨hv477, hc477⟩ => hk471 _ ⟨⟨fun _ => hv477, fun h => by omega⟩, ?_, ?_⟩
            · dsimp only at hc477 ⊢; omega
            · dsimp only at hc477 ⊢; omega
      · refine Za4 (I5 z14.2.1 z14.2.2.1 ps) (fun z => ((ps.length : Int) - z.2.2).toNat) ⟨Int.le_refl 0, by dsimp only; omega, by simp [clsP], by simp [selP]⟩ (by rw [ZaJ]; dsimp only; omega) fun w k481 hw hk481 => ?_
        have w0 := hw.z0
        have w1 := hw.z1
        have wc := hw.c
        have wt := hw.t
        refine Zas (fun hlt2 => ZaQ w0 hlt2 fun p hp => ?_) (fun hge => hk108 _ ⟨by dsimp only; rw [wc, ZeM hge], by dsimp only; rw [wt, ZeM hge]⟩)
        have hpe := hel p (Za5 hp)
        have l1 : w.1.length ≤ ps.length := by rw [wc, Zim, List.length_take]; omega
        have l2 : w.2.1.length ≤ ps.length := by rw [wt]; exact Nat.le_trans ZhS (by rw [List.length_take]; omega)
        refine ZaQ (by omega) (by omega) fun ci hci => Zbr (by simp only [List.length_singleton]; omega) (Zbd fun y1 hy1 => ZaM w0 hp ?_)
        have s1 := ZjK w0 hp hci
        rw [Zaw (n := w.2.2 + 1) (by omega)]
        refine Zas (fun hpw => ZaM w0 hp (ZaQ (by omega) (by omega) fun u hu => Zbr (by simp only [List.length_singleton]; omega) (Zbd fun y2 hy2 => ?_))) (fun hpw => ?_)
        · exact hk481 _ ⟨by dsimp only; omega, by dsimp only; omega, by dsimp only; rw [hy1, s1, wc], by dsimp only; rw [hy2, Zgx w0 hp hpw hu, wt]⟩ (by dsimp only; omega)
        · exact hk481 _ ⟨by dsimp only; omega, by dsimp only; omega, by dsimp only; rw [hy1, s1, wc], by dsimp only; rw [Zgy w0 hp hpw, wt]⟩ (by dsimp only; omega)
  · refine Za4 (I1 v2.1 v9.1 v12.1 v12.2) (fun z => ((v2.1.length : Int) - z.2.2.2.1).toNat) ⟨Int.le_refl 0, by dsimp only; omega, rfl, rfl, by simp, fun t ht => by simp at ht, fun j x hj => by dsimp only at hj; omega, fun j i x hi => by simp at hi, fun u hu => by simp at hu, Int.le_refl _, by dsimp only; omega⟩ (by rw [ZaJ]; dsimp only; omega) fun z k hz hk => ?_
    have z0 := hz.z0
    have z1 := hz.z1
    have zc := hz.cl
    have zt := hz.tl
    have zk := hz.tk
    have p0 := hz.n0
    have p1 := hz.n1
    refine Zas (fun hlt => ZaQ z0 hlt fun x hx => ZaM z0 hx (Zbd fun x5 hx5 => Zbr (by simp only [List.length_singleton]; omega) (Zbd fun y1 hy1 => Zbt (Zck (mk _ (by omega) (by omega)) (by decide)) fun v515 ⟨hv515, hc515⟩ => Zbr (by simp only [List.length_singleton]; omega) (Zbd fun y2 hy2 => ZaM z0 hx ?_)))) (fun hge => ?_)
    · have hcv := crv md hx
      dsimp only at hc515
      simp only [List.mem_cons, List.not_mem_nil, or_false] at hv515
      rw [Zaw (n := v9.1 + x.Curve) (by omega)] at hy1 hx5
      rw [Zaw (by omega)] at hx5
      rw [Zaw (n := z.2.2.2.1 + 1) (by omega)]
      have g : ∀ tr : List Int, (tr.length : Int) ≤ z.2.2.2.1 + 1 → (∀ t ∈ tr, IsTr v2.1 t) → (∀ (j : Nat) x, (j : Int) < z.2.2.2.1 + 1 → v2.1[j]? = some x → x.Kind = 4 → (j : Int) ∈ tr) → I1 v2.1 v9.1 v12.1 v12.2 (tr, y1, y2, z.2.2.2.1 + 1, v515.2) := fun tr g1 g2 g3 =>
        ⟨by dsimp only; omega, by dsimp only; omega, by dsimp only; rw [hy1]; simp only [List.length_append, List.length_singleton]; omega, by dsimp only; rw [hy2]; simp only [List.length_append, List.length_singleton]; omega, g1, g2, g3, fun j i y hi hy => by
          dsimp only at hi
          rw [hy1] at hi
          rcases ZcP hi with h1 | ⟨h1, h2⟩
          · exact hz.cs j i y h1 hy
          · have e : j = z.2.2.2.1.toNat := by omega
            subst e
            rw [hx] at hy; cases hy
            rw [h2, hx5], fun u hu => by
          dsimp only at hu
          rw [hy2, List.mem_append, List.mem_singleton] at hu
          rcases hu with hu | hu
          · exact hz.ts u hu
          · rw [hu]; exact hv515, by dsimp only; omega, by dsimp only; omega⟩
      refine Zas (fun h4 => Zbr (by simp only [List.length_singleton]; omega) (Zbd fun y3 hy3 => hk _ (g _ ?_ ?_ ?_) (by dsimp only; omega))) (fun h4 => hk _ (g _ (by omega) hz.tr ?_) (by dsimp only; omega))
      · rw [hy3]; simp only [List.length_append, List.length_singleton]; omega
      · intro t ht
        rw [hy3, List.mem_append, List.mem_singleton] at ht
        rcases ht with ht | ht
        · exact hz.tr t ht
        · subst ht; exact ⟨z0, x, hx, h4⟩
      · intro j y hj hy hk4
        rw [hy3, List.mem_append, List.mem_singleton]
        by_cases hjz : (j : Int) < z.2.2.2.1
        · exact .inl (hz.al j y hjz hy hk4)
        · exact .inr (by omega)
      · intro j y hj hy hk4
        by_cases hjz : (j : Int) < z.2.2.2.1
        · exact hz.al j y hjz hy hk4
        · have e : j = z.2.2.2.1.toNat := by omega
          subst e
          rw [hx] at hy; cases hy; exact absurd hk4 h4
    · obtain ⟨x, hx, hk4⟩ := md.last
      have := hz.al _ x (by omega) hx hk4
      exact hk16 _ ⟨by dsimp only; omega, by dsimp only; omega, by dsimp only; omega, hz.tr, List.length_pos_of_mem this, hz.cs, hz.ts, by dsimp only; omega, by dsimp only; omega⟩
end Go.Hy
namespace Go.Hy
set_option linter.unusedVariables false
set_option linter.unusedSimpArgs false
set_option maxHeartbeats 2000000
set_option maxRecDepth 10000
abbrev Fit (n : Nat) (l : List Rolling) : Prop := ∀ c ∈ l, c.Resist.length = n ∧ c.Targets.length = n
theorem Fit.set {n : Nat} {l : List Rolling} (h : Fit n l) {i : Nat} {c : Rolling} (hc : c.Resist.length = n ∧ c.Targets.length = n) : Fit n (l.set i c) := fun d hd => by
  rcases List.mem_or_eq_of_mem_set hd with h1 | h1
  · exact h d h1
  · rw [h1]; exact hc
end Go.Hy
namespace Go.Hy
set_option linter.unusedVariables false
set_option linter.unusedSimpArgs false
set_option maxHeartbeats 2000000
set_option maxRecDepth 10000
open Go.Hy.Iv
theorem Made.tr {l : List Element} {n : Nat} (h : Made l n) : ∃ t, IsTr l t := by
  have hne := h.u.ne
  have hx : l[l.length - 1]? = some l[l.length - 1] := List.getElem?_eq_getElem (by omega)
  generalize l[l.length - 1] = x at hx
  by_cases hk : x.Kind = 4
  · exact ⟨((l.length - 1 : Nat) : Int), by omega, x, by simpa using hx, hk⟩
  exfalso
  have no : ∀ s : Int, (0 ≤ s ∧ s ≤ 2) → (x.Kind = 3 ↔ s ≠ 0) → False := fun s hs h3 => by
    rcases h.u.cl ⟨((l.length - 1 : Nat) : Int), s⟩ ⟨by simp, hs, x, by simpa using hx, hk, h3⟩ with hh | ⟨j, a, j1, ha, a1, a2⟩
    · cases hh
    · have := Zdn (h.u.ft j) ha (by omega)
      have := Zbl ha
      dsimp only at a1
      omega
  by_cases h3 : x.Kind = 3
  · exact no 1 (by omega) ⟨fun _ => by decide, fun _ => h3⟩
  · exact no 0 (by omega) ⟨fun h => absurd h h3, fun h => absurd rfl h⟩
theorem Zko {ps : List Piece} {n : Int} {x : Piece} (hx : ps[ps.length - 1]? = some x) (hn : n ≤ x.Length) (hp : ∀ p ∈ ps, 1 ≤ p.Length) : ∀ (f : Nat) (j s : Int), 0 ≤ j → j + 1 < ps.length → 0 ≤ s → (ps.length : Int) + 1 ≤ f + j + 1 → 0 ≤ clN ps n f j s := by
  intro f
  induction f with
  | zero => intro j s h0 h1 h2 h3; omega
  | succ f ih =>
    intro j s h0 h1 h2 h3
    unfold clN
    by_cases h : n ≤ s
    · rw [if_pos h]; exact h0
    · rw [if_neg h]
      have hlt : (j + 1).toNat < ps.length := by omega
      have hy : ps[(j + 1).toNat]? = some ps[(j + 1).toNat] := List.getElem?_eq_getElem hlt
      generalize ps[(j + 1).toNat] = y at hy
      rw [hy]
      dsimp only
      have hyp := hp y (Za5 hy)
      by_cases e : j + 2 < ps.length
      · exact ih (j + 1) _ (by omega) (by omega) (by omega) (by omega)
      · have : (j + 1).toNat = ps.length - 1 := by omega
        rw [this, hx] at hy
        cases hy
        obtain ⟨f, rfl⟩ : ∃ f', f = f' + 1 := ⟨f - 1, by omega⟩
        unfold clN
        rw [if_pos (by omega)]
        omega
theorem Zkn {ps : List Piece} {n : Int} {x : Piece} (h : PsOk ps) (hx : ps[ps.length - 1]? = some x) (hn : n ≤ x.Length) {i : Nat} (hi : i + 1 < ps.length) : 0 ≤ clr ps i n :=
  Zko hx hn (fun p hp => (h.ok p hp).l.1) _ _ _ (by omega) (by omega) (by omega) (by omega)
theorem Chk.mk' {l : List Element} {ps : List Piece} {n : Int} (hp : PsOk ps) (he : ∀ p ∈ ps, 0 ≤ p.Element ∧ p.Element < (l.length : Int)) (hn : 1 ≤ n ∧ n ≤ 1000000) {x : Piece} (hx : ps[ps.length - 1]? = some x) (hnx : n ≤ x.Length) : bE l ps true n = 0 := by
  unfold bE
  have h1 : ps.all (inB l) = true := by
    rw [List.all_eq_true]; exact fun p hp => decide_eq_true (he p hp).2
  have h2 : (bhs ps n).all nnB = true := by
    rw [List.all_eq_true]
    intro v hv
    unfold bhs at hv
    obtain ⟨i, hi, rfl⟩ := List.mem_map.1 hv
    exact decide_eq_true (Zkn hp hx hnx (by have := List.mem_range.1 hi; omega))
  rw [if_neg (by simp [Zhe hp]), if_neg (by omega), if_pos ⟨rfl, h1⟩, if_pos h2]
structure Grow (p : List Passage) : Prop where
  s : ∀ q ∈ p, q.Stops = false → q.Slow = true → q.Time.Hi = 1000000000
  t : ∀ q ∈ p, q.Time.Hi ≤ 1000000000
  g : ∀ (i j : Nat) (a b : Passage), i ≤ j → p[i]? = some a → p[j]? = some b → b.Stops = false → a.Stops = false ∧ a.Time.Hi ≤ b.Time.Hi
theorem Zg3 {a : Passage} {p : List Passage} (h : Grow p) (hs : a.Slow = true → a.Time.Hi = 1000000000) (ht : a.Time.Hi ≤ 1000000000) (h0 : a.Stops = false) (hn : ∀ b ∈ p, b.Stops = false → a.Time.Hi ≤ b.Time.Hi) : Grow (a :: p) := by
  refine ⟨fun q hq => ?_, fun q hq => ?_, fun i j b c hij hb hc hcs => ?_⟩
  · rcases List.mem_cons.1 hq with rfl | hq
    · exact fun _ => hs
    · exact h.s q hq
  · rcases List.mem_cons.1 hq with rfl | hq
    · exact ht
    · exact h.t q hq
  · cases i with
    | zero =>
      simp only [List.getElem?_cons_zero, Option.some.injEq] at hb
      subst hb
      refine ⟨h0, ?_⟩
      cases j with
      | zero => simp only [List.getElem?_cons_zero, Option.some.injEq] at hc; subst hc; exact Int.le_refl _
      | succ j => exact hn c (Za5 (by simpa using hc)) hcs
    | succ i =>
      cases j with
      | zero => omega
      | succ j => exact h.g i j b c (by omega) (by simpa using hb) (by simpa using hc) hcs
theorem ZiR (n : Nat) : Grow (List.replicate n stopP) := by
  have all : ∀ q ∈ List.replicate n stopP, q = stopP := fun q hq => List.eq_of_mem_replicate hq
  refine ⟨fun q hq h => ?_, fun q hq => ?_, fun i j a b _ _ hb h => ?_⟩
  · rw [all q hq] at h; cases h
  · rw [all q hq]; decide
  · rw [all b (Za5 hb)] at h; cases h
theorem Zhy {p : Piece} {c : Interval} {tg err : Int} {s s' : RunoffState} (hl : 1 ≤ p.Length) (ht : s.ftime.Hi ≤ 1000000000) (h : psNext p c tg err s = some s') (hnn : 0 ≤ up (2000 * p.Length) (isq s.fenergy.Lo + isq (loE p c s)) ∨ SlowP p c s) :
    s.ftime.Hi ≤ s'.ftime.Hi ∧ s'.ftime.Hi ≤ 1000000000 ∧ (s'.fslow = true → s'.ftime.Hi = 1000000000) := by
  unfold psNext psStep at h
  split at h
  · cases h
  split at h
  · cases h
  simp only [Option.map_some, Option.some.injEq] at h
  subst h
  dsimp only
  by_cases hs : SlowP p c s
  · rw [if_pos hs]; exact ⟨ht, Int.le_refl _, fun _ => rfl⟩
  · rw [if_neg hs]
    have := hnn.resolve_right hs
    exact ⟨by omega, by omega, fun h => absurd (of_decide_eq_true h) hs⟩
theorem ZjT {err : Int} (he : 0 ≤ err ∧ err ≤ 1000) {ps : List Piece} : ∀ {cs : List Interval} {ts : List Int} {s : RunoffState} {i : Nat}, i + ps.length ≤ 200 → (∀ p ∈ ps, PieceOk p) → (∀ c ∈ cs, ClsOk c) → (∀ t ∈ ts, Tg t) → StOk s i → (s.fslow = true → s.ftime.Hi = 1000000000) →
    Grow (psRun err ps cs ts s) ∧ ∀ b ∈ psRun err ps cs ts s, b.Stops = false → s.ftime.Hi ≤ b.Time.Hi := by
  induction ps with
  | nil =>
    intro cs ts s i _ _ _ _ _ _
    unfold psRun
    exact ⟨⟨fun q h => by (cases h), fun q h => by (cases h), fun i j a b _ ha => by simp at ha⟩, fun b h => by (cases h)⟩
  | cons p ps ih =>
    intro cs ts s i hi hp hc ht hs hsl
    have hpo := hp p (List.mem_cons_self ..)
    have hco : ClsOk (cs.headD ⟨0, 0⟩) := ZeS hc (by decide)
    have htg : Tg (tgOf p ts) := by
      unfold tgOf
      split
      · exact ZeS ht (by decide)
      · exact ⟨by decide, by decide⟩
    have htt : ∀ t ∈ tsOf p ts, Tg t := by
      unfold tsOf
      split
      · exact ZeR ht
      · exact ht
    cases hn : psNext p (cs.headD ⟨0, 0⟩) (tgOf p ts) err s with
    | none =>
      rw [Zdk hn]
      refine ⟨ZiR _, fun b hb h => ?_⟩
      rw [List.eq_of_mem_replicate hb] at h; cases h
    | some s' =>
      have hso := Zfe hpo hco htg he hs hn
      simp only [List.length_cons] at hi
      obtain ⟨e0, e1, e2, t0, t1, t2⟩ := hs
      have hw := ZjJ hco
      have hg := ZiT hpo hw.2
      have hlo : 0 ≤ loE p (cs.headD ⟨0, 0⟩) s ∧ loE p (cs.headD ⟨0, 0⟩) s ≤ 1000000000000 := by unfold loE; omega
      have r1 := ZeD (n := s.fenergy.Lo) e0 (by omega)
      have r2 := ZeD hlo.1 hlo.2
      have hl := hpo.l
      have hnn : 0 ≤ up (2000 * p.Length) (isq s.fenergy.Lo + isq (loE p (cs.headD ⟨0, 0⟩) s)) ∨ SlowP p (cs.headD ⟨0, 0⟩) s := by
        by_cases hz : isq s.fenergy.Lo + isq (loE p (cs.headD ⟨0, 0⟩) s) = 0
        · exact .inr (.inr (.inr hz))
        · exact .inl (ZiX (by omega) (by omega)).1
      obtain ⟨q1, q2, q3⟩ := Zhy hl.1 t2 hn hnn
      obtain ⟨g1, g2⟩ := ih (cs := cs.tail) (ts := tsOf p ts) (s := s') (i := i + 1) (by omega) (fun q hq => hp q (List.mem_cons_of_mem _ hq)) (ZeR hc) htt hso q3
      rw [ZcT hn]
      refine ⟨Zg3 g1 q3 q2 rfl g2, fun b hb h => ?_⟩
      rcases List.mem_cons.1 hb with rfl | hb
      · exact q1
      · have := g2 b hb h; omega
theorem Zkr {ps : List Piece} {m : Motion} (hp : PsOk ps) (hm : MotOk ps m) : Grow (psAll ps m) := by
  have hl := hp.len
  obtain ⟨g1, g2⟩ := ZjT hm.err (i := 0) (by omega) hp.ok hm.c hm.t (Zh5 hm) (fun h => by cases h)
  exact Zg3 g1 (fun h => by cases h) (by show (0 : Int) ≤ 1000000000; decide) rfl g2
theorem ZiZ {p : List Passage} (h : Grow p) {i j : Int} (hi : 0 ≤ i) (hij : i ≤ j) (hj : j < p.length) : toP2 p i ≤ toP2 p j := by
  have ha : p[i.toNat]? = some p[i.toNat] := List.getElem?_eq_getElem (by omega)
  have hb : p[j.toNat]? = some p[j.toNat] := List.getElem?_eq_getElem (by omega)
  generalize p[i.toNat] = a at ha
  generalize p[j.toNat] = b at hb
  unfold toP2
  rw [ha, hb]
  dsimp only
  have ta := h.t a (Za5 ha)
  by_cases hbs : b.Stops = true
  · rw [if_pos hbs]
    split <;> omega
  · have := h.g i.toNat j.toNat a b (by omega) ha hb (by simpa using hbs)
    rw [if_neg hbs, if_neg (by rw [this.1]; decide)]
    exact this.2
theorem Zf8 {f : Nat → Option Span} : ∀ (k i j : Nat) (s : Span), (rows f k i)[j]? = some s → f (i + j) = some s ∧ j < k := by
  intro k
  induction k with
  | zero => intro i j s h; simp [rows] at h
  | succ k ih =>
    intro i j s h
    cases hf : f i with
    | none => rw [Ze1 hf] at h; simp at h
    | some t =>
      rw [Zd8 hf] at h
      cases j with
      | zero => simp only [List.getElem?_cons_zero, Option.some.injEq] at h; subst h; exact ⟨hf, by omega⟩
      | succ j =>
        have := ih (i + 1) j s (by simpa using h)
        rw [show i + (j + 1) = i + 1 + j from by omega]
        exact ⟨this.1, by omega⟩
theorem RIn.len {l : List Moment} {m : List Passage} (h : RIn l m) : l.length ≤ m.length := by
  induction h <;> simp_all
end Go.Hy
namespace Go.Hy
set_option linter.unusedVariables false
set_option linter.unusedSimpArgs false
set_option maxHeartbeats 2000000
set_option maxRecDepth 10000
open Go.Hy.Iv
abbrev prevE (ps : List Piece) (j : Nat) : Int := if j = 0 then 0 else elOf ps (j - 1)
theorem ZdC {ps : List Piece} {j : Nat} {p : Piece} (h : ps[j]? = some p) : elOf ps j = p.Element := by unfold elOf; rw [h]
theorem ZgQ {ps : List Piece} {q : Piece} {j : Nat} (hj : j ≤ ps.length) : prevE (ps ++ [q]) j = prevE ps j := by
  unfold prevE
  split
  · rfl
  · unfold elOf; rw [List.getElem?_append_left (by omega)]
structure ChU (l : List Element) (ps : List Piece) : Prop where
  e : ∀ (j : Nat) p, ps[j]? = some p → 1 ≤ p.Element ∧ ∃ x : Element, l[p.Element.toNat]? = some x ∧ x.Parent = prevE ps j ∧ p = pcX p.Element x x.Length ∧ x.Kind ≠ 4
structure PathOk (l : List Element) (c : Rolling) (ps : List Piece) : Prop where
  ok : PsOk ps
  il : InL l ps
  e : ∀ (j : Nat) p, ps[j]? = some p → 1 ≤ p.Element ∧ ∃ x : Element, l[p.Element.toNat]? = some x ∧ x.Parent = prevE ps j ∧ p = pcX p.Element x (if j + 1 < ps.length then x.Length else c.Length) ∧ (x.Kind = 4 ↔ j + 1 = ps.length)
theorem ChU.il {l : List Element} {ps : List Piece} (h : ChU l ps) : InL l ps := fun p hp => by
  obtain ⟨j, hj⟩ := List.getElem?_of_mem hp
  obtain ⟨h1, x, hx, _⟩ := h.e j p hj
  have := Zbl hx
  exact ⟨by omega, by omega⟩
theorem ChU.snoc {l : List Element} {ps : List Piece} (h : ChU l ps) {i : Int} {x : Element} (hi : 1 ≤ i) (hx : l[i.toNat]? = some x) (hp : x.Parent = prevE ps ps.length) (hk : x.Kind ≠ 4) : ChU l (ps ++ [pcX i x x.Length]) := by
  refine ⟨fun j p hj => ?_⟩
  rcases Zd0 hj with h1 | ⟨h1, h2⟩
  · have hjl := Zbl h1
    obtain ⟨g1, y, g2, g3, g4⟩ := h.e j p h1
    exact ⟨g1, y, g2, by rw [g3, ZgQ (by omega)], g4⟩
  · subst h2
    exact ⟨hi, x, hx, by rw [hp, h1, ZgQ (Nat.le_refl _)], rfl, hk⟩
theorem Zjs {p : Piece} {w tg : Int} {x y : Moment} {i : Nat} (hp : PieceOk p) (hw : Wr w) (hx : MomOk x i) (h : ptStep p w tg x = some y) : x.Time ≤ y.Time := by
  unfold ptStep at h
  split at h
  · cases h
  split at h
  · cases h
  rename_i h1 h2
  obtain ⟨e0, e1, t0, t1⟩ := hx
  have q1 := (Zbq e0).1
  have q2 := (Zbq (n := x.Energy + gd p w) (by omega)).1
  have hu := ZiX (x := 2000 * p.Length) (d := isq x.Energy + isq (x.Energy + gd p w)) (by have := hp.l; omega) (by omega)
  simp only [Option.some.injEq] at h
  subst h
  dsimp only; omega
theorem Zh3 : ∀ {ps : List Piece} {ws ts : List Int} {x : Moment} {i : Nat}, (∀ p ∈ ps, PieceOk p) → (∀ w ∈ ws, Wr w) → MomOk x i →
    (∀ (j : Nat) m, (ptRun ps ws ts x)[j]? = some m → x.Time ≤ m.Time ∧ MomOk m (i + j + 1)) ∧ ∀ (j : Nat) m m', (ptRun ps ws ts x)[j]? = some m → (ptRun ps ws ts x)[j + 1]? = some m' → m.Time ≤ m'.Time
  | [], ws, ts, x, i => fun _ _ _ => ⟨fun j m h => by simp [ptRun] at h, fun j m m' h => by simp [ptRun] at h⟩
  | p :: ps, ws, ts, x, i => fun hp hw hx => by
    rw [ptRun]
    cases hst : ptStep p (ws.headD 0) (tgOf p ts) x with
    | none => exact ⟨fun j m h => by simp at h, fun j m m' h => by simp at h⟩
    | some y =>
      have hw0 : Wr (ws.headD 0) := by
        cases ws with
        | nil => exact ⟨by decide, by decide⟩
        | cons w ws => exact hw w List.mem_cons_self
      have hpp := hp p List.mem_cons_self
      have hy := Zfd hpp hw0 hx hst
      have hle := Zjs hpp hw0 hx hst
      obtain ⟨ih1, ih2⟩ := Zh3 (ps := ps) (ws := ws.tail) (ts := tsOf p ts) (x := y) (i := i + 1) (fun q hq => hp q (List.mem_cons_of_mem _ hq)) (fun w hww => hw w (List.mem_of_mem_tail hww)) hy
      dsimp only
      refine ⟨fun j m h => ?_, fun j m m' h h' => ?_⟩
      · cases j with
        | zero => rw [List.getElem?_cons_zero] at h; cases h; exact ⟨hle, hy⟩
        | succ j =>
          rw [List.getElem?_cons_succ] at h
          obtain ⟨g1, g2⟩ := ih1 j m h
          exact ⟨by omega, by rw [show i + (j + 1) + 1 = i + 1 + j + 1 from by omega]; exact g2⟩
      · cases j with
        | zero =>
          rw [List.getElem?_cons_zero] at h; cases h
          rw [List.getElem?_cons_succ] at h'
          exact (ih1 0 m' h').1
        | succ j =>
          rw [List.getElem?_cons_succ] at h h'
          exact ih2 j m m' h h'
theorem Zh4 {ps : List Piece} {r : Run} (hp : PsOk ps) (hr : RunOk ps r) : (∀ (j : Nat) m, (ptAll ps r)[j]? = some m → 0 ≤ m.Time ∧ m.Time ≤ 1000000000) ∧ ∀ (j : Nat) m m', (ptAll ps r)[j]? = some m → (ptAll ps r)[j + 1]? = some m' → m.Time ≤ m'.Time := by
  unfold ptAll
  have h0 := pt0_ok hr
  obtain ⟨h1, h2⟩ := Zh3 (ps := ps) (ws := r.Resist) (ts := r.Targets) hp.ok hr.w h0
  refine ⟨fun j m h => ?_, fun j m m' h h' => ?_⟩
  · cases j with
    | zero => rw [List.getElem?_cons_zero] at h; cases h; exact ⟨h0.t0, h0.t1⟩
    | succ j => rw [List.getElem?_cons_succ] at h; have := (h1 j m h).2; exact ⟨this.t0, this.t1⟩
  · cases j with
    | zero =>
      rw [List.getElem?_cons_zero] at h; cases h
      rw [List.getElem?_cons_succ] at h'; exact (h1 0 m' h').1
    | succ j => rw [List.getElem?_cons_succ] at h h'; exact h2 j m m' h h'
theorem exE_ok {l : List Element} {c : Rolling} {ps : List Piece} (hl : 1 ≤ c.Length ∧ c.Length ≤ 1000000) (h : PathOk l c ps) : exE l ps (ptAll ps (rnOf c ps)) c.Length = (rows (exF l ps (ptAll ps (rnOf c ps)) c.Length) (ps.length - 1) 0, 0) := by
  have hm := ZeO (ps := ps) (r := rnOf c ps)
  have hlen := h.ok.len
  have hx : ps[ps.length - 1]? = some ps[ps.length - 1] := List.getElem?_eq_getElem (by omega)
  obtain ⟨_, x, _, _, hp, _⟩ := h.e _ _ hx
  have hpl : (ps[ps.length - 1]).Length = c.Length := by
    rw [hp, if_neg (by omega)]; rfl
  have hb : bE l ps (decide (1 ≤ (ptAll ps (rnOf c ps)).length ∧ (ptAll ps (rnOf c ps)).length ≤ ps.length + 1)) c.Length = 0 := by
    rw [decide_eq_true hm]
    exact Chk.mk' h.ok h.il hl hx (by omega)
  unfold exE
  rw [hb, if_neg (by simp)]
theorem Ze2 {f : Nat → Option Span} : ∀ (k i : Nat), (∀ j, i ≤ j → j < i + k → (f j).isSome = true) → (rows f k i).length = k
  | 0, i => fun _ => by simp [rows]
  | k + 1, i => fun h => by
    obtain ⟨s, hs⟩ := Option.isSome_iff_exists.1 (h i (Nat.le_refl _) (by omega))
    rw [Zd8 hs, List.length_cons, Ze2 k (i + 1) (fun j h1 h2 => h j (by omega) (by omega))]
end Go.Hy
namespace Go.Hy
set_option linter.unusedVariables false
set_option linter.unusedSimpArgs false
set_option maxHeartbeats 2000000
set_option maxRecDepth 10000
open Go.Hy.Iv
theorem ZhT : Zcz = some true := by kernel_rfl
theorem VSp.to {s : Scene} (hb : ScB s) (h : VSp s 0) : SV s := by
  obtain ⟨h1, h2, h3⟩ := h.sv
  refine ⟨h1, ?_, ?_, hb.st, h3⟩
  · rcases Nat.lt_or_ge 1024 s.Commands.length with h | h
    · exact absurd (.inl h) h2
    · exact h
  · rcases Nat.lt_or_ge 96 s.Cuts.length with h | h
    · exact absurd (.inr h) h2
    · exact h
end Go.Hy
namespace Go.Hy
set_option linter.unusedVariables false
set_option linter.unusedSimpArgs false
set_option maxHeartbeats 2000000
set_option maxRecDepth 10000
open Go.Hy.Iv
theorem ZeZ {α : Type} {l : List α} {k : Nat} {d : α} : (l.take (k + 1)).headD d = l.headD d := by cases l <;> rfl
theorem Zgu {α : Type} {l : List α} {k : Nat} : (l.take (k + 1)).tail = l.tail.take k := by cases l <;> simp
theorem tg_take {p : Piece} {q : List Piece} {ts : List Int} : tgOf p (ts.take (nret (p :: q))) = tgOf p ts ∧ tsOf p (ts.take (nret (p :: q))) = (tsOf p ts).take (nret q) := by
  unfold tgOf tsOf
  simp only [nret]
  by_cases h : 0 < p.Power
  · rw [if_pos h, if_pos h, if_pos h, if_pos h, if_pos h, Nat.add_comm 1]
    exact ⟨ZeZ, Zgu⟩
  · rw [if_neg h, if_neg h, if_neg h, if_neg h, if_neg h, Nat.zero_add]
    exact ⟨rfl, rfl⟩
theorem ZiH {ps : List Piece} : ∀ {ws ts : List Int} {x : Moment} (k : Nat), ptRun (ps.take k) (ws.take k) (ts.take (nret (ps.take k))) x = (ptRun ps ws ts x).take k := by
  induction ps with
  | nil => intro ws ts x k; simp [ptRun]
  | cons p ps ih =>
    intro ws ts x k
    cases k with
    | zero => simp [ptRun]
    | succ k =>
      rw [List.take_succ_cons]
      obtain ⟨h1, h2⟩ := tg_take (p := p) (q := ps.take k) (ts := ts)
      cases hs : ptStep p (ws.headD 0) (tgOf p ts) x with
      | none => rw [ZcS hs, ZcS (by rw [ZeZ, h1]; exact hs)]; rfl
      | some y => rw [ZcR hs, ZcR (y := y) (by rw [ZeZ, h1]; exact hs), Zgu, h2, ih k]; rfl
end Go.Hy
namespace Go.Hy
set_option linter.unusedVariables false
set_option linter.unusedSimpArgs false
set_option maxHeartbeats 2000000
set_option maxRecDepth 10000
open Go.Hy.Iv
theorem cpth_ok {l : List Element} (h : VL l) {c : Rolling} (ht : IsTr l c.Track) (hn : 1 ≤ c.Length ∧ c.Length ≤ sh l) : PathOk l c (cpth l c) ∧ elOf (cpth l c) ((cpth l c).length - 1) = c.Track := by
  obtain ⟨e1, e2, hok, hel⟩ := ZjI h ht hn
  have hlen := h.len
  obtain ⟨g1, g2, g3⟩ := pth_ok h ht
  have hgl := g1.len
  obtain ⟨t0, xt, hxt, hkt⟩ := ht
  have htl := Zbl hxt
  obtain ⟨a1, a2, a3, a4⟩ := ZhM h (c.Track.toNat + 1) c.Track (by omega) t0 (by omega)
  obtain ⟨q1, q2, q3⟩ := Zf5 (n := c.Length) g3 (by omega)
  have hwl : (pth l c.Track).length = (way l c.Track).length - 1 := Zjq
  -- elements and parents
  have key : ∀ (j : Nat) p, (pth l c.Track)[j]? = some p → ∃ e x, (way l c.Track)[j + 1]? = some e ∧ 1 ≤ e ∧ l[e.toNat]? = some x ∧ (way l c.Track)[j]? = some x.Parent ∧ p = pcX e x x.Length := fun j p hp => by
    obtain ⟨e, he, hpe⟩ := Zjr hp
    obtain ⟨b1, x, b2, b3⟩ := a4 j e he
    refine ⟨e, x, he, b1, b2, b3, ?_⟩
    rw [hpe]; unfold pcOf; rw [b2]; rfl
  have elw : ∀ (j : Nat), j < (pth l c.Track).length → (way l c.Track)[j + 1]? = some (elOf (setL (pth l c.Track) c.Length) j) := fun j hj => by
    obtain ⟨e, x, he, _, _, _, hpe⟩ := key j _ (List.getElem?_eq_getElem hj)
    rw [he]
    congr 1
    unfold elOf
    by_cases hjl : j = (pth l c.Track).length - 1
    · have hq2 := q2
      rw [← hjl] at hq2
      rw [hq2]
      dsimp only
      have := g3
      rw [← hjl, List.getElem?_eq_getElem hj] at this
      rw [← Option.some.inj this, hpe]; rfl
    · rw [q3 j hjl, List.getElem?_eq_getElem hj]
      dsimp only
      rw [hpe]; rfl
  have par : ∀ (j : Nat), j < (pth l c.Track).length → (way l c.Track)[j]? = some (prevE (setL (pth l c.Track) c.Length) j) := fun j hj => by
    unfold prevE
    split
    · rename_i h0; subst h0; exact a1
    · rename_i h0
      have := elw (j - 1) (by omega)
      rw [show j - 1 + 1 = j from by omega] at this
      exact this
  -- parents are no tracks
  have nk : ∀ (j : Nat) e x, j + 1 < (pth l c.Track).length → (way l c.Track)[j + 1]? = some e → l[e.toNat]? = some x → 1 ≤ e → x.Kind ≠ 4 := fun j e x hj he hx h1 h4 => by
    obtain ⟨e', x', he', b1, b2, b3, _⟩ := key (j + 1) _ (List.getElem?_eq_getElem hj)
    rw [he] at b3
    have hp := Option.some.inj b3
    have ft := h.ft e'.toNat
    have el := (h.el b2).2 (by omega)
    unfold ftE at ft
    rw [b2] at ft
    dsimp only at ft
    split at ft
    · omega
    · split at ft
      · omega
      · split at ft
        · omega
        · split at ft
          · omega
          · have hx' : l[x'.Parent.toNat]? = some x := by rw [← hp]; exact hx
            rw [hx'] at ft
            dsimp only at ft
            rw [if_pos (.inl h4)] at ft
            omega
  refine ⟨⟨hok, fun p hp => by have := hel p hp; omega, fun j p hj => ?_⟩, ?_⟩
  · have hj0 : (setL (pth l c.Track) c.Length)[j]? = some p := hj
    have hjl := Zbl hj0
    rw [q1] at hjl
    obtain ⟨e, x, he, b1, b2, b3, hpe⟩ := key j _ (List.getElem?_eq_getElem hjl)
    have hpar : x.Parent = prevE (setL (pth l c.Track) c.Length) j := by
      have := par j hjl
      rw [b3] at this
      exact Option.some.inj this
    have hce : (cpth l c).length = (pth l c.Track).length := q1
    by_cases hjk : j = (pth l c.Track).length - 1
    · have hq2 := q2
      rw [← hjk, hj0] at hq2
      have hp := Option.some.inj hq2
      have := g3
      rw [← hjk, List.getElem?_eq_getElem hjl] at this
      have hpc := Option.some.inj this
      have hpe2 : pcOf l c.Track = pcX e x x.Length := by rw [← hpc, hpe]
      have hpel : p.Element = e := by rw [hp, hpe2]; rfl
      refine ⟨by omega, x, by rw [hpel]; exact b2, hpar, ?_, ⟨fun _ => by omega, fun _ => ?_⟩⟩
      · rw [if_neg (by omega), hpel, hp, hpe2]; rfl
      · have hel2 : e = c.Track := by
          rw [hjk, show (pth l c.Track).length - 1 + 1 = (way l c.Track).length - 1 from by omega, a2] at he
          exact (Option.some.inj he).symm
        rw [hel2, hxt] at b2
        cases b2; exact hkt
    · rw [q3 j hjk, List.getElem?_eq_getElem hjl] at hj0
      have hp := Option.some.inj hj0
      rw [hpe] at hp
      have hpel : p.Element = e := by rw [← hp]; rfl
      refine ⟨by omega, x, by rw [hpel]; exact b2, hpar, ?_, ⟨fun h4 => absurd h4 (nk j e x (by omega) he b2 b1), fun hl => by omega⟩⟩
      rw [if_pos (by omega), hpel, ← hp]
  · have hce : (cpth l c).length = (pth l c.Track).length := q1
    have := elw ((pth l c.Track).length - 1) (by omega)
    rw [show (pth l c.Track).length - 1 + 1 = (way l c.Track).length - 1 from by omega, a2] at this
    rw [hce]
    exact (Option.some.inj this).symm
theorem ZjQ {α β γ : Type} {R : α → β → Prop} {f : γ → α} {g : γ → β} : ∀ {l : List γ}, (∀ x ∈ l, R (f x) (g x)) → L2 R (l.map f) (l.map g)
  | [] => fun _ => .nil
  | x :: l => fun h => .cons (h x List.mem_cons_self) (ZjQ fun y hy => h y (List.mem_cons_of_mem _ hy))
structure ClOk (l : List Element) (cl : List Interval) (tg : List Int) (sp : Int) : Prop where
  cn : cl.length = l.length
  tn : tg.length = l.length
  c : ∀ i ∈ cl, 0 ≤ i.Lo ∧ i.Lo ≤ i.Hi ∧ i.Hi ≤ 300
  t : ∀ u ∈ tg, u = -1 ∨ u = 1500 ∨ u = 3000 ∨ u = 6000
  s : sp = 0 ∨ sp = 20
theorem Clss.ok {l : List Element} {cl : List Interval} {tg : List Int} {sp : Int} (h : Clss l cl tg sp) {n : Nat} (md : Made l n) : ClOk l cl tg sp := by
  refine ⟨h.cn, h.tn, fun i hi => ?_, h.t, h.s⟩
  obtain ⟨j, hj⟩ := List.getElem?_of_mem hi
  have hjl := Zbl hj
  have hcn := h.cn
  obtain ⟨lo, wd, h1, h2, h3⟩ := h.c
  have hx : l[j]? = some l[j] := List.getElem?_eq_getElem (by omega)
  have := crv md hx
  rw [h3 j i _ hj hx]
  dsimp only; omega
theorem mot_ok {l : List Element} {cl : List Interval} {tg : List Int} {sp v : Int} (h : ClOk l cl tg sp) (hv : v = 1200 ∨ v = 1500 ∨ v = 3000) {ps : List Piece} : MotOk ps (mot cl tg sp v ps) := by
  have hs := h.s
  refine ⟨⟨by show 0 ≤ v; omega, by show v ≤ v + sp; omega, by show v + sp ≤ 20000; omega⟩, Zim, fun i hi => ?_, ⟨by show 0 ≤ sp; omega, by show sp ≤ 1000; omega⟩, Ze0, fun u hu => ?_⟩
  · obtain ⟨p, _, hp⟩ := List.mem_map.1 hi
    rw [← hp]
    cases hc : cl[p.Element.toNat]? with
    | none => decide
    | some c => have := h.c c (Za5 hc); simp only [Option.getD_some]; exact ⟨by omega, by omega, by omega⟩
  · obtain ⟨p, _, hp⟩ := List.mem_map.1 hu
    rw [← hp]
    cases hc : tg[p.Element.toNat]? with
    | none => decide
    | some c => have := h.t c (Za5 hc); simp only [Option.getD_some]; exact ⟨by omega, by omega⟩
theorem run_inM {l : List Element} {cl : List Interval} {tg : List Int} {sp v : Int} (h : ClOk l cl tg sp) {c : Rolling} {ss : List Span} (hp : PlCut l cl tg sp c ss) (hv : v ≤ c.Speed ∧ c.Speed ≤ v + sp) {ps : List Piece} (hi : InL l ps) : RunIn (mot cl tg sp v ps) (rnOf c ps) := by
  have hs := h.s
  have hrl := hp.rl
  have htl := hp.tl
  have hcn := h.cn
  have htn := h.tn
  refine ⟨hv, ZjQ fun p hpp => ?_, ?_⟩
  · have := hi p hpp
    have hc := List.getElem?_eq_getElem (by omega : p.Element.toNat < cl.length)
    have hw := List.getElem?_eq_getElem (by omega : p.Element.toNat < c.Resist.length)
    rw [hc, hw]
    exact hp.r _ _ _ hw hc
  · show L2 (TgIn sp) (selP tg ps) (selP c.Targets ps)
    unfold selP
    refine ZjQ fun p hpp => ?_
    have := hi p (List.mem_filter.1 hpp).1
    have hc := List.getElem?_eq_getElem (by omega : p.Element.toNat < tg.length)
    have hw := List.getElem?_eq_getElem (by omega : p.Element.toNat < c.Targets.length)
    rw [hc, hw]
    obtain ⟨t1, t2⟩ := hp.t _ _ _ hw hc
    have hu := h.t _ (Za5 hc)
    refine ⟨fun hn => t2 hn, fun hn => ?_⟩
    have hn2 : 0 ≤ tg[p.Element.toNat] := hn
    have := t1 hn2
    simp only [Option.getD_some]
    omega
structure Pln (s : Scene) (S : List (List Span)) (R : List Int) : Prop where
  sv : SV s
  hv : ZbV s = some 0
  sn : S.length = s.Cuts.length
  rn : R.length = s.Cuts.length
  rel : ∀ (i : Nat) c r, s.Cuts[i]? = some c → R[i]? = some r → c.Release = r
  rb : RelB R
  so : ∀ ss ∈ S, SpOk ss
  gap : ∀ (i b : Nat) v u y x, b < i → R[i]? = some v → R[b]? = some u → (∃ si, S[i]? = some si ∧ y ∈ si) → (∃ sb, S[b]? = some sb ∧ x ∈ sb) → x.Element = y.Element → u + x.To ≤ v + y.From
  cls : ∃ cl tg sp, ClOk s.Elements cl tg sp ∧ ∀ (i : Nat) c ss, s.Cuts[i]? = some c → S[i]? = some ss → PlCut s.Elements cl tg sp c ss
  cmd : ∃ U, s.Commands.Perm U ∧ CmS S R s.Throw s.Start S.length 0 U
theorem Zi6 {l : List Element} {ps : List Piece} {p : List Passage} {n : Int} {ss : List Span} (h : spE l ps p n = (ss, 0)) : ss = rows (spF l ps p n) (ps.length - 1) 0 := by
  unfold spE at h
  split at h
  · rename_i h1
    have := (Prod.ext_iff.1 h).2
    exact absurd this h1
  · exact (Prod.ext_iff.1 h).1.symm
theorem Zi7 {l : List Element} {ps : List Piece} {j : Nat} (h : sdOf l ps j ≠ 0) : ∃ x, l[(elOf ps j).toNat]? = some x ∧ x.Kind = 3 := by
  unfold sdOf at h
  unfold elOf
  cases hp : ps[j]? with
  | none => rw [hp] at h; simp at h
  | some p =>
    rw [hp] at h
    dsimp only at h ⊢
    cases hx : l[p.Element.toNat]? with
    | none => rw [hx] at h; simp at h
    | some x =>
      rw [hx] at h
      dsimp only at h
      split at h
      · rename_i h3; exact ⟨x, rfl, h3⟩
      · simp at h
theorem Zkc {p : YardgenPush} {n : Int} (h : PlanOk p n) (hn : n ≤ 96) (hok : p.OK = true) : Pln p.Scene p.Spans p.Releases := by
  obtain ⟨rel, e1, h1, h2, h3, e2⟩ := h.ok hok
  have vl := h.md.vl (by decide)
  have hlen := vl.len
  have hsl := h.sl
  have hct := h.ct
  have hsn := h.sn
  have hth := h.th
  obtain ⟨cl, tg, sp, hcls, hpl⟩ := h.c
  have hclo := hcls.ok h.md
  have cutOf : ∀ (i : Nat) ss, p.Spans[i]? = some ss → ∃ c, p.Scene.Cuts[i]? = some c ∧ PlCut p.Scene.Elements cl tg sp c ss := fun i ss hi => by
    have := Zbl hi
    have hc := List.getElem?_eq_getElem (by omega : i < p.Scene.Cuts.length)
    exact ⟨_, hc, hpl i _ ss hc hi⟩
  have so : ∀ ss ∈ p.Spans, SpOk ss := fun ss hss => by
    obtain ⟨i, hi⟩ := List.getElem?_of_mem hss
    obtain ⟨c, _, hc⟩ := cutOf i ss hi
    exact Zhj hc.sv
  obtain ⟨r1, f1, f2⟩ := Zhm (t := p.Scene.Throw) so
  rw [e1] at f1
  cases f1
  have ro := f2 rfl
  dsimp only at ro
  obtain ⟨r2, g1, g2⟩ := Zhn (rs := p.Releases) (t := p.Scene.Throw) (st := p.Scene.Start) so (by omega) (by omega)
  rw [e2] at g1
  cases g1
  obtain ⟨hrb, _, _, U, hU, hcs⟩ := g2 rfl
  dsimp only at hU
  -- releases
  have relv : ∀ (i : Nat) r, p.Releases[i]? = some r → ∃ q, rel[i]? = some q ∧ r = q + p.Scene.Throw := fun i r hr => by
    have := Zbl hr
    have hq := List.getElem?_eq_getElem (by omega : i < rel.length)
    have hc := List.getElem?_eq_getElem (by omega : i < p.Scene.Cuts.length)
    obtain ⟨k1, _⟩ := h3 i _ _ hc hq
    have hqr := ro.r i _ hq
    rw [hr] at k1
    rw [Zaw (by omega)] at k1
    exact ⟨_, hq, Option.some.inj k1⟩
  have crel : ∀ (i : Nat) c r, p.Scene.Cuts[i]? = some c → p.Releases[i]? = some r → c.Release = r := fun i c r hc hr => by
    obtain ⟨q, hq, e⟩ := relv i r hr
    obtain ⟨k1, k2⟩ := h3 i c q hc hq
    rw [hr] at k1
    rw [k2, Option.some.inj k1]
  have sv : SV p.Scene := by
    refine ⟨h.md.lE (by decide), h.cm, by omega, by omega, ⟨by omega, h.st, fun i x hx => ?_, fun i c hc => ?_⟩⟩
    · have hxU : x ∈ U := hU.subset (Za5 hx)
      obtain ⟨ko, _⟩ := hcs.ok x hxU
      obtain ⟨ss, r, s0, o1, o2, o3, o4, o5, o6, o7⟩ := ko.o
      obtain ⟨c, hc, pc⟩ := cutOf _ ss o1
      have hil := Zbl o1
      have hkc := ko.c
      refine ⟨ko.t, ⟨⟨?_, ?_⟩, ?_⟩, hkc, by omega⟩
      · have := (Zhj pc.sv).r s0 o3; omega
      · obtain ⟨v, q, _, _, m3, _⟩ := pc.m
        have hss := Zi6 m3
        obtain ⟨j, hj⟩ := List.getElem?_of_mem o3
        rw [hss] at hj
        obtain ⟨j1, j2⟩ := Zf8 _ _ _ _ hj
        rw [Nat.zero_add] at j1
        unfold spF at j1
        split at j1
        · cases j1
        · split at j1
          · cases j1
          · have e9 := Option.some.inj j1
            have hsd : sdOf p.Scene.Elements (cpth p.Scene.Elements c) j ≠ 0 := by rw [← e9] at o6; exact o6
            obtain ⟨x3, hx3, hk3⟩ := Zi7 hsd
            refine ⟨x3, ?_, hk3⟩
            rw [← o4, ← e9]; exact hx3
      · have := (Zhj pc.sv).r s0 o3
        rw [← o5]
        show s0.Side = 1 ∨ s0.Side = 2
        omega
    · have hil := Zbl hc
      have hsp := List.getElem?_eq_getElem (by omega : i < p.Spans.length)
      have hrr := List.getElem?_eq_getElem (by omega : i < p.Releases.length)
      have pc := hpl i c _ hc hsp
      have hcr := crel i c _ hc hrr
      have hrb1 := hrb.r i _ hrr
      obtain ⟨v, q, m1, m2, _⟩ := pc.m
      have hs := hclo.s
      have hcn := hclo.cn
      have htn := hclo.tn
      refine ⟨⟨by omega, pc.len, pc.trk, by omega, pc.rl, pc.tl, ?_, ?_⟩, fun d hi hd => ?_⟩
      · rw [List.all_eq_true]
        intro w hw
        obtain ⟨j, hj⟩ := List.getElem?_of_mem hw
        have hjl := Zbl hj
        have hprl := pc.rl
        have hc2 := List.getElem?_eq_getElem (by omega : j < cl.length)
        have := pc.r j w _ hj hc2
        have := hclo.c _ (Za5 hc2)
        exact decide_eq_true ⟨by omega, by omega⟩
      · rw [List.all_eq_true]
        intro w hw
        obtain ⟨j, hj⟩ := List.getElem?_of_mem hw
        have hjl := Zbl hj
        have hptl := pc.tl
        have hc2 := List.getElem?_eq_getElem (by omega : j < tg.length)
        have := pc.t j w _ hj hc2
        have := hclo.t _ (Za5 hc2)
        exact decide_eq_true ⟨by omega, by omega⟩
      · have hrd := List.getElem?_eq_getElem (by omega : i - 1 < p.Releases.length)
        have hcd := crel (i - 1) d _ hd hrd
        have := hrb.m i _ _ hi hrr hrd
        omega
  have hb : ScB p.Scene := ⟨h.md.u.nms, by omega⟩
  obtain ⟨e, v1, v2, v3⟩ := Zis hb
  have e0 : e = 0 := v3.uniq (.inr (.inr (.inl ⟨sv.l0, by have := sv.cm; have := sv.ct; rintro (h | h) <;> omega, sv.v, rfl⟩)))
  subst e0
  refine ⟨sv, v2, hsn, by omega, crel, hrb, so, fun i b v u y x hbi hv hu hy hx hxy => ?_, ⟨cl, tg, sp, hclo, hpl⟩, ⟨U, hU, hcs⟩⟩
  obtain ⟨q1, w1, w2⟩ := relv i v hv
  obtain ⟨q2, w3, w4⟩ := relv b u hu
  have := ro.g i b q1 q2 y x hbi w1 w3 hy hx hxy
  omega
end Go.Hy
namespace Go.Hy
set_option linter.unusedVariables false
set_option linter.unusedSimpArgs false
set_option maxHeartbeats 2000000
set_option maxRecDepth 10000
open Go.Hy.Iv
structure RdIn (l : List Element) (c : Rolling) (ps : List Piece) (ss : List Span) (r : Int) : Prop where
  p : PathOk l c ps
  pl : elOf ps (ps.length - 1) = c.Track
  ml : (ptAll ps (rnOf c ps)).length = ps.length + 1
  tr : (rideF l c ps).Track = c.Track
  sl : (rideF l c ps).Spans.length = ss.length
  sn : ss.length = ps.length - 1
  i : ∀ (j : Nat) y, (rideF l c ps).Spans[j]? = some y → ∃ z, ss[j]? = some z ∧ y.Element = z.Element ∧ y.Side = z.Side ∧ r + z.From ≤ y.From ∧ y.To ≤ r + z.To ∧ (0 ≤ y.From ∧ y.From ≤ 2000000000) ∧ (0 ≤ y.To ∧ y.To ≤ 2000000000)
  z : ∀ (j : Nat) z, ss[j]? = some z → z.Element = elOf ps j ∧ z.Side = sdOf l ps j ∧ ∃ m, (ptAll ps (rnOf c ps))[j]? = some m ∧ z.From ≤ m.Time
theorem ZdU {s : Scene} {S : List (List Span)} {R : List Int} (h : Pln s S R) {i : Nat} {c : Rolling} {ss : List Span} {r : Int} (hc : s.Cuts[i]? = some c) (hs : S[i]? = some ss) (hr : R[i]? = some r) : RdIn s.Elements c (cpth s.Elements c) ss r := by
  have vl := Zhz h.sv.l0
  have hrl := (h.sv.v.ct i c hc).1
  have hsh := ZhQ vl
  have hrel := h.rel i c r hc hr
  have hrr := h.rb.r i r hr
  obtain ⟨cl, tg, sp, hcl, hpl⟩ := h.cls
  have pc := hpl i c ss hc hs
  obtain ⟨hp, hel⟩ := cpth_ok vl pc.trk pc.len
  have hpcl := pc.len
  obtain ⟨v, q, hv, hsp, m3, m4, m5, m6, m7⟩ := pc.m
  have hmo := mot_ok hcl hv (ps := cpth s.Elements c)
  have hri := run_inM hcl pc hsp hp.il
  have hro := rn_ok hrl (ps := cpth s.Elements c)
  have hin := all_in hp.ok hmo hro hri
  rw [Zka hp.ok hmo] at m3 m4
  dsimp only at m3 m4
  have hss := Zi6 m3
  have hgr := Zkr hp.ok hmo
  have hsl := ZgP (ps := cpth s.Elements c) (m := mot cl tg sp v (cpth s.Elements c))
  have hml := ZeO (ps := cpth s.Elements c) (r := rnOf c (cpth s.Elements c))
  have he := exE_ok (l := s.Elements) (c := c) (by omega) hp
  have hpl2 := hp.ok.len
  generalize hps : cpth s.Elements c = ps at *
  generalize hM : psAll ps (mot cl tg sp v ps) = M at *
  generalize hm : ptAll ps (rnOf c ps) = m at *
  have hfull : m.length = ps.length + 1 := by
    rcases Nat.lt_or_ge m.length (ps.length + 1) with hlt | hge
    · have hq : M[ps.length]? = some q := by rw [← m4, hsl, Nat.add_sub_cancel]
      rcases hin.rest ps.length q (by omega) hq with h1 | h1
      · rw [m6] at h1; cases h1
      · rw [m5] at h1; cases h1
    · omega
  have hstop : ptStop ps (rnOf c ps) < 0 := (ZfR (ps := ps) (r := rnOf c ps)).1.2 (by rw [hm]; exact hfull)
  have hx : ps[ps.length - 1]? = some ps[ps.length - 1] := List.getElem?_eq_getElem (by omega)
  have hchk : Chk s.Elements ps c.Length := by
    unfold spE at m3
    split at m3
    · rename_i h1; exact absurd (Prod.ext_iff.1 m3).2 h1
    · rename_i h1; exact (Zkq (Decidable.not_not.1 h1)).1
  have hspn : (rideF s.Elements c ps).Spans = (rows (exF s.Elements ps m c.Length) (ps.length - 1) 0).map (shiftF c) := by
    unfold rideF
    dsimp only
    rw [hm, he]
  have hstops : ∀ (j : Nat) q', M[j]? = some q' → j ≤ ps.length → q'.Stops = false := fun j q' hq' hj => by
    have hmj := List.getElem?_eq_getElem (by omega : j < m.length)
    exact (hin.get j _ q' hmj hq').s
  have hsome : ∀ (j : Nat), j < ps.length → ∃ q', M[j]? = some q' ∧ spF s.Elements ps M c.Length j = some ⟨elOf ps j, sdOf s.Elements ps j, q'.Time.Lo, toP2 M (clr ps j c.Length + 1)⟩ := fun j hj => by
    have hmj := List.getElem?_eq_getElem (by omega : j < M.length)
    refine ⟨_, hmj, ?_⟩
    unfold spF
    rw [hmj]
    dsimp only
    rw [if_neg (by rw [hstops j _ hmj (by omega)]; decide)]
  have hssl : ss.length = ps.length - 1 := by
    rw [hss]
    exact Ze2 _ _ fun j _ hj => by
      obtain ⟨q', _, h2⟩ := hsome j (by omega)
      rw [h2]; rfl
  have hrsl : (rideF s.Elements c ps).Spans.length = ps.length - 1 := by
    rw [hspn, List.length_map]
    exact Ze2 _ _ fun j _ hj => by
      unfold exF
      rw [List.getElem?_eq_getElem (by omega : j < m.length)]; rfl
  have zget : ∀ (j : Nat) z, ss[j]? = some z → j < ps.length - 1 ∧ ∃ q', M[j]? = some q' ∧ z = ⟨elOf ps j, sdOf s.Elements ps j, q'.Time.Lo, toP2 M (clr ps j c.Length + 1)⟩ := fun j z hz => by
    rw [hss] at hz
    obtain ⟨j1, j2⟩ := Zf8 _ _ _ _ hz
    rw [Nat.zero_add] at j1
    obtain ⟨q', h1, h2⟩ := hsome j (by omega)
    rw [h2] at j1
    exact ⟨j2, q', h1, (Option.some.inj j1).symm⟩
  have hlast : toP2 M ps.length ≤ 10000000 := by
    have hq : M[ps.length]? = some q := by rw [← m4, hsl, Nat.add_sub_cancel]
    unfold toP2
    rw [Int.toNat_natCast, hq]
    dsimp only
    rw [if_neg (by rw [m6]; decide)]
    exact m7
  refine ⟨hp, hel, by rw [hm]; exact hfull, ?_, by rw [hrsl, hssl], hssl, fun j y hy => ?_, fun j z hz => ?_⟩
  · unfold rideF
    dsimp only
    rw [if_pos (.inl hstop), hx, ← hel, ZdC hx]; rfl
  · have hjl := Zbl hy
    rw [hrsl] at hjl
    have hzj := List.getElem?_eq_getElem (by omega : j < ss.length)
    obtain ⟨_, q', hq', hz⟩ := zget j _ hzj
    refine ⟨_, hzj, ?_⟩
    rw [hspn, List.getElem?_map] at hy
    cases hrw : (rows (exF s.Elements ps m c.Length) (ps.length - 1) 0)[j]? with
    | none => rw [hrw] at hy; simp at hy
    | some u =>
      rw [hrw, Option.map_some] at hy
      have hy := (Option.some.inj hy).symm
      obtain ⟨j1, j2⟩ := Zf8 _ _ _ _ hrw
      rw [Nat.zero_add] at j1
      unfold exF at j1
      have hmj := List.getElem?_eq_getElem (by omega : j < m.length)
      rw [hmj] at j1
      have hu := (Option.some.inj j1).symm
      have hinp := hin.get j _ q' hmj hq'
      obtain ⟨t1, t2⟩ := Zh4 hp.ok hro
      rw [hm] at t1 t2
      have hmt := t1 j _ hmj
      have hc1 := hchk.c j (by omega)
      -- where it leaves
      have hk : (clr ps j c.Length + 1).toNat < m.length := by omega
      have hmk := List.getElem?_eq_getElem hk
      have hMk := List.getElem?_eq_getElem (by omega : (clr ps j c.Length + 1).toNat < M.length)
      have hinp2 := hin.get _ _ _ hmk hMk
      have hmt2 := t1 _ _ hmk
      have e1 : toM m (clr ps j c.Length + 1) = (m[(clr ps j c.Length + 1).toNat]).Time := by unfold toM; rw [hmk]
      have e2 : toP2 M (clr ps j c.Length + 1) = (M[(clr ps j c.Length + 1).toNat]).Time.Hi := by
        unfold toP2
        rw [hMk]
        dsimp only
        rw [if_neg (by rw [hinp2.s]; decide)]
      have e3 : toP2 M (clr ps j c.Length + 1) ≤ 10000000 := Int.le_trans (ZiZ hgr (by omega) (by omega : clr ps j c.Length + 1 ≤ (ps.length : Int)) (by omega)) hlast
      have h4 := hinp2.t.2.2
      have h5 := hinp.t.2.1
      have hyF : y.From = (m[j]).Time + r := by
        rw [hy, hu]; unfold shiftF
        dsimp only
        rw [hrel, Zaw (by omega)]
      have hyT : y.To = toM m (clr ps j c.Length + 1) + r := by
        rw [hy, hu]; unfold shiftF
        dsimp only
        rw [if_neg (by omega), hrel, Zaw (by omega)]
      rw [hz]
      dsimp only
      refine ⟨by rw [hy, hu]; rfl, by rw [hy, hu]; rfl, by omega, by omega, by omega, by omega⟩
  · obtain ⟨hj, q', hq', hz'⟩ := zget j z hz
    have hmj := List.getElem?_eq_getElem (by omega : j < m.length)
    have hinp := hin.get j _ q' hmj hq'
    rw [hz']
    exact ⟨rfl, rfl, _, by rw [hm]; exact hmj, hinp.t.2.1⟩
theorem Zgw {xs : List Int} : ∀ {ps : List Piece} {j : Nat}, selP xs (ps.take j) = (selP xs ps).take (nret (ps.take j))
  | [], j => by simp [selP]
  | p :: ps, 0 => by simp [selP, nret]
  | p :: ps, j + 1 => by
    have ih := Zgw (xs := xs) (ps := ps) (j := j)
    rw [List.take_succ_cons]
    unfold selP at ih ⊢
    unfold nret
    rw [List.filter_cons, List.filter_cons]
    by_cases hp : 0 < p.Power
    · rw [if_pos (decide_eq_true hp), if_pos (decide_eq_true hp), if_pos hp, List.map_cons, List.map_cons, Nat.add_comm, List.take_succ_cons, ih]
    · rw [if_neg (show ¬ decide (0 < p.Power) = true by simp [hp]), if_neg (show ¬ decide (0 < p.Power) = true by simp [hp]), if_neg hp, Nat.zero_add]; exact ih
theorem ZiI {c : Rolling} {ps : List Piece} {j : Nat} : ptAll (ps.take j) (rnOf c (ps.take j)) = (ptAll ps (rnOf c ps)).take (j + 1) := by
  unfold ptAll
  rw [List.take_succ_cons]
  have e1 : (rnOf c (ps.take j)).Resist = (rnOf c ps).Resist.take j := by
    show resP c.Resist (ps.take j) = (resP c.Resist ps).take j
    unfold resP; rw [List.map_take]
  have e2 : (rnOf c (ps.take j)).Targets = (rnOf c ps).Targets.take (nret (ps.take j)) := Zgw
  rw [e1, e2, ZiH]; rfl
theorem entF_at {c : Rolling} {ps : List Piece} {j : Nat} (hj : j < ps.length) (hml : (ptAll ps (rnOf c ps)).length = ps.length + 1) (hr : 0 ≤ c.Release ∧ c.Release ≤ 1000000000) {m : Moment} (hm : (ptAll ps (rnOf c ps))[j]? = some m) : entF c (ps.take j) = (w64 (c.Release + m.Time), true) := by
  unfold entF
  by_cases h0 : j = 0
  · subst h0
    have e : m.Time = 0 := by
      unfold ptAll at hm
      rw [List.getElem?_cons_zero] at hm
      rw [← Option.some.inj hm]; rfl
    rw [if_pos (by simp), e, Int.add_zero, Zaw (by omega)]
  · have hl : (ps.take j).length = j := by rw [List.length_take]; omega
    have ht := ZiI (c := c) (ps := ps) (j := j)
    have htl : (ptAll (ps.take j) (rnOf c (ps.take j))).length = j + 1 := by rw [ht, List.length_take]; omega
    have hst : ptStop (ps.take j) (rnOf c (ps.take j)) < 0 := (ZfR (ps := ps.take j) (r := rnOf c (ps.take j))).1.2 (by rw [htl, hl])
    rw [if_neg (by omega), if_neg (by omega), htl, ht, Nat.add_sub_cancel, List.getElem?_take, if_pos (by omega), hm]
theorem plc {l : List Element} (h : VL l) {j : Nat} {y x : Element} (hj : 1 ≤ j) (hy : l[j]? = some y) (hx : l[y.Parent.toNat]? = some x) : (¬ (x.Kind = 3 ↔ y.Side = 0)) ∧ PlFree l j y ∧ y.Kind ≠ 0 := by
  have ft := h.ft j
  have el := (h.el hy).2 (by omega)
  unfold ftE at ft
  rw [hy] at ft
  dsimp only at ft
  split at ft
  · omega
  · split at ft
    · omega
    · split at ft
      · omega
      · split at ft
        · omega
        · rw [hx] at ft
          dsimp only at ft
          split at ft
          · omega
          · rename_i g1
            split at ft
            · omega
            · rename_i g2
              exact ⟨fun hh => g1 (.inr hh), Decidable.not_not.1 g2, el.2.1⟩
theorem chF_eq {l : List Element} (h : VL l) {m : Nat} {y : Element} (hm : 1 ≤ m) (hy : l[m]? = some y) : chF l y.Parent y.Side = m := by
  have hpar := (h.el hy).2 (by omega)
  have hyl := Zbl hy
  have hx := List.getElem?_eq_getElem (by omega : y.Parent.toNat < l.length)
  obtain ⟨_, p1, p2⟩ := plc h hm hy hx
  rcases Zip (l := l) (i := y.Parent) (s := y.Side) l.length 0 (by omega) with ⟨m', z, e, _, hz, hc⟩ | ⟨_, hn⟩
  · have hm'1 : 1 ≤ m' := by
      rcases Nat.eq_zero_or_pos m' with h0 | h0
      · subst h0
        exact absurd ((h.el hz).1 rfl).1 hc.1
      · exact h0
    rcases Nat.lt_trichotomy m' m with h1 | h1 | h1
    · exact absurd (by rw [hz, Option.map_some, hc.2.1, hc.2.2]) (p1 m' h1 hm'1)
    · unfold chF; rw [e, h1]
    · have hx2 : l[z.Parent.toNat]? = some l[y.Parent.toNat] := by rw [hc.2.1]; exact hx
      obtain ⟨_, q1, _⟩ := plc h hm'1 hz hx2
      exact absurd (by rw [hy, Option.map_some, hc.2.1, hc.2.2]) (q1 m h1 hm)
  · exact absurd ⟨p2, rfl, rfl⟩ (hn m y (by omega) hy)
def valS (m : List (Int × Int)) (e : Int) : Int := if (mfind keyP e m).isSome then intOf e m else 1
theorem Zgt : ∀ (l : List Throw) (m : List (Int × Int)) (e : Int), l.Pairwise (fun t u => t.Element ≠ u.Element) → valS (l.foldl (fun m t => mput keyP (t.Element, t.Side) m) m) e = match l.find? (fun t => decide (t.Element = e)) with
    | some t => t.Side
    | none => valS m e
  | [], m, e => fun _ => rfl
  | t :: l, m, e => fun hp => by
    rw [List.pairwise_cons] at hp
    rw [List.foldl_cons, Zgt l _ e hp.2, List.find?_cons]
    obtain ⟨⟨g1, g2⟩, g3⟩ := Zfp (e := t.Element) (v := t.Side) (m := m)
    by_cases he : t.Element = e
    · rw [decide_eq_true he]
      have hn : l.find? (fun t => decide (t.Element = e)) = none := by
        rw [List.find?_eq_none]
        intro u hu hue
        exact hp.1 u hu (by rw [he, of_decide_eq_true hue])
      rw [hn]
      dsimp only
      subst he
      unfold valS
      rw [g2, if_pos rfl, g1]
    · rw [decide_eq_false he]
      dsimp only
      have : valS (mput keyP (t.Element, t.Side) m) e = valS m e := by
        unfold valS
        rw [(g3 e (Ne.symm he)).1, (g3 e (Ne.symm he)).2]
      rw [this]
theorem Zgv {s : Scene} (h : SVt s) (e : Int) : valS (startF s) e = firstS s.Start e := by
  unfold startF
  rw [Zgt _ _ _ (by
    rw [List.pairwise_iff_getElem]
    intro i j hi hj hij
    exact (h.st j _ (List.getElem?_eq_getElem hj)).2 i _ hij (List.getElem?_eq_getElem hi))]
  rfl
end Go.Hy
namespace Go.Hy
set_option linter.unusedVariables false
set_option linter.unusedSimpArgs false
set_option maxHeartbeats 2000000
set_option maxRecDepth 10000
open Go.Hy.Iv
abbrev NotSame (n : Int) (x y : Command) : Prop := ¬ (x.Cut = n ∧ y.Cut = n ∧ x.Element = y.Element)
theorem movF_eq {th : Int} {d d' : Done} {x : Command} (h : listOf x.Element d' = listOf x.Element d) : movF th d' x = movF th d x := by unfold movF; rw [h]
theorem ZhG {th n : Int} {rides : List Ride} : ∀ (L : List Command) (done : Done) (inc : List Incident),
    (∀ x ∈ L, x.Cut = n → meN ⟨x.Element, 0, x.Time, w64 (x.Time + th)⟩ rides 0 = -1 ∧ movF th done x = false) → L.Pairwise (NotSame n) →
    ∃ done', L.foldl (cmdF th n rides) (done, inc) = (done', inc) ∧ ∀ e, listOf e done' = listOf e done ++ (L.filter (fun x : Command => decide (x.Cut = n))).filter (fun x : Command => decide (x.Element = e))
  | [], done, inc => fun _ _ => ⟨done, rfl, fun e => by simp⟩
  | x :: L, done, inc => fun h hp => by
    rw [List.pairwise_cons] at hp
    rw [List.foldl_cons]
    by_cases hx : x.Cut = n
    · obtain ⟨h1, h2⟩ := h x List.mem_cons_self hx
      have e1 : cmdF th n rides (done, inc) x = (mput (fun p => p.1) (x.Element, listOf x.Element done ++ [x]) done, inc) := by
        unfold cmdF
        rw [if_pos hx, if_neg (by rw [h1, h2]; simp)]
      obtain ⟨g1, g2⟩ := Zev (e := x.Element) (l := listOf x.Element done ++ [x]) (m := done)
      rw [e1]
      obtain ⟨done', k1, k2⟩ := ZhG L (mput (fun p => p.1) (x.Element, listOf x.Element done ++ [x]) done) inc (fun y hy hyc => by
        obtain ⟨a1, a2⟩ := h y (List.mem_cons_of_mem _ hy) hyc
        have hne : y.Element ≠ x.Element := fun he => hp.1 y hy ⟨hx, hyc, he.symm⟩
        exact ⟨a1, by rw [movF_eq (g2 _ hne)]; exact a2⟩) hp.2
      refine ⟨done', k1, fun e => ?_⟩
      rw [k2 e, List.filter_cons, if_pos (decide_eq_true hx), List.filter_cons]
      by_cases he : x.Element = e
      · subst he
        rw [g1, if_pos (decide_eq_true rfl), List.append_assoc]; rfl
      · rw [g2 e (Ne.symm he), if_neg (by simp [he])]
    · have e1 : cmdF th n rides (done, inc) x = (done, inc) := by
        unfold cmdF
        rw [if_neg hx]
      rw [e1]
      obtain ⟨done', k1, k2⟩ := ZhG L done inc (fun y hy hyc => h y (List.mem_cons_of_mem _ hy) hyc) hp.2
      refine ⟨done', k1, fun e => ?_⟩
      rw [k2 e, List.filter_cons, if_neg (by simp [hx])]
theorem Zic {x : Span} : ∀ {rides : List Ride} {j : Nat}, (∀ r ∈ rides, ∀ y ∈ r.Spans, ov x y = false) → meN x rides j = -1
  | [], j => fun _ => rfl
  | r :: rides, j => fun h => by
    rw [meN, if_neg (by
      rw [Bool.not_eq_true, List.any_eq_false]
      intro y hy; rw [h r List.mem_cons_self y hy]; simp)]
    exact Zic fun q hq => h q (List.mem_cons_of_mem _ hq)
theorem ZgS {k : Int} {sp : List Span} : ∀ {rides : List Ride} {j : Nat}, (∀ r ∈ rides, ∀ x ∈ sp, ∀ y ∈ r.Spans, ov x y = false) → metF k sp rides j = []
  | [], j => fun _ => rfl
  | r :: rides, j => fun h => by
    have hn : sp.find? (fun x => r.Spans.any (ov x)) = none := by
      rw [List.find?_eq_none]
      intro x hx
      rw [Bool.not_eq_true, List.any_eq_false]
      intro y hy; rw [h r List.mem_cons_self x hx y hy]; simp
    rw [metF, hn, ZgS fun q hq => h q (List.mem_cons_of_mem _ hq)]; rfl
theorem ZhP {n : Int} : ∀ {U : List Command}, U.Pairwise (fun x y => x.Cut ≤ y.Cut) → U.filter (fun x : Command => decide (x.Cut ≤ n)) = U.filter (fun x : Command => decide (x.Cut < n)) ++ U.filter (fun x : Command => decide (x.Cut = n))
  | [] => fun _ => rfl
  | x :: U => fun h => by
    rw [List.pairwise_cons] at h
    have ih := ZhP (n := n) h.2
    rw [List.filter_cons, List.filter_cons, List.filter_cons]
    have none_lt : n ≤ x.Cut → U.filter (fun x : Command => decide (x.Cut < n)) = [] := fun hn => by
      rw [List.filter_eq_nil_iff]
      intro y hy hd
      have := h.1 y hy
      have := of_decide_eq_true hd
      omega
    rcases Int.lt_trichotomy x.Cut n with h1 | h1 | h1
    · rw [if_pos (decide_eq_true (by omega)), if_pos (decide_eq_true h1), if_neg (by simp; omega), ih]; rfl
    · rw [if_pos (decide_eq_true (by omega)), if_neg (by simp; omega), if_pos (decide_eq_true h1), ih, none_lt (by omega)]; rfl
    · rw [if_neg (by simp; omega), if_neg (by simp; omega), if_neg (by simp; omega), ih]
theorem Zkd {α : Type} {l m : List α} (h : l.Perm m) (hl : m.length ≤ 1) : l = m := by
  cases m with
  | nil => exact h.eq_nil
  | cons a m =>
    cases m with
    | nil => exact List.perm_singleton.1 h
    | cons b m => simp at hl
theorem len_one {α : Type} {l : List α} {P : α → Prop} (hp : ∀ x ∈ l, P x) (h : l.Pairwise (fun x y => ¬ (P x ∧ P y))) : l.length ≤ 1 := by
  cases l with
  | nil => simp
  | cons a l =>
    cases l with
    | nil => simp
    | cons b l =>
      rw [List.pairwise_cons] at h
      exact absurd ⟨hp a List.mem_cons_self, hp b (List.mem_cons_of_mem _ List.mem_cons_self)⟩ (h.1 b List.mem_cons_self)
abbrev byE (U : List Command) (e : Int) : List Command := U.filter (fun x : Command => decide (x.Element = e))
abbrev upC (U : List Command) (n : Int) : List Command := U.filter (fun x : Command => decide (x.Cut ≤ n))
structure TI (s : Scene) (U : List Command) (n : Nat) (st : PSt) : Prop where
  inc : st.inc = []
  rl : st.rides.length = n
  r : ∀ (a : Nat) r, st.rides[a]? = some r → ∃ c, s.Cuts[a]? = some c ∧ r = rideF s.Elements c (cpth s.Elements c)
  d : ∀ e, listOf e st.done = byE (U.filter (fun x : Command => decide (x.Cut < n))) e
theorem side_ok {s : Scene} {S : List (List Span)} {R : List Int} {U : List Command} (h : Pln s S R) (hcs : CmS S R s.Throw s.Start S.length 0 U) {n : Nat} {ss : List Span} {r : Int} (hs : S[n]? = some ss) (hr : R[n]? = some r)
    {done : Done} (hd : ∀ e, listOf e done = byE (upC U n) e) {j : Nat} {z : Span} (hz : ss[j]? = some z) (hz0 : z.Side ≠ 0) {t : Int} (ht : r + z.From ≤ t) : sideF s.Throw (startF s) done z.Element t = (z.Side, false) := by
  have hth := h.sv.v.th
  have hdon := hcs.don n j ss z (.inl (by have := Zbl hs; omega)) hs hz hz0
  have hrb := h.rb
  have hsn := h.sn
  have hrn := h.rn
  unfold lastS at hdon
  unfold sideF
  rw [hd]
  cases hl : (byE (upC U n) z.Element).getLast? with
  | none =>
    rw [hl] at hdon
    dsimp only at hdon
    rw [List.getLast?_eq_none_iff] at hl
    rw [hl]
    simp only [List.reverse_nil, List.find?_nil]
    have hv := Zgv h.sv.v z.Element
    rw [hdon] at hv
    unfold valS at hv
    split
    · rename_i hsm; rw [if_pos hsm] at hv; rw [hv]
    · rename_i hsm; rw [if_neg hsm] at hv; rw [← hv]
  | some d =>
    rw [hl] at hdon
    dsimp only at hdon
    have hdm := List.mem_of_getLast? hl
    have hm1 := List.mem_filter.1 hdm
    have hm2 := List.mem_filter.1 hm1.1
    have hde := of_decide_eq_true hm1.2
    have hdc := of_decide_eq_true hm2.2
    obtain ⟨ko, _⟩ := hcs.ok d hm2.1
    obtain ⟨sd, rd, sp, o1, o2, o3, o4, o5, o6, o7⟩ := ko.o
    have hkc := ko.c
    have hkt := ko.t
    have hsdk := h.so sd (Za5 o1)
    have hspr := hsdk.r sp o3
    have hrd := hrb.r _ rd o2
    have hzr := (h.so ss (Za5 hs)).r z (Za5 hz)
    -- it is executed in time
    have htime : d.Time + s.Throw ≤ t := by
      by_cases hdn : d.Cut = n
      · have e1 : d.Cut.toNat = n := by omega
        rw [e1, hs] at o1
        rw [e1, hr] at o2
        cases o1
        cases o2
        have := (h.so ss (Za5 hs)).one o3 (Za5 hz) (by rw [o4, hde])
        subst this
        omega
      · have := h.gap n d.Cut.toNat r rd z sp (by omega) hr o2 ⟨ss, hs, Za5 hz⟩ ⟨sd, o1, o3⟩ (by rw [o4, hde])
        omega
    obtain ⟨L, hL⟩ : ∃ L, byE (upC U n) z.Element = L ++ [d] := by
      obtain ⟨L, hL⟩ := List.getLast?_eq_some_iff.1 hl
      exact ⟨L, hL⟩
    rw [hL, List.reverse_append, List.reverse_singleton, List.singleton_append, List.find?_cons, decide_eq_true (by omega : d.Time ≤ t)]
    dsimp only
    rw [hdon, Zaw (by omega), decide_eq_false (by omega)]
theorem path_go {s : Scene} {S : List (List Span)} {R : List Int} {U : List Command} (h : Pln s S R) (hcs : CmS S R s.Throw s.Start S.length 0 U) {n : Nat} {c : Rolling} {ss : List Span} {r : Int} (hc : s.Cuts[n]? = some c) (hs : S[n]? = some ss) (hr : R[n]? = some r)
    {done : Done} (hd : ∀ e, listOf e done = byE (upC U n) e) {inc : List Incident} : ∀ (k j fuel : Nat), j + 1 + k = (cpth s.Elements c).length → s.Elements.length ≤ fuel + (elOf (cpth s.Elements c) j).toNat →
    pathF s (startF s) done n c fuel inc ((cpth s.Elements c).take j) (elOf (cpth s.Elements c) j) = (inc, cpth s.Elements c) := by
  have vl := Zhz h.sv.l0
  have ri := ZdU h hc hs hr
  have hrl := (h.sv.v.ct n c hc).1
  have hrel := h.rel n c r hc hr
  have hrr := h.rb.r n r hr
  generalize cpth s.Elements c = ps at *
  intro k
  induction k with
  | zero =>
    intro j fuel hj hf
    have hp := List.getElem?_eq_getElem (by omega : j < ps.length)
    obtain ⟨g1, x, g2, g3, g4, g5⟩ := ri.p.e j _ hp
    have hxl := Zbl g2
    rw [ZdC hp] at hf ⊢
    cases fuel with
    | zero => omega
    | succ fuel =>
      rw [pathF, if_neg (by omega), g2]
      dsimp only
      rw [if_pos (g5.2 (by omega))]
      have hpc := g4
      rw [if_neg (by omega)] at hpc
      rw [← hpc, ← ZbK hp, List.take_of_length_le (by omega)]
  | succ k ih =>
    intro j fuel hj hf
    have hp := List.getElem?_eq_getElem (by omega : j < ps.length)
    obtain ⟨g1, x, g2, g3, g4, g5⟩ := ri.p.e j _ hp
    have hp2 := List.getElem?_eq_getElem (by omega : j + 1 < ps.length)
    obtain ⟨k1, y, k2, k3, k4, k5⟩ := ri.p.e (j + 1) _ hp2
    have hxl := Zbl g2
    have hpar : y.Parent = ps[j].Element := by
      rw [k3]; unfold prevE
      rw [if_neg (by omega), Nat.add_sub_cancel, ZdC hp]
    have hyp := vl.par k2
    have hx2 : s.Elements[y.Parent.toNat]? = some x := by rw [hpar]; exact g2
    obtain ⟨p1, _, _⟩ := plc vl (by omega) k2 hx2
    rw [ZdC hp] at hf ⊢
    cases fuel with
    | zero => omega
    | succ fuel =>
      rw [pathF, if_neg (by omega), g2]
      dsimp only
      rw [if_neg (fun h4 => by have := g5.1 h4; omega)]
      have hpc := g4
      rw [if_pos (by omega)] at hpc
      rw [← hpc, ← ZbK hp]
      have hsw : swF s (startF s) done n c (ps.take j) ps[j].Element x inc = (inc, y.Side) := by
        unfold swF
        by_cases h3 : x.Kind = 3
        · rw [if_pos h3]
          have hjs : j < ss.length := by have := ri.sn; omega
          have hz := List.getElem?_eq_getElem hjs
          obtain ⟨z1, z2, m, z3, z4⟩ := ri.z j _ hz
          have hsd : sdOf s.Elements ps j = y.Side := by
            unfold sdOf
            rw [hp]
            dsimp only
            rw [g2]
            dsimp only
            rw [if_pos h3, hp2]
            dsimp only
            rw [k2]
          have hen := entF_at (c := c) (by omega : j < ps.length) ri.ml (by omega) z3
          have hmt := (Zh4 ri.p.ok (rn_ok hrl (ps := ps))).1 j m z3
          rw [Zaw (by omega)] at hen
          have hso := side_ok h hcs hs hr hd hz (by rw [z2, hsd]; exact fun h0 => p1 ⟨fun _ => h0, fun _ => h3⟩) (t := c.Release + m.Time) (by omega)
          rw [z1, ZdC hp, z2, hsd] at hso
          rw [hen, if_pos rfl]
          dsimp only
          rw [hso, if_neg (by simp)]
        · rw [if_neg h3]
          have : y.Side = 0 := by
            by_cases h0 : y.Side = 0
            · exact h0
            · exact absurd ⟨fun h => absurd h h3, fun h => absurd h h0⟩ p1
          rw [this]
      rw [hsw]
      dsimp only
      have hch := chF_eq vl (by omega : 1 ≤ (ps[j + 1].Element).toNat) k2
      rw [hpar] at hch
      rw [hch]
      have e9 : (((ps[j + 1].Element).toNat : Nat) : Int) = elOf ps (j + 1) := by rw [ZdC hp2]; omega
      rw [e9]
      refine ih (j + 1) fuel (by omega) ?_
      rw [ZdC hp2]; omega
theorem Zf6 {s : Scene} {S : List (List Span)} {R : List Int} {U : List Command} (h : Pln s S R) (hU : s.Commands.Perm U) (hcs : CmS S R s.Throw s.Start S.length 0 U) : ∀ n, n ≤ s.Cuts.length → TI s U n (runN s n)
  | 0 => fun _ => ⟨rfl, rfl, fun a r ha => by simp [runN] at ha, fun e => by
      show ([] : List Command) = _
      symm
      rw [List.filter_eq_nil_iff]
      intro x hx
      have hx2 := List.mem_filter.1 hx
      have := (hcs.ok x hx2.1).1.c
      have := of_decide_eq_true hx2.2
      omega⟩
  | n + 1 => fun hn => by
    obtain ⟨i1, i2, i3, i4⟩ := Zf6 h hU hcs n (by omega)
    have vl := Zhz h.sv.l0
    have hth := h.sv.v.th
    have hsn := h.sn
    have hrn := h.rn
    have hc := List.getElem?_eq_getElem (by omega : n < s.Cuts.length)
    have hs := List.getElem?_eq_getElem (by omega : n < S.length)
    have hr := List.getElem?_eq_getElem (by omega : n < R.length)
    generalize s.Cuts[n] = c at hc
    generalize S[n] = ss at hs
    generalize R[n] = r at hr
    have ri := ZdU h hc hs hr
    -- earlier rides keep to their classes
    have early : ∀ q ∈ (runN s n).rides, ∀ y ∈ q.Spans, ∃ (b : Nat) (sb : List Span) (rb : Int) (z : Span), b < n ∧ S[b]? = some sb ∧ R[b]? = some rb ∧ z ∈ sb ∧ y.Element = z.Element ∧ y.To ≤ rb + z.To := fun q hq y hy => by
      obtain ⟨b, hb⟩ := List.getElem?_of_mem hq
      have hbl := Zbl hb
      obtain ⟨cb, hcb, e⟩ := i3 b q hb
      have hsb := List.getElem?_eq_getElem (by omega : b < S.length)
      have hrb := List.getElem?_eq_getElem (by omega : b < R.length)
      have rb := ZdU h hcb hsb hrb
      rw [e] at hy
      obtain ⟨jy, hjy⟩ := List.getElem?_of_mem hy
      obtain ⟨z, hz, z1, z2, z3, z4, _⟩ := rb.i jy y hjy
      exact ⟨b, _, _, z, by omega, hsb, hrb, Za5 hz, z1, z4⟩
    -- commands
    have hpw : U.Pairwise (fun x y => ¬ (x.Cut = y.Cut ∧ x.Element = y.Element)) := hcs.ord.imp fun {x y} ho hh => by
      rcases ho with h1 | ⟨_, h2⟩
      · omega
      · exact h2 hh.2
    have hpw2 : s.Commands.Pairwise (fun x y => ¬ (x.Cut = y.Cut ∧ x.Element = y.Element)) := (hU.pairwise_iff (fun {x y} hh hh2 => hh ⟨hh2.1.symm, hh2.2.symm⟩)).2 hpw
    obtain ⟨done', f1, f2⟩ := ZhG (th := s.Throw) (n := (n : Int)) (rides := (runN s n).rides) s.Commands (runN s n).done (runN s n).inc (fun x hx hxc => by
      have hxU : x ∈ U := hU.subset hx
      obtain ⟨ko, _⟩ := hcs.ok x hxU
      have hkt := ko.t
      refine ⟨Zic fun q hq y hy => ?_, ?_⟩
      · obtain ⟨b, sb, rb, z, hb, hsb, hrb, hz, hye, hyt⟩ := early q hq y hy
        unfold ov
        by_cases he : x.Element = y.Element
        · have := (ko.b b sb rb z (by omega) hsb hrb hz (by rw [← hye, ← he])).1
          dsimp only
          rw [decide_eq_false (by omega : ¬ x.Time < y.To)]; simp
        · dsimp only
          rw [decide_eq_false he]; rfl
      · unfold movF
        rw [Bool.and_eq_false_iff]
        refine .inl ?_
        rw [i4, List.any_eq_false]
        intro d hd
        have hm1 := List.mem_filter.1 hd
        have hm2 := List.mem_filter.1 hm1.1
        have hde := of_decide_eq_true hm1.2
        have hdc := of_decide_eq_true hm2.2
        obtain ⟨kd, _⟩ := hcs.ok d hm2.1
        obtain ⟨sd, rd, sp, o1, o2, o3, o4, o5, o6, o7⟩ := kd.o
        have hkc := kd.c
        have hkdt := kd.t
        have hspr := (h.so sd (Za5 o1)).r sp o3
        have := (ko.b d.Cut.toNat sd rd sp (by omega) o1 o2 o3 (by rw [o4, hde])).1
        have hrd := h.rb.r _ rd o2
        rw [Zaw (by omega), decide_eq_true_iff]; omega) (hpw2.imp fun {x y} hh hh2 => hh ⟨by omega, hh2.2.2⟩)
    have hdd : ∀ e, listOf e done' = byE (upC U n) e := fun e => by
      rw [f2 e, i4 e]
      have hle : U.Pairwise (fun x y => x.Cut ≤ y.Cut) := hcs.ord.imp fun {x y} ho => by rcases ho with h1 | h1 <;> omega
      show _ = (U.filter (fun x : Command => decide (x.Cut ≤ n))).filter _
      rw [ZhP hle, List.filter_append]
      congr 1
      refine Zkd ((hU.filter _).filter _) (len_one (P := fun x => x.Cut = n ∧ x.Element = e) (fun x hx => ?_) ?_)
      · have hm1 := List.mem_filter.1 hx
        have hm2 := List.mem_filter.1 hm1.1
        exact ⟨of_decide_eq_true hm2.2, of_decide_eq_true hm1.2⟩
      · exact ((hpw.filter _).filter _).imp fun {x y} hh hh2 => hh ⟨by omega, by rw [hh2.1.2, hh2.2.2]⟩
    -- the way
    have hpl := ri.p.ok.len
    have hp0 := List.getElem?_eq_getElem (by omega : 0 < (cpth s.Elements c).length)
    obtain ⟨g1, x0, g2, g3, g4, g5⟩ := ri.p.e 0 _ hp0
    have hx0l := Zbl g2
    have hch : chF s.Elements 0 0 = elOf (cpth s.Elements c) 0 := by
      have hpar : x0.Parent = 0 := g3
      have hlen := vl.len
      obtain ⟨xc, hxc⟩ : ∃ x, s.Elements[0]? = some x := ⟨_, List.getElem?_eq_getElem (by omega)⟩
      have k0 := ((vl.el hxc).1 rfl).1
      obtain ⟨p1, _, _⟩ := plc vl (by omega) g2 (by rw [hpar]; exact hxc)
      have hsd : x0.Side = 0 := by
        by_cases h0 : x0.Side = 0
        · exact h0
        · exact absurd ⟨fun h => by omega, fun h => absurd h h0⟩ p1
      have := chF_eq vl (by omega) g2
      rw [hpar, hsd] at this
      rw [this, ZdC hp0]; omega
    have hway := path_go h hcs hc hs hr hdd (inc := (runN s n).inc) ((cpth s.Elements c).length - 1) 0 s.Elements.length (by omega) (by omega)
    rw [List.take_zero, ← hch] at hway
    -- nothing is met
    have hmet : metF n (rideF s.Elements c (cpth s.Elements c)).Spans (runN s n).rides 0 = [] := ZgS fun q hq x hx y hy => by
      obtain ⟨b, sb, rb, z, hb, hsb, hrb, hz, hye, hyt⟩ := early q hq y hy
      obtain ⟨jx, hjx⟩ := List.getElem?_of_mem hx
      obtain ⟨zx, hzx, zx1, _, zx3, _⟩ := ri.i jx x hjx
      unfold ov
      by_cases he : x.Element = y.Element
      · have := h.gap n b r rb zx z hb hr hrb ⟨ss, hs, Za5 hzx⟩ ⟨sb, hsb, hz⟩ (by rw [← hye, ← he, zx1])
        rw [decide_eq_false (by omega : ¬ x.From < y.To)]; simp
      · rw [decide_eq_false he]; rfl
    have hstep : runN s (n + 1) = ⟨done', (runN s n).rides ++ [rideF s.Elements c (cpth s.Elements c)], []⟩ := by
      rw [runN, hc]
      dsimp only
      unfold stepF
      rw [f1]
      dsimp only
      rw [hway]
      dsimp only
      rw [hmet, i1, if_neg (by rw [ri.tr]; simp)]; rfl
    rw [hstep]
    refine ⟨rfl, by rw [List.length_append, List.length_singleton, i2], fun a q ha => ?_, fun e => ?_⟩
    · rcases Zd0 ha with h1 | ⟨h1, h2⟩
      · exact i3 a q h1
      · rw [h1, i2]; exact ⟨c, hc, h2⟩
    · show listOf e done' = _
      rw [hdd e]
      congr 1
      refine List.filter_congr fun x _ => ?_
      by_cases hx : x.Cut ≤ (n : Int)
      · rw [decide_eq_true hx, decide_eq_true (by omega)]
      · rw [decide_eq_false hx, decide_eq_false (by omega)]
end Go.Hy
namespace Go.Hy
set_option linter.unusedVariables false
set_option linter.unusedSimpArgs false
set_option maxHeartbeats 2000000
set_option maxRecDepth 10000
open Go.Hy.Iv
theorem ZgR {k0 : HumpgenMaker} {n : Int} (h : Mk k0 700000000000000) (hn : 0 ≤ n ∧ n ≤ 8) : Ok (ZbY k0 n) fun r => r.1.OK = true → Pln r.1.Scene r.1.Spans r.1.Releases := by
  refine (Plan_ok (h.up (by omega)) hn).mono fun r ⟨hp, _⟩ hok => Zkc hp (by omega) hok
theorem over_no {s : Scene} {S : List (List Span)} {R : List Int} (h : Pln s S R) {a b : Nat} {ca cb : Rolling} (hba : b < a) (hca : s.Cuts[a]? = some ca) (hcb : s.Cuts[b]? = some cb) {x y : Span} {i j : Nat}
    (hx : (rideF s.Elements ca (cpth s.Elements ca)).Spans[i]? = some x) (hy : (rideF s.Elements cb (cpth s.Elements cb)).Spans[j]? = some y) (he : x.Element = y.Element) : ¬ x.From < y.To := by
  have hsn := h.sn
  have hrn := h.rn
  have hal := Zbl hca
  have hsa := List.getElem?_eq_getElem (by omega : a < S.length)
  have hsb := List.getElem?_eq_getElem (by omega : b < S.length)
  have hra := List.getElem?_eq_getElem (by omega : a < R.length)
  have hrb := List.getElem?_eq_getElem (by omega : b < R.length)
  obtain ⟨zx, x1, x2, _, x4, _⟩ := (ZdU h hca hsa hra).i i x hx
  obtain ⟨zy, y1, y2, _, _, y5, _⟩ := (ZdU h hcb hsb hrb).i j y hy
  have := h.gap a b _ _ zx zy hba hra hrb ⟨_, hsa, Za5 x1⟩ ⟨_, hsb, Za5 y1⟩ (by rw [← x2, ← y2, he])
  omega
theorem Safe_ok {a0 : List Int} (hl : a0.length ≤ 9223372036854775807) : ZcB a0 = some true := by
  refine Ok.eq (?_ : Ok _ _)
  unfold ZcB
  refine ZaP (ZfW a0) ?_
  refine Zbt (ZgR (Mk0 hl (by omega)) (by omega)) fun p hp => ?_
  refine Zcc (fun _ => ZaP ZhT (Zak rfl)) fun hok => ?_
  have h := hp hok
  obtain ⟨U, hU, hcs⟩ := h.cmd
  have ti := Zf6 h hU hcs _ (Nat.le_refl _)
  have hct := h.sv.ct
  have hsn := h.sn
  have hrn := h.rn
  refine ZaP (Run_e h.sv h.hv) ?_
  obtain ⟨hsp, _⟩ := ZgB h.sv h.hv
  obtain ⟨i1, i2, i3, _⟩ := ti
  dsimp only
  generalize (runN p.1.Scene p.1.Scene.Cuts.length).rides = rides at *
  generalize (runN p.1.Scene p.1.Scene.Cuts.length).inc = inc at *
  refine Zcn (by simp) (Zcn (by rw [i1]; simp) (Zcn (by omega) ?_))
  refine Za4 (fun z => 0 ≤ z ∧ z ≤ (rides.length : Int)) (fun z => ((rides.length : Int) - z).toNat) ⟨Int.le_refl 0, by omega⟩ (by rw [ZaJ]; omega) fun a k18 ⟨a0, a1⟩ hk18 => ?_
  refine Zas (fun hal => ZaQ a0 hal fun r hr => ?_) (fun _ => ZaP ZhT (Zak rfl))
  obtain ⟨c, hc, er⟩ := i3 _ r hr
  have hs := List.getElem?_eq_getElem (by omega : a.toNat < p.1.Spans.length)
  have hR := List.getElem?_eq_getElem (by omega : a.toNat < p.1.Releases.length)
  have ri := ZdU h hc hs hR
  have hrl := hsp r (Za5 hr)
  refine ZaM a0 hc (Zcn (by rw [er, ri.tr]; simp) (ZaM a0 hr (ZaM a0 hs (Zcn (by rw [er, ri.sl]; simp) ?_))))
  refine Za4 (fun z => 0 ≤ z ∧ z ≤ a) (fun z => (a - z).toNat) ⟨Int.le_refl 0, a0⟩ (by rw [ZaJ]; omega) fun b k40 ⟨b0, b1⟩ hk40 => ?_
  refine Zas (fun hbl => ?_) (fun _ => by rw [Zaw (by omega)]; exact hk18 _ ⟨by omega, by omega⟩ (by omega))
  obtain ⟨q, hq⟩ : ∃ q, rides[b.toNat]? = some q := ⟨_, List.getElem?_eq_getElem (by omega)⟩
  obtain ⟨cb, hcb, eq⟩ := i3 _ q hq
  have hql := hsp q (Za5 hq)
  refine Za4 (fun z => 0 ≤ z ∧ z ≤ (r.Spans.length : Int)) (fun z => ((r.Spans.length : Int) - z).toNat) ⟨Int.le_refl 0, by omega⟩ (by rw [ZaJ]; omega) fun x k46 ⟨x0, x1⟩ hk46 => ?_
  refine ZaM a0 hr (Zas (fun hxl => ?_) (fun _ => by rw [Zaw (by omega)]; exact hk40 _ ⟨by omega, by omega⟩ (by omega)))
  obtain ⟨xs, hxs⟩ : ∃ q, r.Spans[x.toNat]? = some q := ⟨_, List.getElem?_eq_getElem (by omega)⟩
  refine Za4 (fun z => 0 ≤ z ∧ z ≤ (q.Spans.length : Int)) (fun z => ((q.Spans.length : Int) - z).toNat) ⟨Int.le_refl 0, by omega⟩ (by rw [ZaJ]; omega) fun y k56 ⟨y0, y1⟩ hk56 => ?_
  refine ZaM b0 hq (Zas (fun hyl => ?_) (fun _ => by rw [Zaw (by omega)]; exact hk46 _ ⟨by omega, by omega⟩ (by omega)))
  obtain ⟨ys, hys⟩ : ∃ u, q.Spans[y.toNat]? = some u := ⟨_, List.getElem?_eq_getElem (by omega)⟩
  have go : Ok (k56 (w64 (y + 1))) (· = true) := by rw [Zaw (by omega)]; exact hk56 _ ⟨by omega, by omega⟩ (by omega)
  refine ZaM a0 hr (ZaM x0 hxs (ZaM b0 hq (ZaM y0 hys (Zas (fun he => ZaM a0 hr (ZaM x0 hxs (ZaM b0 hq (ZaM y0 hys (Zcn ?_ go))))) (fun _ => go)))))
  rw [er] at hxs
  rw [eq] at hys
  exact over_no h (by omega) hc hcb hxs hys he
theorem ZgI {a b : List Span} (hl : a.length ≤ b.length) (hb : b.length ≤ 1000000000) (h : ∀ (j : Nat) s t, a[j]? = some s → b[j]? = some t → s.Element = t.Element ∧ s.Side = t.Side ∧ t.From ≤ s.From ∧ s.To ≤ t.To) : Zdf a b = some true := by
  refine Ok.eq (?_ : Ok _ _)
  unfold Zdf
  refine Zcn (by omega) ?_
  refine Za4 (fun z => 0 ≤ z) (fun z => ((a.length : Int) - z).toNat) (Int.le_refl 0) (by rw [ZaJ]; omega) fun z k z0 hk => ?_
  refine Zas (fun hz => ?_) (fun _ => Zak rfl)
  have ha := List.getElem?_eq_getElem (by omega : z.toNat < a.length)
  have hbb := List.getElem?_eq_getElem (by omega : z.toNat < b.length)
  obtain ⟨h1, h2, h3, h4⟩ := h _ _ _ ha hbb
  refine ZaM z0 ha (ZaM z0 hbb (Zcn (fun hh => hh h1) (ZaM z0 ha (ZaM z0 hbb (Zcn (fun hh => hh h2) (ZaM z0 ha (ZaM z0 hbb (Zcn (by omega) (ZaM z0 ha (ZaM z0 hbb (Zcn (by omega) ?_)))))))))))
  rw [Zaw (by omega)]; exact hk _ (by omega) (by omega)
def backF (r : Int) (y : Span) : Span := ⟨y.Element, y.Side, w64 (y.From - r), w64 (y.To - r)⟩
theorem Zg7 {a0 : List Int} (hl : a0.length ≤ 9223372036854775807) : ZbW a0 = some true := by
  refine Ok.eq (?_ : Ok _ _)
  unfold ZbW
  refine ZaP (ZfW a0) ?_
  refine Zbt (ZgR (Mk0 hl (by omega)) (by omega)) fun p hp => ?_
  refine Zcc (fun _ => ZaP ZhT (Zak rfl)) fun hok => ?_
  have h := hp hok
  obtain ⟨U, hU, hcs⟩ := h.cmd
  have ti := Zf6 h hU hcs _ (Nat.le_refl _)
  have hct := h.sv.ct
  have hsn := h.sn
  have hrn := h.rn
  refine ZaP (Run_e h.sv h.hv) ?_
  obtain ⟨hsp, _⟩ := ZgB h.sv h.hv
  obtain ⟨i1, i2, i3, _⟩ := ti
  dsimp only
  generalize (runN p.1.Scene p.1.Scene.Cuts.length).rides = rides at *
  refine Zcn (by simp) (Zcn (by omega) ?_)
  refine Za4 (fun z => 0 ≤ z ∧ z ≤ (rides.length : Int)) (fun z => ((rides.length : Int) - z).toNat) ⟨Int.le_refl 0, by omega⟩ (by rw [ZaJ]; omega) fun a k18 ⟨a0, a1⟩ hk18 => ?_
  refine Zas (fun hal => ?_) (fun _ => ZaP ZhT (Zak rfl))
  obtain ⟨r, hr⟩ : ∃ q, rides[a.toNat]? = some q := ⟨_, List.getElem?_eq_getElem (by omega)⟩
  obtain ⟨c, hc, er⟩ := i3 _ r hr
  have hs := List.getElem?_eq_getElem (by omega : a.toNat < p.1.Spans.length)
  have hR := List.getElem?_eq_getElem (by omega : a.toNat < p.1.Releases.length)
  have ri := ZdU h hc hs hR
  have hrl := hsp r (Za5 hr)
  have hrr := h.rb.r _ _ hR
  have hso := h.so _ (Za5 hs)
  generalize p.1.Spans[a.toNat] = ss at *
  generalize p.1.Releases[a.toNat] = rel at *
  refine Zbp (fun z => z = r.Spans.map (backF rel)) (fun z hz => ?_) (fun k24 hk24 => ?_)
  · subst hz
    refine ZaM a0 hs (ZaP (ZgI ?_ (by have := hso.len; omega) fun j x t hx ht => ?_) (Zcc (fun h => by simp at h) fun _ => ?_))
    · rw [List.length_map, er, ri.sl]; exact Nat.le_refl _
    · rw [List.getElem?_map] at hx
      cases hy : r.Spans[j]? with
      | none => rw [hy] at hx; simp at hx
      | some y =>
        rw [hy, Option.map_some] at hx
        have hx := (Option.some.inj hx).symm
        rw [er] at hy
        obtain ⟨z, z1, z2, z3, z4, z5, z6, z7⟩ := ri.i j y hy
        rw [ht] at z1
        cases z1
        have hzr := hso.r t (Za5 ht)
        rw [hx]
        unfold backF
        dsimp only
        rw [Zaw (by omega), Zaw (by omega)]
        exact ⟨z2, z3, by omega, by omega⟩
    · rw [Zaw (by omega)]; exact hk18 _ ⟨by omega, by omega⟩ (by omega)
  · refine Za4 (fun z => 0 ≤ z.2 ∧ z.2 ≤ (r.Spans.length : Int) ∧ z.1 = (r.Spans.take z.2.toNat).map (backF rel)) (fun z => ((r.Spans.length : Int) - z.2).toNat) ⟨Int.le_refl 0, by dsimp only; omega, rfl⟩ (by rw [ZaJ]; dsimp only; omega) fun z k34 ⟨z0, z1, ze⟩ hk34 => ?_
    have zl : z.1.length ≤ 128 := by rw [ze, List.length_map, List.length_take]; omega
    refine ZaM a0 hr (Zas (fun hzl => ?_) (fun hzg => hk24 _ (by rw [ze, List.take_of_length_le (by omega)])))
    refine ZaM a0 hr (ZaQ z0 hzl fun y hy => ZaM a0 hR (ZaM a0 hR (Zbr (by simp only [List.length_singleton]; omega) (Zbd fun u hu => ?_))))
    rw [Zaw (n := z.2 + 1) (by omega)]
    refine hk34 _ ⟨by dsimp only; omega, by dsimp only; omega, ?_⟩ (by dsimp only; omega)
    dsimp only
    rw [hu, show (z.2 + 1).toNat = z.2.toNat + 1 from by omega, ZbK hy, List.map_append, ← ze]; rfl
end Go.Hy
