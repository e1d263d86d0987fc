/-
  Drawn regions in which several heavy operations may come up at a time: every one of them is walked first.
-/
import Derived.Test.YtdgminllobhncaaGreatLift
namespace Go.Hy
set_option linter.unusedVariables false
set_option linter.unusedSimpArgs false
set_option maxHeartbeats 2000000
set_option maxRecDepth 10000
open Go.ChangeShapes

theorem nbeq {a b : Nat} : Nat.beq a b = true ↔ a = b := by simp
/-- What may come up, by masks. -/
def readyM (ds : List Nat) (lm : Nat) : List Nat := (List.range ds.length).filter fun j => !lm.testBit j && Nat.beq (ds.getD j 0 &&& lm) (ds.getD j 0)
section
variable {P : Program} {ops : Array Oper} {Q Q0 : Exit → Act → World → Prop} {D : World → Prop} {ph : List Nat}
theorem ready_mask {ds : List Nat} (hds : ops.toList.map dmask = ds) {listed : Array Bool} {lm j : Nat} (hL : Lm ds.length listed lm) : j ∈ Region.ready .any ops listed ↔ j ∈ readyM ds lm := by
  have hn : ops.size = ds.length := by rw [← hds]; simp
  have hdm : ∀ j o, ops[j]? = some o → ds.getD j 0 = dmask o := fun j o ho => by
    rw [← hds, List.getD_eq_getElem?_getD, List.getElem?_map]
    have : ops.toList[j]? = some o := by simpa using ho
    rw [this]; rfl
  unfold readyM
  rw [mem_ready, hL.un, List.mem_filter, List.mem_range, Bool.and_eq_true, Bool.not_eq_true', nbeq]
  constructor
  · rintro ⟨⟨h1, h2⟩, o, ho, hall⟩
    refine ⟨h1, h2, Nat.eq_of_testBit_eq fun k => ?_⟩
    rw [Nat.testBit_and]
    cases hk : (ds.getD j 0).testBit k with
    | false => rfl
    | true =>
      rw [hdm j o ho] at hk
      obtain ⟨e, he, hb, rfl⟩ := (dmask_bit o k).1 hk
      rw [← hL.2, hall e he hb]; rfl
  · rintro ⟨h1, h2, h3⟩
    obtain ⟨o, ho⟩ : ∃ o, ops[j]? = some o := ⟨_, Array.getElem?_eq_getElem (by omega)⟩
    refine ⟨⟨h1, h2⟩, o, ho, fun e he hb => ?_⟩
    rw [hL.2]
    exact and_sub (a := ds.getD j 0) (by rw [h3]; simp) (by rw [hdm j o ho]; exact (dmask_bit o e.on).2 ⟨e, he, hb, rfl⟩)
theorem wpOp_exits (hq : ∀ e a w, e ≠ .normal → Q e a w → Q0 e a w) {i : Nat} {k k' : Act → World → Prop} (hn : ∀ a w, k a w → k' a w) {a : Act} {w : World} (h : wpOp P ops Q i k a w) : wpOp P ops Q0 i k' a w := by
  unfold wpOp at *
  cases ho : ops[i]? with
  | none => rw [ho] at h; exact hn _ _ h
  | some o =>
    rw [ho] at h
    simp only at h ⊢
    split
    · rename_i hw
      rw [if_pos hw] at h
      rcases h with h1 | ⟨h1, h2⟩
      · left
        unfold Oper.wp at *
        generalize (execOp a.eval o).run P w = r at *
        cases r with
        | ok n w' =>
          cases n <;> simp only [Oper.upon] at h1 ⊢
          case value u => exact hn _ _ h1
          case skip => exact hn _ _ h1
          case defer d => exact hn _ _ h1
          case enter f args =>
            refine h1.mono fun e w'' hh => ?_
            cases e with
            | returned u => exact hn _ _ hh
            | panicked c => exact hq _ _ _ (by simp) hh
            | outgrown => exact hh.imp fun a' h' => h'.imp fun w' h'' => hq _ _ _ (by simp) h''
          case row row args => exact h1.mono fun u w'' hh => hn _ _ hh
        | halt x w' =>
          cases x <;> simp only [Oper.upon] at h1 ⊢
          case panic u => exact hq _ _ _ (by simp) h1
      · right
        exact ⟨h1, h2.imp fun a' h' => h'.imp fun w' h'' => hq _ _ _ (by simp) h''⟩
    · rename_i hw
      rw [if_neg hw] at h
      exact hn _ _ h
/-- As wpAnyG, but the class is asked for only while none of the closing operations has come. -/
def wpAnyH (P : Program) (ops : Array Oper) (Q : Exit → Act → World → Prop) (D : World → Prop) (ph ns : List Nat) : Nat → Array Bool → Act → World → Prop
  | 0, listed, a, w => Region.ready .any ops listed = [] ∧ Q .normal a w
  | fuel + 1, listed, a, w => (Region.ready .any ops listed = [] → Q .normal a w) ∧
    ∀ i ∈ Region.ready .any ops listed, wpOp P ops Q i (fun a' w' => (i ∈ ph → (∀ s ∈ ns, listed.getD s false = false) → D w') ∧ ∀ w'', Gr w' w'' → wpAnyH P ops Q D ph ns fuel (listed.setIfInBounds i true) a' w'') a w
theorem wpAny_of_H {ns : List Nat} : ∀ (fuel : Nat) (listed : Array Bool) (a : Act) (w : World), wpAnyH P ops Q D ph ns fuel listed a w → wpAny P .any ops Q fuel listed a w
  | 0, _, _, _, h => h
  | fuel + 1, _, _, _, h => ⟨h.1, fun i hi => wpOp_mono (fun _ _ hh => wpAny_of_H fuel _ _ _ (hh.2 _ (Gr.refl _))) (h.2 i hi)⟩
theorem wpAnyH_first {ns : List Nat} {W : Nat → Nat → Prop} (hW : ∀ (listed : Array Bool), Closed ops listed → ∀ j i, W j i → (∀ o, ops[j]? = some o → ∀ e ∈ o.after, Region.binds .any e = true → listed.getD e.on false = true) → listed.getD i false = true) (hD : ∀ w w', D w → Gr w w' → D w') (hQ : ∀ c a w, ¬ Q (.panic c) a w) {i : Nat} {oi : Oper} {v : Value} (hi : ops[i]? = some oi) (hsel : ∀ (j : Nat) (o : Oper) cs b, ops[j]? = some o → o.op ≠ .select cs b) (hns : ∀ s ∈ ns, s ≠ i ∧ W s i) :
    ∀ (fuel : Nat) (listed : Array Bool) (a : Act) (w : World), Closed ops listed →
      (∀ j oj, ops[j]? = some oj → j ≠ i → listed.getD j true = false → W j i ∨ (oi.apart ops oj = true ∧ j ∈ ph)) →
      i ∈ Region.ready .any ops listed → D w → YG P ops D oi v a → (∀ w', Gr w w' → wpAnyH P ops Q D ph ns fuel (listed.setIfInBounds i true) (a.put oi.dst v) w') → wpAnyH P ops Q D ph ns (fuel + 1) listed a w := by
  intro fuel
  induction fuel with
  | zero =>
    intro listed a w _ _ hr hw hy H
    refine ⟨fun h => (by rw [h] at hr; cases hr), fun j hj => ?_⟩
    by_cases hji : j = i
    · subst hji
      exact hy.wpOp hi hw fun w' hg => ⟨fun _ _ => hD w w' hw hg, fun w'' hg' => H w'' (hg.trans hg')⟩
    · have := ready_mono hj hji
      rw [(H w (Gr.refl w)).1] at this
      cases this
  | succ fuel ih =>
    intro listed a w hc hfree hr hw hy H
    refine ⟨fun h => (by rw [h] at hr; cases hr), fun j hj => ?_⟩
    by_cases hji : j = i
    · subst hji
      exact hy.wpOp hi hw fun w' hg => ⟨fun _ _ => hD w w' hw hg, fun w'' hg' => H w'' (hg.trans hg')⟩
    · have h1 := (H w (Gr.refl w)).2 j (ready_mono hj hji)
      obtain ⟨hjun, oj, hoj, hall⟩ := mem_ready.1 hj
      have hiun := (mem_ready.1 hr).1
      have hnw : ¬ W j i := fun hwt =>
        getD_tf hiun (hW listed hc j i hwt fun o ho e he hb => by
          obtain rfl : oj = o := Option.some.inj (hoj.symm.trans ho)
          exact hall e he hb)
      obtain ⟨hap, hjph⟩ := (hfree j oj hoj hji hjun).resolve_left hnw
      have hno : ∀ s ∈ ns, (listed.setIfInBounds i true).getD s false = false := fun s hs => by
        obtain ⟨h1, h2⟩ := hns s hs
        cases hl : listed.getD s false with
        | true =>
          have := hW listed hc s i h2 fun o ho e he hb => hc s o ho hl e he hb
          exact absurd this (getD_tf hiun)
        | false =>
          rw [Array.getD_eq_getD_getElem?, Array.getElem?_setIfInBounds_ne (Ne.symm h1), ← Array.getD_eq_getD_getElem?]
          exact hl
      have h2 := wpOp_put hoj hap (fun cs b => hsel i oi cs b hi) (fun cs b => hsel j oj cs b hoj) hQ hy h1
      have hfree' : ∀ k ok, ops[k]? = some ok → k ≠ i → (listed.setIfInBounds j true).getD k true = false → W k i ∨ (oi.apart ops ok = true ∧ k ∈ ph) := fun k ok hk hki hun => by
        refine hfree k ok hk hki ?_
        by_cases hjk : j = k
        · subst hjk; exact hjun
        · rw [getD_set_ne true hjk] at hun; exact hun
      refine wpOp_mono (fun a' w' h3 => ⟨fun _ _ => h3.2.1 hjph hno, fun w'' hg => ?_⟩) h2
      refine ih (listed.setIfInBounds j true) a' w'' (closed_set hc hj) hfree' (ready_mono hr (Ne.symm hji)) (hD w' w'' (h3.2.1 hjph hno) hg) h3.1 fun w3 hg3 => ?_
      have := h3.2.2 w3 (hg.trans hg3)
      rwa [Array.setIfInBounds_comm _ _ (Ne.symm hji)] at this
/-- Every quiet one of an order is waited for by the closing ones. -/
def nsOk (ms : List Nat) (ns : List Nat) (π : List (Nat × Bool)) : Bool := π.all fun p => !p.2 || ns.all fun s => !(Nat.beq s p.1) && (ms.getD s 0).testBit p.1
theorem wpAnyH_linX {ns : List Nat} {ds ms : List Nat} {phm lend rest : Nat} (hds : ops.toList.map dmask = ds) (hms : okAnc ds ms = true) (hml : Nat.beq ms.length ds.length = true) (hlend : Nat.blt lend (2 ^ ds.length) = true) (hph : ((List.range ds.length).all fun j => !phm.testBit j || ph.contains j) = true)
    (hD : ∀ w w', D w → Gr w w' → D w') (hQ : ∀ c a w, ¬ Q0 (.panic c) a w) (hsel : ∀ (j : Nat) (o : Oper) cs b, ops[j]? = some o → o.op ≠ .select cs b) (hqq : ∀ e a w, e ≠ .normal → Q e a w → Q0 e a w)
    (hT : ∀ listed a w, Closed ops listed → Lm ds.length listed lend → Q .normal a w → wpAnyH P ops Q0 D ph ns rest listed a w) :
    ∀ (π : List (Nat × Bool)) (listed : Array Bool) (lm : Nat) (a : Act) (w : World), Closed ops listed → Lm ds.length listed lm → linM ops ds ms phm lend π lm = true → nsOk ms ns π = true → wpLin P ops Q D ph π a w → wpAnyH P ops Q0 D ph ns (π.length + rest) listed a w := by
  have hml' : ms.length = ds.length := by simpa using hml
  have hlend' : lend < 2 ^ ds.length := by simpa using hlend
  have hph' : ∀ j, j < ds.length → phm.testBit j = true → j ∈ ph := fun j hj h => by
    simp only [List.all_eq_true, List.mem_range, Bool.or_eq_true, Bool.not_eq_true'] at hph
    rcases hph j hj with h1 | h1
    · rw [h] at h1; cases h1
    · simpa using h1
  intro π
  induction π with
  | nil =>
    intro listed lm a w hc hL hB _ h
    simp only [linM] at hB
    have e : lm = lend := by simpa using hB
    subst e
    rw [List.length_nil, Nat.zero_add]
    exact hT listed a w hc hL h
  | cons p π ih =>
    obtain ⟨i, b⟩ := p
    intro listed lm a w hc hL hB hB2 h
    have hn2 : nsOk ms ns π = true := by
      unfold nsOk at *
      rw [List.all_cons, Bool.and_eq_true] at hB2
      exact hB2.2
    simp only [linM, Bool.and_eq_true, Bool.not_eq_true'] at hB
    obtain ⟨⟨⟨⟨b1, b2⟩, b3⟩, b4⟩, b5⟩ := hB
    have hin : i < ds.length := by
      rcases Nat.lt_or_ge i ds.length with h1 | h1
      · exact h1
      · have := Nat.testBit_lt_two_pow (x := lend) (i := i) (Nat.lt_of_lt_of_le hlend' (Nat.pow_le_pow_right (by decide) h1))
        rw [this] at b2; cases b2
    have hr : i ∈ Region.ready .any ops listed := (ready_mask hds hL).2 (by
      unfold readyM
      rw [List.mem_filter, List.mem_range, Bool.and_eq_true, Bool.not_eq_true']
      exact ⟨hin, b1, b3⟩)
    rw [List.length_cons, Nat.add_right_comm]
    cases b with
    | true =>
      obtain ⟨hw, o, v, ho, hy, hk⟩ := h
      simp only [ho, Bool.and_eq_true] at b4
      have hn3 : ∀ s ∈ ns, s ≠ i ∧ (ms.getD s 0).testBit i = true := fun s hs => by
        unfold nsOk at hB2
        rw [List.all_cons, Bool.and_eq_true] at hB2
        have h1 := hB2.1
        simp only [Bool.not_true, Bool.false_or, List.all_eq_true, Bool.and_eq_true, Bool.not_eq_true'] at h1
        have := h1 s hs
        exact ⟨fun e => by rw [e] at this; simp at this, this.2⟩
      refine wpAnyH_first (W := fun j i => (ms.getD j 0).testBit i = true) (fun listed hc j i h hp => anc_spec hds hms listed hc (j + 1) j i (by omega) h hp) hD hQ ho hsel hn3 (π.length + rest) listed a w hc (fun j oj hj hne hun => ?_) hr hw hy fun w' hg => ih _ _ _ w' (closed_set hc hr) (hL.set hin) b5 hn2 (hk w' hg)
      obtain ⟨u1, u2⟩ := (hL.un (j := j)).1 hun
      have := pend_spec ms 0 b4.2 j (Nat.zero_le _) (by omega) u2 hne
      rw [Nat.sub_zero] at this
      rcases this with h1 | h1
      · exact .inl h1
      · exact .inr ⟨h1.2 oj hj, hph' j u1 h1.1⟩
    | false =>
      refine ⟨fun h0 => (by rw [h0] at hr; cases hr), fun j hj => ?_⟩
      have hj2 := (ready_mask hds hL).1 hj
      unfold readyM at hj2
      rw [List.mem_filter, List.mem_range, Bool.and_eq_true, Bool.not_eq_true', nbeq] at hj2
      obtain ⟨u1, u2, u3⟩ := hj2
      have e : j = i := by
        by_cases e : j = i
        · exact e
        · have := none_ready_spec ds 0 b4 j (Nat.zero_le _) (by omega) u2 e
          rw [Nat.sub_zero] at this
          exact absurd u3 this
      subst e
      exact wpOp_exits hqq (fun a' w' hh => ⟨fun h1 _ => hh.1 h1, fun w'' hg => ih _ _ a' w'' (closed_set hc hr) (hL.set hin) b5 hn2 (hh.2 w'' hg)⟩) h
end
section
variable {P : Program} {N : Nat} {w0 : World} {M L : List Res} {β : Type} {r : β} {K : Kont} {ρ : Env} {m : Option β} {D : World → Prop} {ph ns : List Nat} {π : List (Nat × Bool)} {ops : Array Oper} {i d n fuel lm : Nat} {ds : List Nat}
/-- What is left of a drawing when the operations of a mask are behind. -/
def kX (P : Program) (N : Nat) (ops : Array Oper) (D : World → Prop) (ph ns : List Nat) (n fuel lm : Nat) (K : Kont) : Kont
  | .normal, ρ, w => ∀ listed a, Closed ops listed → Lm n listed lm → Holds N a ρ → wpAnyH P ops (lift N K) D ph ns fuel listed a w
  | e, ρ, w => K e ρ w
/-- And behind one more. -/
def kXs (P : Program) (N : Nat) (ops : Array Oper) (D : World → Prop) (ph ns : List Nat) (i n fuel lm : Nat) (K : Kont) : Kont
  | .normal, ρ, w => ((ph.contains i && ns.all fun s => Nat.beq s i || !lm.testBit s) = true → D w) ∧ ∀ w', Gr w w' → kX P N ops D ph ns n fuel lm K .normal ρ w'
  | e, ρ, w => K e ρ w
theorem np_x (h : NoPanic K) : NoPanic (kX P N ops D ph ns n fuel lm K) := by
  unfold NoPanic at *
  exact fun c ρ w hk => h c ρ w hk
theorem jd_x (h : Jk w0 M L .normal ρ m r K) : Jd P N w0 M L ops D ph [] ρ m r K := fun w _ hs' hm => by
  unfold Dr
  exact fun a ha => ⟨ρ, ha, h w hs' hm⟩
theorem jf_x (h : Jk w0 M L .normal ρ m r K) : Jf P N w0 M L ops D ph [] ρ m r K := fun w hs' hm => by
  unfold Dr
  exact fun a ha => ⟨ρ, ha, h w hs' hm⟩
/-- One of those that may come up. -/
theorem x_one {o : Oper} {listed : Array Bool} {a : Act} {w : World} (hc : Closed ops listed) (hL : Lm ds.length listed lm) (hr : i ∈ Region.ready .any ops listed) (hin : i < ds.length) (hi : ops[i]? = some o) (ha : Holds N a ρ) (h : Rg P N ops [o] ρ w (kXs P N ops D ph ns i ds.length fuel (lm ||| (1 <<< i)) K)) :
    wpOp P ops (lift N K) i (fun a' w' => (i ∈ ph → (∀ s ∈ ns, listed.getD s false = false) → D w') ∧ ∀ w'', Gr w' w'' → wpAnyH P ops (lift N K) D ph ns fuel (listed.setIfInBounds i true) a' w'') a w := by
  unfold Rg at h
  have h1 := h a ha
  unfold wpList at h1
  have h2 : wpOp P ops (lift N (kXs P N ops D ph ns i ds.length fuel (lm ||| (1 <<< i)) K)) i (wpList P ops (lift N (kXs P N ops D ph ns i ds.length fuel (lm ||| (1 <<< i)) K)) []) a w := by
    unfold wpOp
    simp only [hi]
    exact h1
  refine wpOp_exits (fun e a w he ⟨ρ', hh, hk⟩ => ⟨ρ', hh, by cases e <;> first | exact absurd rfl he | exact hk⟩) (fun a' w' ⟨ρ', hh, hk⟩ => ⟨fun hm hno => hk.1 ?_, fun w'' hg => ?_⟩) h2
  · rw [Bool.and_eq_true, List.all_eq_true]
    refine ⟨List.contains_iff_mem.2 hm, fun s hs => ?_⟩
    have h3 := hno s hs
    rw [hL.2] at h3
    rw [Nat.testBit_or, h3, Bool.false_or, Nat.one_shiftLeft, Nat.testBit_two_pow]
    by_cases e : i = s
    · subst e; simp
    · simp [e]
  exact hk.2 w'' hg (listed.setIfInBounds i true) a' (closed_set hc hr) (hL.set hin) hh
theorem jx (is : List Nat) (hds : ops.toList.map dmask = ds) (hr : readyM ds lm = is) (hne : is.isEmpty = false)
    (h : ∀ i ∈ is, ∃ o, ops[i]? = some o ∧ Jg P N w0 M L ops [o] ρ m r (kXs P N ops D ph ns i ds.length fuel (lm ||| (1 <<< i)) K)) : Jk w0 M L .normal ρ m r (kX P N ops D ph ns ds.length (fuel + 1) lm K) := fun w hs hm listed a hc hL ha => by
  refine ⟨fun h0 => ?_, fun i hi => ?_⟩
  · exfalso
    cases is with
    | nil => cases hne
    | cons i is =>
      have : i ∈ Region.ready .any ops listed := (ready_mask hds hL).2 (by rw [hr]; exact List.mem_cons_self)
      rw [h0] at this
      cases this
  · have h1 := (ready_mask hds hL).1 hi
    have hin : i < ds.length := by
      unfold readyM at h1
      exact List.mem_range.1 (List.mem_filter.1 h1).1
    rw [hr] at h1
    obtain ⟨o, ho, hg⟩ := h i h1
    exact x_one hc hL hi hin ho ha (hg w hs hm)
theorem jx1 {o : Oper} (hds : ops.toList.map dmask = ds) (hr : readyM ds lm = [i]) (hi : ops[i]? = some o) (h : Jg P N w0 M L ops [o] ρ m r (kXs P N ops D ph ns i ds.length fuel (lm ||| (1 <<< i)) K)) : Jk w0 M L .normal ρ m r (kX P N ops D ph ns ds.length (fuel + 1) lm K) :=
  jx [i] hds hr rfl fun j hj => by simp only [List.mem_cons, List.not_mem_nil, or_false] at hj; subst hj; exact ⟨o, hi, h⟩
theorem jx2 {i2 : Nat} {o o2 : Oper} (hds : ops.toList.map dmask = ds) (hr : readyM ds lm = [i, i2]) (hi : ops[i]? = some o) (hi2 : ops[i2]? = some o2) (h : Jg P N w0 M L ops [o] ρ m r (kXs P N ops D ph ns i ds.length fuel (lm ||| (1 <<< i)) K)) (h2 : Jg P N w0 M L ops [o2] ρ m r (kXs P N ops D ph ns i2 ds.length fuel (lm ||| (1 <<< i2)) K)) : Jk w0 M L .normal ρ m r (kX P N ops D ph ns ds.length (fuel + 1) lm K) :=
  jx [i, i2] hds hr rfl fun j hj => by
    simp only [List.mem_cons, List.not_mem_nil, or_false] at hj
    rcases hj with rfl | rfl
    · exact ⟨o, hi, h⟩
    · exact ⟨o2, hi2, h2⟩
theorem jx3 {i2 i3 : Nat} {o o2 o3 : Oper} (hds : ops.toList.map dmask = ds) (hr : readyM ds lm = [i, i2, i3]) (hi : ops[i]? = some o) (hi2 : ops[i2]? = some o2) (hi3 : ops[i3]? = some o3) (h : Jg P N w0 M L ops [o] ρ m r (kXs P N ops D ph ns i ds.length fuel (lm ||| (1 <<< i)) K)) (h2 : Jg P N w0 M L ops [o2] ρ m r (kXs P N ops D ph ns i2 ds.length fuel (lm ||| (1 <<< i2)) K))
    (h3 : Jg P N w0 M L ops [o3] ρ m r (kXs P N ops D ph ns i3 ds.length fuel (lm ||| (1 <<< i3)) K)) : Jk w0 M L .normal ρ m r (kX P N ops D ph ns ds.length (fuel + 1) lm K) :=
  jx [i, i2, i3] hds hr rfl fun j hj => by
    simp only [List.mem_cons, List.not_mem_nil, or_false] at hj
    rcases hj with rfl | rfl | rfl
    · exact ⟨o, hi, h⟩
    · exact ⟨o2, hi2, h2⟩
    · exact ⟨o3, hi3, h3⟩
theorem jx0 (r' : Env) (hsub : Sub r' ρ) (hds : ops.toList.map dmask = ds) (hr : readyM ds lm = []) (h : Jk w0 M L .normal r' m r K) : Jk w0 M L .normal ρ m r (kX P N ops D ph ns ds.length 0 lm K) := fun w hs hm listed a hc hL ha => by
  refine ⟨List.eq_nil_iff_forall_not_mem.2 fun j hj => ?_, ⟨r', ha.sub hsub, h w hs hm⟩⟩
  have := (ready_mask hds hL).1 hj
  rw [hr] at this
  cases this
theorem jk_xn {L' : List Res} (is : List Nat) (hsel : selL (L ++ M) is = some L') (h : Jk w0 M L .normal ρ m r (kX P N ops (fun w => Sx w0 w (idsM M) L') ph ns n fuel lm K)) : Jk w0 M L .normal ρ m r (kXs P N ops (fun w => Sx w0 w (idsM M) L') ph ns i n fuel lm K) := fun w hs hm =>
  ⟨fun _ => hs.sx hsel, fun w' hg => h w' (hs.call0 hg) hm⟩
theorem jk_xf (hi : (ph.contains i && ns.all fun s => Nat.beq s i || !lm.testBit s) = false) (h : Jk w0 M L .normal ρ m r (kX P N ops D ph ns n fuel lm K)) : Jk w0 M L .normal ρ m r (kXs P N ops D ph ns i n fuel lm K) := fun w hs hm =>
  ⟨fun hc => (by rw [hi] at hc; cases hc), fun w' hg => h w' (hs.call0 hg) hm⟩
theorem jx_lin {L' : List Res} (is : List Nat) (phm lend rest : Nat) (ms : List Nat) (π : List (Nat × Bool)) (hsel : selL (L ++ M) is = some L') (hp : NoPanic K) (hn : Region.noSelect ops = true) (hl : Nat.beq (π.length + rest) fuel = true)
    (hds : ops.toList.map dmask = ds) (hms : okAnc ds ms = true) (hml : Nat.beq ms.length ds.length = true) (hlend : Nat.blt lend (2 ^ ds.length) = true) (hph : ((List.range ds.length).all fun j => !phm.testBit j || ph.contains j) = true) (hB : linM ops ds ms phm lend π lm = true) (hB2 : nsOk ms ns π = true)
    (h : Jd P N w0 M L ops (fun w => Sx w0 w (idsM M) L') ph π ρ m r (kX P N ops (fun w => Sx w0 w (idsM M) L') ph ns ds.length rest lend K)) : Jk w0 M L .normal ρ m r (kX P N ops (fun w => Sx w0 w (idsM M) L') ph ns ds.length fuel lm K) := fun w hs hm' listed a hc hL ha => by
  have hl' : π.length + rest = fuel := by simpa using hl
  have hQ : ∀ c a w, ¬ lift N K (.panic c) a w := fun c a w ⟨ρ', _, hk⟩ => by unfold NoPanic at hp; exact hp c ρ' w hk
  have hd := h w (hs.sx hsel) hs hm'
  unfold Dr at hd
  have := wpAnyH_linX (P := P) (Q0 := lift N K) (ops := ops) (rest := rest) hds hms hml hlend hph (fun _ _ h hg => Sx.gr h hg) hQ (Region.noSelect_spec hn)
    (fun e a w he ⟨ρ', hh, hk⟩ => ⟨ρ', hh, by cases e <;> first | exact absurd rfl he | exact hk⟩) (fun listed a w hcl hLl ⟨ρ', hh, hk⟩ => hk listed a hcl hLl hh) π listed lm a w hc hL hB hB2 (hd a ha)
  rw [hl'] at this
  exact this
/-- Another class for what is left: none of it is in the old one's list. -/
theorem wpAnyH_re {Q : Exit → Act → World → Prop} {D' : World → Prop} {ph' ns' : List Nat} : ∀ (fuel : Nat) (listed : Array Bool) (a : Act) (w : World), (∀ i, listed.getD i true = false → i ∉ ph) → wpAnyH P ops Q D' ph' ns' fuel listed a w → wpAnyH P ops Q D ph ns fuel listed a w
  | 0, _, _, _, _, h => h
  | fuel + 1, listed, a, w, hno, h => ⟨h.1, fun i hi => by
    have hun := (mem_ready.1 hi).1
    refine wpOp_mono (fun a' w' hh => ⟨fun hm _ => absurd hm (hno i hun), fun w'' hg => wpAnyH_re fuel _ a' w'' (fun k hk => hno k ?_) (hh.2 w'' hg)⟩) (h.2 i hi)
    by_cases e : i = k
    · subst e; exact hun
    · rw [getD_set_ne true e] at hk; exact hk⟩
theorem jx_re {L' : List Res} (ph' ns' is : List Nat) (hsel : selL (L ++ M) is = some L') (hno : ((List.range n).all fun j => lm.testBit j || !ph.contains j) = true) (h : Jk w0 M L .normal ρ m r (kX P N ops (fun w => Sx w0 w (idsM M) L') ph' ns' n fuel lm K)) : Jk w0 M L .normal ρ m r (kX P N ops D ph ns n fuel lm K) := fun w hs hm listed a hc hL ha => by
  refine wpAnyH_re fuel listed a w (fun i hi hm => ?_) (h w hs hm listed a hc hL ha)
  obtain ⟨h1, h2⟩ := hL.un.1 hi
  simp only [List.all_eq_true, List.mem_range, Bool.or_eq_true, Bool.not_eq_true'] at hno
  rcases hno i h1 with h3 | h3
  · rw [h2] at h3; cases h3
  · rw [List.contains_iff_mem.2 hm] at h3; cases h3
theorem wpAnyH_weaken {Q : Exit → Act → World → Prop} {D' : World → Prop} {ph' ns' : List Nat} : ∀ (fuel : Nat) (listed : Array Bool) (a : Act) (w : World), wpAnyH P ops Q D' ph' ns' fuel listed a w → wpAnyH P ops Q (fun _ => True) ph ns fuel listed a w
  | 0, _, _, _, h => h
  | fuel + 1, _, _, _, h => ⟨h.1, fun i hi => wpOp_mono (fun a' w' hh => ⟨fun _ _ => trivial, fun w'' hg => wpAnyH_weaken fuel _ a' w'' (hh.2 w'' hg)⟩) (h.2 i hi)⟩
/-- From the class of all worlds to a narrower one. -/
theorem jx_to {L' : List Res} (ph' ns' is : List Nat) (hsel : selL (L ++ M) is = some L') (h : Jk w0 M L .normal ρ m r (kX P N ops (fun w => Sx w0 w (idsM M) L') ph' ns' n fuel lm K)) : Jk w0 M L .normal ρ m r (kX P N ops (fun _ => True) ph ns n fuel lm K) := fun w hs hm listed a hc hL ha =>
  wpAnyH_weaken fuel listed a w (h w hs hm listed a hc hL ha)
theorem jt_mv {x : Operand} {ty : TypeId} {ps : String} {af : Array Edge} {v : Value} (hi : ops[i]? = some ⟨some d, .move x, ty, ps, af, none⟩) (hx : evo ρ x = some v) (hd : Nat.blt d N = true)
    (hk : Jd P N w0 M L ops (fun _ => True) ph π ((d, v) :: ρ) m r K) : Jd P N w0 M L ops (fun _ => True) ph ((i, true) :: π) ρ m r K := fun w hD hs hm =>
  dr_y hi (fun _ _ => yv_move hx) hD rfl hd fun w' hgr => hk w' trivial (hs.call0 hgr) hm
theorem jt_as {x : Operand} {ty : TypeId} {ps : String} {af : Array Edge} {v : Value} (hi : ops[i]? = some ⟨some d, .assign x, ty, ps, af, none⟩) (hx : evo ρ x = some v) (hd : Nat.blt d N = true)
    (hk : Jd P N w0 M L ops (fun _ => True) ph π ((d, v) :: ρ) m r K) : Jd P N w0 M L ops (fun _ => True) ph ((i, true) :: π) ρ m r K := fun w hD hs hm =>
  dr_y hi (fun _ _ => yv_assign hx) hD rfl hd fun w' hgr => hk w' trivial (hs.call0 hgr) hm
/-- A drawing whose moves come first. -/
theorem jn_drawA (id : Nat) {l : List Oper} (ph : List Nat) (phm lend rest : Nat) (ds ms : List Nat) (π : List (Nat × Bool)) [hm : CM P] (hp : NoPanic K) (hn : Region.noSelect l.toArray = true) (hl : Nat.beq (π.length + rest) l.length = true)
    (hds : l.map dmask = ds) (hms : okAnc ds ms = true) (hml : Nat.beq ms.length ds.length = true) (hlend : Nat.blt lend (2 ^ ds.length) = true) (hph : ((List.range ds.length).all fun j => !phm.testBit j || ph.contains j) = true) (hB : linM l.toArray ds ms phm lend π 0 = true)
    (h : Jd P N w0 M L l.toArray (fun _ => True) ph π ρ m r (kX P N l.toArray (fun _ => True) ph [] ds.length rest lend K)) : Jn P N w0 M L (.region id l.toArray true) ρ m r K := fun w hs hm' =>
  by
  have hl' : π.length + rest = l.length := by simpa using hl
  unfold Rn
  intro a ha
  refine wp_region_any hm.h (wpAny_of_H (D := fun _ => True) (ph := ph) (ns := []) _ _ _ _ ?_)
  have hQ : ∀ c a w, ¬ lift N K (.panic c) a w := fun c a w ⟨ρ', _, hk⟩ => by unfold NoPanic at hp; exact hp c ρ' w hk
  have hc : Closed l.toArray (Array.replicate l.length false) := fun j o _ hj => by
    rcases Nat.lt_or_ge j l.length with h' | h' <;> simp [h'] at hj
  have hdl : ds.length = l.length := by rw [← hds]; simp
  have hL : Lm ds.length (Array.replicate l.length false) 0 := ⟨by simp [hdl], fun j => by
    rcases Nat.lt_or_ge j l.length with h' | h' <;> simp [h']⟩
  have hd := h { w with drawn := w.drawn + 1 } trivial (hs.drew) hm'
  unfold Dr at hd
  have := wpAnyH_linX (P := P) (Q0 := lift N K) (ops := l.toArray) (rest := rest) (by simpa using hds) hms hml hlend hph (fun _ _ _ _ => trivial) hQ (Region.noSelect_spec hn)
    (fun e a w he ⟨ρ', hh, hk⟩ => ⟨ρ', hh, by cases e <;> first | exact absurd rfl he | exact hk⟩) (fun listed a w hcl hLl ⟨ρ', hh, hk⟩ => hk listed a hcl hLl hh) π (Array.replicate l.length false) 0 a { w with drawn := w.drawn + 1 } hc hL hB (by unfold nsOk; simp) (hd a ha)
  rw [hl'] at this
  simpa using this
/-- What a slice's header tells. -/
structure Pl {α : Type} (h : Hd) (l : List α) : Prop where
  n : l.length = h.n
  a : ∀ (i : Nat) a, l[i]? = some a → ∃ ad, h.A = some ad
theorem jn_pl {α : Type} {h : Hd} {e : TypeId} {sz : Nat} {enc : α → List Value} {l : List α} {c : Code} [he : En enc sz] (i : Nat) (hi : L[i]? = some (rowH h e sz enc l)) (k : Pl h l → Jn P N w0 M L c ρ m r K) : Jn P N w0 M L c ρ m r K := fun w hs hm =>
  have q := St.row hs i hi
  k ⟨q.n, fun _ _ hl => q.sm hl⟩ w hs hm
theorem yv_ixP {α : Type} {w : World} {d : Option Nat} {T ty : TypeId} {ps : String} {af : Array Edge} {gd : Option (Nat × Bool)} {h : Hd} {l : List α} {a : α} {sz : Nat} {x y : Operand} {i : Int} {k : IntKind} {e : TypeId} {b : Nat} {z : Value} [hc : CL P T e sz b z] (hx : evo ρ x = some h.v) (hy : evo ρ y = some (.int k i)) (hr : Pl h l) (hl : l[i.toNat]? = some a ∧ 0 ≤ i) :
    Yv P N ρ w ⟨d, .indexAddr T x y, ty, ps, af, gd⟩ (ep h.A i.toNat sz 0) := by
  have h1 := (List.getElem?_eq_some_iff.1 hl.1).1
  have hn := hr.n
  obtain ⟨ad, hA⟩ := hr.a _ _ hl.1
  have h2 := hl.2
  have h3 : i < h.n := by omega
  unfold Yv
  intro a' ha
  obtain ⟨inf, q2, _, q3, _⟩ := hc.h
  have hs : (P.info? e).map (·.size) = some sz := by simp [q2, q3]
  have hx' : evo ρ x = some (.slice (some ad) h.n h.c) := by rw [hx, ← hA]
  simp [execOp, ha.ev hx', ha.ev hy, Instr.indexAt, asIntOf, run_underlying hc.u, h2, h3, run_sizeOf' hs, ep, hA]
theorem yv_efP {α : Type} {w : World} {d : Option Nat} {T ty : TypeId} {ps : String} {af : Array Edge} {gd : Option (Nat × Bool)} {h : Hd} {l : List α} {a : α} {sz : Nat} {x : Operand} {k o f off : Nat} [CF P T f off] (hx : evo ρ x = some (ep h.A k sz o)) (hr : Pl h l) (hl : l[k]? = some a) : Yv P N ρ w ⟨d, .fieldAddr T x f, ty, ps, af, gd⟩ (ep h.A k sz (o + off)) :=
  yv_fieldAddr_ep hx (hr.a _ _ hl)
end
attribute [irreducible] kX kXs
end Go.Hy
