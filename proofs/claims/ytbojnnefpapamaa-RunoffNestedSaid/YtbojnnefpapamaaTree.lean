/-
  Drawn regions in which several heavy operations may come up at a time: every one of them is walked first.
-/
import Derived.Test.YtbojnnefpapamaaLift
namespace Go.Hy
set_option linter.unusedVariables false
set_option linter.unusedSimpArgs false
set_option maxHeartbeats 2000000
set_option maxRecDepth 10000
open Go.ChangeShapes

theorem nbeq {a b : Nat} : Nat.beq a b = true ↔ a = b := by simp
/-- What may come up, by masks. -/
def readyM (ds : List Nat) (lm : Nat) : List Nat := (List.range ds.length).filter fun j => !lm.testBit j && Nat.beq (ds.getD j 0 &&& lm) (ds.getD j 0)
section
variable {P : Program} {ops : Array Oper} {Q Q0 : Exit → Act → World → Prop} {D : World → Prop} {ph : List Nat}
theorem ready_mask {ds : List Nat} (hds : ops.toList.map dmask = ds) {listed : Array Bool} {lm j : Nat} (hL : Lm ds.length listed lm) : j ∈ Region.ready .any ops listed ↔ j ∈ readyM ds lm := by
  have hn : ops.size = ds.length := by rw [← hds]; simp
  have hdm : ∀ j o, ops[j]? = some o → ds.getD j 0 = dmask o := fun j o ho => by
    rw [← hds, List.getD_eq_getElem?_getD, List.getElem?_map]
    have : ops.toList[j]? = some o := by simpa using ho
    rw [this]; rfl
  unfold readyM
  rw [mem_ready, hL.un, List.mem_filter, List.mem_range, Bool.and_eq_true, Bool.not_eq_true', nbeq]
  constructor
  · rintro ⟨⟨h1, h2⟩, o, ho, hall⟩
    refine ⟨h1, h2, Nat.eq_of_testBit_eq fun k => ?_⟩
    rw [Nat.testBit_and]
    cases hk : (ds.getD j 0).testBit k with
    | false => rfl
    | true =>
      rw [hdm j o ho] at hk
      obtain ⟨e, he, hb, rfl⟩ := (dmask_bit o k).1 hk
      rw [← hL.2, hall e he hb]; rfl
  · rintro ⟨h1, h2, h3⟩
    obtain ⟨o, ho⟩ : ∃ o, ops[j]? = some o := ⟨_, Array.getElem?_eq_getElem (by omega)⟩
    refine ⟨⟨h1, h2⟩, o, ho, fun e he hb => ?_⟩
    rw [hL.2]
    exact and_sub (a := ds.getD j 0) (by rw [h3]; simp) (by rw [hdm j o ho]; exact (dmask_bit o e.on).2 ⟨e, he, hb, rfl⟩)
theorem wpOp_exits (hq : ∀ e a w, e ≠ .normal → Q e a w → Q0 e a w) {i : Nat} {k k' : Act → World → Prop} (hn : ∀ a w, k a w → k' a w) {a : Act} {w : World} (h : wpOp P ops Q i k a w) : wpOp P ops Q0 i k' a w := by
  unfold wpOp at *
  cases ho : ops[i]? with
  | none => rw [ho] at h; exact hn _ _ h
  | some o =>
    rw [ho] at h
    simp only at h ⊢
    split
    · rename_i hw
      rw [if_pos hw] at h
      rcases h with h1 | ⟨h1, h2⟩
      · left
        unfold Oper.wp at *
        generalize (execOp a.eval o).run P w = r at *
        cases r with
        | ok n w' =>
          cases n <;> simp only [Oper.upon] at h1 ⊢
          case value u => exact hn _ _ h1
          case skip => exact hn _ _ h1
          case defer d => exact hn _ _ h1
          case enter f args =>
            refine h1.mono fun e w'' hh => ?_
            cases e with
            | returned u => exact hn _ _ hh
            | panicked c => exact hq _ _ _ (by simp) hh
            | outgrown => exact hh.imp fun a' h' => h'.imp fun w' h'' => hq _ _ _ (by simp) h''
          case row row args => exact h1.mono fun u w'' hh => hn _ _ hh
        | halt x w' =>
          cases x <;> simp only [Oper.upon] at h1 ⊢
          case panic u => exact hq _ _ _ (by simp) h1
      · right
        exact ⟨h1, h2.imp fun a' h' => h'.imp fun w' h'' => hq _ _ _ (by simp) h''⟩
    · rename_i hw
      rw [if_neg hw] at h
      exact hn _ _ h
theorem wpAnyG_linX {ds ms : List Nat} {phm lend rest : Nat} (hds : ops.toList.map dmask = ds) (hms : okAnc ds ms = true) (hml : Nat.beq ms.length ds.length = true) (hlend : Nat.blt lend (2 ^ ds.length) = true) (hph : ((List.range ds.length).all fun j => !phm.testBit j || ph.contains j) = true)
    (hD : ∀ w w', D w → Gr w w' → D w') (hQ : ∀ c a w, ¬ Q0 (.panic c) a w) (hsel : ∀ (j : Nat) (o : Oper) cs b, ops[j]? = some o → o.op ≠ .select cs b) (hqq : ∀ e a w, e ≠ .normal → Q e a w → Q0 e a w)
    (hT : ∀ listed a w, Closed ops listed → Lm ds.length listed lend → Q .normal a w → wpAnyG P ops Q0 D ph rest listed a w) :
    ∀ (π : List (Nat × Bool)) (listed : Array Bool) (lm : Nat) (a : Act) (w : World), Closed ops listed → Lm ds.length listed lm → linM ops ds ms phm lend π lm = true → wpLin P ops Q D ph π a w → wpAnyG P ops Q0 D ph (π.length + rest) listed a w := by
  have hml' : ms.length = ds.length := by simpa using hml
  have hlend' : lend < 2 ^ ds.length := by simpa using hlend
  have hph' : ∀ j, j < ds.length → phm.testBit j = true → j ∈ ph := fun j hj h => by
    simp only [List.all_eq_true, List.mem_range, Bool.or_eq_true, Bool.not_eq_true'] at hph
    rcases hph j hj with h1 | h1
    · rw [h] at h1; cases h1
    · simpa using h1
  intro π
  induction π with
  | nil =>
    intro listed lm a w hc hL hB h
    simp only [linM] at hB
    have e : lm = lend := by simpa using hB
    subst e
    rw [List.length_nil, Nat.zero_add]
    exact hT listed a w hc hL h
  | cons p π ih =>
    obtain ⟨i, b⟩ := p
    intro listed lm a w hc hL hB h
    simp only [linM, Bool.and_eq_true, Bool.not_eq_true'] at hB
    obtain ⟨⟨⟨⟨b1, b2⟩, b3⟩, b4⟩, b5⟩ := hB
    have hin : i < ds.length := by
      rcases Nat.lt_or_ge i ds.length with h1 | h1
      · exact h1
      · have := Nat.testBit_lt_two_pow (x := lend) (i := i) (Nat.lt_of_lt_of_le hlend' (Nat.pow_le_pow_right (by decide) h1))
        rw [this] at b2; cases b2
    have hr : i ∈ Region.ready .any ops listed := (ready_mask hds hL).2 (by
      unfold readyM
      rw [List.mem_filter, List.mem_range, Bool.and_eq_true, Bool.not_eq_true']
      exact ⟨hin, b1, b3⟩)
    rw [List.length_cons, Nat.add_right_comm]
    cases b with
    | true =>
      obtain ⟨hw, o, v, ho, hy, hk⟩ := h
      simp only [ho, Bool.and_eq_true] at b4
      refine wpAnyG_first (W := fun j i => (ms.getD j 0).testBit i = true) (fun listed hc j i h hp => anc_spec hds hms listed hc (j + 1) j i (by omega) h hp) hD hQ ho hsel (π.length + rest) listed a w hc (fun j oj hj hne hun => ?_) hr hw hy fun w' hg => ih _ _ _ w' (closed_set hc hr) (hL.set hin) b5 (hk w' hg)
      obtain ⟨u1, u2⟩ := (hL.un (j := j)).1 hun
      have := pend_spec ms 0 b4.2 j (Nat.zero_le _) (by omega) u2 hne
      rw [Nat.sub_zero] at this
      rcases this with h1 | h1
      · exact .inl h1
      · exact .inr ⟨h1.2 oj hj, hph' j u1 h1.1⟩
    | false =>
      refine ⟨fun h0 => (by rw [h0] at hr; cases hr), fun j hj => ?_⟩
      have hj2 := (ready_mask hds hL).1 hj
      unfold readyM at hj2
      rw [List.mem_filter, List.mem_range, Bool.and_eq_true, Bool.not_eq_true', nbeq] at hj2
      obtain ⟨u1, u2, u3⟩ := hj2
      have e : j = i := by
        by_cases e : j = i
        · exact e
        · have := none_ready_spec ds 0 b4 j (Nat.zero_le _) (by omega) u2 e
          rw [Nat.sub_zero] at this
          exact absurd u3 this
      subst e
      exact wpOp_exits hqq (fun a' w' hh => ⟨hh.1, fun w'' hg => ih _ _ a' w'' (closed_set hc hr) (hL.set hin) b5 (hh.2 w'' hg)⟩) h
end
section
variable {P : Program} {N : Nat} {w0 : World} {M L : List Res} {β : Type} {r : β} {K : Kont} {ρ : Env} {m : Option β} {D : World → Prop} {ph : List Nat} {π : List (Nat × Bool)} {ops : Array Oper} {i d n fuel lm : Nat} {ds : List Nat}
/-- What is left of a drawing when the operations of a mask are behind. -/
def kX (P : Program) (N : Nat) (ops : Array Oper) (D : World → Prop) (ph : List Nat) (n fuel lm : Nat) (K : Kont) : Kont
  | .normal, ρ, w => ∀ listed a, Closed ops listed → Lm n listed lm → Holds N a ρ → wpAnyG P ops (lift N K) D ph fuel listed a w
  | e, ρ, w => K e ρ w
/-- And behind one more. -/
def kXs (P : Program) (N : Nat) (ops : Array Oper) (D : World → Prop) (ph : List Nat) (i n fuel lm : Nat) (K : Kont) : Kont
  | .normal, ρ, w => (i ∈ ph → D w) ∧ ∀ w', Gr w w' → kX P N ops D ph n fuel lm K .normal ρ w'
  | e, ρ, w => K e ρ w
theorem np_x (h : NoPanic K) : NoPanic (kX P N ops D ph n fuel lm K) := by
  unfold NoPanic at *
  exact fun c ρ w hk => h c ρ w hk
theorem jn_drawX (id : Nat) {l : List Oper} {L' : List Res} (is : List Nat) (ph : List Nat) (phm lend rest : Nat) (ds ms : List Nat) (π : List (Nat × Bool)) [hm : CM P] (hsel : selL (L ++ M) is = some L') (hp : NoPanic K) (hn : Region.noSelect l.toArray = true) (hl : Nat.beq (π.length + rest) l.length = true)
    (hds : l.map dmask = ds) (hms : okAnc ds ms = true) (hml : Nat.beq ms.length ds.length = true) (hlend : Nat.blt lend (2 ^ ds.length) = true) (hph : ((List.range ds.length).all fun j => !phm.testBit j || ph.contains j) = true) (hB : linM l.toArray ds ms phm lend π 0 = true)
    (h : Jd P N w0 M L l.toArray (fun w => Sx w0 w (idsM M) L') ph π ρ m r (kX P N l.toArray (fun w => Sx w0 w (idsM M) L') ph ds.length rest lend K)) : Jn P N w0 M L (.region id l.toArray true) ρ m r K := fun w hs hm' =>
  by
  have hl' : π.length + rest = l.length := by simpa using hl
  unfold Rn
  intro a ha
  refine wp_region_any hm.h (wpAny_of_G (D := fun w => Sx w0 w (idsM M) L') (ph := ph) _ _ _ _ ?_)
  have hQ : ∀ c a w, ¬ lift N K (.panic c) a w := fun c a w ⟨ρ', _, hk⟩ => by unfold NoPanic at hp; exact hp c ρ' w hk
  have hc : Closed l.toArray (Array.replicate l.length false) := fun j o _ hj => by
    rcases Nat.lt_or_ge j l.length with h' | h' <;> simp [h'] at hj
  have hdl : ds.length = l.length := by rw [← hds]; simp
  have hL : Lm ds.length (Array.replicate l.length false) 0 := ⟨by simp [hdl], fun j => by
    rcases Nat.lt_or_ge j l.length with h' | h' <;> simp [h']⟩
  have hd := h { w with drawn := w.drawn + 1 } ((hs.sx hsel).gr (St.drew (St.refl w))) (hs.drew) hm'
  unfold Dr at hd
  have := wpAnyG_linX (P := P) (Q0 := lift N K) (ops := l.toArray) (rest := rest) (by simpa using hds) hms hml hlend hph (fun _ _ h hg => Sx.gr h hg) hQ (Region.noSelect_spec hn)
    (fun e a w he ⟨ρ', hh, hk⟩ => ⟨ρ', hh, by cases e <;> first | exact absurd rfl he | exact hk⟩) (fun listed a w hcl hLl ⟨ρ', hh, hk⟩ => hk listed a hcl hLl hh) π (Array.replicate l.length false) 0 a { w with drawn := w.drawn + 1 } hc hL hB (hd a ha)
  rw [hl'] at this
  simpa using this
theorem jd_x (h : Jk w0 M L .normal ρ m r K) : Jd P N w0 M L ops D ph [] ρ m r K := fun w _ hs' hm => by
  unfold Dr
  exact fun a ha => ⟨ρ, ha, h w hs' hm⟩
theorem jf_x (h : Jk w0 M L .normal ρ m r K) : Jf P N w0 M L ops D ph [] ρ m r K := fun w hs' hm => by
  unfold Dr
  exact fun a ha => ⟨ρ, ha, h w hs' hm⟩
/-- One of those that may come up. -/
theorem x_one {o : Oper} {listed : Array Bool} {a : Act} {w : World} (hc : Closed ops listed) (hL : Lm ds.length listed lm) (hr : i ∈ Region.ready .any ops listed) (hin : i < ds.length) (hi : ops[i]? = some o) (ha : Holds N a ρ) (h : Rg P N ops [o] ρ w (kXs P N ops D ph i ds.length fuel (lm ||| (1 <<< i)) K)) :
    wpOp P ops (lift N K) i (fun a' w' => (i ∈ ph → D w') ∧ ∀ w'', Gr w' w'' → wpAnyG P ops (lift N K) D ph fuel (listed.setIfInBounds i true) a' w'') a w := by
  unfold Rg at h
  have h1 := h a ha
  unfold wpList at h1
  have h2 : wpOp P ops (lift N (kXs P N ops D ph i ds.length fuel (lm ||| (1 <<< i)) K)) i (wpList P ops (lift N (kXs P N ops D ph i ds.length fuel (lm ||| (1 <<< i)) K)) []) a w := by
    unfold wpOp
    simp only [hi]
    exact h1
  refine wpOp_exits (fun e a w he ⟨ρ', hh, hk⟩ => ⟨ρ', hh, by cases e <;> first | exact absurd rfl he | exact hk⟩) (fun a' w' ⟨ρ', hh, hk⟩ => ⟨hk.1, fun w'' hg => ?_⟩) h2
  exact hk.2 w'' hg (listed.setIfInBounds i true) a' (closed_set hc hr) (hL.set hin) hh
theorem jx (is : List Nat) (hds : ops.toList.map dmask = ds) (hr : readyM ds lm = is) (hne : is.isEmpty = false)
    (h : ∀ i ∈ is, ∃ o, ops[i]? = some o ∧ Jg P N w0 M L ops [o] ρ m r (kXs P N ops D ph i ds.length fuel (lm ||| (1 <<< i)) K)) : Jk w0 M L .normal ρ m r (kX P N ops D ph ds.length (fuel + 1) lm K) := fun w hs hm listed a hc hL ha => by
  refine ⟨fun h0 => ?_, fun i hi => ?_⟩
  · exfalso
    cases is with
    | nil => cases hne
    | cons i is =>
      have : i ∈ Region.ready .any ops listed := (ready_mask hds hL).2 (by rw [hr]; exact List.mem_cons_self)
      rw [h0] at this
      cases this
  · have h1 := (ready_mask hds hL).1 hi
    have hin : i < ds.length := by
      unfold readyM at h1
      exact List.mem_range.1 (List.mem_filter.1 h1).1
    rw [hr] at h1
    obtain ⟨o, ho, hg⟩ := h i h1
    exact x_one hc hL hi hin ho ha (hg w hs hm)
theorem jx1 {o : Oper} (hds : ops.toList.map dmask = ds) (hr : readyM ds lm = [i]) (hi : ops[i]? = some o) (h : Jg P N w0 M L ops [o] ρ m r (kXs P N ops D ph i ds.length fuel (lm ||| (1 <<< i)) K)) : Jk w0 M L .normal ρ m r (kX P N ops D ph ds.length (fuel + 1) lm K) :=
  jx [i] hds hr rfl fun j hj => by simp only [List.mem_cons, List.not_mem_nil, or_false] at hj; subst hj; exact ⟨o, hi, h⟩
theorem jx2 {i2 : Nat} {o o2 : Oper} (hds : ops.toList.map dmask = ds) (hr : readyM ds lm = [i, i2]) (hi : ops[i]? = some o) (hi2 : ops[i2]? = some o2) (h : Jg P N w0 M L ops [o] ρ m r (kXs P N ops D ph i ds.length fuel (lm ||| (1 <<< i)) K)) (h2 : Jg P N w0 M L ops [o2] ρ m r (kXs P N ops D ph i2 ds.length fuel (lm ||| (1 <<< i2)) K)) : Jk w0 M L .normal ρ m r (kX P N ops D ph ds.length (fuel + 1) lm K) :=
  jx [i, i2] hds hr rfl fun j hj => by
    simp only [List.mem_cons, List.not_mem_nil, or_false] at hj
    rcases hj with rfl | rfl
    · exact ⟨o, hi, h⟩
    · exact ⟨o2, hi2, h2⟩
theorem jx3 {i2 i3 : Nat} {o o2 o3 : Oper} (hds : ops.toList.map dmask = ds) (hr : readyM ds lm = [i, i2, i3]) (hi : ops[i]? = some o) (hi2 : ops[i2]? = some o2) (hi3 : ops[i3]? = some o3) (h : Jg P N w0 M L ops [o] ρ m r (kXs P N ops D ph i ds.length fuel (lm ||| (1 <<< i)) K)) (h2 : Jg P N w0 M L ops [o2] ρ m r (kXs P N ops D ph i2 ds.length fuel (lm ||| (1 <<< i2)) K))
    (h3 : Jg P N w0 M L ops [o3] ρ m r (kXs P N ops D ph i3 ds.length fuel (lm ||| (1 <<< i3)) K)) : Jk w0 M L .normal ρ m r (kX P N ops D ph ds.length (fuel + 1) lm K) :=
  jx [i, i2, i3] hds hr rfl fun j hj => by
    simp only [List.mem_cons, List.not_mem_nil, or_false] at hj
    rcases hj with rfl | rfl | rfl
    · exact ⟨o, hi, h⟩
    · exact ⟨o2, hi2, h2⟩
    · exact ⟨o3, hi3, h3⟩
theorem jx0 (r' : Env) (hsub : Sub r' ρ) (hds : ops.toList.map dmask = ds) (hr : readyM ds lm = []) (h : Jk w0 M L .normal r' m r K) : Jk w0 M L .normal ρ m r (kX P N ops D ph ds.length 0 lm K) := fun w hs hm listed a hc hL ha => by
  refine ⟨List.eq_nil_iff_forall_not_mem.2 fun j hj => ?_, ⟨r', ha.sub hsub, h w hs hm⟩⟩
  have := (ready_mask hds hL).1 hj
  rw [hr] at this
  cases this
theorem jk_xn {L' : List Res} (is : List Nat) (hsel : selL (L ++ M) is = some L') (h : Jk w0 M L .normal ρ m r (kX P N ops (fun w => Sx w0 w (idsM M) L') ph n fuel lm K)) : Jk w0 M L .normal ρ m r (kXs P N ops (fun w => Sx w0 w (idsM M) L') ph i n fuel lm K) := fun w hs hm =>
  ⟨fun _ => hs.sx hsel, fun w' hg => h w' (hs.call0 hg) hm⟩
theorem jk_xf (hi : ph.contains i = false) (h : Jk w0 M L .normal ρ m r (kX P N ops D ph n fuel lm K)) : Jk w0 M L .normal ρ m r (kXs P N ops D ph i n fuel lm K) := fun w hs hm =>
  ⟨fun hm => by simp at hi; exact absurd hm hi, fun w' hg => h w' (hs.call0 hg) hm⟩
theorem jx_lin {L' : List Res} (is : List Nat) (phm lend rest : Nat) (ms : List Nat) (π : List (Nat × Bool)) (hsel : selL (L ++ M) is = some L') (hp : NoPanic K) (hn : Region.noSelect ops = true) (hl : Nat.beq (π.length + rest) fuel = true)
    (hds : ops.toList.map dmask = ds) (hms : okAnc ds ms = true) (hml : Nat.beq ms.length ds.length = true) (hlend : Nat.blt lend (2 ^ ds.length) = true) (hph : ((List.range ds.length).all fun j => !phm.testBit j || ph.contains j) = true) (hB : linM ops ds ms phm lend π lm = true)
    (h : Jd P N w0 M L ops (fun w => Sx w0 w (idsM M) L') ph π ρ m r (kX P N ops (fun w => Sx w0 w (idsM M) L') ph ds.length rest lend K)) : Jk w0 M L .normal ρ m r (kX P N ops (fun w => Sx w0 w (idsM M) L') ph ds.length fuel lm K) := fun w hs hm' listed a hc hL ha => by
  have hl' : π.length + rest = fuel := by simpa using hl
  have hQ : ∀ c a w, ¬ lift N K (.panic c) a w := fun c a w ⟨ρ', _, hk⟩ => by unfold NoPanic at hp; exact hp c ρ' w hk
  have hd := h w (hs.sx hsel) hs hm'
  unfold Dr at hd
  have := wpAnyG_linX (P := P) (Q0 := lift N K) (ops := ops) (rest := rest) hds hms hml hlend hph (fun _ _ h hg => Sx.gr h hg) hQ (Region.noSelect_spec hn)
    (fun e a w he ⟨ρ', hh, hk⟩ => ⟨ρ', hh, by cases e <;> first | exact absurd rfl he | exact hk⟩) (fun listed a w hcl hLl ⟨ρ', hh, hk⟩ => hk listed a hcl hLl hh) π listed lm a w hc hL hB (hd a ha)
  rw [hl'] at this
  exact this
end
attribute [irreducible] kX kXs
end Go.Hy
