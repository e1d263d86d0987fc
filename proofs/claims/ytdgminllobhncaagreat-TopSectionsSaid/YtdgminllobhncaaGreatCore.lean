/-
  A small logic for walking Go functions, the world being one variable: environments of temporaries, rules for control flow and for values. It holds over every program.
-/
import Derived.WalkKit
import Derived.Maps.AppendAt
namespace Go.Hy
set_option linter.unusedVariables false
set_option linter.unusedSimpArgs false
set_option maxHeartbeats 2000000
set_option maxRecDepth 10000
open Go.RowKit

/-! ### Environments -/
abbrev Env := List (Nat × Value)
def look : Env → Nat → Option Value
  | [], _ => none
  | (k, v) :: r, t => bif Nat.beq k t then some v else look r t

def evo (ρ : Env) : Operand → Option Value
  | .tmp t => look ρ t
  | .const v => some v
  | .global g => some (.pointer (some ⟨g, 0, none⟩))
  | .func f => some (.func (.func f) #[] #[])

structure Holds (N : Nat) (a : Act) (ρ : Env) : Prop where
  dn : a.defers = []
  sz : a.tmps.size = N
  at_ : ∀ t v, look ρ t = some v → a.tmps.getD t undef = v

section
variable {N : Nat} {a : Act} {ρ : Env}

theorem Holds.ev (h : Holds N a ρ) {x : Operand} {v : Value} (he : evo ρ x = some v) : a.eval x = v := by
  cases x with
  | tmp t => exact h.at_ t v he
  | const u => exact Option.some.inj he
  | global g => exact Option.some.inj he
  | func f => exact Option.some.inj he

theorem Holds.put (h : Holds N a ρ) {d : Nat} (hd : Nat.blt d N = true) (v : Value) : Holds N (a.put (some d) v) ((d, v) :: ρ) := by
  have hd' : d < N := by simpa [Nat.blt_eq] using hd
  refine ⟨h.dn, by simp [Act.put, h.sz], fun t u hu => ?_⟩
  simp only [look] at hu
  by_cases e : d = t
  · subst e
    have hb : Nat.beq d d = true := by simp
    rw [hb] at hu
    simp only [cond_true, Option.some.injEq] at hu
    subst hu
    simp [Act.put, h.sz, hd']
  · have hb : Nat.beq d t = false := by
      rw [← Bool.not_eq_true, Nat.beq_eq]; exact e
    rw [hb] at hu
    have := h.at_ t u hu
    simpa [Act.put, Array.getElem?_setIfInBounds, e] using this

theorem Holds.putNone (h : Holds N a ρ) (v : Value) : Holds N (a.put none v) ρ := h

/-- All of a smaller environment. -/
def Sub : Env → Env → Prop
  | [], _ => True
  | (t, v) :: r, ρ => look ρ t = some v ∧ Sub r ρ
theorem Sub.look_ : ∀ {r : Env}, Sub r ρ → ∀ t v, look r t = some v → look ρ t = some v
  | [], _, t, v, h => by simp [look] at h
  | (k, u) :: r, hs, t, v, h => by
    simp only [look] at h
    by_cases e : k = t
    · subst e
      have hb : Nat.beq k k = true := by simp
      rw [hb] at h
      simp only [cond_true, Option.some.injEq] at h
      subst h
      exact hs.1
    · have hb : Nat.beq k t = false := by rw [← Bool.not_eq_true, Nat.beq_eq]; exact e
      rw [hb] at h
      exact Sub.look_ hs.2 t v h
theorem Holds.sub (h : Holds N a ρ) {r : Env} (hs : Sub r ρ) : Holds N a r := ⟨h.dn, h.sz, fun t v hl => h.at_ t v (hs.look_ t v hl)⟩
end

/-! ### Judgements -/
abbrev Kont := Exit → Env → World → Prop
def lift (N : Nat) (K : Kont) : Exit → Act → World → Prop := fun e a w => ∃ ρ, Holds N a ρ ∧ K e ρ w

def Rn (P : Program) (N : Nat) (c : Code) (ρ : Env) (w : World) (K : Kont) : Prop := ∀ a, Holds N a ρ → c.wp P (lift N K) a w
def Rg (P : Program) (N : Nat) (ops : Array Oper) (rest : List Oper) (ρ : Env) (w : World) (K : Kont) : Prop := ∀ a, Holds N a ρ → wpList P ops (lift N K) rest a w

def kSeq (P : Program) (N : Nat) (y : Code) (K : Kont) : Kont
  | .normal, ρ, w => Rn P N y ρ w K
  | e, ρ, w => K e ρ w
def kBlk (id : Nat) (K : Kont) : Kont
  | .exit i, ρ, w => if i = id then K .normal ρ w else K (.exit i) ρ w
  | e, ρ, w => K e ρ w
def kLoop {α : Type} (I : α → World → Prop) (E : α → Env) (m : α → Nat) (x : α) (K : Kont) : Kont
  | .normal, ρ, w => ∃ y, I y w ∧ Sub (E y) ρ ∧ m y < m x
  | e, ρ, w => K e ρ w

/-- At most so many rounds of a loop. -/
def Rnds (P : Program) (N : Nat) (c : Code) (K : Kont) (n : Nat) (ρ : Env) (w : World) : Prop := ∀ a, Holds N a ρ → Code.rounds P c (lift N K) n a w
def kRnd (P : Program) (N : Nat) (c : Code) (n : Nat) (K : Kont) : Kont
  | .normal, ρ, w => Rnds P N c K n ρ w
  | e, ρ, w => K e ρ w
section
variable {P : Program} {N : Nat} {ρ : Env} {w : World} {K : Kont}

theorem rn_seq {x y : Code} (h : Rn P N x ρ w (kSeq P N y K)) : Rn P N (.seq x y) ρ w K := fun a ha =>
  wp_seq (Code.wp_mono (fun e a w h => by
    obtain ⟨ρ', h1, h2⟩ := h
    cases e with
    | normal => exact h2 a h1
    | _ => exact ⟨ρ', h1, h2⟩) (h a ha))
theorem rn_block {id : Nat} {c : Code} (h : Rn P N c ρ w (kBlk id K)) : Rn P N (.block id c) ρ w K := fun a ha =>
  wp_block (Code.wp_mono (fun e a w h => by
    obtain ⟨ρ', h1, h2⟩ := h
    cases e with
    | exit i =>
      simp only [kBlk] at h2
      simp only [Exit.inBlock]
      split
      · rename_i hi; rw [if_pos hi] at h2; exact ⟨ρ', h1, h2⟩
      · rename_i hi; rw [if_neg hi] at h2; exact ⟨ρ', h1, h2⟩
    | _ => exact ⟨ρ', h1, h2⟩) (h a ha))
theorem rn_skip (h : K .normal ρ w) : Rn P N .skip ρ w K := fun _ ha => wp_skip ⟨ρ, ha, h⟩
theorem rn_ret (h : K .ret ρ w) : Rn P N .ret ρ w K := fun _ ha => wp_ret ⟨ρ, ha, h⟩
theorem rn_exit {id : Nat} (h : K (.exit id) ρ w) : Rn P N (.exit id) ρ w K := fun _ ha => wp_exit ⟨ρ, ha, h⟩
theorem rn_cond_t {c : Operand} {x y : Code} (hc : evo ρ c = some (.bool true)) (h : Rn P N x ρ w K) : Rn P N (.cond c x y) ρ w K :=
  fun a ha => wp_cond_true (ha.ev hc) (h a ha)
theorem rn_cond_f {c : Operand} {x y : Code} (hc : evo ρ c = some (.bool false)) (h : Rn P N y ρ w K) : Rn P N (.cond c x y) ρ w K :=
  fun a ha => wp_cond_false (ha.ev hc) (h a ha)
theorem rn_loop {α : Type} (I : α → World → Prop) (E : α → Env) (m : α → Nat) (x : α) {c : Code} (h0 : I x w) (hE : Sub (E x) ρ)
    (round : ∀ x w, I x w → Rn P N c (E x) w (kLoop I E m x K)) : Rn P N (.loop c) ρ w K := fun a ha => by
  refine wp_loop_ghost a w h0 (ha.sub hE) round
where
  wp_loop_ghost {α : Type} {I : α → World → Prop} {E : α → Env} {m : α → Nat} {x : α} {c : Code} {K : Kont} (a : Act) (w : World) (h0 : I x w) (hE : Holds N a (E x))
      (round : ∀ x w, I x w → Rn P N c (E x) w (kLoop I E m x K)) : (Code.loop c).wp P (lift N K) a w := by
    intro b k cs
    have key : ∀ n x a w, m x = n → I x w → Holds N a (E x) →
        ∃ e a' w', lift N K e a' w' ∧ Arrives P (lone (b.at a (.code c :: .inLoop c :: k)) cs w) b k cs e a' w' := by
      intro n
      induction n using Nat.strongRecOn with
      | _ n ih =>
        intro x a w hn hI hH
        obtain ⟨e, a₁, w₁, ⟨ρ₁, hh, hq⟩, harr⟩ := round x w hI a hH b (.inLoop c :: k) cs
        cases e with
        | normal =>
          obtain ⟨y, hI₁, hs, hlt⟩ := hq
          obtain ⟨e₂, a₂, w₂, hq₂, harr₂⟩ := ih (m y) (hn ▸ hlt) y a₁ w₁ rfl hI₁ (hh.sub hs)
          exact ⟨e₂, a₂, w₂, hq₂, .of_steps (Steps.trans harr (.one step_inLoop)) harr₂⟩
        | exit id => exact ⟨_, a₁, w₁, ⟨ρ₁, hh, hq⟩, .pass (x := .inLoop c) rfl (fun _ _ => .inl (by simp)) harr⟩
        | goto l => exact ⟨_, a₁, w₁, ⟨ρ₁, hh, hq⟩, .pass (x := .inLoop c) rfl (fun _ _ => .inl (by simp)) harr⟩
        | ret => exact ⟨_, a₁, w₁, ⟨ρ₁, hh, hq⟩, .pass (x := .inLoop c) rfl (fun _ _ => .inl (by simp)) harr⟩
        | panic ch => exact ⟨_, a₁, w₁, ⟨ρ₁, hh, hq⟩, .pass (x := .inLoop c) rfl (fun _ _ => .inl (by simp)) harr⟩
        | outgrown => exact ⟨_, a₁, w₁, ⟨ρ₁, hh, hq⟩, .pass (x := .inLoop c) rfl (fun _ _ => .inl (by simp)) harr⟩
    obtain ⟨e, a', w', hq, harr⟩ := key _ x a w rfl h0 hE
    exact ⟨e, a', w', hq, .of_steps (.one step_loop) harr⟩
theorem rn_rounds {c : Code} (n : Nat) (h : Rnds P N c K n ρ w) : Rn P N (.loop c) ρ w K := fun a ha => wp_loop_rounds n (h a ha)
theorem rnds_succ {c : Code} {n : Nat} (h : Rn P N c ρ w (kRnd P N c n K)) : Rnds P N c K (n + 1) ρ w := fun a ha => by
  rw [rounds_succ]
  refine Code.wp_mono (fun e a w h => ?_) (h a ha)
  obtain ⟨ρ', h1, h2⟩ := h
  cases e with
  | normal => exact h2 a h1
  | _ => exact ⟨ρ', h1, h2⟩
theorem kr_n {c : Code} {n : Nat} (h : Rnds P N c K n ρ w) : kRnd P N c n K .normal ρ w := h
theorem kr_e {c : Code} {n i : Nat} (h : K (.exit i) ρ w) : kRnd P N c n K (.exit i) ρ w := h
theorem kr_r {c : Code} {n : Nat} (h : K .ret ρ w) : kRnd P N c n K .ret ρ w := h
theorem rn_region {id : Nat} {l : List Oper} (h : Rg P N l.toArray l ρ w K) : Rn P N (.region id l.toArray false) ρ w K := fun a ha => wp_region_lit (h a ha)
theorem rn_reg (id : Nat) {l : List Oper} (h : Rg P N l.toArray l ρ w K) : Rn P N (.region id l.toArray false) ρ w K := rn_region h
theorem rn_sub {c : Code} (r : Env) (hs : Sub r ρ) (h : Rn P N c r w K) : Rn P N c ρ w K := fun a ha => h a (ha.sub hs)
theorem rn_mono {c : Code} {K' : Kont} (h : Rn P N c ρ w K) (hk : ∀ e ρ w, K e ρ w → K' e ρ w) : Rn P N c ρ w K' :=
  fun a ha => Code.wp_mono (fun _ _ _ ⟨ρ', h1, h2⟩ => ⟨ρ', h1, hk _ _ _ h2⟩) (h a ha)

/-! ### What stands behind -/
theorem ks_n {y : Code} (h : Rn P N y ρ w K) : kSeq P N y K .normal ρ w := h
theorem ks_e {y : Code} {i : Nat} (h : K (.exit i) ρ w) : kSeq P N y K (.exit i) ρ w := h
theorem ks_r {y : Code} (h : K .ret ρ w) : kSeq P N y K .ret ρ w := h
theorem kb_n {id : Nat} (h : K .normal ρ w) : kBlk id K .normal ρ w := h
theorem kb_r {id : Nat} (h : K .ret ρ w) : kBlk id K .ret ρ w := h
theorem kb_hit {id : Nat} (h : K .normal ρ w) : kBlk id K (.exit id) ρ w := by simp only [kBlk, if_true]; exact h
theorem kb_miss {id i : Nat} (hi : Nat.beq i id = false) (h : K (.exit i) ρ w) : kBlk id K (.exit i) ρ w := by
  have : ¬ i = id := by rintro rfl; simp at hi
  simp only [kBlk, if_neg this]; exact h
theorem kl_e {α : Type} {I : α → World → Prop} {E : α → Env} {m : α → Nat} {x : α} {i : Nat} (h : K (.exit i) ρ w) : kLoop I E m x K (.exit i) ρ w := h
theorem kl_r {α : Type} {I : α → World → Prop} {E : α → Env} {m : α → Nat} {x : α} (h : K .ret ρ w) : kLoop I E m x K .ret ρ w := h
theorem kl_n {α : Type} {I : α → World → Prop} {E : α → Env} {m : α → Nat} {x : α} (y : α) (hI : I y w) (hs : Sub (E y) ρ) (hm : m y < m x) : kLoop I E m x K .normal ρ w := ⟨y, hI, hs, hm⟩
theorem rg_nil {ops : Array Oper} (h : K .normal ρ w) : Rg P N ops [] ρ w K := fun _ ha => wpList_nil ⟨ρ, ha, h⟩
/-- The end of a region; what is no longer wanted is forgotten. -/
theorem rg_nils {ops : Array Oper} (r : Env) (hs : Sub r ρ) (h : K .normal r w) : Rg P N ops [] ρ w K := fun _ ha => wpList_nil ⟨r, ha.sub hs, h⟩
end

/-! ### Operations: guards -/
def want (ops : Array Oper) (ρ : Env) : Option (Nat × Bool) → Option Bool
  | none => some true
  | some (j, b) => match (ops[j]?).bind (·.dst) with
    | some d => match look ρ d with
      | some (.bool c) => some (c == b)
      | some (.tuple _) => some false
      | _ => none
    | none => none

theorem want_spec {N : Nat} {a : Act} {ρ : Env} {ops : Array Oper} {o : Oper} {b : Bool} (ha : Holds N a ρ) (h : want ops ρ o.guard = some b) :
    Region.wanted o (yielded ops a.tmps) = b := by
  unfold Region.wanted
  cases hg : o.guard with
  | none => rw [hg] at h; simpa [want] using h
  | some p =>
    obtain ⟨j, c⟩ := p
    rw [hg] at h
    simp only [want] at h
    cases hd : (ops[j]?).bind (·.dst) with
    | none => rw [hd] at h; cases h
    | some d =>
      rw [hd] at h
      simp only at h
      cases hl : look ρ d with
      | none => rw [hl] at h; cases h
      | some v =>
        rw [hl] at h
        cases v with
        | bool x =>
          simp only [Option.some.injEq] at h
          have h1 := ha.at_ d _ hl
          have hy : yielded ops a.tmps j = some x := by
            unfold yielded
            rw [hd]
            simp only [Option.bind_some]
            cases hq : a.tmps[d]? with
            | none => simp [hq, undef] at h1
            | some u => simp [hq] at h1; subst h1; rfl
          simp only [hy]
          rw [← h]
          cases x <;> cases c <;> rfl
        | tuple x =>
          simp only [Option.some.injEq] at h
          have h1 := ha.at_ d _ hl
          have hy : yielded ops a.tmps j = none := by
            unfold yielded
            rw [hd]
            simp only [Option.bind_some]
            cases hq : a.tmps[d]? with
            | none => simp
            | some u => simp [hq] at h1; subst h1; rfl
          simp only [hy]
          rw [← h]
          rfl
        | _ => cases h

/-- In any world, and in any frame that holds the environment, the operation yields this value and leaves the world as it was. -/
def Yv (P : Program) (N : Nat) (ρ : Env) (w : World) (o : Oper) (v : Value) : Prop :=
  ∀ a, Holds N a ρ → (execOp a.eval o).run P w = .ok (.value v) w

section
variable {P : Program} {N : Nat} {ρ : Env} {w : World} {K : Kont} {ops : Array Oper} {rest : List Oper}

/-- A value operation. -/
theorem rg_y {d : Nat} {op : Op} {ty : TypeId} {ps : String} {af : Array Edge} {gd : Option (Nat × Bool)} {v : Value} (hy : Yv P N ρ w ⟨some d, op, ty, ps, af, gd⟩ v) (hg : want ops ρ gd = some true) (hd : Nat.blt d N = true)
    (hk : Rg P N ops rest ((d, v) :: ρ) w K) : Rg P N ops (⟨some d, op, ty, ps, af, gd⟩ :: rest) ρ w K := fun a ha => by
  refine wpList_step fun J hJ => ?_
  rw [want_spec (o := ⟨some d, op, ty, ps, af, gd⟩) ha hg, if_pos rfl]
  unfold Oper.wp
  rw [hy a ha, Oper.upon_value]
  exact hJ _ _ (hk _ (ha.put hd v))
/-- An operation whose guard does not hold. -/
theorem rg_skip {d : Nat} {op : Op} {ty : TypeId} {ps : String} {af : Array Edge} {gd : Option (Nat × Bool)} (hg : want ops ρ gd = some false) (hd : Nat.blt d N = true)
    (hk : Rg P N ops rest ((d, undef) :: ρ) w K) : Rg P N ops (⟨some d, op, ty, ps, af, gd⟩ :: rest) ρ w K := fun a ha => by
  refine wpList_step fun J hJ => ?_
  rw [want_spec (o := ⟨some d, op, ty, ps, af, gd⟩) ha hg, if_neg (by simp)]
  exact hJ _ _ (hk _ (ha.put hd undef))
theorem rg_skip0 {op : Op} {ty : TypeId} {ps : String} {af : Array Edge} {gd : Option (Nat × Bool)} (hg : want ops ρ gd = some false)
    (hk : Rg P N ops rest ρ w K) : Rg P N ops (⟨none, op, ty, ps, af, gd⟩ :: rest) ρ w K := fun a ha => by
  refine wpList_step fun J hJ => ?_
  rw [want_spec (o := ⟨none, op, ty, ps, af, gd⟩) ha hg, if_neg (by simp)]
  exact hJ _ _ (hk _ ha)
/-- A test: both ways. -/
theorem rg_b {d : Nat} {op : Op} {ty : TypeId} {ps : String} {af : Array Edge} {gd : Option (Nat × Bool)} {p : Prop} [Decidable p] (hy : Yv P N ρ w ⟨some d, op, ty, ps, af, gd⟩ (.bool (decide p))) (hg : want ops ρ gd = some true) (hd : Nat.blt d N = true)
    (ht : p → Rg P N ops rest ((d, .bool true) :: ρ) w K) (hf : ¬ p → Rg P N ops rest ((d, .bool false) :: ρ) w K) : Rg P N ops (⟨some d, op, ty, ps, af, gd⟩ :: rest) ρ w K := by
  by_cases h : p
  · exact rg_y (by rwa [decide_eq_true h] at hy) hg hd (ht h)
  · exact rg_y (by rwa [decide_eq_false h] at hy) hg hd (hf h)
theorem rg_bt {d : Nat} {op : Op} {ty : TypeId} {ps : String} {af : Array Edge} {gd : Option (Nat × Bool)} {p : Prop} [Decidable p] (hy : Yv P N ρ w ⟨some d, op, ty, ps, af, gd⟩ (.bool (decide p))) (h : p) (hg : want ops ρ gd = some true) (hd : Nat.blt d N = true)
    (ht : Rg P N ops rest ((d, .bool true) :: ρ) w K) : Rg P N ops (⟨some d, op, ty, ps, af, gd⟩ :: rest) ρ w K := rg_y (by rwa [decide_eq_true h] at hy) hg hd ht
theorem rg_bf {d : Nat} {op : Op} {ty : TypeId} {ps : String} {af : Array Edge} {gd : Option (Nat × Bool)} {p : Prop} [Decidable p] (hy : Yv P N ρ w ⟨some d, op, ty, ps, af, gd⟩ (.bool (decide p))) (h : ¬ p) (hg : want ops ρ gd = some true) (hd : Nat.blt d N = true)
    (hf : Rg P N ops rest ((d, .bool false) :: ρ) w K) : Rg P N ops (⟨some d, op, ty, ps, af, gd⟩ :: rest) ρ w K := rg_y (by rwa [decide_eq_false h] at hy) hg hd hf
/-- An operation that changes the world. -/
theorem rg_w {d : Nat} {op : Op} {ty : TypeId} {ps : String} {af : Array Edge} {gd : Option (Nat × Bool)} {v : Value} {w' : World} (hg : want ops ρ gd = some true) (hd : Nat.blt d N = true)
    (hy : ∀ a, Holds N a ρ → (execOp a.eval ⟨some d, op, ty, ps, af, gd⟩).run P w = .ok (.value v) w')
    (hk : Rg P N ops rest ((d, v) :: ρ) w' K) : Rg P N ops (⟨some d, op, ty, ps, af, gd⟩ :: rest) ρ w K := fun a ha => by
  refine wpList_step fun J hJ => ?_
  rw [want_spec (o := ⟨some d, op, ty, ps, af, gd⟩) ha hg, if_pos rfl]
  unfold Oper.wp
  rw [hy a ha, Oper.upon_value]
  exact hJ _ _ (hk _ (ha.put hd v))
theorem rg_u {op : Op} {ty : TypeId} {ps : String} {af : Array Edge} {gd : Option (Nat × Bool)} {w' : World} (hg : want ops ρ gd = some true)
    (hy : ∀ a, Holds N a ρ → (execOp a.eval ⟨none, op, ty, ps, af, gd⟩).run P w = .ok .skip w')
    (hk : Rg P N ops rest ρ w' K) : Rg P N ops (⟨none, op, ty, ps, af, gd⟩ :: rest) ρ w K := fun a ha => by
  refine wpList_step fun J hJ => ?_
  rw [want_spec (o := ⟨none, op, ty, ps, af, gd⟩) ha hg, if_pos rfl]
  unfold Oper.wp
  rw [hy a ha, Oper.upon_skip]
  exact hJ _ _ (hk _ ha)
end

/-! ### Values of operations -/
section
variable {P : Program} {N : Nat} {ρ : Env} {w : World} {d : Option Nat} {ty : TypeId} {ps : String} {af : Array Edge} {gd : Option (Nat × Bool)}

theorem yv_move {x : Operand} {v : Value} (hx : evo ρ x = some v) : Yv P N ρ w ⟨d, .move x, ty, ps, af, gd⟩ v := fun a ha => by
  simp [execOp, ha.ev hx]
theorem yv_assign {x : Operand} {v : Value} (hx : evo ρ x = some v) : Yv P N ρ w ⟨d, .assign x, ty, ps, af, gd⟩ v := fun a ha => by
  simp [execOp, ha.ev hx]
theorem yv_pick_t {c x y : Operand} {v : Value} (hc : evo ρ c = some (.bool true)) (hx : evo ρ x = some v) : Yv P N ρ w ⟨d, .pick c x y, ty, ps, af, gd⟩ v := fun a ha => by
  simp [execOp, asBool, ha.ev hc, ha.ev hx]
theorem yv_pick_f {c x y : Operand} {v : Value} (hc : evo ρ c = some (.bool false)) (hx : evo ρ y = some v) : Yv P N ρ w ⟨d, .pick c x y, ty, ps, af, gd⟩ v := fun a ha => by
  simp [execOp, asBool, ha.ev hc, ha.ev hx]
theorem yv_extract {x : Operand} {vs : Array Value} {i : Nat} {v : Value} (hx : evo ρ x = some (.tuple vs)) (hv : vs[i]? = some v) :
    Yv P N ρ w ⟨d, .extract x i, ty, ps, af, gd⟩ v := fun a ha => by
  simp [execOp, Instr.extract, ha.ev hx, hv]
theorem yv_nil {x : Operand} {p : Addr} (hx : evo ρ x = some (.pointer (some p))) : Yv P N ρ w ⟨d, .nilCheck x, ty, ps, af, gd⟩ (.pointer (some p)) := fun a ha => by
  simp [execOp, ha.ev hx]

theorem yv_not {x : Operand} {b : Bool} {xt : TypeId} (hx : evo ρ x = some (.bool b)) : Yv P N ρ w ⟨d, .unOp .not xt x, ty, ps, af, gd⟩ (.bool (!b)) := fun a ha => by
  simp [execOp, Op.unary, ha.ev hx]
theorem yv_neg {x : Operand} {n : Int} {xt : TypeId} (hx : evo ρ x = some (.int .i64 n)) (hb : -9223372036854775807 ≤ n ∧ n ≤ 9223372036854775807) :
    Yv P N ρ w ⟨d, .unOp .neg xt x, ty, ps, af, gd⟩ (.int .i64 (-n)) := fun a ha => by
  have h := IntWalk.i64_in (0 - n) (by omega)
  simp only [Int.zero_sub] at h
  simp [execOp, Op.unary, Op.intArith, ha.ev hx, h]

theorem eqGuard_int (op : BinOp) (t : TypeId) (x y : Operand) (k l : IntKind) (m n : Int) : (eqGuard op t x y (.int k m) (.int l n)).run P w = .ok () w := by
  cases op <;> simp [eqGuard] <;> rfl
theorem eqGuard_bool (op : BinOp) (t : TypeId) (x y : Operand) (m n : Bool) : (eqGuard op t x y (.bool m) (.bool n)).run P w = .ok () w := by
  cases op <;> simp [eqGuard] <;> rfl
theorem eqGuard_string (op : BinOp) (t : TypeId) (x y : Operand) (m n : ByteArray) : (eqGuard op t x y (.string m) (.string n)).run P w = .ok () w := by
  cases op <;> simp [eqGuard] <;> rfl

theorem yv_add {x y : Operand} {m n : Int} {xt yt : TypeId} (hx : evo ρ x = some (.int .i64 m)) (hy : evo ρ y = some (.int .i64 n))
    (hb : -9223372036854775808 ≤ m + n ∧ m + n ≤ 9223372036854775807) : Yv P N ρ w ⟨d, .binOp .add xt x y yt, ty, ps, af, gd⟩ (.int .i64 (m + n)) := fun a ha => by
  simp [execOp, binOp, eqGuard_int, Op.intArith, ha.ev hx, ha.ev hy, IntWalk.i64_in _ hb]
theorem yv_sub {x y : Operand} {m n : Int} {xt yt : TypeId} (hx : evo ρ x = some (.int .i64 m)) (hy : evo ρ y = some (.int .i64 n))
    (hb : -9223372036854775808 ≤ m - n ∧ m - n ≤ 9223372036854775807) : Yv P N ρ w ⟨d, .binOp .sub xt x y yt, ty, ps, af, gd⟩ (.int .i64 (m - n)) := fun a ha => by
  simp [execOp, binOp, eqGuard_int, Op.intArith, ha.ev hx, ha.ev hy, IntWalk.i64_in _ hb]
theorem yv_mul {x y : Operand} {m n : Int} {xt yt : TypeId} (hx : evo ρ x = some (.int .i64 m)) (hy : evo ρ y = some (.int .i64 n))
    (hb : -9223372036854775808 ≤ m * n ∧ m * n ≤ 9223372036854775807) : Yv P N ρ w ⟨d, .binOp .mul xt x y yt, ty, ps, af, gd⟩ (.int .i64 (m * n)) := fun a ha => by
  simp [execOp, binOp, eqGuard_int, Op.intArith, ha.ev hx, ha.ev hy, IntWalk.i64_in _ hb]
theorem yv_add_w {x y : Operand} {m n : Int} {xt yt : TypeId} (hx : evo ρ x = some (.int .i64 m)) (hy : evo ρ y = some (.int .i64 n)) :
    Yv P N ρ w ⟨d, .binOp .add xt x y yt, ty, ps, af, gd⟩ (.int .i64 (IntKind.i64.wrap (m + n))) := fun a ha => by
  simp [execOp, binOp, eqGuard_int, Op.intArith, ha.ev hx, ha.ev hy]
theorem yv_sub_w {x y : Operand} {m n : Int} {xt yt : TypeId} (hx : evo ρ x = some (.int .i64 m)) (hy : evo ρ y = some (.int .i64 n)) :
    Yv P N ρ w ⟨d, .binOp .sub xt x y yt, ty, ps, af, gd⟩ (.int .i64 (IntKind.i64.wrap (m - n))) := fun a ha => by
  simp [execOp, binOp, eqGuard_int, Op.intArith, ha.ev hx, ha.ev hy]
theorem yv_mul_w {x y : Operand} {m n : Int} {xt yt : TypeId} (hx : evo ρ x = some (.int .i64 m)) (hy : evo ρ y = some (.int .i64 n)) :
    Yv P N ρ w ⟨d, .binOp .mul xt x y yt, ty, ps, af, gd⟩ (.int .i64 (IntKind.i64.wrap (m * n))) := fun a ha => by
  simp [execOp, binOp, eqGuard_int, Op.intArith, ha.ev hx, ha.ev hy]
/-- Division of numbers that are not negative. -/
theorem yv_quo {x y : Operand} {m n : Int} {xt yt : TypeId} (hx : evo ρ x = some (.int .i64 m)) (hy : evo ρ y = some (.int .i64 n))
    (hb : 0 ≤ m ∧ m ≤ 9223372036854775807 ∧ 1 ≤ n) : Yv P N ρ w ⟨d, .binOp .quo xt x y yt, ty, ps, af, gd⟩ (.int .i64 (m / n)) := fun a ha => by
  have hn : ¬ n = 0 := by omega
  simp [execOp, binOp, eqGuard_int, Op.intDiv, ha.ev hx, ha.ev hy, IntWalk.i64_quo _ _ hb, hn]
theorem yv_rem {x y : Operand} {m n : Int} {xt yt : TypeId} (hx : evo ρ x = some (.int .i64 m)) (hy : evo ρ y = some (.int .i64 n))
    (hb : 0 ≤ m ∧ 1 ≤ n) : Yv P N ρ w ⟨d, .binOp .rem xt x y yt, ty, ps, af, gd⟩ (.int .i64 (m % n)) := fun a ha => by
  have hn : ¬ n = 0 := by omega
  simp [execOp, binOp, eqGuard_int, Op.intDiv, ha.ev hx, ha.ev hy, IntWalk.rem_in _ _ hb.1, hn]
theorem tdiv_in (m n : Int) (h : -9223372036854775808 ≤ m ∧ m ≤ 9223372036854775807) (hn : n ≠ 0) (h1 : n = -1 → -9223372036854775808 < m) :
    -9223372036854775808 ≤ m.tdiv n ∧ m.tdiv n ≤ 9223372036854775807 := by
  have h2 : (m.tdiv n).natAbs = m.natAbs / n.natAbs := Int.natAbs_tdiv m n
  by_cases hm : n = -1
  · subst hm
    have := h1 rfl
    have e : m.tdiv (-1) = -m := by simp [Int.tdiv_neg, Int.tdiv_one]
    rw [e]; omega
  by_cases hp : n = 1
  · subst hp; simpa using h
  have h3 : 2 ≤ n.natAbs := by omega
  have h4 : m.natAbs / n.natAbs ≤ m.natAbs / 2 := Nat.div_le_div_left h3 (by omega)
  omega
theorem yv_tdiv {x y : Operand} {m n : Int} {xt yt : TypeId} (hx : evo ρ x = some (.int .i64 m)) (hy : evo ρ y = some (.int .i64 n))
    (hn : n ≠ 0) (h : -9223372036854775808 ≤ m ∧ m ≤ 9223372036854775807) (h1 : n = -1 → -9223372036854775808 < m) :
    Yv P N ρ w ⟨d, .binOp .quo xt x y yt, ty, ps, af, gd⟩ (.int .i64 (m.tdiv n)) := fun a ha => by
  simp [execOp, binOp, eqGuard_int, Op.intDiv, ha.ev hx, ha.ev hy, IntWalk.i64_in _ (tdiv_in m n h hn h1), hn]
theorem yv_tdiv_w {x y : Operand} {m n : Int} {xt yt : TypeId} (hx : evo ρ x = some (.int .i64 m)) (hy : evo ρ y = some (.int .i64 n)) (hn : n ≠ 0) :
    Yv P N ρ w ⟨d, .binOp .quo xt x y yt, ty, ps, af, gd⟩ (.int .i64 (IntKind.i64.wrap (m.tdiv n))) := fun a ha => by
  simp [execOp, binOp, eqGuard_int, Op.intDiv, ha.ev hx, ha.ev hy, hn]
theorem yv_tmod {x y : Operand} {m n : Int} {xt yt : TypeId} (hx : evo ρ x = some (.int .i64 m)) (hy : evo ρ y = some (.int .i64 n))
    (hn : n ≠ 0) : Yv P N ρ w ⟨d, .binOp .rem xt x y yt, ty, ps, af, gd⟩ (.int .i64 (m.tmod n)) := fun a ha => by
  simp [execOp, binOp, eqGuard_int, Op.intDiv, ha.ev hx, ha.ev hy, hn]

theorem yv_lss {x y : Operand} {k : IntKind} {m n : Int} {xt yt : TypeId} (hx : evo ρ x = some (.int k m)) (hy : evo ρ y = some (.int k n)) :
    Yv P N ρ w ⟨d, .binOp .lss xt x y yt, ty, ps, af, gd⟩ (.bool (decide (m < n))) := fun a ha => by
  simp [execOp, binOp, eqGuard_int, Op.intCmp, ha.ev hx, ha.ev hy]
theorem yv_leq {x y : Operand} {k : IntKind} {m n : Int} {xt yt : TypeId} (hx : evo ρ x = some (.int k m)) (hy : evo ρ y = some (.int k n)) :
    Yv P N ρ w ⟨d, .binOp .leq xt x y yt, ty, ps, af, gd⟩ (.bool (decide (m ≤ n))) := fun a ha => by
  simp [execOp, binOp, eqGuard_int, Op.intCmp, ha.ev hx, ha.ev hy]
theorem yv_gtr {x y : Operand} {k : IntKind} {m n : Int} {xt yt : TypeId} (hx : evo ρ x = some (.int k m)) (hy : evo ρ y = some (.int k n)) :
    Yv P N ρ w ⟨d, .binOp .gtr xt x y yt, ty, ps, af, gd⟩ (.bool (decide (n < m))) := fun a ha => by
  simp [execOp, binOp, eqGuard_int, Op.intCmp, ha.ev hx, ha.ev hy]
theorem yv_geq {x y : Operand} {k : IntKind} {m n : Int} {xt yt : TypeId} (hx : evo ρ x = some (.int k m)) (hy : evo ρ y = some (.int k n)) :
    Yv P N ρ w ⟨d, .binOp .geq xt x y yt, ty, ps, af, gd⟩ (.bool (decide (n ≤ m))) := fun a ha => by
  simp [execOp, binOp, eqGuard_int, Op.intCmp, ha.ev hx, ha.ev hy]
theorem int_beq (m n : Int) : (m == n) = decide (m = n) := by rw [Bool.eq_iff_iff]; simp
theorem yv_eql {x y : Operand} {k : IntKind} {m n : Int} {xt yt : TypeId} (hx : evo ρ x = some (.int k m)) (hy : evo ρ y = some (.int k n)) :
    Yv P N ρ w ⟨d, .binOp .eql xt x y yt, ty, ps, af, gd⟩ (.bool (decide (m = n))) := fun a ha => by
  simp [execOp, binOp, eqGuard_int, Op.intCmp, ha.ev hx, ha.ev hy, int_beq]
theorem yv_neq {x y : Operand} {k : IntKind} {m n : Int} {xt yt : TypeId} (hx : evo ρ x = some (.int k m)) (hy : evo ρ y = some (.int k n)) :
    Yv P N ρ w ⟨d, .binOp .neq xt x y yt, ty, ps, af, gd⟩ (.bool (decide (m ≠ n))) := fun a ha => by
  simp [execOp, binOp, eqGuard_int, Op.intCmp, ha.ev hx, ha.ev hy, bne, int_beq]
theorem run_equalIn_bool {t : TypeId} (ht : P.underlying t = some .bool) (m n : Bool) (d : Nat) : (Op.equalIn (d + 1) t (.bool m) (.bool n)).run P w = .ok (m == n) w := by
  simp [Op.equalIn, run_underlying ht]
theorem run_eql_bool {t : TypeId} (ht : P.underlying t = some .bool) (m n : Bool) : (binOp .eql t (.bool m) (.bool n)).run P w = .ok (.bool (m == n)) w := by
  simp only [binOp]
  simp [Op.equal, Op.maxDepth, run_equalIn_bool (w := w) ht m n 9999]
theorem run_neq_bool {t : TypeId} (ht : P.underlying t = some .bool) (m n : Bool) : (binOp .neq t (.bool m) (.bool n)).run P w = .ok (.bool (!(m == n))) w := by
  simp only [binOp]
  simp [Op.equal, Op.maxDepth, run_equalIn_bool (w := w) ht m n 9999]
theorem yv_eqlb {x y : Operand} {m n : Bool} {xt yt : TypeId} (ht : P.underlying xt = some .bool) (hx : evo ρ x = some (.bool m)) (hy : evo ρ y = some (.bool n)) :
    Yv P N ρ w ⟨d, .binOp .eql xt x y yt, ty, ps, af, gd⟩ (.bool (m == n)) := fun a ha => by
  simp only [execOp, ha.ev hx, ha.ev hy, Sem.run_bind, eqGuard_bool, Result.andThen_ok, run_eql_bool ht, Sem.run_pure]
theorem yv_neqb {x y : Operand} {m n : Bool} {xt yt : TypeId} (ht : P.underlying xt = some .bool) (hx : evo ρ x = some (.bool m)) (hy : evo ρ y = some (.bool n)) :
    Yv P N ρ w ⟨d, .binOp .neq xt x y yt, ty, ps, af, gd⟩ (.bool (!(m == n))) := fun a ha => by
  simp only [execOp, ha.ev hx, ha.ev hy, Sem.run_bind, eqGuard_bool, Result.andThen_ok, run_neq_bool ht, Sem.run_pure]
/-- Structs. -/
theorem yv_eqS {x y : Operand} {xs ys : Array Value} {b : Bool} {xt yt : TypeId} (hg : P.eqGuardType P.depth xt = false) (hq : (Op.equalIn 10000 xt (.agg xs) (.agg ys)).run P w = .ok b w) (hx : evo ρ x = some (.agg xs)) (hy : evo ρ y = some (.agg ys)) :
    Yv P N ρ w ⟨d, .binOp .eql xt x y yt, ty, ps, af, gd⟩ (.bool b) := fun a ha => by
  simp only [execOp, ha.ev hx, ha.ev hy, Sem.run_bind, run_eqGuard_agg w .eql xt x y _ _ hg, Result.andThen_ok, run_eql_struct, hq, Sem.run_pure]
theorem yv_neS {x y : Operand} {xs ys : Array Value} {p : Prop} [Decidable p] {xt yt : TypeId} (hg : P.eqGuardType P.depth xt = false) (hq : (Op.equalIn 10000 xt (.agg xs) (.agg ys)).run P w = .ok (decide p) w) (hx : evo ρ x = some (.agg xs)) (hy : evo ρ y = some (.agg ys)) :
    Yv P N ρ w ⟨d, .binOp .neq xt x y yt, ty, ps, af, gd⟩ (.bool (decide (¬ p))) := fun a ha => by
  simp only [execOp, ha.ev hx, ha.ev hy, Sem.run_bind, run_eqGuard_agg w .neq xt x y _ _ hg, Result.andThen_ok, run_neq_struct, hq, Sem.run_pure]
  simp
end

/-! ### The shape of a value -/
section
variable {ρ : Env} {x : Operand}
theorem kI {k : IntKind} {n : Int} (h : evo ρ x = some (.int k n)) : evo ρ x = some (.int k n) := h
theorem kB {b : Bool} (h : evo ρ x = some (.bool b)) : evo ρ x = some (.bool b) := h
theorem kP {p : Option Addr} (h : evo ρ x = some (.pointer p)) : evo ρ x = some (.pointer p) := h
theorem kS {p : Option Addr} {n c : Nat} (h : evo ρ x = some (.slice p n c)) : evo ρ x = some (.slice p n c) := h
theorem kA {cs : Array Value} (h : evo ρ x = some (.agg cs)) : evo ρ x = some (.agg cs) := h
theorem kT {vs : Array Value} (h : evo ρ x = some (.tuple vs)) : evo ρ x = some (.tuple vs) := h
theorem kZ {s : ByteArray} (h : evo ρ x = some (.string s)) : evo ρ x = some (.string s) := h
theorem kM {r : Option Nat} (h : evo ρ x = some (.map r)) : evo ρ x = some (.map r) := h
theorem kv {v : Value} (h : evo ρ x = some v) : evo ρ x = some v := h
theorem kF {fn : Fn} {f c : Array Value} (h : evo ρ x = some (.func fn f c)) : evo ρ x = some (.func fn f c) := h
end

/-! ### Type facts, found by instance search -/
class C1 (P : Program) (T : TypeId) : Prop where
  h : ∃ d, P.underlying T = some d ∧ (match d with | .struct _ => False | .array _ _ => False | _ => True)
class CS (P : Program) (T : TypeId) (s : outParam Nat) : Prop where
  u : ∃ d, P.underlying T = some d ∧ (match d with | .struct _ => True | .array _ _ => True | _ => False)
  z : (P.info? T).map (·.size) = some s
/-- The size of a type, of one cell or of several. -/
class CN (P : Program) (T : TypeId) (s : outParam Nat) : Prop where
  z : (P.info? T).map (·.size) = some s
/-- The zero value. -/
class CZ (P : Program) (T : TypeId) (v : outParam Value) : Prop where
  z : (P.info? T).bind (·.zero) = some v
/-- A field of a struct lies here. -/
class CF (P : Program) (T : TypeId) (f : Nat) (off : outParam Nat) : Prop where
  h : ∃ fs fd, P.underlying T = some (.struct fs) ∧ fs[f]? = some fd ∧ fd.offset = off ∧ ∃ n, (P.info? fd.type).map (·.size) = some (n + 1)
/-- A slice type and its element. -/
class CL (P : Program) (T : TypeId) (e : outParam TypeId) (s : outParam Nat) (b : outParam Nat) (z : outParam Value) : Prop where
  u : P.underlying T = some (.slice e)
  h : ∃ i, P.info? e = some i ∧ i.zero = some z ∧ i.size = s ∧ i.bytes = b ∧ z.cells.size = s ∧ 0 < s
/-- A struct's parts: where each lies and its size. -/
class CB (P : Program) (T : TypeId) (z : outParam (List Value)) (pl : outParam (Array (Nat × Nat))) : Prop where
  h : ∃ v fs, (P.info? T).bind (·.zero) = some v ∧ v.cells = z.toArray ∧ P.underlying T = some (.struct fs) ∧ ∀ w, (fs.mapM fun (f : Field) => (do pure (f.offset, ← sizeOf f.type) : Sem (Nat × Nat))).run P w = .ok pl w
/-- An array type. -/
class CA (P : Program) (T : TypeId) (n : outParam Nat) (e : outParam TypeId) (s : outParam Nat) (z : outParam (List Value)) : Prop where
  u : P.underlying T = some (.array n e)
  i : (P.info? e).map (·.size) = some s
  h : ∃ v, (P.info? T).bind (·.zero) = some v ∧ v.cells = z.toArray
/-- The program leaves orders open. -/
class CM (P : Program) : Prop where
  h : P.follows .mixedOrders = true
/-- A function with a body. -/
class CFn (P : Program) (f : FuncId) : Prop where
  h : ∀ args w, (callFunc f args).run P w = .ok (.enter f args) w

theorem CFn.of {P : Program} {f : FuncId} {fn : Func} (h : P.funcs[f]? = some fn) (hb : fn.body.isNone = false) (hn : (fn.name == "runtime.NumGoroutine") = false) : CFn P f :=
  ⟨fun args w => by
    have h1 : ¬ fn.name = "runtime.NumGoroutine" := fun e => by rw [e] at hn; simp at hn
    have h2 : ¬ fn.body = none := fun e => by rw [e] at hb; simp at hb
    simp [callFunc, h, h1, h2]⟩

theorem CL.of {P : Program} {T e : TypeId} {s b : Nat} {z : Value} (u : P.underlying T = some (.slice e)) (h : (P.info? e).map (fun i => (i.zero, i.size, i.bytes)) = some (some z, s, b)) (h1 : z.cells.size = s) (h2 : 0 < s) : CL P T e s b z :=
  ⟨u, by
    cases hq : P.info? e with
    | none => simp [hq] at h
    | some i =>
      simp only [hq, Option.map_some, Option.some.injEq, Prod.mk.injEq] at h
      exact ⟨i, rfl, h.1, h.2.1, h.2.2, h1, h2⟩⟩

section
variable {P : Program} {w : World} {T : TypeId}
theorem run_isAgg1 [hc : C1 P T] : (isAgg T).run P w = .ok false w := by
  obtain ⟨d, hd, hm⟩ := hc.h
  cases d <;> first | exact hm.elim | simp [isAgg, run_underlying hd]
theorem run_isAggS {s : Nat} [hc : CS P T s] : (isAgg T).run P w = .ok true w := by
  obtain ⟨d, hd, hm⟩ := hc.u
  cases d <;> first | exact hm.elim | simp [isAgg, run_underlying hd]
theorem run_sizeOf' {s : Nat} (h : (P.info? T).map (·.size) = some s) : (sizeOf T).run P w = .ok s w := by
  cases hq : P.info? T with
  | none => simp [hq] at h
  | some i =>
    have : i.size = s := by simpa [hq] using h
    simp [sizeOf, typeInfo, hq, this]
theorem run_zeroValue' {v : Value} (h : (P.info? T).bind (·.zero) = some v) : (zeroValue T).run P w = .ok v w := by
  cases hq : P.info? T with
  | none => simp [hq] at h
  | some i =>
    have : i.zero = some v := by simpa [hq] using h
    simp [zeroValue, typeInfo, hq, this]
end

/-! ### What a call owns -/
/-- A row, as a piece of data. -/
structure Rw where
  A : Option Addr
  cap : Nat
  e : TypeId
  sz : Nat
  n : Nat
  xs : List Value
/-- 'nest': many rows, and a plain fact on them. -/
inductive Res where
  | blk (g : Nat) (t : TypeId) (cs : List Value)
  | row (A : Option Addr) (cap : Nat) (e : TypeId) (sz n : Nat) (xs : List Value)
  | obj (g : Nat) (o : Obj)
  | nest (rs : List Rw) (p : Prop)

def Rw.has (r : Rw) (k : Nat) : Prop := r.A.map (·.block) = some k
def Rw.apart (r s : Rw) : Prop := ∀ k, r.has k → ¬ s.has k
def Res.has : Res → Nat → Prop
  | .blk g _ _, k => g = k
  | .row A _ _ _ _ _, k => A.map (·.block) = some k
  | .obj g _, k => g = k
  | .nest rs _, k => ∃ r ∈ rs, r.has k
/-- A slice of the call's own: it lies at an offset in a block of its own; behind it lies room. -/
def rowOk (w : World) (A : Option Addr) (cap : Nat) (e : TypeId) (sz n : Nat) (xs : List Value) : Prop :=
  xs.length = n * sz ∧ n ≤ 1000000000 ∧
  ((A = none ∧ n = 0 ∧ cap = 0) ∨ ∃ g o cur, A = some ⟨g, o, none⟩ ∧ w.heap[g]? = some (.cells cur e (0, 0)) ∧ n ≤ cap ∧ cap ≤ maxLen ∧ o + cap * sz ≤ cur.size ∧ (cur.toList.drop o).take (n * sz) = xs)
def Res.holds (w : World) : Res → Prop
  | .blk g t cs => w.heap[g]? = some (.cells cs.toArray t (0, 0))
  | .row A cap e sz n xs => rowOk w A cap e sz n xs
  | .obj g o => w.heap[g]? = some o
  | .nest rs p => p ∧ (∀ r ∈ rs, rowOk w r.A r.cap r.e r.sz r.n r.xs) ∧ rs.Pairwise Rw.apart
def Apart (r s : Res) : Prop := ∀ k, r.has k → ¬ s.has k

theorem row_own (A : Option Addr) (n c : Nat) : (Value.slice A n c).ownBlock = A.map (·.block) := by cases A <;> rfl
theorem rowOk.lt {w : World} {A : Option Addr} {cap : Nat} {e : TypeId} {sz n : Nat} {xs : List Value} (h : rowOk w A cap e sz n xs) {k : Nat} (hk : A.map (·.block) = some k) : k < w.heap.size := by
  rcases h.2.2 with ⟨rfl, _⟩ | ⟨g, o, cur, rfl, hg, _⟩
  · simp at hk
  · simp only [Option.map_some, Option.some.injEq] at hk
    subst hk
    exact (Array.getElem?_eq_some_iff.1 hg).1
theorem rowOk.cells {w : World} {A : Option Addr} {cap : Nat} {e : TypeId} {sz n : Nat} {xs : List Value} (h : rowOk w A cap e sz n xs) {ad : Addr} (hA : A = some ad) : ∀ j u, xs[j]? = some u → w.cell? (ad.add j) = some u := by
  intro j u hu
  rcases h.2.2 with ⟨rfl, _⟩ | ⟨g, o, cur, rfl, hg, _, _, _, ht⟩
  · cases hA
  · obtain rfl := Option.some.inj hA
    rw [Addr.add_lit, cell_of_row w g (o + j) cur e (0, 0) hg]
    rw [← ht, List.getElem?_take] at hu
    split at hu
    · rw [List.getElem?_drop] at hu; simpa using hu
    · cases hu

theorem Res.holds.lt {w : World} {r : Res} (h : r.holds w) {k : Nat} (hk : r.has k) : k < w.heap.size := by
  cases r with
  | blk g t cs => obtain rfl : g = k := by simpa [Res.has] using hk
                  exact (Array.getElem?_eq_some_iff.1 h).1
  | row A cap e sz n xs => exact rowOk.lt h hk
  | obj g o => obtain rfl : g = k := by simpa [Res.has] using hk
               exact (Array.getElem?_eq_some_iff.1 h).1
  | nest rs p =>
    obtain ⟨r, hr, hk⟩ := hk
    exact rowOk.lt (h.2.1 r hr) hk

theorem rowOk.keep {w w' : World} {A : Option Addr} {cap : Nat} {e : TypeId} {sz n : Nat} {xs : List Value} (h : rowOk w A cap e sz n xs) (hk : ∀ g, A.map (·.block) = some g → w'.heap[g]? = w.heap[g]?) : rowOk w' A cap e sz n xs := by
  refine ⟨h.1, h.2.1, ?_⟩
  rcases h.2.2 with hn | ⟨g, o, cur, hA, hg, rest⟩
  · exact .inl hn
  · refine .inr ⟨g, o, cur, hA, ?_, rest⟩
    rw [hk g (by subst hA; rfl)]; exact hg
theorem Res.holds.keep {w w' : World} {r : Res} (h : r.holds w) (hk : ∀ k, r.has k → w'.heap[k]? = w.heap[k]?) : r.holds w' := by
  cases r with
  | blk g t cs => exact (hk g rfl).trans h
  | obj g o => exact (hk g rfl).trans h
  | row A cap e sz n xs => exact rowOk.keep h fun g hg => hk g hg
  | nest rs p => exact ⟨h.1, fun r hr => rowOk.keep (h.2.1 r hr) fun g hg => hk g ⟨r, hr, hg⟩, h.2.2⟩

structure St (w0 w : World) (M L : List Res) : Prop where
  os : w.os = w0.os
  tape : w.tape = w0.tape
  output : w.output = w0.output
  size : w0.heap.size ≤ w.heap.size
  old : ∀ k, k < w0.heap.size → (∀ r ∈ M, ¬ r.has k) → w.heap[k]? = w0.heap[k]?
  hm : ∀ r ∈ M, r.holds w
  mlt : ∀ r ∈ M, ∀ k, r.has k → k < w0.heap.size
  mne : M.Pairwise Apart
  hl : ∀ r ∈ L, r.holds w
  lge : ∀ r ∈ L, ∀ k, r.has k → w0.heap.size ≤ k
  lne : L.Pairwise Apart

theorem Apart.symm {r s : Res} (h : Apart r s) : Apart s r := fun k hs hr => h k hr hs

section
variable {w0 w w' : World} {M L : List Res}

theorem St.refl (w : World) : St w w [] [] :=
  ⟨rfl, rfl, rfl, Nat.le_refl _, fun _ _ _ => rfl, by simp, by simp, .nil, by simp, by simp, .nil⟩
/-- A call that may write into these blocks begins. -/
theorem St.init (w : World) (M : List Res) (h : ∀ r ∈ M, r.holds w) (hne : M.Pairwise Apart) : St w w M [] :=
  ⟨rfl, rfl, rfl, Nat.le_refl _, fun _ _ _ => rfl, h, fun r hr _ hk => (h r hr).lt hk, hne, by simp, by simp, .nil⟩

theorem St.below (h : St w0 w [] L) : Below w0.heap.size w0 w := ⟨h.os, h.tape, h.output, h.size, fun k hk => h.old k hk (by simp)⟩

theorem St.apartML (h : St w0 w M L) {r s : Res} (hr : r ∈ M) (hs : s ∈ L) : Apart r s := fun k hk hk' => by
  have := h.mlt r hr k hk
  have := h.lge s hs k hk'
  omega

/-- Blocks that nobody owns are as they were; new ones have come. -/
theorem St.grow (h : St w0 w M L) (ho : w'.os = w.os) (ht : w'.tape = w.tape) (hu : w'.output = w.output) (hs : w.heap.size ≤ w'.heap.size) (hb : ∀ k, k < w.heap.size → w'.heap[k]? = w.heap[k]?) : St w0 w' M L :=
  ⟨ho.trans h.os, ht.trans h.tape, hu.trans h.output, Nat.le_trans h.size hs, fun k hk hM => (hb k (Nat.lt_of_lt_of_le hk h.size)).trans (h.old k hk hM),
    fun r hr => (h.hm r hr).keep fun k hk => hb k ((h.hm r hr).lt hk), h.mlt, h.mne, fun r hr => (h.hl r hr).keep fun k hk => hb k ((h.hl r hr).lt hk), h.lge, h.lne⟩

theorem St.drew (h : St w0 w M L) : St w0 w.drew M L := h.grow rfl rfl rfl (Nat.le_refl _) fun _ _ => rfl

theorem St.cons (h : St w0 w M L) {r : Res} (hr : r.holds w) (hn : ∀ k, r.has k → w0.heap.size ≤ k) (ha : ∀ s ∈ L, Apart r s) : St w0 w M (r :: L) :=
  ⟨h.os, h.tape, h.output, h.size, h.old, h.hm, h.mlt, h.mne,
    fun s hs => (List.mem_cons.1 hs).elim (fun e => e ▸ hr) (h.hl s),
    fun s hs => (List.mem_cons.1 hs).elim (fun e => e ▸ hn) (h.lge s),
    List.pairwise_cons.2 ⟨ha, h.lne⟩⟩

theorem St.alloc (h : St w0 w M L) (cs : List Value) (t : TypeId) : St w0 (w.alloc (.cells cs.toArray t)) M (.blk w.heap.size t cs :: L) := by
  have h1 : St w0 (w.alloc (.cells cs.toArray t)) M L := h.grow rfl rfl rfl (by simp) fun k hk => heap_alloc_old w _ hk
  refine h1.cons (heap_alloc_new w _) (fun k hk => ?_) (fun s hs k hk hk' => ?_)
  · obtain rfl : w.heap.size = k := by simpa [Res.has] using hk
    exact h.size
  · obtain rfl : w.heap.size = k := by simpa [Res.has] using hk
    exact absurd ((h.hl s hs).lt hk') (Nat.lt_irrefl _)
theorem St.alloc_obj (h : St w0 w M L) (o : Obj) : St w0 (w.alloc o) M (.obj w.heap.size o :: L) := by
  have h1 : St w0 (w.alloc o) M L := h.grow rfl rfl rfl (by simp) fun k hk => heap_alloc_old w _ hk
  refine h1.cons (heap_alloc_new w _) (fun k hk => ?_) (fun s hs k hk hk' => ?_)
  · obtain rfl : w.heap.size = k := by simpa [Res.has] using hk
    exact h.size
  · obtain rfl : w.heap.size = k := by simpa [Res.has] using hk
    exact absurd ((h.hl s hs).lt hk') (Nat.lt_irrefl _)

/-- What is no longer wanted is dropped. -/
theorem St.sub {L' : List Res} (h : St w0 w M L) (hs : L'.Sublist L) : St w0 w M L' :=
  ⟨h.os, h.tape, h.output, h.size, h.old, h.hm, h.mlt, h.mne, fun r hr => h.hl r (hs.subset hr), fun r hr => h.lge r (hs.subset hr), h.lne.sublist hs⟩
theorem St.tail {r : Res} (h : St w0 w M (r :: L)) : St w0 w M L := h.sub (List.sublist_cons_self r L)
theorem St.drop (h : St w0 w M L) : St w0 w M [] := h.sub (List.nil_sublist L)

theorem pairwise_set {r' : Res} : ∀ {l : List Res} {i : Nat} {r : Res}, l.Pairwise Apart → l[i]? = some r → (∀ s ∈ l, Apart r s → Apart r' s) → (∀ s ∈ l, Apart s r → Apart s r') → (l.set i r').Pairwise Apart
  | [], i, r, h, hi, _, _ => by simp at hi
  | a :: l, 0, r, h, hi, h1, _ => by
    simp only [List.getElem?_cons_zero, Option.some.injEq] at hi
    subst hi
    have hp := List.pairwise_cons.1 h
    exact List.pairwise_cons.2 ⟨fun s hs => h1 s (List.mem_cons_of_mem _ hs) (hp.1 s hs), hp.2⟩
  | a :: l, i + 1, r, h, hi, h1, h2 => by
    simp only [List.getElem?_cons_succ] at hi
    have hp := List.pairwise_cons.1 h
    refine List.pairwise_cons.2 ⟨fun s hs => ?_, pairwise_set hp.2 hi (fun s hs => h1 s (List.mem_cons_of_mem _ hs)) (fun s hs => h2 s (List.mem_cons_of_mem _ hs))⟩
    rcases List.mem_or_eq_of_mem_set hs with hs | rfl
    · exact hp.1 s hs
    · exact h2 a List.mem_cons_self (hp.1 r (List.mem_of_getElem? hi))

theorem pairwise_get {l : List Res} (h : l.Pairwise Apart) : ∀ {i j : Nat} {r s : Res}, l[i]? = some r → l[j]? = some s → i ≠ j → Apart r s := by
  intro i j r s hi hj hij
  obtain ⟨h1, rfl⟩ := List.getElem?_eq_some_iff.1 hi
  obtain ⟨h2, rfl⟩ := List.getElem?_eq_some_iff.1 hj
  rcases Nat.lt_or_ge i j with hlt | hge
  · exact List.pairwise_iff_getElem.1 h i j h1 h2 hlt
  · exact (List.pairwise_iff_getElem.1 h j i h2 h1 (by omega)).symm

theorem mem_set_idx {r' s : Res} {l : List Res} {i : Nat} (h : s ∈ l.set i r') : s = r' ∨ ∃ j, j ≠ i ∧ l[j]? = some s := by
  obtain ⟨j, hj⟩ := List.mem_iff_getElem?.1 h
  rw [List.getElem?_set] at hj
  split at hj
  · split at hj
    · left; exact (Option.some.inj hj).symm
    · cases hj
  · rename_i hne
    exact .inr ⟨j, fun e => hne e.symm, hj⟩

/-- One of the call's own resources turns into another one; a block may have been left for a new one. -/
theorem St.turn (h : St w0 w M L) {i : Nat} {r r' : Res} (hi : L[i]? = some r) (hr' : r'.holds w') (ho : w'.os = w.os) (ht : w'.tape = w.tape) (hu : w'.output = w.output) (hs : w.heap.size ≤ w'.heap.size)
    (hb : ∀ k, k < w.heap.size → ¬ r.has k → w'.heap[k]? = w.heap[k]?) (hid : ∀ k, r'.has k → r.has k ∨ w.heap.size ≤ k) : St w0 w' M (L.set i r') := by
  have hrm := List.mem_of_getElem? hi
  have hbb : ∀ s, (∀ k, s.has k → k < w.heap.size) → Apart r s → ∀ k, s.has k → w'.heap[k]? = w.heap[k]? := fun s hlt ha k hk => hb k (hlt k hk) fun e => ha k e hk
  refine ⟨ho.trans h.os, ht.trans h.tape, hu.trans h.output, Nat.le_trans h.size hs, fun k hk hM => ?_, fun s hsM => ?_, h.mlt, h.mne, fun s hsL => ?_, fun s hsL k hk => ?_, ?_⟩
  · refine (hb k (Nat.lt_of_lt_of_le hk h.size) fun e => ?_).trans (h.old k hk hM)
    have := h.lge r hrm k e
    omega
  · exact (h.hm s hsM).keep (hbb s (fun k hk => (h.hm s hsM).lt hk) (h.apartML hsM hrm).symm)
  · rcases mem_set_idx hsL with rfl | ⟨j, hj, hjs⟩
    · exact hr'
    · exact (h.hl s (List.mem_of_getElem? hjs)).keep (hbb s (fun k hk => (h.hl s (List.mem_of_getElem? hjs)).lt hk) (pairwise_get h.lne hi hjs (Ne.symm hj)))
  · rcases mem_set_idx hsL with rfl | ⟨j, hj, hjs⟩
    · rcases hid k hk with e | e
      · exact h.lge r hrm k e
      · exact Nat.le_trans h.size e
    · exact h.lge s (List.mem_of_getElem? hjs) k hk
  · refine pairwise_set h.lne hi (fun s hsL ha k hk hk' => ?_) (fun s hsL ha k hk hk' => ?_)
    · rcases hid k hk with e | e
      · exact ha k e hk'
      · exact absurd ((h.hl s hsL).lt hk') (by omega)
    · rcases hid k hk' with e | e
      · exact ha k hk e
      · exact absurd ((h.hl s hsL).lt hk) (by omega)

/-- One of the old blocks that may be written turns. -/
theorem St.turnM (h : St w0 w M L) {i : Nat} {r r' : Res} (hi : M[i]? = some r) (hr' : r'.holds w') (ho : w'.os = w.os) (ht : w'.tape = w.tape) (hu : w'.output = w.output) (hs : w.heap.size ≤ w'.heap.size)
    (hb : ∀ k, k < w.heap.size → ¬ r.has k → w'.heap[k]? = w.heap[k]?) (hid : r'.has = r.has) : St w0 w' (M.set i r') L := by
  have hrm := List.mem_of_getElem? hi
  have hbb : ∀ s, (∀ k, s.has k → k < w.heap.size) → Apart r s → ∀ k, s.has k → w'.heap[k]? = w.heap[k]? := fun s hlt ha k hk => hb k (hlt k hk) fun e => ha k e hk
  refine ⟨ho.trans h.os, ht.trans h.tape, hu.trans h.output, Nat.le_trans h.size hs, fun k hk hM => ?_, fun s hsM => ?_, fun s hsM k hk => ?_, ?_, fun s hsL => ?_, h.lge, h.lne⟩
  · have hold : ∀ s ∈ M, ¬ s.has k := fun s hsM => by
      obtain ⟨j, hj⟩ := List.mem_iff_getElem?.1 hsM
      by_cases e : j = i
      · subst e
        have : s = r := Option.some.inj (hj.symm.trans hi)
        subst this
        rw [← hid]
        exact hM r' (List.mem_iff_getElem?.2 ⟨j, by rw [List.getElem?_set_self (List.getElem?_eq_some_iff.1 hi).1]⟩)
      · exact hM s (List.mem_iff_getElem?.2 ⟨j, by rw [List.getElem?_set_ne (Ne.symm e)]; exact hj⟩)
    exact (hb k (Nat.lt_of_lt_of_le hk h.size) (hold r hrm)).trans (h.old k hk hold)
  · rcases mem_set_idx hsM with rfl | ⟨j, hj, hjs⟩
    · exact hr'
    · exact (h.hm s (List.mem_of_getElem? hjs)).keep (hbb s (fun k hk => (h.hm s (List.mem_of_getElem? hjs)).lt hk) (pairwise_get h.mne hi hjs (Ne.symm hj)))
  · rcases mem_set_idx hsM with rfl | ⟨j, hj, hjs⟩
    · exact h.mlt r hrm k (by rw [← hid]; exact hk)
    · exact h.mlt s (List.mem_of_getElem? hjs) k hk
  · exact pairwise_set h.mne hi (fun s _ ha k hk => ha k (by rw [← hid]; exact hk)) (fun s _ ha k hk => by rw [hid]; exact ha k hk)
  · exact (h.hl s hsL).keep (hbb s (fun k hk => (h.hl s hsL).lt hk) (h.apartML hrm hsL))

/-! ### Calls -/
/-- A call that writes into nothing that was there. -/
theorem St.call {N : List Res} (h : St w0 w M L) (hc : St w w' [] N) : St w0 w' M (N ++ L) := by
  have h1 : St w0 w' M L := h.grow hc.os hc.tape hc.output hc.size fun k hk => hc.old k hk (by simp)
  refine ⟨h1.os, h1.tape, h1.output, h1.size, h1.old, h1.hm, h1.mlt, h1.mne, fun r hr => ?_, fun r hr k hk => ?_, List.pairwise_append.2 ⟨hc.lne, h1.lne, fun r hr s hs k hk hk' => ?_⟩⟩
  · exact (List.mem_append.1 hr).elim (hc.hl r) (h1.hl r)
  · rcases List.mem_append.1 hr with hr | hr
    · exact Nat.le_trans h.size (hc.lge r hr k hk)
    · exact h1.lge r hr k hk
  · have := hc.lge r hr k hk
    have := (h.hl s hs).lt hk'
    omega
theorem St.call0 (h : St w0 w M L) (hc : St w w' [] []) : St w0 w' M L := h.call hc

/-- A call that writes into one of the caller's own. -/
theorem St.callL {N : List Res} {i : Nat} {r r' : Res} (h : St w0 w M L) (hi : L[i]? = some r) (hc : St w w' [r'] N) (hid : r'.has = r.has) : St w0 w' M (N ++ L.set i r') := by
  have h1 : St w0 w' M (L.set i r') := h.turn hi (hc.hm r' (by simp)) hc.os hc.tape hc.output hc.size (fun k hk hne => hc.old k hk (by simp; rw [hid]; exact hne)) (fun k hk => .inl (by rw [← hid]; exact hk))
  refine ⟨h1.os, h1.tape, h1.output, h1.size, h1.old, h1.hm, h1.mlt, h1.mne, fun s hr => ?_, fun s hr k hk => ?_, List.pairwise_append.2 ⟨hc.lne, h1.lne, fun s hr t hs k hk hk' => ?_⟩⟩
  · exact (List.mem_append.1 hr).elim (hc.hl s) (h1.hl s)
  · rcases List.mem_append.1 hr with hr | hr
    · exact Nat.le_trans h.size (hc.lge s hr k hk)
    · exact h1.lge s hr k hk
  · have := hc.lge s hr k hk
    rcases mem_set_idx hs with rfl | ⟨j, hj, hjs⟩
    · have := (h.hl r (List.mem_of_getElem? hi)).lt (k := k) (by rw [← hid]; exact hk')
      omega
    · have := (h.hl t (List.mem_of_getElem? hjs)).lt hk'
      omega
theorem St.callM {N : List Res} {i : Nat} {r r' : Res} (h : St w0 w M L) (hi : M[i]? = some r) (hc : St w w' [r'] N) (hid : r'.has = r.has) : St w0 w' (M.set i r') (N ++ L) := by
  have h1 : St w0 w' (M.set i r') L := h.turnM hi (hc.hm r' (by simp)) hc.os hc.tape hc.output hc.size (fun k hk hne => hc.old k hk (by simp; rw [hid]; exact hne)) hid
  refine ⟨h1.os, h1.tape, h1.output, h1.size, h1.old, h1.hm, h1.mlt, h1.mne, fun s hr => ?_, fun s hr k hk => ?_, List.pairwise_append.2 ⟨hc.lne, h1.lne, fun s hr t hs k hk hk' => ?_⟩⟩
  · exact (List.mem_append.1 hr).elim (hc.hl s) (h1.hl s)
  · rcases List.mem_append.1 hr with hr | hr
    · exact Nat.le_trans h.size (hc.lge s hr k hk)
    · exact h1.lge s hr k hk
  · have := hc.lge s hr k hk
    have := (h.hl t hs).lt hk'
    omega

/-! ### Cells -/
theorem St.cellL (h : St w0 w M L) (i : Nat) {g : Nat} {t : TypeId} {cs : List Value} {off : Nat} {v : Value} (hi : L[i]? = some (.blk g t cs)) (hv : cs[off]? = some v) : w.cell? ⟨g, off, none⟩ = some v := by
  rw [cell_of_row w g off _ t (0, 0) (h.hl _ (List.mem_of_getElem? hi))]
  simpa using hv
theorem St.cellM (h : St w0 w M L) (i : Nat) {g : Nat} {t : TypeId} {cs : List Value} {off : Nat} {v : Value} (hi : M[i]? = some (.blk g t cs)) (hv : cs[off]? = some v) : w.cell? ⟨g, off, none⟩ = some v := by
  rw [cell_of_row w g off _ t (0, 0) (h.hm _ (List.mem_of_getElem? hi))]
  simpa using hv
end

/-! ### A slice that reads as a list -/
def cellsOf {α : Type} (enc : α → List Value) (l : List α) : List Value := l.flatMap enc
/-- The slice '.slice A l.length cap' reads as the list 'l', each element as 'enc' says. -/
structure Rd {α : Type} (w : World) (A : Option Addr) (sz : Nat) (enc : α → List Value) (l : List α) : Prop where
  len : ∀ a, (enc a).length = sz
  max : l.length ≤ 9223372036854775807
  rd : 0 < l.length → ∃ ad, A = some ad ∧ ∀ j u, (cellsOf enc l)[j]? = some u → w.cell? (ad.add j) = some u
/-- The slice does not lie in this block. -/
def Off (A : Option Addr) (g : Nat) : Prop := ∀ ad, A = some ad → ad.block ≠ g

def ep (A : Option Addr) (k sz f : Nat) : Value := .pointer (A.map (·.add (k * sz + f)))

section
variable {α : Type} {w0 w w' : World} {M L : List Res} {A : Option Addr} {sz : Nat} {enc : α → List Value} {l : List α}

theorem block_add (a : Addr) (n : Nat) : (a.add n).block = a.block := by unfold Addr.add; split <;> rfl

theorem flat_get (he : ∀ a, (enc a).length = sz) : ∀ (l : List α) (k f : Nat) (a : α), l[k]? = some a → f < sz → (cellsOf enc l)[k * sz + f]? = (enc a)[f]?
  | [], k, f, a, h, _ => by simp at h
  | b :: l, 0, f, a, h, hf => by
    simp only [List.getElem?_cons_zero, Option.some.injEq] at h
    subst h
    simp only [cellsOf, List.flatMap_cons, Nat.zero_mul, Nat.zero_add]
    rw [List.getElem?_append_left (by rw [he]; exact hf)]
  | b :: l, k + 1, f, a, h, hf => by
    simp only [List.getElem?_cons_succ] at h
    have ih := flat_get he l k f a h hf
    simp only [cellsOf, List.flatMap_cons] at ih ⊢
    rw [List.getElem?_append_right (by rw [he, Nat.add_mul]; omega), he]
    rw [← ih]
    congr 1
    rw [Nat.add_mul]; omega
theorem flat_len (he : ∀ a, (enc a).length = sz) : ∀ (l : List α), (cellsOf enc l).length = l.length * sz
  | [] => by simp [cellsOf]
  | a :: l => by
    have ih := flat_len he l
    simp only [cellsOf, List.flatMap_cons, List.length_append, he, List.length_cons] at ih ⊢
    rw [ih, Nat.add_mul]; omega

theorem Rd.nil (he : ∀ a, (enc a).length = sz) : Rd w A sz enc [] := ⟨he, by simp, fun h => by simp at h⟩
theorem Rd.isSome (h : Rd w A sz enc l) (hn : 0 < l.length) : ∃ ad, A = some ad := let ⟨ad, h1, _⟩ := h.rd hn; ⟨ad, h1⟩
theorem Rd.lt (h : Rd w A sz enc l) (hsz : 0 < sz) : ∀ ad, A = some ad → 0 < l.length → ad.block < w.heap.size := by
  intro ad hA hn
  obtain ⟨ad', h1, h2⟩ := h.rd hn
  have : ad' = ad := Option.some.inj (h1.symm.trans hA)
  subst this
  have hl := flat_len h.len l
  have hpos : 0 < (cellsOf enc l).length := by rw [hl]; exact Nat.mul_pos hn hsz
  have := World.block_lt_of_cell? w _ (h2 0 _ (List.getElem?_eq_getElem hpos))
  rwa [block_add] at this
/-- The memory behind it has not turned. -/
theorem Rd.keep (h : Rd w A sz enc l) (hk : ∀ ad, A = some ad → 0 < l.length → w'.heap[ad.block]? = w.heap[ad.block]?) : Rd w' A sz enc l :=
  ⟨h.len, h.max, fun hn => by
    obtain ⟨ad, h1, h2⟩ := h.rd hn
    refine ⟨ad, h1, fun j u hu => ?_⟩
    rw [World.cell?_of_block (w := w) (by rw [block_add]; exact hk ad h1 hn)]
    exact h2 j u hu⟩
theorem Rd.st (h : Rd w0 A sz enc l) (hsz : 0 < sz) (hs : St w0 w [] L) : Rd w A sz enc l :=
  h.keep fun ad hA hn => hs.old _ (h.lt hsz ad hA hn) (by simp)
theorem Rd.stM {g : Nat} {t : TypeId} {cs : List Value} (h : Rd w0 A sz enc l) (hsz : 0 < sz) (ho : 0 < l.length → Off A g) (hs : St w0 w [.blk g t cs] L) : Rd w A sz enc l :=
  h.keep fun ad hA hn => hs.old _ (h.lt hsz ad hA hn) (by
    intro r hr
    simp only [List.mem_singleton] at hr
    subst hr
    simp only [Res.has]
    intro e
    exact ho hn ad hA (Eq.symm e))
/-- The call's own row reads as the list. -/
theorem St.rdL {i : Nat} {cap : Nat} {e : TypeId} (hs : St w0 w M L) (hi : L[i]? = some (.row A cap e sz l.length (cellsOf enc l))) (he : ∀ a, (enc a).length = sz) : Rd w A sz enc l := by
  have h : rowOk w A cap e sz l.length (cellsOf enc l) := hs.hl _ (List.mem_of_getElem? hi)
  refine ⟨he, by have := h.2.1; omega, fun hn => ?_⟩
  rcases h.2.2 with ⟨_, h0, _⟩ | ⟨g, o, cur, hA, _⟩
  · omega
  · exact ⟨_, hA, h.cells hA⟩
theorem St.offL {i j : Nat} {g cap : Nat} {t e : TypeId} {n : Nat} {cs xs : List Value} (hs : St w0 w M L) (hi : L[i]? = some (.row A cap e sz n xs)) (hj : L[j]? = some (.blk g t cs)) : Off A g := by
  intro ad hA hb
  have hne : i ≠ j := by
    rintro rfl
    rw [hi] at hj
    cases hj
  exact pairwise_get hs.lne hi hj hne ad.block (by simp [Res.has, hA]) (by simp [Res.has, hb])
theorem Rd.offL {j : Nat} {g : Nat} {t : TypeId} {cs : List Value} (h : Rd w0 A sz enc l) (hsz : 0 < sz) (hs : St w0 w M L) (hj : L[j]? = some (.blk g t cs)) : 0 < l.length → Off A g := by
  intro hn ad hA hb
  have h1 := h.lt hsz ad hA hn
  have h2 := hs.lge _ (List.mem_of_getElem? hj) g rfl
  omega
theorem St.off_LM {i j : Nat} {g b o : Nat} {t e : TypeId} {cs xs : List Value} (hs : St w0 w M L) (hi : M[i]? = some (.blk g t cs)) (hj : L[j]? = some (.blk b e xs)) : Off (some ⟨b, o, none⟩) g := by
  intro ad hA hb
  obtain rfl : (⟨b, o, none⟩ : Addr) = ad := Option.some.inj hA
  exact hs.apartML (List.mem_of_getElem? hi) (List.mem_of_getElem? hj) g rfl (by simp only [Res.has]; exact hb)
theorem St.off_LL {i j : Nat} {g b o : Nat} {t e : TypeId} {cs xs : List Value} (hs : St w0 w M L) (hi : L[i]? = some (.blk g t cs)) (hj : L[j]? = some (.blk b e xs)) (hij : Nat.beq i j = false) : Off (some ⟨b, o, none⟩) g := by
  intro ad hA hb
  obtain rfl : (⟨b, o, none⟩ : Addr) = ad := Option.some.inj hA
  exact pairwise_get hs.lne hi hj (by rintro rfl; simp at hij) g rfl (by simp only [Res.has]; exact hb)
/-- A block of the call's own that reads as a list. -/
theorem rd_blk {g : Nat} {t : TypeId} {cs : List Value} (hb : w.heap[g]? = some (.cells cs.toArray t (0, 0))) (he : ∀ a, (enc a).length = sz) (hc : cellsOf enc l = cs) (hm : l.length ≤ 9223372036854775807) : Rd w (some ⟨g, 0, none⟩) sz enc l := by
  refine ⟨he, hm, fun hn => ⟨_, rfl, fun j u hu => ?_⟩⟩
  rw [Addr.add_lit, Nat.zero_add, cell_of_row w g j _ t (0, 0) hb]
  rw [hc] at hu
  simpa using hu
/-- An element's cell. -/
theorem Rd.cell (h : Rd w A sz enc l) {k f : Nat} {a : α} {v : Value} (hl : l[k]? = some a) (hf : (enc a)[f]? = some v) {ad : Addr} (hA : A = some ad) : w.cell? (ad.add (k * sz + f)) = some v := by
  have hk : k < l.length := (List.getElem?_eq_some_iff.1 hl).1
  obtain ⟨ad', h1, h2⟩ := h.rd (by omega)
  have : ad' = ad := Option.some.inj (h1.symm.trans hA)
  subst this
  refine h2 _ v ?_
  have hfs : f < sz := by rw [← h.len a]; exact (List.getElem?_eq_some_iff.1 hf).1
  rw [flat_get h.len l k f a hl hfs]
  exact hf
end

/-! ### Loads -/
def Ld (P : Program) (w : World) (T : TypeId) (p : Addr) (v : Value) : Prop := (loadVar T p).run P w = .ok v w
section
variable {P : Program} {w0 w : World} {M L : List Res} {T : TypeId}
theorem ld1 [C1 P T] {p : Addr} {v : Value} (hc : w.cell? p = some v) : Ld P w T p v := by
  simp [Ld, loadVar, run_isAgg1, hc]
theorem ldS {s : Nat} [hc : CS P T s] {p : Addr} {vs : List Value} (hl : vs.length = s) (h : ∀ j v, vs[j]? = some v → w.cell? (p.add j) = some v) : Ld P w T p (.agg vs.toArray) := by
  have h1 := run_loadCells_list (P := P) w p vs h
  rw [hl] at h1
  simp [Ld, loadVar, run_isAggS, run_sizeOf' hc.z, h1]
end

/-- A block that is known whole. -/
def Blk (w : World) (g : Nat) (t : TypeId) (cs : List Value) : Prop := w.heap[g]? = some (.cells cs.toArray t (0, 0))
section
variable {P : Program} {w0 w : World} {M L : List Res} {T t : TypeId} {g off : Nat} {cs vs : List Value} {v : Value}
theorem St.blkL (hs : St w0 w M L) {i : Nat} (hi : L[i]? = some (.blk g t cs)) : Blk w g t cs := hs.hl _ (List.mem_of_getElem? hi)
theorem St.blkM (hs : St w0 w M L) {i : Nat} (hi : M[i]? = some (.blk g t cs)) : Blk w g t cs := hs.hm _ (List.mem_of_getElem? hi)
theorem k1 (h : Blk w g t cs) : Blk w g t cs := h
theorem Blk.cell (h : Blk w g t cs) (hv : cs[off]? = some v) : w.cell? ⟨g, off, none⟩ = some v := by
  rw [cell_of_row w g off _ t (0, 0) h]
  simpa using hv
theorem ld1B [C1 P T] (hb : Blk w g t cs) (hv : cs[off]? = some v) : Ld P w T ⟨g, off, none⟩ v := ld1 (hb.cell hv)
theorem ldBB {s : Nat} [CS P T s] (hb : Blk w g t cs) (hl : cs.length = s) : Ld P w T ⟨g, 0, none⟩ (.agg cs.toArray) :=
  ldS hl fun j v hv => by rw [Addr.add_lit, Nat.zero_add]; exact hb.cell hv
theorem ldPB {s : Nat} [CS P T s] (hb : Blk w g t cs) (hp : (cs.drop off).take s = vs) (hl : vs.length = s) : Ld P w T ⟨g, off, none⟩ (.agg vs.toArray) :=
  ldS hl fun j v hv => by
    rw [Addr.add_lit]
    refine hb.cell ?_
    rw [← hp, List.getElem?_take] at hv
    split at hv
    · rwa [List.getElem?_drop] at hv
    · cases hv
end

section
variable {P : Program} {N : Nat} {ρ : Env} {w0 w : World} {K : Kont} {ops : Array Oper} {rest : List Oper} {M L : List Res}
variable {d : Option Nat} {T ty : TypeId} {ps : String} {af : Array Edge} {gd : Option (Nat × Bool)}

theorem yv_load {x : Operand} {p : Addr} {v : Value} (hx : evo ρ x = some (.pointer (some p))) (h : Ld P w T p v) : Yv P N ρ w ⟨d, .load T x, ty, ps, af, gd⟩ v := fun a ha => by
  unfold Ld at h
  simp [execOp, ha.ev hx, Instr.loadAt, Instr.sureAddr, h]
/-- One cell of an element of a slice. -/
theorem yv_load_ep1 {α : Type} [C1 P T] {x : Operand} {A : Option Addr} {k sz f : Nat} {enc : α → List Value} {l : List α} {e : α} {v : Value} (hx : evo ρ x = some (ep A k sz f)) (hr : Rd w A sz enc l)
    (hl : l[k]? = some e) (hf : (enc e)[f]? = some v) : Yv P N ρ w ⟨d, .load T x, ty, ps, af, gd⟩ v := by
  have hk : k < l.length := (List.getElem?_eq_some_iff.1 hl).1
  obtain ⟨ad, hA⟩ := hr.isSome (by omega)
  subst hA
  exact yv_load hx (ld1 (hr.cell hl hf rfl))
/-- A whole element of a slice. -/
theorem yv_load_epS {α : Type} {sz : Nat} [CS P T sz] {x : Operand} {A : Option Addr} {k : Nat} {enc : α → List Value} {l : List α} {e : α} {vs : List Value} (hx : evo ρ x = some (ep A k sz 0)) (hr : Rd w A sz enc l)
    (hl : l[k]? = some e) (hf : enc e = vs) : Yv P N ρ w ⟨d, .load T x, ty, ps, af, gd⟩ (.agg vs.toArray) := by
  have hk : k < l.length := (List.getElem?_eq_some_iff.1 hl).1
  obtain ⟨ad, hA⟩ := hr.isSome (by omega)
  subst hA
  refine yv_load hx (ldS (by rw [← hf, hr.len]) fun j v hv => ?_)
  have := hr.cell hl (f := j) (v := v) (by rw [hf]; exact hv) rfl
  have h2 : (ad.add (k * sz + 0)).add j = ad.add (k * sz + j) := by unfold Addr.add; by_cases h0 : k * sz = 0 <;> by_cases hj : j = 0 <;> simp [h0, hj, Nat.add_assoc]
  rw [h2]; exact this

theorem yv_fieldAddr {x : Operand} {g o f off : Nat} [hc : CF P T f off] (hx : evo ρ x = some (.pointer (some ⟨g, o, none⟩))) : Yv P N ρ w ⟨d, .fieldAddr T x f, ty, ps, af, gd⟩ (.pointer (some ⟨g, o + off, none⟩)) := fun a ha => by
  obtain ⟨fs, fd, h1, h2, h3, n, h4⟩ := hc.h
  simp [execOp, ha.ev hx, Instr.fieldAt, run_underlying h1, h2, Instr.sureAddr, fieldPlace, run_sizeOf' h4, h3, Addr.add_lit]
theorem yv_fieldAddr_ep {x : Operand} {A : Option Addr} {k sz o f off : Nat} [hc : CF P T f off] (hx : evo ρ x = some (ep A k sz o)) (hA : ∃ ad, A = some ad) : Yv P N ρ w ⟨d, .fieldAddr T x f, ty, ps, af, gd⟩ (ep A k sz (o + off)) := fun a ha => by
  obtain ⟨fs, fd, h1, h2, h3, n, h4⟩ := hc.h
  obtain ⟨ad, rfl⟩ := hA
  have h5 : (ad.add (k * sz + o)).add off = ad.add (k * sz + (o + off)) := by
    unfold Addr.add
    by_cases h0 : k * sz = 0 <;> by_cases hj : o = 0 <;> by_cases hq : off = 0 <;> simp [h0, hj, hq, Nat.add_assoc]
  simp [execOp, ha.ev hx, Instr.fieldAt, run_underlying h1, h2, Instr.sureAddr, fieldPlace, run_sizeOf' h4, h3, ep, h5]
theorem yv_indexAddr {α : Type} {x y : Operand} {A : Option Addr} {n cap : Nat} {i : Int} {k : IntKind} {e : TypeId} {sz b : Nat} {z : Value} [hc : CL P T e sz b z] {enc : α → List Value} {l : List α} (hx : evo ρ x = some (.slice A n cap)) (hy : evo ρ y = some (.int k i))
    (hr : Rd w A sz enc l) (hn : l.length = n) (h0 : 0 ≤ i) (h1 : i < n) : Yv P N ρ w ⟨d, .indexAddr T x y, ty, ps, af, gd⟩ (ep A i.toNat sz 0) := fun a ha => by
  obtain ⟨ad, rfl⟩ := hr.isSome (by omega)
  obtain ⟨inf, h2, _, h3, _⟩ := hc.h
  have hs : (P.info? e).map (·.size) = some sz := by simp [h2, h3]
  simp [execOp, ha.ev hx, ha.ev hy, Instr.indexAt, asIntOf, run_underlying hc.u, h0, h1, run_sizeOf' hs, ep]
/-- An element of a slice over a block of the call's own. -/
theorem yv_indexAddr_blk {x y : Operand} {g o n cap : Nat} {i : Int} {k : IntKind} {e : TypeId} {sz b : Nat} {z : Value} [hc : CL P T e sz b z] (hx : evo ρ x = some (.slice (some ⟨g, o, none⟩) n cap)) (hy : evo ρ y = some (.int k i))
    (h0 : 0 ≤ i ∧ i < n) : Yv P N ρ w ⟨d, .indexAddr T x y, ty, ps, af, gd⟩ (.pointer (some ⟨g, o + i.toNat * sz, none⟩)) := fun a ha => by
  obtain ⟨inf, h2, _, h3, _⟩ := hc.h
  have hs : (P.info? e).map (·.size) = some sz := by simp [h2, h3]
  simp [execOp, ha.ev hx, ha.ev hy, Instr.indexAt, asIntOf, run_underlying hc.u, h0, run_sizeOf' hs, Addr.add_lit]
theorem yv_len {x : Operand} {A : Option Addr} {n cap : Nat} {e : TypeId} {sz b : Nat} {z : Value} [hc : CL P T e sz b z] (hx : evo ρ x = some (.slice A n cap)) : Yv P N ρ w ⟨d, .call { callee := .builtin .len, args := #[x], argTypes := #[T] }, ty, ps, af, gd⟩ (.int .i64 n) := fun a ha => by
  simp [execOp, resolve, invoke, builtin, Builtin.len_, ha.ev hx, run_underlying hc.u, goInt]
theorem yv_min {x y : Operand} {m n : Int} {t1 t2 : TypeId} (hx : evo ρ x = some (.int .i64 m)) (hy : evo ρ y = some (.int .i64 n)) : Yv P N ρ w ⟨d, .call { callee := .builtin .min, args := #[x, y], argTypes := #[t1, t2] }, ty, ps, af, gd⟩ (.int .i64 (min m n)) := fun a ha => by
  simp only [execOp, resolve, invoke, builtin, List.map_toArray, List.map_cons, List.map_nil, ha.ev hx, ha.ev hy, Sem.run_bind, Sem.run_pure, Result.andThen_ok]
  simp only [Builtin.min_, List.foldlM_cons, List.foldlM_nil, Builtin.min2, Sem.run_bind, Sem.run_pure, Result.andThen_ok]
  have : (if n < m then n else m) = min m n := by omega
  rw [this]
theorem yv_max {x y : Operand} {m n : Int} {t1 t2 : TypeId} (hx : evo ρ x = some (.int .i64 m)) (hy : evo ρ y = some (.int .i64 n)) : Yv P N ρ w ⟨d, .call { callee := .builtin .max, args := #[x, y], argTypes := #[t1, t2] }, ty, ps, af, gd⟩ (.int .i64 (max m n)) := fun a ha => by
  simp only [execOp, resolve, invoke, builtin, List.map_toArray, List.map_cons, List.map_nil, ha.ev hx, ha.ev hy, Sem.run_bind, Sem.run_pure, Result.andThen_ok]
  simp only [Builtin.max_, List.foldlM_cons, List.foldlM_nil, Builtin.max2, Sem.run_bind, Sem.run_pure, Result.andThen_ok]
  have : (if m < n then n else m) = max m n := by omega
  rw [this]

/-- An element of an array value, of one cell. -/
theorem yv_indexA {x y : Operand} {cs : Array Value} {k : IntKind} {i : Int} {n : Nat} {e : TypeId} {s : Nat} {zs : List Value} {v : Value} [hc : CA P T n e s zs] [C1 P e] (hx : evo ρ x = some (.agg cs)) (hy : evo ρ y = some (.int k i)) (h0 : 0 ≤ i ∧ i < n) (hv : cs[i.toNat * s]? = some v) :
    Yv P N ρ w ⟨d, .index T x y, ty, ps, af, gd⟩ v := fun a ha => by
  simp [execOp, ha.ev hx, ha.ev hy, Instr.index, asIntOf, run_underlying hc.u, h0, run_sizeOf' hc.i, part, run_isAgg1, hv]
/-! ### New blocks -/
theorem rg_alloc {d : Nat} {v : Value} [hz : CZ P T v] {cs : List Value} (hs : St w0 w M L) (hv : v.cells.toList = cs) (hg : want ops ρ gd = some true) (hd : Nat.blt d N = true)
    (hk : ∀ g w', St w0 w' M (.blk g T cs :: L) → Rg P N ops rest ((d, .pointer (some ⟨g, 0, none⟩)) :: ρ) w' K) : Rg P N ops (⟨some d, .alloc T, ty, ps, af, gd⟩ :: rest) ρ w K := by
  subst hv
  refine rg_w (v := .pointer (some ⟨w.heap.size, 0, none⟩)) (w' := w.alloc (.cells v.cells T)) hg hd (fun a ha => ?_) (hk _ _ (hs.alloc v.cells.toList T))
  simp only [execOp, Instr.alloc, Sem.run_bind, run_zeroValue' hz.z, Result.andThen_ok, newVar, newRow, run_newObj, Sem.run_pure]
  rfl
theorem rg_box {d : Nat} {x : Operand} {v : Value} {cs : List Value} (hs : St w0 w M L) (hx : evo ρ x = some v) (hv : v.cells.toList = cs) (hg : want ops ρ gd = some true) (hd : Nat.blt d N = true)
    (hk : ∀ g w', St w0 w' M (.blk g T cs :: L) → Rg P N ops rest ((d, .pointer (some ⟨g, 0, none⟩)) :: ρ) w' K) : Rg P N ops (⟨some d, .box T x, ty, ps, af, gd⟩ :: rest) ρ w K := by
  subst hv
  refine rg_w (v := .pointer (some ⟨w.heap.size, 0, none⟩)) (w' := w.alloc (.cells v.cells T)) hg hd (fun a ha => ?_) (hk _ _ (hs.alloc v.cells.toList T))
  simp only [execOp, Instr.box, ha.ev hx, Sem.run_bind, Result.andThen_ok, newVar, newRow, run_newObj, Sem.run_pure]
  rfl
def putCells (cs : List Value) (off : Nat) (vs : List Value) : List Value := cs.take off ++ vs ++ cs.drop (off + vs.length)
/-- The cells of a value. -/
def cl : Value → List Value
  | .agg cs => cs.toList
  | v => [v]
theorem cl_spec (v : Value) : v.cells.toList = cl v := by cases v <;> rfl
def fillL (pl : Nat → Option (Nat × Nat)) : List Value → List (Nat × Value) → Option (List Value)
  | cs, [] => some cs
  | cs, (i, v) :: r => match pl i with
    | none => none
    | some (off, size) => bif Nat.beq (cl v).length size && Nat.ble (off + size) cs.length then fillL pl (putCells cs off (cl v)) r else none
theorem put_step (off : Nat) : ∀ (vs : List Value) (k : Nat) (cs : List Value), off + k + vs.length ≤ cs.length →
    ((vs.zipIdx k).foldl (fun (cs : Array Value) (p : Value × Nat) => cs.setIfInBounds (off + p.2) p.1) cs.toArray) = (putCells cs (off + k) vs).toArray
  | [], k, cs, h => by simp [putCells]
  | v :: vs, k, cs, h => by
    simp only [List.zipIdx_cons, List.foldl_cons, List.setIfInBounds_toArray]
    rw [put_step off vs (k + 1) (cs.set (off + k) v) (by simp only [List.length_set, List.length_cons] at *; omega)]
    congr 1
    simp only [List.length_cons] at h
    have hk : off + k < cs.length := by omega
    unfold putCells
    apply List.ext_getElem?
    intro j
    simp only [List.getElem?_append, List.length_append, List.length_take, List.length_set, List.getElem?_take, List.getElem?_set, List.getElem?_drop, List.length_cons]
    have e1 : min (off + (k + 1)) cs.length = off + k + 1 := by omega
    have e2 : min (off + k) cs.length = off + k := by omega
    rw [e1, e2]
    by_cases h1 : j < off + k
    · have h2 : j < off + k + 1 := by omega
      have h3 : ¬ off + k = j := by omega
      have h4 : j < off + k + 1 + vs.length := by omega
      have h5 : j < off + k + (vs.length + 1) := by omega
      have h6 : j < off + (k + 1) := by omega
      simp [h1, h2, h3, h4, h5, h6]
    · by_cases h2 : j = off + k
      · subst h2
        have h4 : off + k < off + k + 1 + vs.length := by omega
        have h5 : off + k < off + k + (vs.length + 1) := by omega
        simp [hk, h4, h5, Nat.lt_succ_self]
      · have h3 : ¬ off + k = j := by omega
        have h6 : ¬ j < off + k + 1 := by omega
        have h7 : ¬ j < off + (k + 1) := by omega
        by_cases h8 : j < off + k + 1 + vs.length
        · have h9 : j < off + k + (vs.length + 1) := by omega
          have h10 : j - (off + k) = (j - (off + k + 1)) + 1 := by omega
          simp [h1, h6, h8, h9, h10]
        · have h9 : ¬ j < off + k + (vs.length + 1) := by omega
          have h10 : off + (k + 1) + vs.length + (j - (off + k + 1 + vs.length)) = off + k + (vs.length + 1) + (j - (off + k + (vs.length + 1))) := by omega
          have h11 : ¬ off + k = off + k + (vs.length + 1) + (j - (off + k + (vs.length + 1))) := by omega
          simp [h8, h9, h10, h11]
theorem fillL_spec (pl : Nat → Option (Nat × Nat)) : ∀ (parts : List (Nat × Value)) (cs out : List Value), fillL pl cs parts = some out → Instr.fill pl cs.toArray parts = some out.toArray
  | [], cs, out, h => by simp only [fillL, Option.some.injEq] at h; subst h; rfl
  | (i, v) :: r, cs, out, h => by
    simp only [fillL] at h
    simp only [Instr.fill]
    cases hp : pl i with
    | none => rw [hp] at h; cases h
    | some p =>
      obtain ⟨off, size⟩ := p
      rw [hp] at h
      simp only at h
      cases hb : (Nat.beq (cl v).length size && Nat.ble (off + size) cs.length) with
      | false => rw [hb] at h; cases h
      | true =>
        rw [hb] at h
        simp only [cond_true] at h
        simp only [Bool.and_eq_true, Nat.beq_eq, Nat.ble_eq] at hb
        have hsz : v.cells.size = size := by rw [← hb.1, ← cl_spec, Array.length_toList]
        have hc : (v.cells.size ≠ size || off + v.cells.size > cs.toArray.size) = false := by simp [hsz]; omega
        have hst := put_step off (cl v) 0 cs (by rw [hb.1]; omega)
        have hz : v.cells.zipIdx.foldl (fun (cs : Array Value) (p : Value × Nat) => cs.setIfInBounds (off + p.2) p.1) cs.toArray = (putCells cs off (cl v)).toArray := by
          rw [← Array.foldl_toList, Array.toList_zipIdx, cl_spec]
          simpa using hst
        simp only [hc, Bool.false_eq_true, if_false]
        have := fillL_spec pl r (putCells cs off (cl v)) out h
        rw [← hz] at this
        exact this
def evp (ρ : Env) : List (Nat × Operand) → Option (List (Nat × Value))
  | [] => some []
  | (i, x) :: xs => match evo ρ x with
    | none => none
    | some v => match evp ρ xs with
      | none => none
      | some vs => some ((i, v) :: vs)
theorem parts_spec {a : Act} (ha : Holds N a ρ) : ∀ {x : List (Nat × Operand)} {parts : List (Nat × Value)}, evp ρ x = some parts → (x.map fun x => match x with | (i, y) => (i, a.eval y)) = parts
  | [], vs, h => by simp only [evp, Option.some.injEq] at h; subst h; rfl
  | (i, x) :: xs, vs, h => by
    simp only [evp] at h
    split at h
    · cases h
    · rename_i v hv
      split at h
      · cases h
      · rename_i us hu
        simp only [Option.some.injEq] at h
        subst h
        simp only [List.map_cons, ha.ev hv]
        exact congrArg _ (parts_spec ha hu)
theorem yv_build {x : List (Nat × Operand)} {zs : List Value} {pl : Array (Nat × Nat)} [hc : CB P T zs pl] {parts : List (Nat × Value)} {out : List Value}
    (hx : evp ρ x = some parts) (hfl : fillL (pl[·]?) zs parts = some out) : Yv P N ρ w ⟨d, .build T x.toArray, ty, ps, af, gd⟩ (.agg out.toArray) := fun a ha => by
  obtain ⟨v, fs, h1, h2, h3, h4⟩ := hc.h
  have hf := fillL_spec _ _ _ _ hfl
  have hm' := parts_spec ha hx
  have h5 := h4 w
  simp only [execOp, Instr.build, Sem.run_bind, run_zeroValue' h1, Result.andThen_ok, h2, run_underlying h3]
  rw [h5]
  simp only [Result.andThen_ok, List.map_toArray, hm', hf]
  rfl
/-- An array literal. -/
theorem yv_buildA {x : List (Nat × Operand)} {n : Nat} {e : TypeId} {s : Nat} {zs : List Value} [hc : CA P T n e s zs] {parts : List (Nat × Value)} {out : List Value}
    (hx : evp ρ x = some parts) (hfl : fillL (fun i => some (i * s, s)) zs parts = some out) : Yv P N ρ w ⟨d, .build T x.toArray, ty, ps, af, gd⟩ (.agg out.toArray) := fun a ha => by
  obtain ⟨v, h1, h2⟩ := hc.h
  have hf := fillL_spec _ _ _ _ hfl
  have hm' := parts_spec ha hx
  simp only [execOp, Instr.build, Sem.run_bind, run_zeroValue' h1, Result.andThen_ok, h2, run_underlying hc.u, run_sizeOf' hc.i, List.map_toArray, hm', hf]
  rfl
def rep : Nat → List Value → List Value
  | 0, _ => []
  | n + 1, l => l ++ rep n l
theorem rep_get (l : List Value) (hl : 0 < l.length) : ∀ (n j : Nat), (rep n l)[j]? = if j < n * l.length then l[j % l.length]? else none
  | 0, j => by simp [rep]
  | n + 1, j => by
    simp only [rep, List.getElem?_append]
    by_cases h : j < l.length
    · have h2 : j < (n + 1) * l.length := by rw [Nat.add_mul]; omega
      rw [if_pos h, if_pos h2, Nat.mod_eq_of_lt h]
    · rw [if_neg h, rep_get l hl n (j - l.length)]
      have h3 : j % l.length = (j - l.length) % l.length := Nat.mod_eq_sub_mod (by omega)
      rw [h3]
      by_cases h4 : j - l.length < n * l.length
      · rw [if_pos h4, if_pos (by rw [Nat.add_mul]; omega)]
      · rw [if_neg h4, if_neg (by rw [Nat.add_mul]; omega)]
theorem rep_spec {z : Value} {sz n : Nat} (h5 : z.cells.size = sz) (h6 : 0 < sz) : (Array.range (n * sz)).map (z.cells[· % z.cells.size]!) = (rep n (cl z)).toArray := by
  have hl : (cl z).length = sz := by rw [← cl_spec, Array.length_toList, h5]
  apply Array.ext_getElem?
  intro j
  have e0 : (rep n (cl z)).toArray[j]? = (rep n (cl z))[j]? := by simp
  rw [e0, rep_get (cl z) (by omega) n j, hl]
  by_cases h : j < n * sz
  · rw [if_pos h]
    have hm : j % sz < sz := Nat.mod_lt _ h6
    have e : (cl z)[j % sz]? = some ((cl z)[j % sz]'(by omega)) := List.getElem?_eq_getElem _
    rw [e]
    simp only [Array.getElem?_map, Array.getElem?_range, h, if_true, Option.map_some, Option.some.injEq, h5]
    have e2 : z.cells[j % sz]! = z.cells[j % sz]'(by omega) := getElem!_pos z.cells (j % sz) (by omega)
    rw [e2]
    have e3 : z.cells[j % sz]'(by omega) = z.cells.toList[j % sz]'(by rw [Array.length_toList]; omega) := rfl
    rw [e3]
    congr 1
    exact cl_spec z
  · rw [if_neg h]
    simp [h]
theorem rg_buildSlice {d : Nat} {x : List (Nat × Operand)} {n : Nat} {e : TypeId} {sz b : Nat} {z : Value} [hc : CL P T e sz b z] {parts : List (Nat × Value)} {out : List Value} (hs : St w0 w M L)
    (hx : evp ρ x = some parts) (hfl : fillL (fun i => some (i * sz, sz)) (rep n (cl z)) parts = some out)
    (hn : Nat.ble n 1000 = true) (h16 : Nat.ble sz 1000 = true) (h0 : Nat.blt 0 n = true) (hg : want ops ρ gd = some true) (hd : Nat.blt d N = true)
    (hk : ∀ g w', St w0 w' M (.blk g e out :: L) → Rg P N ops rest ((d, .slice (some ⟨g, 0, none⟩) n n) :: ρ) w' K) : Rg P N ops (⟨some d, .buildSlice T n x.toArray, ty, ps, af, gd⟩ :: rest) ρ w K := by
  obtain ⟨inf, h2, h2z, h3, _, h5, h6⟩ := hc.h
  refine rg_w (v := .slice (some ⟨w.heap.size, 0, none⟩) n n) (w' := w.alloc (.cells out.toArray e)) hg hd (fun a ha => ?_) (hk _ _ (hs.alloc out e))
  have hm' := parts_spec ha hx
  have hf := fillL_spec _ _ _ _ hfl
  rw [← rep_spec h5 h6] at hf
  have hi : (P.info? e).map (·.size) = some sz := by simp [h2, h3]
  have hz : (P.info? e).bind (·.zero) = some z := by simp [h2, h2z]
  have h0' : 0 < n := by simpa [Nat.blt_eq] using h0
  have hle : ¬ n * sz > 2 ^ 24 := by have : n * sz ≤ 1000 * 1000 := Nat.mul_le_mul (Nat.le_of_ble_eq_true hn) (Nat.le_of_ble_eq_true h16); omega
  have hne : ¬ n * sz = 0 := by have := Nat.mul_pos h0' h6; omega
  simp only [execOp, Instr.buildSlice, Sem.run_bind, run_underlying hc.u, Result.andThen_ok, run_sizeOf' hi, hle, if_false, Sem.run_pure, hne, run_zeroValue' hz, List.map_toArray, hm', hf, newRow, run_newObj]
  rfl

/-! ### Stores -/
theorem run_storeB {g off : Nat} {t : TypeId} {cs vs : List Value} {v : Value} {s : Nat} (hz : (P.info? T).map (·.size) = some s) (hg : w.heap[g]? = some (.cells cs.toArray t (0, 0))) (hv : v.cells.toList = vs) (hl : vs.length = s) (hfit : off + s ≤ cs.length) (h1 : vs.all Value.oneCell' = true) :
    (storeVar T ⟨g, off, none⟩ v).run P w = .ok () (w.setRow g (putCells cs off vs).toArray) := by
  have hsz : v.cells.size = s := by rw [← hl, ← hv, Array.length_toList]
  have := run_storeCells_at P g off t vs 0 cs.toArray w hg (by simpa [hl] using hfit) (fun u hu => List.all_eq_true.1 h1 u hu)
  simp only [Nat.add_zero] at this
  simp only [storeVar, Sem.run_bind, run_sizeOf' hz, Result.andThen_ok, hsz, ne_eq, not_true_eq_false, if_false, hv, this, putCells]
theorem rg_store (i : Nat) {x y : Operand} {g off : Nat} {t : TypeId} {cs vs : List Value} {v : Value} {s : Nat} [hz : CN P T s] (hs : St w0 w M L)
    (hx : evo ρ x = some (.pointer (some ⟨g, off, none⟩))) (hi : L[i]? = some (.blk g t cs)) (hy : evo ρ y = some v) (hv : v.cells.toList = vs) (hl : vs.length = s) (hfit : Nat.ble (off + s) cs.length = true) (h1 : vs.all Value.oneCell' = true) (hg : want ops ρ gd = some true)
    (hk : ∀ w', St w0 w' M (L.set i (.blk g t (putCells cs off vs))) → Rg P N ops rest ρ w' K) : Rg P N ops (⟨none, .store T x y, ty, ps, af, gd⟩ :: rest) ρ w K := by
  have hb := hs.hl _ (List.mem_of_getElem? hi)
  refine rg_u (w' := w.setRow g (putCells cs off vs).toArray) hg (fun a ha => ?_) (hk _ ?_)
  · simp only [execOp, Instr.storeAt, ha.ev hx, ha.ev hy, Instr.sureAddr, Sem.run_bind, Sem.run_pure, Result.andThen_ok, run_storeB hz.z hb hv hl (Nat.le_of_ble_eq_true hfit) h1]
  · refine hs.turn hi (setRow_heap w g _ _ t _ hb) rfl rfl rfl (by simp [World.setRow]) (fun k _ hne => setRow_other w g k _ fun e => hne (by simp [Res.has, e])) (fun k hk => .inl hk)
theorem rg_storeM (i : Nat) {x y : Operand} {g off : Nat} {t : TypeId} {cs vs : List Value} {v : Value} {s : Nat} [hz : CN P T s] (hs : St w0 w M L)
    (hx : evo ρ x = some (.pointer (some ⟨g, off, none⟩))) (hi : M[i]? = some (.blk g t cs)) (hy : evo ρ y = some v) (hv : v.cells.toList = vs) (hl : vs.length = s) (hfit : Nat.ble (off + s) cs.length = true) (h1 : vs.all Value.oneCell' = true) (hg : want ops ρ gd = some true)
    (hk : ∀ w', St w0 w' (M.set i (.blk g t (putCells cs off vs))) L → Rg P N ops rest ρ w' K) : Rg P N ops (⟨none, .store T x y, ty, ps, af, gd⟩ :: rest) ρ w K := by
  have hb := hs.hm _ (List.mem_of_getElem? hi)
  refine rg_u (w' := w.setRow g (putCells cs off vs).toArray) hg (fun a ha => ?_) (hk _ ?_)
  · simp only [execOp, Instr.storeAt, ha.ev hx, ha.ev hy, Instr.sureAddr, Sem.run_bind, Sem.run_pure, Result.andThen_ok, run_storeB hz.z hb hv hl (Nat.le_of_ble_eq_true hfit) h1]
  · refine hs.turnM hi (setRow_heap w g _ _ t _ hb) rfl rfl rfl (by simp [World.setRow]) (fun k _ hne => setRow_other w g k _ fun e => hne (by simp [Res.has, e])) rfl

/-! ### Calls -/
def evl (ρ : Env) : List Operand → Option (List Value)
  | [] => some []
  | x :: xs => match evo ρ x with
    | none => none
    | some v => match evl ρ xs with
      | none => none
      | some vs => some (v :: vs)
theorem evl_spec {a : Act} (ha : Holds N a ρ) : ∀ {xs : List Operand} {vs : List Value}, evl ρ xs = some vs → xs.map a.eval = vs
  | [], vs, h => by simp only [evl, Option.some.injEq] at h; subst h; rfl
  | x :: xs, vs, h => by
    simp only [evl] at h
    split at h
    · cases h
    · rename_i v hv
      split at h
      · cases h
      · rename_i us hu
        simp only [Option.some.injEq] at h
        subst h
        simp only [List.map_cons, ha.ev hv, evl_spec ha hu]
theorem run_callop {f : FuncId} [hf : CFn P f] {xs : List Operand} {vs : List Value} {ts : Array TypeId} (hx : evl ρ xs = some vs) {a : Act} (ha : Holds N a ρ) :
    (execOp a.eval ⟨d, .call { callee := .value (.func f), args := xs.toArray, argTypes := ts }, ty, ps, af, gd⟩).run P w = .ok (.enter f vs.toArray) w := by
  simp only [execOp, resolve, Act.eval, Deferred.ofValue, List.map_toArray, evl_spec ha hx, Sem.run_bind, Sem.run_pure, Result.andThen_ok, invoke]
  simpa using hf.h vs.toArray w
theorem rg_call {d : Nat} {f : FuncId} [hf : CFn P f] {xs : List Operand} {vs : List Value} {ts : Array TypeId} {R : Ending → World → Prop} (hc : Calls P f vs.toArray w R) (hx : evl ρ xs = some vs) (hg : want ops ρ gd = some true) (hd : Nat.blt d N = true)
    (hk : ∀ e w', R e w' → ∃ v, e = .returned v ∧ Rg P N ops rest ((d, v) :: ρ) w' K) : Rg P N ops (⟨some d, .call { callee := .value (.func f), args := xs.toArray, argTypes := ts }, ty, ps, af, gd⟩ :: rest) ρ w K := fun a ha => by
  refine wpList_step fun J hJ => ?_
  rw [want_spec (o := ⟨some d, .call { callee := .value (.func f), args := xs.toArray, argTypes := ts }, ty, ps, af, gd⟩) ha hg, if_pos rfl]
  unfold Oper.wp
  rw [run_callop hx ha, Oper.upon_enter]
  refine hc.mono fun _ w' hR => ?_
  obtain ⟨v, rfl, h2⟩ := hk _ w' hR
  exact hJ _ _ (h2 _ (ha.put hd v))
theorem rg_calln {f : FuncId} [hf : CFn P f] {xs : List Operand} {vs : List Value} {ts : Array TypeId} {R : Ending → World → Prop} (hc : Calls P f vs.toArray w R) (hx : evl ρ xs = some vs) (hg : want ops ρ gd = some true)
    (hk : ∀ e w', R e w' → ∃ v, e = .returned v ∧ Rg P N ops rest ρ w' K) : Rg P N ops (⟨none, .call { callee := .value (.func f), args := xs.toArray, argTypes := ts }, ty, ps, af, gd⟩ :: rest) ρ w K := fun a ha => by
  refine wpList_step fun J hJ => ?_
  rw [want_spec (o := ⟨none, .call { callee := .value (.func f), args := xs.toArray, argTypes := ts }, ty, ps, af, gd⟩) ha hg, if_pos rfl]
  unfold Oper.wp
  rw [run_callop hx ha, Oper.upon_enter]
  refine hc.mono fun _ w' hR => ?_
  obtain ⟨v, rfl, h2⟩ := hk _ w' hR
  exact hJ _ _ (h2 _ ha)
/-- A call that hands back this value and leaves nothing. -/
def Gives (P : Program) (f : FuncId) (vs : List Value) (w : World) (v : Value) : Prop := Calls P f vs.toArray w fun e w' => e = .returned v ∧ St w w' [] []
theorem rg_call0 {d : Nat} {f : FuncId} [hf : CFn P f] {xs : List Operand} {vs : List Value} {ts : Array TypeId} {v : Value} (hc : Gives P f vs w v) (hs : St w0 w M L) (hx : evl ρ xs = some vs) (hg : want ops ρ gd = some true) (hd : Nat.blt d N = true)
    (hk : ∀ w', St w0 w' M L → Rg P N ops rest ((d, v) :: ρ) w' K) : Rg P N ops (⟨some d, .call { callee := .value (.func f), args := xs.toArray, argTypes := ts }, ty, ps, af, gd⟩ :: rest) ρ w K :=
  rg_call hc hx hg hd fun _ w' ⟨he, h'⟩ => ⟨v, he, hk w' (hs.call0 h')⟩
theorem rg_callb {d : Nat} {f : FuncId} [hf : CFn P f] {xs : List Operand} {vs : List Value} {ts : Array TypeId} {p : Prop} [Decidable p] (hc : Gives P f vs w (.bool (decide p))) (hs : St w0 w M L) (hx : evl ρ xs = some vs) (hg : want ops ρ gd = some true) (hd : Nat.blt d N = true)
    (ht : p → ∀ w', St w0 w' M L → Rg P N ops rest ((d, .bool true) :: ρ) w' K) (hf : ¬ p → ∀ w', St w0 w' M L → Rg P N ops rest ((d, .bool false) :: ρ) w' K) : Rg P N ops (⟨some d, .call { callee := .value (.func f), args := xs.toArray, argTypes := ts }, ty, ps, af, gd⟩ :: rest) ρ w K := by
  by_cases h : p
  · exact rg_call0 (by rwa [decide_eq_true h] at hc) hs hx hg hd (ht h)
  · exact rg_call0 (by rwa [decide_eq_false h] at hc) hs hx hg hd (hf h)
theorem rg_callbt {d : Nat} {f : FuncId} [hf : CFn P f] {xs : List Operand} {vs : List Value} {ts : Array TypeId} {p : Prop} [Decidable p] (hc : Gives P f vs w (.bool (decide p))) (hs : St w0 w M L) (hx : evl ρ xs = some vs) (h : p) (hg : want ops ρ gd = some true) (hd : Nat.blt d N = true)
    (ht : ∀ w', St w0 w' M L → Rg P N ops rest ((d, .bool true) :: ρ) w' K) : Rg P N ops (⟨some d, .call { callee := .value (.func f), args := xs.toArray, argTypes := ts }, ty, ps, af, gd⟩ :: rest) ρ w K :=
  rg_call0 (by rwa [decide_eq_true h] at hc) hs hx hg hd ht
theorem rg_callbf {d : Nat} {f : FuncId} [hf : CFn P f] {xs : List Operand} {vs : List Value} {ts : Array TypeId} {p : Prop} [Decidable p] (hc : Gives P f vs w (.bool (decide p))) (hs : St w0 w M L) (hx : evl ρ xs = some vs) (h : ¬ p) (hg : want ops ρ gd = some true) (hd : Nat.blt d N = true)
    (hf : ∀ w', St w0 w' M L → Rg P N ops rest ((d, .bool false) :: ρ) w' K) : Rg P N ops (⟨some d, .call { callee := .value (.func f), args := xs.toArray, argTypes := ts }, ty, ps, af, gd⟩ :: rest) ρ w K :=
  rg_call0 (by rwa [decide_eq_false h] at hc) hs hx hg hd hf

/-! ### append onto a row of the call's own -/
theorem run_append_row (P : Program) (w : World) (t ty e : TypeId) (i : TypeInfo) (z : Value) (size bytes : Nat) (ht : P.underlying t = some (.slice e)) (hi : P.info? e = some i) (hz : i.zero = some z)
    (hsize : i.size = size) (hby : i.bytes = bytes) (hzs : z.cells.size = size) (hsz : 0 < size) {A : Option Addr} {n cap : Nat} {xs : List Value} (h : rowOk w A cap e size n xs)
    (A2 : Option Addr) (m c : Nat) (news : List Value) (hl : news.length = m * size) (hn0 : A2 = none → m = 0) (hnews : ∀ ad, A2 = some ad → ∀ j u, news[j]? = some u → w.cell? (ad.add j) = some u) (h1 : ∀ u ∈ news, u.oneCell' = true)
    (hmax : n + m ≤ 1000000000) (hbytes : (n + m) * bytes ≤ 140737488355328) :
    ∃ A' cap' w', (Builtin.append_ #[t, t] ty #[.slice A n cap, .slice A2 m c]).run P w = .ok (.slice A' (n + m) cap') w' ∧ rowOk w' A' cap' e size (n + m) (xs ++ news) ∧ w.grownBy w' (A.map (·.block)) ∧
      (A'.map (·.block) = A.map (·.block) ∨ A'.map (·.block) = some w.heap.size) := by
  subst hsize
  subst hby
  have hlen : (xs ++ news).length = (n + m) * i.size := by rw [List.length_append, h.1, hl, Nat.add_mul]
  by_cases hm : m = 0
  · subst hm
    have hn : news = [] := List.eq_nil_of_length_eq_zero (by simpa using hl)
    subst hn
    have hcap : n ≤ cap := by rcases h.2.2 with ⟨_, h2, h3⟩ | ⟨g, o, cur, _, _, h2, _⟩ <;> omega
    refine ⟨A, cap, w, ?_, by simpa using h, ⟨rfl, rfl, rfl, Nat.le_refl _, fun _ _ _ => rfl⟩, Or.inl rfl⟩
    cases A2 <;> cases A <;> simp [Builtin.append_, run_underlying ht, sizeOf, typeInfo, hi, Builtin.lenOf, Builtin.firstCells, loadCells, loadCellsFrom, storeCells, hcap]
  obtain ⟨a, rfl⟩ : ∃ a, A2 = some a := by cases A2 with
    | none => exact absurd (hn0 rfl) hm
    | some a => exact ⟨a, rfl⟩
  have hnews := hnews a rfl
  have grown : ∀ (old : Nat), old < n + m → ∀ (row : Option Nat),
      rowOk (w.drew.alloc (.cells (xs.toArray ++ news.toArray ++ Builtin.zeroCells z.cells (grownCap w (n + m) old e - (n + m))) e)) (some ⟨w.heap.size, 0, none⟩) (grownCap w (n + m) old e) e i.size (n + m) (xs ++ news) ∧
      w.grownBy (w.drew.alloc (.cells (xs.toArray ++ news.toArray ++ Builtin.zeroCells z.cells (grownCap w (n + m) old e - (n + m))) e)) row := by
    intro old ho row
    have hge := grownCap_ge w (n + m) old e
    have hcm : grownCap w (n + m) old e ≤ maxLen := grownCap_le_maxLen w (n + m) old e (by simp only [maxLen]; omega)
    refine ⟨⟨hlen, hmax, .inr ⟨w.heap.size, 0, _, rfl, heap_alloc_new w.drew _, hge, hcm, ?_, ?_⟩⟩, ⟨rfl, rfl, rfl, by simp, fun k hk _ => heap_alloc_old w.drew _ hk⟩⟩
    · simp only [Array.size_append, List.size_toArray, size_zeroCells, hzs, h.1, hl, ← Nat.add_mul, Nat.zero_add]
      exact Nat.mul_le_mul_right _ (by omega)
    · simp only [Array.toList_append, List.append_assoc, List.drop_zero]
      rw [← List.append_assoc, ← hlen]
      exact List.take_left
  rcases h.2.2 with ⟨rfl, rfl, rfl⟩ | ⟨g, o, cur, rfl, hg, hnc, hcm, hcs, htake⟩
  · have hx : xs = [] := List.eq_nil_of_length_eq_zero (by simpa using h.1)
    subst hx
    have hr := run_append_nil (P := P) w t ty e i z ht hi hz a m c news hl hnews (by omega) (by omega) (by have hb := hbytes; simp only [Nat.zero_add] at hb; omega)
    have hgr := grown 0 (by omega) none
    simp only [Nat.zero_add, List.nil_append, Array.empty_append] at hgr ⊢
    exact ⟨_, _, _, hr, hgr.1, hgr.2, Or.inr rfl⟩
  · by_cases hroom : n + m ≤ cap
    · have hfit : o + n * i.size + news.length ≤ cur.size := by
        rw [hl, Nat.add_assoc, ← Nat.add_mul]
        exact Nat.le_trans (Nat.add_le_add_left (Nat.mul_le_mul_right _ hroom) _) hcs
      have hf := run_firstCells_some (P := P) w i.size m a m c news hl hnews
      have hst := run_storeCells_at P g (o + n * i.size) e news 0 cur w hg (by simpa using hfit) h1
      simp only [Nat.add_zero] at hst
      have hr : (Builtin.append_ #[t, t] ty #[.slice (some ⟨g, o, none⟩) n cap, .slice (some a) m c]).run P w =
          .ok (.slice (some ⟨g, o, none⟩) (n + m) cap) (w.setRow g (cur.toList.take (o + n * i.size) ++ news ++ cur.toList.drop (o + n * i.size + news.length)).toArray) := by
        simp [Builtin.append_, run_underlying ht, sizeOf, typeInfo, hi, Builtin.lenOf, hroom, hf, Addr.add_lit, hst]
      refine ⟨_, _, _, hr, ⟨hlen, hmax, .inr ⟨g, o, _, rfl, setRow_heap w g cur _ e _ hg, hroom, hcm, ?_, ?_⟩⟩, ⟨rfl, rfl, rfl, by simp, fun k _ hk => setRow_other w g k _ (fun e => hk (by simp [e]))⟩, Or.inl rfl⟩
      · simp only [List.size_toArray, List.length_append, List.length_take, List.length_drop, Array.length_toList]
        omega
      · have h3 : (cur.toList.take (o + n * i.size) ++ news ++ cur.toList.drop (o + n * i.size + news.length)).drop o = xs ++ (news ++ cur.toList.drop (o + n * i.size + news.length)) := by
          rw [List.append_assoc, List.drop_append_of_le_length (by simp only [List.length_take, Array.length_toList]; omega), List.drop_take, ← htake]
          congr 2
          omega
        rw [h3, ← List.append_assoc, ← hlen]
        exact List.take_left
    · have hr := run_append_grow (P := P) w t ty e i z ht hi hz ⟨g, o, none⟩ n cap xs h.1 (h.cells rfl) a m c news hl hnews (by omega) (by omega) (growslice_fits (by omega) hbytes)
      have hgr := grown cap (by omega) (some g)
      exact ⟨_, _, _, hr, hgr.1, hgr.2, Or.inr rfl⟩
end

/-! ### What a call hands back -/
inductive RV (P : Program) (w : World) (ρ : Env) : ResultVar → Value → Prop where
  | tmp {t : Tmp} {v : Value} : look ρ t = some v → RV P w ρ (.tmp t) v
  | cell {t : Tmp} {T : TypeId} {p : Addr} {v : Value} : look ρ t = some (.pointer (some p)) → Ld P w T p v → RV P w ρ (.cell t T) v
def kRet (P : Program) (fn : Func) (N : Nat) (R : Ending → World → Prop) : Kont := fun e ρ w =>
  (e = .ret ∨ e = .normal) ∧ ∃ v, (∀ a, Holds N a ρ → (results fn a.tmps).run P w = .ok v w) ∧ R (.returned v) w

section
variable {P : Program} {fn : Func} {N : Nat} {ρ : Env} {w : World} {R : Ending → World → Prop}
def rvSem (tmps : Array Value) : ResultVar → Sem Value
  | .tmp t => pure (tmps.getD t undef)
  | .cell x t => do loadVar t (← asAddr (tmps.getD x undef))
theorem RV.run {r : ResultVar} {v : Value} (h : RV P w ρ r v) {a : Act} (ha : Holds N a ρ) : (rvSem a.tmps r).run P w = .ok v w := by
  cases h with
  | tmp h => simp only [rvSem, Sem.run_pure, ha.at_ _ _ h]
  | cell h hl =>
    unfold Ld at hl
    simp only [rvSem, ha.at_ _ _ h, asAddr, Sem.run_bind, Sem.run_pure, Result.andThen_ok, hl]
theorem results_eq (tmps : Array Value) : results fn tmps = (do
    let vs ← fn.results.mapM (rvSem tmps)
    pure (if h : vs.size = 1 then vs[0] else .tuple vs)) := by
  unfold results
  rfl
theorem k_ret0 (hr : fn.results = #[]) (hR : R (.returned (.tuple #[])) w) : kRet P fn N R .ret ρ w :=
  ⟨.inl rfl, _, fun a _ => results_none hr a.tmps P w, hR⟩
theorem k_ret0n (hr : fn.results = #[]) (hR : R (.returned (.tuple #[])) w) : kRet P fn N R .normal ρ w :=
  ⟨.inr rfl, _, fun a _ => results_none hr a.tmps P w, hR⟩
theorem k_ret1 {r1 : ResultVar} {v1 : Value} (hr : fn.results = #[r1]) (h1 : RV P w ρ r1 v1) (hR : R (.returned v1) w) : kRet P fn N R .ret ρ w :=
  ⟨.inl rfl, v1, fun a ha => by
    have := h1.run ha
    rw [results_eq, hr]
    simp [this], hR⟩
theorem k_ret2 {r1 r2 : ResultVar} {v1 v2 : Value} (hr : fn.results = #[r1, r2]) (h1 : RV P w ρ r1 v1) (h2 : RV P w ρ r2 v2) (hR : R (.returned (.tuple #[v1, v2])) w) : kRet P fn N R .ret ρ w :=
  ⟨.inl rfl, _, fun a ha => by
    have e1 := h1.run ha
    have e2 := h2.run ha
    rw [results_eq, hr]
    simp [e1, e2], hR⟩
theorem k_ret3 {r1 r2 r3 : ResultVar} {v1 v2 v3 : Value} (hr : fn.results = #[r1, r2, r3]) (h1 : RV P w ρ r1 v1) (h2 : RV P w ρ r2 v2) (h3 : RV P w ρ r3 v3) (hR : R (.returned (.tuple #[v1, v2, v3])) w) : kRet P fn N R .ret ρ w :=
  ⟨.inl rfl, _, fun a ha => by
    have e1 := h1.run ha
    have e2 := h2.run ha
    have e3 := h3.run ha
    rw [results_eq, hr]
    simp [e1, e2, e3], hR⟩

def argEnv : Nat → List Value → Env
  | _, [] => []
  | i, v :: vs => (i, v) :: argEnv (i + 1) vs
theorem argEnv_look : ∀ (vs : List Value) (i t : Nat) (v : Value), look (argEnv i vs) t = some v → i ≤ t ∧ vs[t - i]? = some v
  | [], i, t, v, h => by simp [argEnv, look] at h
  | u :: vs, i, t, v, h => by
    simp only [argEnv, look] at h
    by_cases e : i = t
    · subst e
      have hb : Nat.beq i i = true := by simp
      rw [hb] at h
      simp only [cond_true, Option.some.injEq] at h
      subst h
      simp
    · have hb : Nat.beq i t = false := by rw [← Bool.not_eq_true, Nat.beq_eq]; exact e
      rw [hb] at h
      obtain ⟨h1, h2⟩ := argEnv_look vs (i + 1) t v h
      refine ⟨by omega, ?_⟩
      rw [show t - i = (t - (i + 1)) + 1 from by omega, List.getElem?_cons_succ]
      exact h2
theorem calls_enter {f : FuncId} {c : Code} {vs : List Value} {ρ0 : Env} (hf : P.funcs[f]? = some fn) (hb : fn.body = some c) (hN : fn.ntmps = N) (hl : Nat.ble vs.length N = true) (hE : argEnv 0 vs = ρ0) (h : Rn P N c ρ0 w (kRet P fn N R)) : Calls P f vs.toArray w R := by
  subst hE hN
  refine calls_of_wp hf hb (Code.wp_mono (fun e a w hq => ?_) (h _ ⟨rfl, ?_, fun t v hl => ?_⟩))
  · obtain ⟨ρ', hh, he, v, hr, hR⟩ := hq
    rcases he with rfl | rfl
    · exact ⟨hh.dn, v, hr a hh, hR⟩
    · exact ⟨hh.dn, v, hr a hh, hR⟩
  · have := Nat.le_of_ble_eq_true hl
    simp only [Array.size_append, List.size_toArray, Array.size_replicate]
    omega
  · obtain ⟨_, h2⟩ := argEnv_look vs 0 t v hl
    have : t < vs.length := by have := (List.getElem?_eq_some_iff.1 h2).1; omega
    simp only [Nat.sub_zero, List.getElem?_eq_getElem this, Option.some.injEq] at h2
    simp [Array.getD_eq_getD_getElem?, Array.getElem?_append, this, h2]
end

/-! ### Regions that draw their order -/
section
variable {P : Program} {ops : Array Oper} {Q : Exit → Act → World → Prop} {D : World → Prop} {ph : List Nat}

/-- The world has grown by blocks that nobody needs. -/
def Gr (w w' : World) : Prop := St w w' [] []
theorem Gr.refl (w : World) : Gr w w := St.refl w
theorem Gr.trans {a b c : World} (h : Gr a b) (k : Gr b c) : Gr a c := St.call0 h k

/-- In state 'a', in every world of the class, the operation leaves 'v' in its temporary and lets the world grow. -/
def Oper.givesUpon (P : Program) (w : World) (v : Value) : Result Next → Prop
  | .ok (.value u) w' => w' = w ∧ u = v
  | .ok (.enter f args) w' => w' = w ∧ Calls P f args w (fun e w'' => e = .returned v ∧ Gr w w'')
  | _ => False
def YG (P : Program) (ops : Array Oper) (D : World → Prop) (o : Oper) (v : Value) (a : Act) : Prop :=
  (Region.wanted o (yielded ops a.tmps) = true ∧ ∀ w, D w → Oper.givesUpon P w v ((execOp a.eval o).run P w)) ∨ (Region.wanted o (yielded ops a.tmps) = false ∧ v = undef)

theorem YG.of_same {o : Oper} {v : Value} {a a' : Act} (hy : YG P ops D o v a) (he : execOp a'.eval o = execOp a.eval o)
    (hw : Region.wanted o (yielded ops a'.tmps) = Region.wanted o (yielded ops a.tmps)) : YG P ops D o v a' := by
  unfold YG at *
  rw [he, hw]
  exact hy
theorem YG.wpOp {i : Nat} {o : Oper} {v : Value} {a : Act} {w : World} (hi : ops[i]? = some o) (hw : D w) (hy : YG P ops D o v a) {K : Act → World → Prop} (h : ∀ w', Gr w w' → K (a.put o.dst v) w') : wpOp P ops Q i K a w := by
  unfold Go.wpOp
  simp only [hi]
  rcases hy with ⟨hwt, hv⟩ | ⟨hwt, rfl⟩
  · simp only [hwt, if_true]
    left
    have h3 := hv w hw
    unfold Oper.wp
    generalize (execOp a.eval o).run P w = r at *
    cases r with
    | ok n w' =>
      cases n <;> simp only [Oper.givesUpon] at h3 <;> simp only [Oper.upon]
      case value u =>
        obtain ⟨e1, e2⟩ := h3
        rw [e1, e2]
        exact h w (Gr.refl w)
      case enter f args =>
        obtain ⟨e1, hc⟩ := h3
        rw [e1]
        exact hc.mono fun e w'' ⟨he, hw''⟩ => by subst he; exact h w'' hw''
    | halt x w' => simp only [Oper.givesUpon] at h3
  · simp only [hwt, Bool.false_eq_true, if_false]
    exact h w (Gr.refl w)

theorem wpOp_put {j : Nat} {oi oj : Oper} {v : Value} (hj : ops[j]? = some oj) (hap : oi.apart ops oj = true) (hsi : ∀ cs b, oi.op ≠ .select cs b) (hsj : ∀ cs b, oj.op ≠ .select cs b)
    (hQ : ∀ c a w, ¬ Q (.panic c) a w) {K : Act → World → Prop} {a : Act} {w : World} (hy : YG P ops D oi v a) (h : wpOp P ops Q j K (a.put oi.dst v) w) :
    wpOp P ops Q j (fun a' w' => YG P ops D oi v a' ∧ K (a'.put oi.dst v) w') a w := by
  obtain ⟨h1, h2, h3⟩ := Oper.apart_spec hap
  have keep : ∀ (a : Act), YG P ops D oi v a → ∀ u, YG P ops D oi v (a.put oj.dst u) := fun a hy u =>
    hy.of_same (execOp_put oi hsi a oj.dst u h3) (wanted_put oi a oj.dst u h3)
  unfold wpOp at *
  simp only [hj] at *
  rw [wanted_put oj a oi.dst v h1] at h
  split
  · rename_i hw
    simp only [hw, if_true] at h
    rcases h with h | ⟨h, ho⟩
    · left
      unfold Oper.wp at *
      rw [execOp_put oj hsj a oi.dst v h1] at h
      generalize (execOp a.eval oj).run P w = r at *
      cases r with
      | ok n w' =>
        cases n <;> simp only [Oper.upon] at h ⊢
        case value u => exact ⟨keep a hy u, by rw [← Act.put_comm a v u h2]; exact h⟩
        case skip => exact ⟨keep a hy _, by rw [← Act.put_comm a v undef h2]; exact h⟩
        case defer d =>
          have hy' : YG P ops D oi v { a with defers := d :: a.defers } := hy
          refine ⟨keep _ hy' _, ?_⟩
          rw [← Act.put_comm { a with defers := d :: a.defers } v undef h2]
          have e : ({ a.put oi.dst v with defers := d :: (a.put oi.dst v).defers } : Act) = ({ a with defers := d :: a.defers } : Act).put oi.dst v := by
            cases oi.dst <;> rfl
          rw [← e]
          exact h
        case enter f args =>
          refine h.mono fun e w'' hh => ?_
          cases e with
          | returned u => exact ⟨keep a hy u, by rw [← Act.put_comm a v u h2]; exact hh⟩
          | panicked c => exact absurd hh (hQ _ _ _)
          | outgrown => exact hh
        case row row args => exact h.mono fun u w'' hh => ⟨keep a hy u, by rw [← Act.put_comm a v u h2]; exact hh⟩
      | halt x w' =>
        cases x <;> simp only [Oper.upon] at h ⊢
        case panic u => exact absurd h (hQ _ _ _)
    · right
      refine ⟨?_, ho⟩
      unfold Oper.asks at *
      rwa [execOp_put oj hsj a oi.dst v h1] at h
  · rename_i hw
    simp only [hw] at h
    exact ⟨keep a hy _, by rw [← Act.put_comm a v undef h2]; exact h⟩

def wpAnyG (P : Program) (ops : Array Oper) (Q : Exit → Act → World → Prop) (D : World → Prop) (ph : List Nat) : Nat → Array Bool → Act → World → Prop
  | 0, listed, a, w => Region.ready .any ops listed = [] ∧ Q .normal a w
  | fuel + 1, listed, a, w => (Region.ready .any ops listed = [] → Q .normal a w) ∧
    ∀ i ∈ Region.ready .any ops listed, wpOp P ops Q i (fun a' w' => (i ∈ ph → D w') ∧ ∀ w'', Gr w' w'' → wpAnyG P ops Q D ph fuel (listed.setIfInBounds i true) a' w'') a w

theorem wpAny_of_G : ∀ (fuel : Nat) (listed : Array Bool) (a : Act) (w : World), wpAnyG P ops Q D ph fuel listed a w → wpAny P .any ops Q fuel listed a w
  | 0, _, _, _, h => h
  | fuel + 1, _, _, _, h => ⟨h.1, fun i hi => wpOp_mono (fun _ _ hh => wpAny_of_G fuel _ _ _ (hh.2 _ (Gr.refl _))) (h.2 i hi)⟩

/-- Does 'j' wait for 'i', through others too? -/
def waitsB (ops : Array Oper) : Nat → Nat → Nat → Bool
  | 0, _, _ => false
  | fuel + 1, j, i => match ops[j]? with
    | some o => o.after.any fun e => Region.binds .any e && (e.on == i || waitsB ops fuel e.on i)
    | none => false
/-- What has come up has all that it waits for behind it. -/
def Closed (ops : Array Oper) (listed : Array Bool) : Prop := ∀ j o, ops[j]? = some o → listed.getD j false = true → ∀ e ∈ o.after, Region.binds .any e = true → listed.getD e.on false = true

theorem waits_spec {listed : Array Bool} (hc : Closed ops listed) {i : Nat} : ∀ (fuel j : Nat), waitsB ops fuel j i = true → (∀ o, ops[j]? = some o → ∀ e ∈ o.after, Region.binds .any e = true → listed.getD e.on false = true) → listed.getD i false = true
  | 0, _, h, _ => by simp [waitsB] at h
  | fuel + 1, j, h, hp => by
    simp only [waitsB] at h
    cases ho : ops[j]? with
    | none => rw [ho] at h; cases h
    | some o =>
      rw [ho] at h
      simp only at h
      obtain ⟨e, he, hb⟩ := Array.any_eq_true'.1 h
      simp only [Bool.and_eq_true, Bool.or_eq_true, beq_iff_eq] at hb
      have h1 := hp o ho e he hb.1
      rcases hb.2 with h2 | h2
      · rwa [h2] at h1
      · exact waits_spec hc fuel e.on h2 fun o' ho' => hc e.on o' ho' h1

theorem closed_set {listed : Array Bool} (hc : Closed ops listed) {i : Nat} (hi : i ∈ Region.ready .any ops listed) : Closed ops (listed.setIfInBounds i true) := by
  intro j o ho hj e he hb
  obtain ⟨_, oi, hoi, hall⟩ := mem_ready.1 hi
  by_cases hij : i = j
  · subst hij
    obtain rfl : oi = o := Option.some.inj (hoi.symm.trans ho)
    exact getD_set_true (hall e he hb)
  · have : listed.getD j false = true := by simpa [Array.getElem?_setIfInBounds_ne hij] using hj
    exact getD_set_true (hc j o ho this e he hb)
theorem getD_tf {listed : Array Bool} {i : Nat} (h : listed.getD i true = false) : listed.getD i false ≠ true := by
  rcases Nat.lt_or_ge i listed.size with h' | h'
  · simp [h'] at h ⊢; exact h
  · simp [Array.getElem?_eq_none h'] at h

/-- **An operation that may come up now may be taken first.** -/
theorem wpAnyG_first {W : Nat → Nat → Prop} (hW : ∀ (listed : Array Bool), Closed ops listed → ∀ j i, W j i → (∀ o, ops[j]? = some o → ∀ e ∈ o.after, Region.binds .any e = true → listed.getD e.on false = true) → listed.getD i false = true) (hD : ∀ w w', D w → Gr w w' → D w') (hQ : ∀ c a w, ¬ Q (.panic c) a w) {i : Nat} {oi : Oper} {v : Value} (hi : ops[i]? = some oi) (hsel : ∀ (j : Nat) (o : Oper) cs b, ops[j]? = some o → o.op ≠ .select cs b) :
    ∀ (fuel : Nat) (listed : Array Bool) (a : Act) (w : World), Closed ops listed →
      (∀ j oj, ops[j]? = some oj → j ≠ i → listed.getD j true = false → W j i ∨ (oi.apart ops oj = true ∧ j ∈ ph)) →
      i ∈ Region.ready .any ops listed → D w → YG P ops D oi v a → (∀ w', Gr w w' → wpAnyG P ops Q D ph fuel (listed.setIfInBounds i true) (a.put oi.dst v) w') → wpAnyG P ops Q D ph (fuel + 1) listed a w := by
  intro fuel
  induction fuel with
  | zero =>
    intro listed a w _ _ hr hw hy H
    refine ⟨fun h => (by rw [h] at hr; cases hr), fun j hj => ?_⟩
    by_cases hji : j = i
    · subst hji
      exact hy.wpOp hi hw fun w' hg => ⟨fun _ => hD w w' hw hg, fun w'' hg' => H w'' (hg.trans hg')⟩
    · have := ready_mono hj hji
      rw [(H w (Gr.refl w)).1] at this
      cases this
  | succ fuel ih =>
    intro listed a w hc hfree hr hw hy H
    refine ⟨fun h => (by rw [h] at hr; cases hr), fun j hj => ?_⟩
    by_cases hji : j = i
    · subst hji
      exact hy.wpOp hi hw fun w' hg => ⟨fun _ => hD w w' hw hg, fun w'' hg' => H w'' (hg.trans hg')⟩
    · have h1 := (H w (Gr.refl w)).2 j (ready_mono hj hji)
      obtain ⟨hjun, oj, hoj, hall⟩ := mem_ready.1 hj
      have hiun := (mem_ready.1 hr).1
      have hnw : ¬ W j i := fun hwt =>
        getD_tf hiun (hW listed hc j i hwt fun o ho e he hb => by
          obtain rfl : oj = o := Option.some.inj (hoj.symm.trans ho)
          exact hall e he hb)
      obtain ⟨hap, hjph⟩ := (hfree j oj hoj hji hjun).resolve_left hnw
      have h2 := wpOp_put hoj hap (fun cs b => hsel i oi cs b hi) (fun cs b => hsel j oj cs b hoj) hQ hy h1
      have hfree' : ∀ k ok, ops[k]? = some ok → k ≠ i → (listed.setIfInBounds j true).getD k true = false → W k i ∨ (oi.apart ops ok = true ∧ k ∈ ph) := fun k ok hk hki hun => by
        refine hfree k ok hk hki ?_
        by_cases hjk : j = k
        · subst hjk; exact hjun
        · rw [getD_set_ne true hjk] at hun; exact hun
      refine wpOp_mono (fun a' w' h3 => ⟨fun _ => h3.2.1 hjph, fun w'' hg => ?_⟩) h2
      refine ih (listed.setIfInBounds j true) a' w'' (closed_set hc hj) hfree' (ready_mono hr (Ne.symm hji)) (hD w' w'' (h3.2.1 hjph) hg) h3.1 fun w3 hg3 => ?_
      have := h3.2.2 w3 (hg.trans hg3)
      rwa [Array.setIfInBounds_comm _ _ (Ne.symm hji)] at this

/-- The walk of one order: 'true': the operation yields the same value in every world of the class; 'false': it comes when nothing else can. -/
def wpLin (P : Program) (ops : Array Oper) (Q : Exit → Act → World → Prop) (D : World → Prop) (ph : List Nat) : List (Nat × Bool) → Act → World → Prop
  | [], a, w => Q .normal a w
  | (i, true) :: π, a, w => D w ∧ ∃ o v, ops[i]? = some o ∧ YG P ops D o v a ∧ ∀ w', Gr w w' → wpLin P ops Q D ph π (a.put o.dst v) w'
  | (i, false) :: π, a, w => wpOp P ops Q i (fun a' w' => (i ∈ ph → D w') ∧ ∀ w'', Gr w' w'' → wpLin P ops Q D ph π a' w'') a w
def linB (ops : Array Oper) (ph : List Nat) : List (Nat × Bool) → Array Bool → Bool
  | [], listed => (Region.ready .any ops listed).isEmpty
  | (i, true) :: π, listed => ph.contains i && (Region.ready .any ops listed).contains i &&
      (match ops[i]? with
       | some oi => (List.range ops.size).all fun j => j == i || listed.getD j true || waitsB ops ops.size j i || (match ops[j]? with | some oj => oi.apart ops oj && ph.contains j | none => true)
       | none => false) && linB ops ph π (listed.setIfInBounds i true)
  | (i, false) :: π, listed => (Region.ready .any ops listed == [i]) && linB ops ph π (listed.setIfInBounds i true)

theorem wpAnyG_lin (hD : ∀ w w', D w → Gr w w' → D w') (hQ : ∀ c a w, ¬ Q (.panic c) a w) (hsel : ∀ (j : Nat) (o : Oper) cs b, ops[j]? = some o → o.op ≠ .select cs b) :
    ∀ (π : List (Nat × Bool)) (listed : Array Bool) (a : Act) (w : World), Closed ops listed → linB ops ph π listed = true → wpLin P ops Q D ph π a w → wpAnyG P ops Q D ph π.length listed a w
  | [], listed, a, w, _, hB, h => ⟨by simpa [linB] using hB, h⟩
  | (i, true) :: π, listed, a, w, hc, hB, h => by
    obtain ⟨hw, o, v, ho, hy, hk⟩ := h
    simp only [linB, ho, Bool.and_eq_true, List.all_eq_true, List.mem_range, Bool.or_eq_true, beq_iff_eq] at hB
    obtain ⟨⟨⟨_, hr⟩, hf⟩, hB'⟩ := hB
    have hr' : i ∈ Region.ready .any ops listed := by simpa using hr
    refine wpAnyG_first (W := fun j i => waitsB ops ops.size j i = true) (fun listed hc j i h hp => waits_spec hc _ j h hp) hD hQ ho hsel π.length listed a w hc (fun j oj hj hne hun => ?_) hr' hw hy fun w' hg => wpAnyG_lin hD hQ hsel π _ _ w' (closed_set hc hr') hB' (hk w' hg)
    have h1 := hf j (Array.getElem?_eq_some_iff.1 hj).1
    simp only [hj, hne, false_or, hun, Bool.false_eq_true, Bool.and_eq_true] at h1
    rcases h1 with h1 | h1
    · exact .inl h1
    · exact .inr ⟨h1.1, by simpa using h1.2⟩
  | (i, false) :: π, listed, a, w, hc, hB, h => by
    simp only [linB, Bool.and_eq_true, beq_iff_eq] at hB
    obtain ⟨hr, hB'⟩ := hB
    have hr' : i ∈ Region.ready .any ops listed := by rw [hr]; simp
    refine ⟨fun h0 => (by rw [hr] at h0; cases h0), fun j hj => ?_⟩
    rw [hr] at hj
    simp only [List.mem_singleton] at hj
    subst hj
    exact wpOp_mono (fun a' w' hh => ⟨hh.1, fun w'' hg => wpAnyG_lin hD hQ hsel π _ a' w'' (closed_set hc hr') hB' (hh.2 w'' hg)⟩) h
end

section
variable {P : Program} {N : Nat} {ρ : Env} {w0 w : World} {K : Kont} {M L : List Res} {D : World → Prop} {ph : List Nat} {π : List (Nat × Bool)} {ops : Array Oper}
def NoPanic (K : Kont) : Prop := ∀ c ρ w, ¬ K (.panic c) ρ w
theorem np_seq {y : Code} (h : NoPanic K) : NoPanic (kSeq P N y K) := h
theorem np_blk {id : Nat} (h : NoPanic K) : NoPanic (kBlk id K) := h
theorem np_rnd {c : Code} {n : Nat} (h : NoPanic K) : NoPanic (kRnd P N c n K) := h
theorem np_loop {α : Type} {I : α → World → Prop} {E : α → Env} {m : α → Nat} {x : α} (h : NoPanic K) : NoPanic (kLoop I E m x K) := h
theorem np_ret {fn : Func} {R : Ending → World → Prop} : NoPanic (kRet P fn N R) := fun c ρ w h => by
  rcases h.1 with h | h <;> cases h

def Dr (P : Program) (N : Nat) (ops : Array Oper) (D : World → Prop) (ph : List Nat) (π : List (Nat × Bool)) (ρ : Env) (w : World) (K : Kont) : Prop := ∀ a, Holds N a ρ → wpLin P ops (lift N K) D ph π a w
def kDr (P : Program) (N : Nat) (ops : Array Oper) (D : World → Prop) (ph : List Nat) (i : Nat) (π : List (Nat × Bool)) (K : Kont) : Kont
  | .normal, ρ, w => (i ∈ ph → D w) ∧ ∀ w', Gr w w' → Dr P N ops D ph π ρ w' K
  | e, ρ, w => K e ρ w
theorem rn_draw (id : Nat) {l : List Oper} (D : World → Prop) (ph : List Nat) (π : List (Nat × Bool)) (hm : P.follows .mixedOrders = true) (hp : NoPanic K) (hs : Region.noSelect l.toArray = true) (hl : π.length = l.length) (hB : linB l.toArray ph π (Array.replicate l.length false) = true)
    (hD : ∀ w w', D w → Gr w w' → D w') (h : ∀ w', Gr w w' → Dr P N l.toArray D ph π ρ w' K) : Rn P N (.region id l.toArray true) ρ w K := fun a ha => by
  refine wp_region_any hm (wpAny_of_G (D := D) (ph := ph) _ _ _ _ ?_)
  have hQ : ∀ c a w, ¬ lift N K (.panic c) a w := fun c a w ⟨ρ', _, hk⟩ => hp c ρ' w hk
  have hc : Closed l.toArray (Array.replicate l.length false) := fun j o _ hj => by
    rcases Nat.lt_or_ge j l.length with h' | h' <;> simp [h'] at hj
  have := wpAnyG_lin (P := P) (Q := lift N K) hD hQ (Region.noSelect_spec hs) π (Array.replicate l.length false) a { w with drawn := w.drawn + 1 } hc hB (h _ (St.drew (St.refl w)) a ha)
  rw [hl] at this
  simpa using this
theorem rn_draw_st (id : Nat) {l : List Oper} (ph : List Nat) (π : List (Nat × Bool)) [hm : CM P] (hs : St w0 w M L) (hp : NoPanic K) (hn : Region.noSelect l.toArray = true) (hl : π.length = l.length) (hB : linB l.toArray ph π (Array.replicate l.length false) = true)
    (h : ∀ w', St w0 w' M L → Dr P N l.toArray (fun w => St w0 w M L) ph π ρ w' K) : Rn P N (.region id l.toArray true) ρ w K :=
  rn_draw id (fun w => St w0 w M L) ph π hm.h hp hn hl hB (fun _ _ h hg => h.call0 hg) fun w' hg => h w' (hs.call0 hg)
theorem dr_nil (h : K .normal ρ w) : Dr P N ops D ph [] ρ w K := fun _ ha => ⟨ρ, ha, h⟩
theorem dr_nils (r : Env) (hs : Sub r ρ) (h : K .normal r w) : Dr P N ops D ph [] ρ w K := fun _ ha => ⟨r, ha.sub hs, h⟩
theorem dr_h {i : Nat} {o : Oper} (hi : ops[i]? = some o) (h : Rg P N ops [o] ρ w (kDr P N ops D ph i π K)) : Dr P N ops D ph ((i, false) :: π) ρ w K := fun a ha => by
  have h1 := h a ha
  unfold wpList at h1
  show wpOp P ops (lift N K) i _ a w
  unfold wpOp
  simp only [hi]
  have hn : ∀ a' w', wpList P ops (lift N (kDr P N ops D ph i π K)) [] a' w' → (i ∈ ph → D w') ∧ ∀ w'', Gr w' w'' → wpLin P ops (lift N K) D ph π a' w'' := fun a' w' ⟨ρ', hh, hk⟩ => ⟨hk.1, fun w'' hg => hk.2 w'' hg a' hh⟩
  have hq : ∀ e a w, e ≠ .normal → lift N (kDr P N ops D ph i π K) e a w → lift N K e a w := fun e a w he ⟨ρ', hh, hk⟩ => ⟨ρ', hh, by cases e <;> first | exact absurd rfl he | exact hk⟩
  split
  · rename_i hw
    rw [if_pos hw] at h1
    rcases h1 with h1 | ⟨h1, h2⟩
    · left
      unfold Oper.wp at *
      generalize (execOp a.eval o).run P w = r at *
      cases r with
      | ok n w' =>
        cases n <;> simp only [Oper.upon] at h1 ⊢
        case value u => exact hn _ _ h1
        case skip => exact hn _ _ h1
        case defer d => exact hn _ _ h1
        case enter f args =>
          refine h1.mono fun e w'' hh => ?_
          cases e with
          | returned u => exact hn _ _ hh
          | panicked c => exact hq _ _ _ (by simp) hh
          | outgrown => exact hh.imp fun a' h' => h'.imp fun w' h'' => hq _ _ _ (by simp) h''
        case row row args => exact h1.mono fun u w'' hh => hn _ _ hh
      | halt x w' =>
        cases x <;> simp only [Oper.upon] at h1 ⊢
        case panic u => exact hq _ _ _ (by simp) h1
    · right
      exact ⟨h1, h2.imp fun a' h' => h'.imp fun w' h'' => hq _ _ _ (by simp) h''⟩
  · rename_i hw
    rw [if_neg hw] at h1
    exact hn _ _ h1
theorem kd_n {i : Nat} (hD : D w) (h : ∀ w', Gr w w' → Dr P N ops D ph π ρ w' K) : kDr P N ops D ph i π K .normal ρ w := ⟨fun _ => hD, h⟩
theorem kd_last {i : Nat} (hi : ph.contains i = false) (h : ∀ w', Gr w w' → Dr P N ops D ph π ρ w' K) : kDr P N ops D ph i π K .normal ρ w := ⟨fun hm => by simp at hi; exact absurd hm hi, h⟩
/-- The class that is used most: the call's own resources are these. -/
theorem gr_st : ∀ w w', St w0 w M L → Gr w w' → St w0 w' M L := fun _ _ h hg => h.call0 hg

theorem dr_y {i d : Nat} {op : Op} {ty : TypeId} {ps : String} {af : Array Edge} {gd : Option (Nat × Bool)} {v : Value} (hi : ops[i]? = some ⟨some d, op, ty, ps, af, gd⟩) (hy : ∀ w, D w → Yv P N ρ w ⟨some d, op, ty, ps, af, gd⟩ v) (hw : D w) (hg : want ops ρ gd = some true) (hd : Nat.blt d N = true)
    (hk : ∀ w', Gr w w' → Dr P N ops D ph π ((d, v) :: ρ) w' K) : Dr P N ops D ph ((i, true) :: π) ρ w K := fun a ha =>
  ⟨hw, _, v, hi, .inl ⟨want_spec ha hg, fun w hw => by rw [hy w hw a ha]; exact ⟨rfl, rfl⟩⟩, fun w' hgr => hk w' hgr _ (ha.put hd v)⟩
theorem dr_skip {i d : Nat} {op : Op} {ty : TypeId} {ps : String} {af : Array Edge} {gd : Option (Nat × Bool)} (hi : ops[i]? = some ⟨some d, op, ty, ps, af, gd⟩) (hw : D w) (hg : want ops ρ gd = some false) (hd : Nat.blt d N = true)
    (hk : ∀ w', Gr w w' → Dr P N ops D ph π ((d, undef) :: ρ) w' K) : Dr P N ops D ph ((i, true) :: π) ρ w K := fun _ ha =>
  ⟨hw, _, undef, hi, .inr ⟨want_spec ha hg, rfl⟩, fun w' hgr => hk w' hgr _ (ha.put hd undef)⟩
theorem dr_b {i d : Nat} {op : Op} {ty : TypeId} {ps : String} {af : Array Edge} {gd : Option (Nat × Bool)} {p : Prop} [Decidable p] (hi : ops[i]? = some ⟨some d, op, ty, ps, af, gd⟩) (hy : ∀ w, D w → Yv P N ρ w ⟨some d, op, ty, ps, af, gd⟩ (.bool (decide p))) (hw : D w) (hg : want ops ρ gd = some true) (hd : Nat.blt d N = true)
    (ht : p → ∀ w', Gr w w' → Dr P N ops D ph π ((d, .bool true) :: ρ) w' K) (hf : ¬ p → ∀ w', Gr w w' → Dr P N ops D ph π ((d, .bool false) :: ρ) w' K) : Dr P N ops D ph ((i, true) :: π) ρ w K := by
  by_cases h : p
  · exact dr_y hi (by simpa only [decide_eq_true h] using hy) hw hg hd (ht h)
  · exact dr_y hi (by simpa only [decide_eq_false h] using hy) hw hg hd (hf h)
theorem dr_bt {i d : Nat} {op : Op} {ty : TypeId} {ps : String} {af : Array Edge} {gd : Option (Nat × Bool)} {p : Prop} [Decidable p] (hi : ops[i]? = some ⟨some d, op, ty, ps, af, gd⟩) (hy : ∀ w, D w → Yv P N ρ w ⟨some d, op, ty, ps, af, gd⟩ (.bool (decide p))) (h : p) (hw : D w) (hg : want ops ρ gd = some true) (hd : Nat.blt d N = true)
    (ht : ∀ w', Gr w w' → Dr P N ops D ph π ((d, .bool true) :: ρ) w' K) : Dr P N ops D ph ((i, true) :: π) ρ w K := dr_y hi (by simpa only [decide_eq_true h] using hy) hw hg hd ht
theorem dr_bf {i d : Nat} {op : Op} {ty : TypeId} {ps : String} {af : Array Edge} {gd : Option (Nat × Bool)} {p : Prop} [Decidable p] (hi : ops[i]? = some ⟨some d, op, ty, ps, af, gd⟩) (hy : ∀ w, D w → Yv P N ρ w ⟨some d, op, ty, ps, af, gd⟩ (.bool (decide p))) (h : ¬ p) (hw : D w) (hg : want ops ρ gd = some true) (hd : Nat.blt d N = true)
    (hf : ∀ w', Gr w w' → Dr P N ops D ph π ((d, .bool false) :: ρ) w' K) : Dr P N ops D ph ((i, true) :: π) ρ w K := dr_y hi (by simpa only [decide_eq_false h] using hy) hw hg hd hf
theorem dr_call0 {i d : Nat} {f : FuncId} [hf : CFn P f] {xs : List Operand} {vs : List Value} {ts : Array TypeId} {ty : TypeId} {ps : String} {af : Array Edge} {gd : Option (Nat × Bool)} {v : Value} (hi : ops[i]? = some ⟨some d, .call { callee := .value (.func f), args := xs.toArray, argTypes := ts }, ty, ps, af, gd⟩) (hc : ∀ w, D w → Gives P f vs w v) (hx : evl ρ xs = some vs) (hw : D w) (hg : want ops ρ gd = some true) (hd : Nat.blt d N = true)
    (hk : ∀ w', Gr w w' → Dr P N ops D ph π ((d, v) :: ρ) w' K) : Dr P N ops D ph ((i, true) :: π) ρ w K := fun a ha =>
  ⟨hw, _, v, hi, .inl ⟨want_spec ha hg, fun w hw => by
    rw [run_callop hx ha]
    exact ⟨rfl, hc w hw⟩⟩, fun w' hgr => hk w' hgr _ (ha.put hd v)⟩
theorem dr_callb {i d : Nat} {f : FuncId} [CFn P f] {xs : List Operand} {vs : List Value} {ts : Array TypeId} {ty : TypeId} {ps : String} {af : Array Edge} {gd : Option (Nat × Bool)} {p : Prop} [Decidable p] (hi : ops[i]? = some ⟨some d, .call { callee := .value (.func f), args := xs.toArray, argTypes := ts }, ty, ps, af, gd⟩) (hc : ∀ w, D w → Gives P f vs w (.bool (decide p))) (hx : evl ρ xs = some vs) (hw : D w) (hg : want ops ρ gd = some true) (hd : Nat.blt d N = true)
    (ht : p → ∀ w', Gr w w' → Dr P N ops D ph π ((d, .bool true) :: ρ) w' K) (hf : ¬ p → ∀ w', Gr w w' → Dr P N ops D ph π ((d, .bool false) :: ρ) w' K) : Dr P N ops D ph ((i, true) :: π) ρ w K := by
  by_cases h : p
  · exact dr_call0 hi (by simpa only [decide_eq_true h] using hc) hx hw hg hd (ht h)
  · exact dr_call0 hi (by simpa only [decide_eq_false h] using hc) hx hw hg hd (hf h)
theorem dr_callbt {i d : Nat} {f : FuncId} [CFn P f] {xs : List Operand} {vs : List Value} {ts : Array TypeId} {ty : TypeId} {ps : String} {af : Array Edge} {gd : Option (Nat × Bool)} {p : Prop} [Decidable p] (hi : ops[i]? = some ⟨some d, .call { callee := .value (.func f), args := xs.toArray, argTypes := ts }, ty, ps, af, gd⟩) (hc : ∀ w, D w → Gives P f vs w (.bool (decide p))) (hx : evl ρ xs = some vs) (h : p) (hw : D w) (hg : want ops ρ gd = some true) (hd : Nat.blt d N = true)
    (ht : ∀ w', Gr w w' → Dr P N ops D ph π ((d, .bool true) :: ρ) w' K) : Dr P N ops D ph ((i, true) :: π) ρ w K := dr_call0 hi (by simpa only [decide_eq_true h] using hc) hx hw hg hd ht
theorem dr_callbf {i d : Nat} {f : FuncId} [CFn P f] {xs : List Operand} {vs : List Value} {ts : Array TypeId} {ty : TypeId} {ps : String} {af : Array Edge} {gd : Option (Nat × Bool)} {p : Prop} [Decidable p] (hi : ops[i]? = some ⟨some d, .call { callee := .value (.func f), args := xs.toArray, argTypes := ts }, ty, ps, af, gd⟩) (hc : ∀ w, D w → Gives P f vs w (.bool (decide p))) (hx : evl ρ xs = some vs) (h : ¬ p) (hw : D w) (hg : want ops ρ gd = some true) (hd : Nat.blt d N = true)
    (hf : ∀ w', Gr w w' → Dr P N ops D ph π ((d, .bool false) :: ρ) w' K) : Dr P N ops D ph ((i, true) :: π) ρ w K := dr_call0 hi (by simpa only [decide_eq_false h] using hc) hx hw hg hd hf
end

theorem kE {ρ : Env} {x : Operand} {A : Option Addr} {k sz f : Nat} (h : evo ρ x = some (ep A k sz f)) : evo ρ x = some (ep A k sz f) := h
section
variable {ρ : Env} {t : Nat}
theorem sI {k : IntKind} {n : Int} (h : look ρ t = some (.int k n)) : look ρ t = some (.int k n) := h
theorem sB {b : Bool} (h : look ρ t = some (.bool b)) : look ρ t = some (.bool b) := h
theorem sE {A : Option Addr} {k sz f : Nat} (h : look ρ t = some (ep A k sz f)) : look ρ t = some (ep A k sz f) := h
theorem sP {p : Option Addr} (h : look ρ t = some (.pointer p)) : look ρ t = some (.pointer p) := h
theorem sS {p : Option Addr} {n c : Nat} (h : look ρ t = some (.slice p n c)) : look ρ t = some (.slice p n c) := h
theorem sA {cs : Array Value} (h : look ρ t = some (.agg cs)) : look ρ t = some (.agg cs) := h
theorem sT {vs : Array Value} (h : look ρ t = some (.tuple vs)) : look ρ t = some (.tuple vs) := h
theorem sZ {s : ByteArray} (h : look ρ t = some (.string s)) : look ρ t = some (.string s) := h
theorem sM {r : Option Nat} (h : look ρ t = some (.map r)) : look ρ t = some (.map r) := h
theorem sF {fn : Fn} {f c : Array Value} (h : look ρ t = some (.func fn f c)) : look ρ t = some (.func fn f c) := h
theorem sv {v : Value} (h : look ρ t = some v) : look ρ t = some v := h
end
/-! ### Literal shapes -/
section
variable {q : Option Value}
theorem vI {k : IntKind} {n : Int} (h : q = some (.int k n)) : q = some (.int k n) := h
theorem vB {b : Bool} (h : q = some (.bool b)) : q = some (.bool b) := h
theorem vS {p : Option Addr} {n c : Nat} (h : q = some (.slice p n c)) : q = some (.slice p n c) := h
theorem vA {cs : Array Value} (h : q = some (.agg cs)) : q = some (.agg cs) := h
theorem vP {p : Option Addr} (h : q = some (.pointer p)) : q = some (.pointer p) := h
theorem vT {vs : Array Value} (h : q = some (.tuple vs)) : q = some (.tuple vs) := h
theorem vZ {s : ByteArray} (h : q = some (.string s)) : q = some (.string s) := h
theorem vAny {v : Value} (h : q = some v) : q = some v := h
end
section
variable {l : List Value} {a b c d e f g h : Value}
theorem l1 (q : l = [a]) : l = [a] := q
theorem l2 (q : l = [a, b]) : l = [a, b] := q
theorem l3 (q : l = [a, b, c]) : l = [a, b, c] := q
theorem l4 (q : l = [a, b, c, d]) : l = [a, b, c, d] := q
theorem l5 (q : l = [a, b, c, d, e]) : l = [a, b, c, d, e] := q
theorem l6 (q : l = [a, b, c, d, e, f]) : l = [a, b, c, d, e, f] := q
theorem l7 (q : l = [a, b, c, d, e, f, g]) : l = [a, b, c, d, e, f, g] := q
theorem l8 (q : l = [a, b, c, d, e, f, g, h]) : l = [a, b, c, d, e, f, g, h] := q
variable {o : Option (List Value)}
theorem o1 (q : o = some [a]) : o = some [a] := q
theorem o2 (q : o = some [a, b]) : o = some [a, b] := q
theorem o3 (q : o = some [a, b, c]) : o = some [a, b, c] := q
theorem o4 (q : o = some [a, b, c, d]) : o = some [a, b, c, d] := q
theorem o5 (q : o = some [a, b, c, d, e]) : o = some [a, b, c, d, e] := q
theorem o6 (q : o = some [a, b, c, d, e, f]) : o = some [a, b, c, d, e, f] := q
theorem o7 (q : o = some [a, b, c, d, e, f, g]) : o = some [a, b, c, d, e, f, g] := q
theorem o8 (q : o = some [a, b, c, d, e, f, g, h]) : o = some [a, b, c, d, e, f, g, h] := q
section
variable {x0 x1 x2 x3 x4 x5 x6 x7 x8 x9 x10 x11 x12 x13 x14 x15 x16 x17 x18 x19 x20 x21 x22 x23 x24 x25 x26 x27 x28 x29 x30 x31 x32 x33 x34 x35 x36 x37 x38 x39 x40 x41 x42 x43 x44 x45 x46 x47 : Value}
theorem l9 (q : l = [x0, x1, x2, x3, x4, x5, x6, x7, x8]) : l = [x0, x1, x2, x3, x4, x5, x6, x7, x8] := q
theorem l10 (q : l = [x0, x1, x2, x3, x4, x5, x6, x7, x8, x9]) : l = [x0, x1, x2, x3, x4, x5, x6, x7, x8, x9] := q
theorem l11 (q : l = [x0, x1, x2, x3, x4, x5, x6, x7, x8, x9, x10]) : l = [x0, x1, x2, x3, x4, x5, x6, x7, x8, x9, x10] := q
theorem l12 (q : l = [x0, x1, x2, x3, x4, x5, x6, x7, x8, x9, x10, x11]) : l = [x0, x1, x2, x3, x4, x5, x6, x7, x8, x9, x10, x11] := q
theorem l13 (q : l = [x0, x1, x2, x3, x4, x5, x6, x7, x8, x9, x10, x11, x12]) : l = [x0, x1, x2, x3, x4, x5, x6, x7, x8, x9, x10, x11, x12] := q
theorem l14 (q : l = [x0, x1, x2, x3, x4, x5, x6, x7, x8, x9, x10, x11, x12, x13]) : l = [x0, x1, x2, x3, x4, x5, x6, x7, x8, x9, x10, x11, x12, x13] := q
theorem l15 (q : l = [x0, x1, x2, x3, x4, x5, x6, x7, x8, x9, x10, x11, x12, x13, x14]) : l = [x0, x1, x2, x3, x4, x5, x6, x7, x8, x9, x10, x11, x12, x13, x14] := q
theorem l16 (q : l = [x0, x1, x2, x3, x4, x5, x6, x7, x8, x9, x10, x11, x12, x13, x14, x15]) : l = [x0, x1, x2, x3, x4, x5, x6, x7, x8, x9, x10, x11, x12, x13, x14, x15] := q
theorem l17 (q : l = [x0, x1, x2, x3, x4, x5, x6, x7, x8, x9, x10, x11, x12, x13, x14, x15, x16]) : l = [x0, x1, x2, x3, x4, x5, x6, x7, x8, x9, x10, x11, x12, x13, x14, x15, x16] := q
theorem l18 (q : l = [x0, x1, x2, x3, x4, x5, x6, x7, x8, x9, x10, x11, x12, x13, x14, x15, x16, x17]) : l = [x0, x1, x2, x3, x4, x5, x6, x7, x8, x9, x10, x11, x12, x13, x14, x15, x16, x17] := q
theorem l19 (q : l = [x0, x1, x2, x3, x4, x5, x6, x7, x8, x9, x10, x11, x12, x13, x14, x15, x16, x17, x18]) : l = [x0, x1, x2, x3, x4, x5, x6, x7, x8, x9, x10, x11, x12, x13, x14, x15, x16, x17, x18] := q
theorem l20 (q : l = [x0, x1, x2, x3, x4, x5, x6, x7, x8, x9, x10, x11, x12, x13, x14, x15, x16, x17, x18, x19]) : l = [x0, x1, x2, x3, x4, x5, x6, x7, x8, x9, x10, x11, x12, x13, x14, x15, x16, x17, x18, x19] := q
theorem l21 (q : l = [x0, x1, x2, x3, x4, x5, x6, x7, x8, x9, x10, x11, x12, x13, x14, x15, x16, x17, x18, x19, x20]) : l = [x0, x1, x2, x3, x4, x5, x6, x7, x8, x9, x10, x11, x12, x13, x14, x15, x16, x17, x18, x19, x20] := q
theorem l22 (q : l = [x0, x1, x2, x3, x4, x5, x6, x7, x8, x9, x10, x11, x12, x13, x14, x15, x16, x17, x18, x19, x20, x21]) : l = [x0, x1, x2, x3, x4, x5, x6, x7, x8, x9, x10, x11, x12, x13, x14, x15, x16, x17, x18, x19, x20, x21] := q
theorem l23 (q : l = [x0, x1, x2, x3, x4, x5, x6, x7, x8, x9, x10, x11, x12, x13, x14, x15, x16, x17, x18, x19, x20, x21, x22]) : l = [x0, x1, x2, x3, x4, x5, x6, x7, x8, x9, x10, x11, x12, x13, x14, x15, x16, x17, x18, x19, x20, x21, x22] := q
theorem l24 (q : l = [x0, x1, x2, x3, x4, x5, x6, x7, x8, x9, x10, x11, x12, x13, x14, x15, x16, x17, x18, x19, x20, x21, x22, x23]) : l = [x0, x1, x2, x3, x4, x5, x6, x7, x8, x9, x10, x11, x12, x13, x14, x15, x16, x17, x18, x19, x20, x21, x22, x23] := q
theorem l25 (q : l = [x0, x1, x2, x3, x4, x5, x6, x7, x8, x9, x10, x11, x12, x13, x14, x15, x16, x17, x18, x19, x20, x21, x22, x23, x24]) : l = [x0, x1, x2, x3, x4, x5, x6, x7, x8, x9, x10, x11, x12, x13, x14, x15, x16, x17, x18, x19, x20, x21, x22, x23, x24] := q
theorem l26 (q : l = [x0, x1, x2, x3, x4, x5, x6, x7, x8, x9, x10, x11, x12, x13, x14, x15, x16, x17, x18, x19, x20, x21, x22, x23, x24, x25]) : l = [x0, x1, x2, x3, x4, x5, x6, x7, x8, x9, x10, x11, x12, x13, x14, x15, x16, x17, x18, x19, x20, x21, x22, x23, x24, x25] := q
theorem l27 (q : l = [x0, x1, x2, x3, x4, x5, x6, x7, x8, x9, x10, x11, x12, x13, x14, x15, x16, x17, x18, x19, x20, x21, x22, x23, x24, x25, x26]) : l = [x0, x1, x2, x3, x4, x5, x6, x7, x8, x9, x10, x11, x12, x13, x14, x15, x16, x17, x18, x19, x20, x21, x22, x23, x24, x25, x26] := q
theorem l28 (q : l = [x0, x1, x2, x3, x4, x5, x6, x7, x8, x9, x10, x11, x12, x13, x14, x15, x16, x17, x18, x19, x20, x21, x22, x23, x24, x25, x26, x27]) : l = [x0, x1, x2, x3, x4, x5, x6, x7, x8, x9, x10, x11, x12, x13, x14, x15, x16, x17, x18, x19, x20, x21, x22, x23, x24, x25, x26, x27] := q
theorem l29 (q : l = [x0, x1, x2, x3, x4, x5, x6, x7, x8, x9, x10, x11, x12, x13, x14, x15, x16, x17, x18, x19, x20, x21, x22, x23, x24, x25, x26, x27, x28]) : l = [x0, x1, x2, x3, x4, x5, x6, x7, x8, x9, x10, x11, x12, x13, x14, x15, x16, x17, x18, x19, x20, x21, x22, x23, x24, x25, x26, x27, x28] := q
theorem l30 (q : l = [x0, x1, x2, x3, x4, x5, x6, x7, x8, x9, x10, x11, x12, x13, x14, x15, x16, x17, x18, x19, x20, x21, x22, x23, x24, x25, x26, x27, x28, x29]) : l = [x0, x1, x2, x3, x4, x5, x6, x7, x8, x9, x10, x11, x12, x13, x14, x15, x16, x17, x18, x19, x20, x21, x22, x23, x24, x25, x26, x27, x28, x29] := q
theorem l31 (q : l = [x0, x1, x2, x3, x4, x5, x6, x7, x8, x9, x10, x11, x12, x13, x14, x15, x16, x17, x18, x19, x20, x21, x22, x23, x24, x25, x26, x27, x28, x29, x30]) : l = [x0, x1, x2, x3, x4, x5, x6, x7, x8, x9, x10, x11, x12, x13, x14, x15, x16, x17, x18, x19, x20, x21, x22, x23, x24, x25, x26, x27, x28, x29, x30] := q
theorem l32 (q : l = [x0, x1, x2, x3, x4, x5, x6, x7, x8, x9, x10, x11, x12, x13, x14, x15, x16, x17, x18, x19, x20, x21, x22, x23, x24, x25, x26, x27, x28, x29, x30, x31]) : l = [x0, x1, x2, x3, x4, x5, x6, x7, x8, x9, x10, x11, x12, x13, x14, x15, x16, x17, x18, x19, x20, x21, x22, x23, x24, x25, x26, x27, x28, x29, x30, x31] := q
theorem l33 (q : l = [x0, x1, x2, x3, x4, x5, x6, x7, x8, x9, x10, x11, x12, x13, x14, x15, x16, x17, x18, x19, x20, x21, x22, x23, x24, x25, x26, x27, x28, x29, x30, x31, x32]) : l = [x0, x1, x2, x3, x4, x5, x6, x7, x8, x9, x10, x11, x12, x13, x14, x15, x16, x17, x18, x19, x20, x21, x22, x23, x24, x25, x26, x27, x28, x29, x30, x31, x32] := q
theorem l34 (q : l = [x0, x1, x2, x3, x4, x5, x6, x7, x8, x9, x10, x11, x12, x13, x14, x15, x16, x17, x18, x19, x20, x21, x22, x23, x24, x25, x26, x27, x28, x29, x30, x31, x32, x33]) : l = [x0, x1, x2, x3, x4, x5, x6, x7, x8, x9, x10, x11, x12, x13, x14, x15, x16, x17, x18, x19, x20, x21, x22, x23, x24, x25, x26, x27, x28, x29, x30, x31, x32, x33] := q
theorem l35 (q : l = [x0, x1, x2, x3, x4, x5, x6, x7, x8, x9, x10, x11, x12, x13, x14, x15, x16, x17, x18, x19, x20, x21, x22, x23, x24, x25, x26, x27, x28, x29, x30, x31, x32, x33, x34]) : l = [x0, x1, x2, x3, x4, x5, x6, x7, x8, x9, x10, x11, x12, x13, x14, x15, x16, x17, x18, x19, x20, x21, x22, x23, x24, x25, x26, x27, x28, x29, x30, x31, x32, x33, x34] := q
theorem l36 (q : l = [x0, x1, x2, x3, x4, x5, x6, x7, x8, x9, x10, x11, x12, x13, x14, x15, x16, x17, x18, x19, x20, x21, x22, x23, x24, x25, x26, x27, x28, x29, x30, x31, x32, x33, x34, x35]) : l = [x0, x1, x2, x3, x4, x5, x6, x7, x8, x9, x10, x11, x12, x13, x14, x15, x16, x17, x18, x19, x20, x21, x22, x23, x24, x25, x26, x27, x28, x29, x30, x31, x32, x33, x34, x35] := q
theorem l37 (q : l = [x0, x1, x2, x3, x4, x5, x6, x7, x8, x9, x10, x11, x12, x13, x14, x15, x16, x17, x18, x19, x20, x21, x22, x23, x24, x25, x26, x27, x28, x29, x30, x31, x32, x33, x34, x35, x36]) : l = [x0, x1, x2, x3, x4, x5, x6, x7, x8, x9, x10, x11, x12, x13, x14, x15, x16, x17, x18, x19, x20, x21, x22, x23, x24, x25, x26, x27, x28, x29, x30, x31, x32, x33, x34, x35, x36] := q
theorem l38 (q : l = [x0, x1, x2, x3, x4, x5, x6, x7, x8, x9, x10, x11, x12, x13, x14, x15, x16, x17, x18, x19, x20, x21, x22, x23, x24, x25, x26, x27, x28, x29, x30, x31, x32, x33, x34, x35, x36, x37]) : l = [x0, x1, x2, x3, x4, x5, x6, x7, x8, x9, x10, x11, x12, x13, x14, x15, x16, x17, x18, x19, x20, x21, x22, x23, x24, x25, x26, x27, x28, x29, x30, x31, x32, x33, x34, x35, x36, x37] := q
theorem l39 (q : l = [x0, x1, x2, x3, x4, x5, x6, x7, x8, x9, x10, x11, x12, x13, x14, x15, x16, x17, x18, x19, x20, x21, x22, x23, x24, x25, x26, x27, x28, x29, x30, x31, x32, x33, x34, x35, x36, x37, x38]) : l = [x0, x1, x2, x3, x4, x5, x6, x7, x8, x9, x10, x11, x12, x13, x14, x15, x16, x17, x18, x19, x20, x21, x22, x23, x24, x25, x26, x27, x28, x29, x30, x31, x32, x33, x34, x35, x36, x37, x38] := q
theorem l40 (q : l = [x0, x1, x2, x3, x4, x5, x6, x7, x8, x9, x10, x11, x12, x13, x14, x15, x16, x17, x18, x19, x20, x21, x22, x23, x24, x25, x26, x27, x28, x29, x30, x31, x32, x33, x34, x35, x36, x37, x38, x39]) : l = [x0, x1, x2, x3, x4, x5, x6, x7, x8, x9, x10, x11, x12, x13, x14, x15, x16, x17, x18, x19, x20, x21, x22, x23, x24, x25, x26, x27, x28, x29, x30, x31, x32, x33, x34, x35, x36, x37, x38, x39] := q
theorem l41 (q : l = [x0, x1, x2, x3, x4, x5, x6, x7, x8, x9, x10, x11, x12, x13, x14, x15, x16, x17, x18, x19, x20, x21, x22, x23, x24, x25, x26, x27, x28, x29, x30, x31, x32, x33, x34, x35, x36, x37, x38, x39, x40]) : l = [x0, x1, x2, x3, x4, x5, x6, x7, x8, x9, x10, x11, x12, x13, x14, x15, x16, x17, x18, x19, x20, x21, x22, x23, x24, x25, x26, x27, x28, x29, x30, x31, x32, x33, x34, x35, x36, x37, x38, x39, x40] := q
theorem l42 (q : l = [x0, x1, x2, x3, x4, x5, x6, x7, x8, x9, x10, x11, x12, x13, x14, x15, x16, x17, x18, x19, x20, x21, x22, x23, x24, x25, x26, x27, x28, x29, x30, x31, x32, x33, x34, x35, x36, x37, x38, x39, x40, x41]) : l = [x0, x1, x2, x3, x4, x5, x6, x7, x8, x9, x10, x11, x12, x13, x14, x15, x16, x17, x18, x19, x20, x21, x22, x23, x24, x25, x26, x27, x28, x29, x30, x31, x32, x33, x34, x35, x36, x37, x38, x39, x40, x41] := q
theorem l43 (q : l = [x0, x1, x2, x3, x4, x5, x6, x7, x8, x9, x10, x11, x12, x13, x14, x15, x16, x17, x18, x19, x20, x21, x22, x23, x24, x25, x26, x27, x28, x29, x30, x31, x32, x33, x34, x35, x36, x37, x38, x39, x40, x41, x42]) : l = [x0, x1, x2, x3, x4, x5, x6, x7, x8, x9, x10, x11, x12, x13, x14, x15, x16, x17, x18, x19, x20, x21, x22, x23, x24, x25, x26, x27, x28, x29, x30, x31, x32, x33, x34, x35, x36, x37, x38, x39, x40, x41, x42] := q
theorem l44 (q : l = [x0, x1, x2, x3, x4, x5, x6, x7, x8, x9, x10, x11, x12, x13, x14, x15, x16, x17, x18, x19, x20, x21, x22, x23, x24, x25, x26, x27, x28, x29, x30, x31, x32, x33, x34, x35, x36, x37, x38, x39, x40, x41, x42, x43]) : l = [x0, x1, x2, x3, x4, x5, x6, x7, x8, x9, x10, x11, x12, x13, x14, x15, x16, x17, x18, x19, x20, x21, x22, x23, x24, x25, x26, x27, x28, x29, x30, x31, x32, x33, x34, x35, x36, x37, x38, x39, x40, x41, x42, x43] := q
theorem l45 (q : l = [x0, x1, x2, x3, x4, x5, x6, x7, x8, x9, x10, x11, x12, x13, x14, x15, x16, x17, x18, x19, x20, x21, x22, x23, x24, x25, x26, x27, x28, x29, x30, x31, x32, x33, x34, x35, x36, x37, x38, x39, x40, x41, x42, x43, x44]) : l = [x0, x1, x2, x3, x4, x5, x6, x7, x8, x9, x10, x11, x12, x13, x14, x15, x16, x17, x18, x19, x20, x21, x22, x23, x24, x25, x26, x27, x28, x29, x30, x31, x32, x33, x34, x35, x36, x37, x38, x39, x40, x41, x42, x43, x44] := q
theorem l46 (q : l = [x0, x1, x2, x3, x4, x5, x6, x7, x8, x9, x10, x11, x12, x13, x14, x15, x16, x17, x18, x19, x20, x21, x22, x23, x24, x25, x26, x27, x28, x29, x30, x31, x32, x33, x34, x35, x36, x37, x38, x39, x40, x41, x42, x43, x44, x45]) : l = [x0, x1, x2, x3, x4, x5, x6, x7, x8, x9, x10, x11, x12, x13, x14, x15, x16, x17, x18, x19, x20, x21, x22, x23, x24, x25, x26, x27, x28, x29, x30, x31, x32, x33, x34, x35, x36, x37, x38, x39, x40, x41, x42, x43, x44, x45] := q
theorem l47 (q : l = [x0, x1, x2, x3, x4, x5, x6, x7, x8, x9, x10, x11, x12, x13, x14, x15, x16, x17, x18, x19, x20, x21, x22, x23, x24, x25, x26, x27, x28, x29, x30, x31, x32, x33, x34, x35, x36, x37, x38, x39, x40, x41, x42, x43, x44, x45, x46]) : l = [x0, x1, x2, x3, x4, x5, x6, x7, x8, x9, x10, x11, x12, x13, x14, x15, x16, x17, x18, x19, x20, x21, x22, x23, x24, x25, x26, x27, x28, x29, x30, x31, x32, x33, x34, x35, x36, x37, x38, x39, x40, x41, x42, x43, x44, x45, x46] := q
theorem l48 (q : l = [x0, x1, x2, x3, x4, x5, x6, x7, x8, x9, x10, x11, x12, x13, x14, x15, x16, x17, x18, x19, x20, x21, x22, x23, x24, x25, x26, x27, x28, x29, x30, x31, x32, x33, x34, x35, x36, x37, x38, x39, x40, x41, x42, x43, x44, x45, x46, x47]) : l = [x0, x1, x2, x3, x4, x5, x6, x7, x8, x9, x10, x11, x12, x13, x14, x15, x16, x17, x18, x19, x20, x21, x22, x23, x24, x25, x26, x27, x28, x29, x30, x31, x32, x33, x34, x35, x36, x37, x38, x39, x40, x41, x42, x43, x44, x45, x46, x47] := q
theorem o9 (q : o = some [x0, x1, x2, x3, x4, x5, x6, x7, x8]) : o = some [x0, x1, x2, x3, x4, x5, x6, x7, x8] := q
theorem o10 (q : o = some [x0, x1, x2, x3, x4, x5, x6, x7, x8, x9]) : o = some [x0, x1, x2, x3, x4, x5, x6, x7, x8, x9] := q
theorem o11 (q : o = some [x0, x1, x2, x3, x4, x5, x6, x7, x8, x9, x10]) : o = some [x0, x1, x2, x3, x4, x5, x6, x7, x8, x9, x10] := q
theorem o12 (q : o = some [x0, x1, x2, x3, x4, x5, x6, x7, x8, x9, x10, x11]) : o = some [x0, x1, x2, x3, x4, x5, x6, x7, x8, x9, x10, x11] := q
theorem o13 (q : o = some [x0, x1, x2, x3, x4, x5, x6, x7, x8, x9, x10, x11, x12]) : o = some [x0, x1, x2, x3, x4, x5, x6, x7, x8, x9, x10, x11, x12] := q
theorem o14 (q : o = some [x0, x1, x2, x3, x4, x5, x6, x7, x8, x9, x10, x11, x12, x13]) : o = some [x0, x1, x2, x3, x4, x5, x6, x7, x8, x9, x10, x11, x12, x13] := q
theorem o15 (q : o = some [x0, x1, x2, x3, x4, x5, x6, x7, x8, x9, x10, x11, x12, x13, x14]) : o = some [x0, x1, x2, x3, x4, x5, x6, x7, x8, x9, x10, x11, x12, x13, x14] := q
theorem o16 (q : o = some [x0, x1, x2, x3, x4, x5, x6, x7, x8, x9, x10, x11, x12, x13, x14, x15]) : o = some [x0, x1, x2, x3, x4, x5, x6, x7, x8, x9, x10, x11, x12, x13, x14, x15] := q
theorem o17 (q : o = some [x0, x1, x2, x3, x4, x5, x6, x7, x8, x9, x10, x11, x12, x13, x14, x15, x16]) : o = some [x0, x1, x2, x3, x4, x5, x6, x7, x8, x9, x10, x11, x12, x13, x14, x15, x16] := q
theorem o18 (q : o = some [x0, x1, x2, x3, x4, x5, x6, x7, x8, x9, x10, x11, x12, x13, x14, x15, x16, x17]) : o = some [x0, x1, x2, x3, x4, x5, x6, x7, x8, x9, x10, x11, x12, x13, x14, x15, x16, x17] := q
theorem o19 (q : o = some [x0, x1, x2, x3, x4, x5, x6, x7, x8, x9, x10, x11, x12, x13, x14, x15, x16, x17, x18]) : o = some [x0, x1, x2, x3, x4, x5, x6, x7, x8, x9, x10, x11, x12, x13, x14, x15, x16, x17, x18] := q
theorem o20 (q : o = some [x0, x1, x2, x3, x4, x5, x6, x7, x8, x9, x10, x11, x12, x13, x14, x15, x16, x17, x18, x19]) : o = some [x0, x1, x2, x3, x4, x5, x6, x7, x8, x9, x10, x11, x12, x13, x14, x15, x16, x17, x18, x19] := q
theorem o21 (q : o = some [x0, x1, x2, x3, x4, x5, x6, x7, x8, x9, x10, x11, x12, x13, x14, x15, x16, x17, x18, x19, x20]) : o = some [x0, x1, x2, x3, x4, x5, x6, x7, x8, x9, x10, x11, x12, x13, x14, x15, x16, x17, x18, x19, x20] := q
theorem o22 (q : o = some [x0, x1, x2, x3, x4, x5, x6, x7, x8, x9, x10, x11, x12, x13, x14, x15, x16, x17, x18, x19, x20, x21]) : o = some [x0, x1, x2, x3, x4, x5, x6, x7, x8, x9, x10, x11, x12, x13, x14, x15, x16, x17, x18, x19, x20, x21] := q
theorem o23 (q : o = some [x0, x1, x2, x3, x4, x5, x6, x7, x8, x9, x10, x11, x12, x13, x14, x15, x16, x17, x18, x19, x20, x21, x22]) : o = some [x0, x1, x2, x3, x4, x5, x6, x7, x8, x9, x10, x11, x12, x13, x14, x15, x16, x17, x18, x19, x20, x21, x22] := q
theorem o24 (q : o = some [x0, x1, x2, x3, x4, x5, x6, x7, x8, x9, x10, x11, x12, x13, x14, x15, x16, x17, x18, x19, x20, x21, x22, x23]) : o = some [x0, x1, x2, x3, x4, x5, x6, x7, x8, x9, x10, x11, x12, x13, x14, x15, x16, x17, x18, x19, x20, x21, x22, x23] := q
theorem o25 (q : o = some [x0, x1, x2, x3, x4, x5, x6, x7, x8, x9, x10, x11, x12, x13, x14, x15, x16, x17, x18, x19, x20, x21, x22, x23, x24]) : o = some [x0, x1, x2, x3, x4, x5, x6, x7, x8, x9, x10, x11, x12, x13, x14, x15, x16, x17, x18, x19, x20, x21, x22, x23, x24] := q
theorem o26 (q : o = some [x0, x1, x2, x3, x4, x5, x6, x7, x8, x9, x10, x11, x12, x13, x14, x15, x16, x17, x18, x19, x20, x21, x22, x23, x24, x25]) : o = some [x0, x1, x2, x3, x4, x5, x6, x7, x8, x9, x10, x11, x12, x13, x14, x15, x16, x17, x18, x19, x20, x21, x22, x23, x24, x25] := q
theorem o27 (q : o = some [x0, x1, x2, x3, x4, x5, x6, x7, x8, x9, x10, x11, x12, x13, x14, x15, x16, x17, x18, x19, x20, x21, x22, x23, x24, x25, x26]) : o = some [x0, x1, x2, x3, x4, x5, x6, x7, x8, x9, x10, x11, x12, x13, x14, x15, x16, x17, x18, x19, x20, x21, x22, x23, x24, x25, x26] := q
theorem o28 (q : o = some [x0, x1, x2, x3, x4, x5, x6, x7, x8, x9, x10, x11, x12, x13, x14, x15, x16, x17, x18, x19, x20, x21, x22, x23, x24, x25, x26, x27]) : o = some [x0, x1, x2, x3, x4, x5, x6, x7, x8, x9, x10, x11, x12, x13, x14, x15, x16, x17, x18, x19, x20, x21, x22, x23, x24, x25, x26, x27] := q
theorem o29 (q : o = some [x0, x1, x2, x3, x4, x5, x6, x7, x8, x9, x10, x11, x12, x13, x14, x15, x16, x17, x18, x19, x20, x21, x22, x23, x24, x25, x26, x27, x28]) : o = some [x0, x1, x2, x3, x4, x5, x6, x7, x8, x9, x10, x11, x12, x13, x14, x15, x16, x17, x18, x19, x20, x21, x22, x23, x24, x25, x26, x27, x28] := q
theorem o30 (q : o = some [x0, x1, x2, x3, x4, x5, x6, x7, x8, x9, x10, x11, x12, x13, x14, x15, x16, x17, x18, x19, x20, x21, x22, x23, x24, x25, x26, x27, x28, x29]) : o = some [x0, x1, x2, x3, x4, x5, x6, x7, x8, x9, x10, x11, x12, x13, x14, x15, x16, x17, x18, x19, x20, x21, x22, x23, x24, x25, x26, x27, x28, x29] := q
theorem o31 (q : o = some [x0, x1, x2, x3, x4, x5, x6, x7, x8, x9, x10, x11, x12, x13, x14, x15, x16, x17, x18, x19, x20, x21, x22, x23, x24, x25, x26, x27, x28, x29, x30]) : o = some [x0, x1, x2, x3, x4, x5, x6, x7, x8, x9, x10, x11, x12, x13, x14, x15, x16, x17, x18, x19, x20, x21, x22, x23, x24, x25, x26, x27, x28, x29, x30] := q
theorem o32 (q : o = some [x0, x1, x2, x3, x4, x5, x6, x7, x8, x9, x10, x11, x12, x13, x14, x15, x16, x17, x18, x19, x20, x21, x22, x23, x24, x25, x26, x27, x28, x29, x30, x31]) : o = some [x0, x1, x2, x3, x4, x5, x6, x7, x8, x9, x10, x11, x12, x13, x14, x15, x16, x17, x18, x19, x20, x21, x22, x23, x24, x25, x26, x27, x28, x29, x30, x31] := q
theorem o33 (q : o = some [x0, x1, x2, x3, x4, x5, x6, x7, x8, x9, x10, x11, x12, x13, x14, x15, x16, x17, x18, x19, x20, x21, x22, x23, x24, x25, x26, x27, x28, x29, x30, x31, x32]) : o = some [x0, x1, x2, x3, x4, x5, x6, x7, x8, x9, x10, x11, x12, x13, x14, x15, x16, x17, x18, x19, x20, x21, x22, x23, x24, x25, x26, x27, x28, x29, x30, x31, x32] := q
theorem o34 (q : o = some [x0, x1, x2, x3, x4, x5, x6, x7, x8, x9, x10, x11, x12, x13, x14, x15, x16, x17, x18, x19, x20, x21, x22, x23, x24, x25, x26, x27, x28, x29, x30, x31, x32, x33]) : o = some [x0, x1, x2, x3, x4, x5, x6, x7, x8, x9, x10, x11, x12, x13, x14, x15, x16, x17, x18, x19, x20, x21, x22, x23, x24, x25, x26, x27, x28, x29, x30, x31, x32, x33] := q
theorem o35 (q : o = some [x0, x1, x2, x3, x4, x5, x6, x7, x8, x9, x10, x11, x12, x13, x14, x15, x16, x17, x18, x19, x20, x21, x22, x23, x24, x25, x26, x27, x28, x29, x30, x31, x32, x33, x34]) : o = some [x0, x1, x2, x3, x4, x5, x6, x7, x8, x9, x10, x11, x12, x13, x14, x15, x16, x17, x18, x19, x20, x21, x22, x23, x24, x25, x26, x27, x28, x29, x30, x31, x32, x33, x34] := q
theorem o36 (q : o = some [x0, x1, x2, x3, x4, x5, x6, x7, x8, x9, x10, x11, x12, x13, x14, x15, x16, x17, x18, x19, x20, x21, x22, x23, x24, x25, x26, x27, x28, x29, x30, x31, x32, x33, x34, x35]) : o = some [x0, x1, x2, x3, x4, x5, x6, x7, x8, x9, x10, x11, x12, x13, x14, x15, x16, x17, x18, x19, x20, x21, x22, x23, x24, x25, x26, x27, x28, x29, x30, x31, x32, x33, x34, x35] := q
theorem o37 (q : o = some [x0, x1, x2, x3, x4, x5, x6, x7, x8, x9, x10, x11, x12, x13, x14, x15, x16, x17, x18, x19, x20, x21, x22, x23, x24, x25, x26, x27, x28, x29, x30, x31, x32, x33, x34, x35, x36]) : o = some [x0, x1, x2, x3, x4, x5, x6, x7, x8, x9, x10, x11, x12, x13, x14, x15, x16, x17, x18, x19, x20, x21, x22, x23, x24, x25, x26, x27, x28, x29, x30, x31, x32, x33, x34, x35, x36] := q
theorem o38 (q : o = some [x0, x1, x2, x3, x4, x5, x6, x7, x8, x9, x10, x11, x12, x13, x14, x15, x16, x17, x18, x19, x20, x21, x22, x23, x24, x25, x26, x27, x28, x29, x30, x31, x32, x33, x34, x35, x36, x37]) : o = some [x0, x1, x2, x3, x4, x5, x6, x7, x8, x9, x10, x11, x12, x13, x14, x15, x16, x17, x18, x19, x20, x21, x22, x23, x24, x25, x26, x27, x28, x29, x30, x31, x32, x33, x34, x35, x36, x37] := q
theorem o39 (q : o = some [x0, x1, x2, x3, x4, x5, x6, x7, x8, x9, x10, x11, x12, x13, x14, x15, x16, x17, x18, x19, x20, x21, x22, x23, x24, x25, x26, x27, x28, x29, x30, x31, x32, x33, x34, x35, x36, x37, x38]) : o = some [x0, x1, x2, x3, x4, x5, x6, x7, x8, x9, x10, x11, x12, x13, x14, x15, x16, x17, x18, x19, x20, x21, x22, x23, x24, x25, x26, x27, x28, x29, x30, x31, x32, x33, x34, x35, x36, x37, x38] := q
theorem o40 (q : o = some [x0, x1, x2, x3, x4, x5, x6, x7, x8, x9, x10, x11, x12, x13, x14, x15, x16, x17, x18, x19, x20, x21, x22, x23, x24, x25, x26, x27, x28, x29, x30, x31, x32, x33, x34, x35, x36, x37, x38, x39]) : o = some [x0, x1, x2, x3, x4, x5, x6, x7, x8, x9, x10, x11, x12, x13, x14, x15, x16, x17, x18, x19, x20, x21, x22, x23, x24, x25, x26, x27, x28, x29, x30, x31, x32, x33, x34, x35, x36, x37, x38, x39] := q
theorem o41 (q : o = some [x0, x1, x2, x3, x4, x5, x6, x7, x8, x9, x10, x11, x12, x13, x14, x15, x16, x17, x18, x19, x20, x21, x22, x23, x24, x25, x26, x27, x28, x29, x30, x31, x32, x33, x34, x35, x36, x37, x38, x39, x40]) : o = some [x0, x1, x2, x3, x4, x5, x6, x7, x8, x9, x10, x11, x12, x13, x14, x15, x16, x17, x18, x19, x20, x21, x22, x23, x24, x25, x26, x27, x28, x29, x30, x31, x32, x33, x34, x35, x36, x37, x38, x39, x40] := q
theorem o42 (q : o = some [x0, x1, x2, x3, x4, x5, x6, x7, x8, x9, x10, x11, x12, x13, x14, x15, x16, x17, x18, x19, x20, x21, x22, x23, x24, x25, x26, x27, x28, x29, x30, x31, x32, x33, x34, x35, x36, x37, x38, x39, x40, x41]) : o = some [x0, x1, x2, x3, x4, x5, x6, x7, x8, x9, x10, x11, x12, x13, x14, x15, x16, x17, x18, x19, x20, x21, x22, x23, x24, x25, x26, x27, x28, x29, x30, x31, x32, x33, x34, x35, x36, x37, x38, x39, x40, x41] := q
theorem o43 (q : o = some [x0, x1, x2, x3, x4, x5, x6, x7, x8, x9, x10, x11, x12, x13, x14, x15, x16, x17, x18, x19, x20, x21, x22, x23, x24, x25, x26, x27, x28, x29, x30, x31, x32, x33, x34, x35, x36, x37, x38, x39, x40, x41, x42]) : o = some [x0, x1, x2, x3, x4, x5, x6, x7, x8, x9, x10, x11, x12, x13, x14, x15, x16, x17, x18, x19, x20, x21, x22, x23, x24, x25, x26, x27, x28, x29, x30, x31, x32, x33, x34, x35, x36, x37, x38, x39, x40, x41, x42] := q
theorem o44 (q : o = some [x0, x1, x2, x3, x4, x5, x6, x7, x8, x9, x10, x11, x12, x13, x14, x15, x16, x17, x18, x19, x20, x21, x22, x23, x24, x25, x26, x27, x28, x29, x30, x31, x32, x33, x34, x35, x36, x37, x38, x39, x40, x41, x42, x43]) : o = some [x0, x1, x2, x3, x4, x5, x6, x7, x8, x9, x10, x11, x12, x13, x14, x15, x16, x17, x18, x19, x20, x21, x22, x23, x24, x25, x26, x27, x28, x29, x30, x31, x32, x33, x34, x35, x36, x37, x38, x39, x40, x41, x42, x43] := q
theorem o45 (q : o = some [x0, x1, x2, x3, x4, x5, x6, x7, x8, x9, x10, x11, x12, x13, x14, x15, x16, x17, x18, x19, x20, x21, x22, x23, x24, x25, x26, x27, x28, x29, x30, x31, x32, x33, x34, x35, x36, x37, x38, x39, x40, x41, x42, x43, x44]) : o = some [x0, x1, x2, x3, x4, x5, x6, x7, x8, x9, x10, x11, x12, x13, x14, x15, x16, x17, x18, x19, x20, x21, x22, x23, x24, x25, x26, x27, x28, x29, x30, x31, x32, x33, x34, x35, x36, x37, x38, x39, x40, x41, x42, x43, x44] := q
theorem o46 (q : o = some [x0, x1, x2, x3, x4, x5, x6, x7, x8, x9, x10, x11, x12, x13, x14, x15, x16, x17, x18, x19, x20, x21, x22, x23, x24, x25, x26, x27, x28, x29, x30, x31, x32, x33, x34, x35, x36, x37, x38, x39, x40, x41, x42, x43, x44, x45]) : o = some [x0, x1, x2, x3, x4, x5, x6, x7, x8, x9, x10, x11, x12, x13, x14, x15, x16, x17, x18, x19, x20, x21, x22, x23, x24, x25, x26, x27, x28, x29, x30, x31, x32, x33, x34, x35, x36, x37, x38, x39, x40, x41, x42, x43, x44, x45] := q
theorem o47 (q : o = some [x0, x1, x2, x3, x4, x5, x6, x7, x8, x9, x10, x11, x12, x13, x14, x15, x16, x17, x18, x19, x20, x21, x22, x23, x24, x25, x26, x27, x28, x29, x30, x31, x32, x33, x34, x35, x36, x37, x38, x39, x40, x41, x42, x43, x44, x45, x46]) : o = some [x0, x1, x2, x3, x4, x5, x6, x7, x8, x9, x10, x11, x12, x13, x14, x15, x16, x17, x18, x19, x20, x21, x22, x23, x24, x25, x26, x27, x28, x29, x30, x31, x32, x33, x34, x35, x36, x37, x38, x39, x40, x41, x42, x43, x44, x45, x46] := q
theorem o48 (q : o = some [x0, x1, x2, x3, x4, x5, x6, x7, x8, x9, x10, x11, x12, x13, x14, x15, x16, x17, x18, x19, x20, x21, x22, x23, x24, x25, x26, x27, x28, x29, x30, x31, x32, x33, x34, x35, x36, x37, x38, x39, x40, x41, x42, x43, x44, x45, x46, x47]) : o = some [x0, x1, x2, x3, x4, x5, x6, x7, x8, x9, x10, x11, x12, x13, x14, x15, x16, x17, x18, x19, x20, x21, x22, x23, x24, x25, x26, x27, x28, x29, x30, x31, x32, x33, x34, x35, x36, x37, x38, x39, x40, x41, x42, x43, x44, x45, x46, x47] := q
end
end
attribute [irreducible] Rn Rg Rnds kRnd kSeq kBlk kLoop kRet kDr Dr NoPanic Yv Gives Ld Blk ep
end Go.Hy
