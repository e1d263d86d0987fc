/-
  A run that is resisted or braked more is slower.
-/
import Derived.Test.YtdabnfhkojapjaaPMot
namespace Go.Hy
set_option linter.unusedVariables false
set_option linter.unusedSimpArgs false
set_option maxHeartbeats 2000000
set_option maxRecDepth 10000
open Go.Hy.Iv

theorem L2.of_get {α β : Type} {R : α → β → Prop} {l : List α} {m : List β} (hl : l.length = m.length) (h : ∀ (j : Nat) a b, l[j]? = some a → m[j]? = some b → R a b) : L2 R l m := by
  induction l generalizing m with
  | nil => cases m with
    | nil => exact .nil
    | cons b m => simp at hl
  | cons a l ih => cases m with
    | nil => simp at hl
    | cons b m => exact .cons (h 0 a b rfl rfl) (ih (by simpa using hl) fun j x y h1 h2 => h (j + 1) x y (by simpa using h1) (by simpa using h2))
theorem L2.tail {α β : Type} {R : α → β → Prop} {l : List α} {m : List β} (h : L2 R l m) : L2 R l.tail m.tail := by
  cases h with
  | nil => exact .nil
  | cons _ h => exact h
theorem L2.head {α β : Type} {R : α → β → Prop} {l : List α} {m : List β} {a : α} {b : β} (h : L2 R l m) (hd : R a b) : R (l.headD a) (m.headD b) := by
  cases h with
  | nil => exact hd
  | cons h _ => exact h
theorem L2.refl {α : Type} {R : α → α → Prop} (h : ∀ a, R a a) (l : List α) : L2 R l l := by
  induction l with
  | nil => exact .nil
  | cons a l ih => exact .cons (h a) ih
theorem L2.get {α β : Type} {R : α → β → Prop} {l : List α} {m : List β} (h : L2 R l m) : ∀ (i : Nat) a b, l[i]? = some a → m[i]? = some b → R a b := by
  induction h with
  | nil => intro i a b ha; simp at ha
  | cons h _ ih =>
    intro i a b ha hb
    cases i with
    | zero =>
      simp only [List.getElem?_cons_zero, Option.some.injEq] at ha hb
      subst ha hb; exact h
    | succ i => exact ih i a b (by simpa using ha) (by simpa using hb)
theorem all_tail {α : Type} {P : α → Prop} {l : List α} (h : ∀ a ∈ l, P a) : ∀ a ∈ l.tail, P a := fun a ha => h a (List.mem_of_mem_tail ha)
theorem all_head {α : Type} {P : α → Prop} {l : List α} {d : α} (h : ∀ a ∈ l, P a) (hd : P d) : P (l.headD d) := by
  cases l with
  | nil => exact hd
  | cons a l => exact h a List.mem_cons_self

/-- The second target is not above the first. -/
def TgLe (s t : Int) : Prop := t = s ∨ 0 ≤ t ∧ t ≤ s
theorem TgLe.refl (t : Int) : TgLe t t := .inl rfl
/-- The second moment is not ahead of the first. -/
def MLe (x y : Moment) : Prop := x.Time ≤ y.Time ∧ y.Energy ≤ x.Energy
theorem bk_mono {p : Piece} {s t E F : Int} (h : TgLe s t) (hE : F ≤ E) : bk p t F ≤ bk p s E := by
  unfold bk
  rcases h with h | ⟨h0, h1⟩
  · subst h
    split <;> omega
  · have := sq_le h0 h1
    split
    · rw [if_pos (by omega)]; omega
    · rename_i hn
      rw [if_neg (by omega)]; exact hE
theorem step_mono {p : Piece} {w v s t : Int} {x y y' : Moment} {i : Nat} (hp : PieceOk p) (hw : w ≤ v) (ht : TgLe s t) (hx : MomOk x i) (hy : MomOk y i) (hxy : MLe x y) (h : ptStep p v t y = some y') :
    ∃ x', ptStep p w s x = some x' ∧ MLe x' y' := by
  unfold ptStep at h
  split at h
  · cases h
  split at h
  · cases h
  rename_i h1 h2
  have hg : gd p v ≤ gd p w := dn_mono' (by decide) (gn_anti hp hw)
  have m1 := isq_mono hy.e0 hxy.2
  have m2 := isq_mono (a := y.Energy + gd p v) (b := x.Energy + gd p w) (by omega) (by have := hxy.2; omega)
  have q1 := (isq_spec hy.e0).1
  have q2 := (isq_spec (n := y.Energy + gd p v) (by omega)).1
  have hxy2 := hxy.2
  have hxy1 := hxy.1
  have hu := up_anti (x := 2000 * p.Length) (d := isq y.Energy + isq (y.Energy + gd p v)) (e := isq x.Energy + isq (x.Energy + gd p w)) (by have := hp.l; omega) (by omega) (by omega)
  simp only [Option.some.injEq] at h
  subst h
  refine ⟨⟨_, _⟩, by unfold ptStep; rw [if_neg (by omega), if_neg (by omega)], ?_, ?_⟩
  · dsimp only; omega
  · exact bk_mono ht (by omega)
/-- Each moment of the second list is matched by one of the first that is not behind. -/
def Dom (l m : List Moment) : Prop := ∀ (i : Nat) b, m[i]? = some b → ∃ a, l[i]? = some a ∧ MLe a b
theorem Dom.nil (l : List Moment) : Dom l [] := fun i b h => by simp at h
theorem Dom.cons {a b : Moment} {l m : List Moment} (h1 : MLe a b) (h2 : Dom l m) : Dom (a :: l) (b :: m) := fun i c h => by
  cases i with
  | zero => simp only [List.getElem?_cons_zero, Option.some.injEq] at h; subst h; exact ⟨a, rfl, h1⟩
  | succ i => exact h2 i c (by simpa using h)
theorem Dom.len {l m : List Moment} (h : Dom l m) : m.length ≤ l.length := by
  rcases Nat.lt_or_ge l.length m.length with hh | hh
  · obtain ⟨a, ha, _⟩ := h l.length _ (List.getElem?_eq_getElem hh)
    have := (List.getElem?_eq_some_iff.1 ha).1
    omega
  · exact hh
theorem run_dom {ps : List Piece} : ∀ {ws vs ss ts : List Int} {x y : Moment} {i : Nat}, (∀ p ∈ ps, PieceOk p) → L2 (fun a b => a ≤ b) ws vs → (∀ w ∈ ws, Wr w) → (∀ w ∈ vs, Wr w) → L2 TgLe ss ts → MomOk x i → MomOk y i → MLe x y →
    Dom (ptRun ps ws ss x) (ptRun ps vs ts y) := by
  induction ps with
  | nil => intro ws vs ss ts x y i _ _ _ _ _ _ _ _; exact Dom.nil _
  | cons p ps ih =>
    intro ws vs ss ts x y i hp hw hw1 hw2 ht hx hy hxy
    cases hs : ptStep p (vs.headD 0) (tgOf p ts) y with
    | none => rw [ptRun_none hs]; exact Dom.nil _
    | some y' =>
      have htg : TgLe (tgOf p ss) (tgOf p ts) := by
        unfold tgOf
        split
        · exact ht.head (TgLe.refl 0)
        · exact TgLe.refl _
      have hpo := hp p List.mem_cons_self
      obtain ⟨x', hs2, hle⟩ := step_mono hpo (hw.head (Int.le_refl 0)) htg hx hy hxy hs
      rw [ptRun_some hs, ptRun_some hs2]
      have w0 : Wr 0 := by omega
      refine Dom.cons hle (ih (fun q hq => hp q (List.mem_cons_of_mem _ hq)) hw.tail (all_tail hw1) (all_tail hw2) ?_ (ptStep_ok hpo (all_head hw1 w0) hx hs2) (ptStep_ok hpo (all_head hw2 w0) hy hs) hle)
      unfold tsOf
      split
      · exact ht.tail
      · exact ht
theorem ptRun_len {ps : List Piece} : ∀ {ws ts : List Int} {x : Moment}, (ptRun ps ws ts x).length ≤ ps.length := by
  induction ps with
  | nil => intro ws ts x; exact Nat.le_refl _
  | cons p ps ih =>
    intro ws ts x
    cases hs : ptStep p (ws.headD 0) (tgOf p ts) x with
    | none => rw [ptRun_none hs]; simp
    | some y => rw [ptRun_some hs]; simp only [List.length_cons]; have := @ih ws.tail (tsOf p ts) y; omega
theorem ptAll_len {ps : List Piece} {r : Run} : (ptAll ps r).length = (ptRun ps r.Resist r.Targets (pt0 r)).length + 1 ∧ (ptAll ps r).length ≤ ps.length + 1 := by
  have := @ptRun_len ps r.Resist r.Targets (pt0 r)
  have e : (ptAll ps r).length = (ptRun ps r.Resist r.Targets (pt0 r)).length + 1 := rfl
  exact ⟨e, by omega⟩
theorem pt0_ok {ps : List Piece} {r : Run} (hr : RunOk ps r) : MomOk (pt0 r) 0 := by
  have h3 := hr.sp
  have hq := sq_bd (v := r.Speed) (by omega)
  have hq2 : r.Speed * r.Speed ≤ 400000000 := sq_le (b := 20000) h3.1 h3.2
  exact ⟨by dsimp only [pt0]; omega, by dsimp only [pt0]; omega, by dsimp only [pt0]; omega, by dsimp only [pt0]; omega⟩
theorem all_dom {ps : List Piece} {r q : Run} (hp : PsOk ps) (hr : RunOk ps r) (hq : RunOk ps q) (hs : q.Speed ≤ r.Speed) (hw : L2 (fun a b => a ≤ b) r.Resist q.Resist) (ht : L2 TgLe r.Targets q.Targets) : Dom (ptAll ps r) (ptAll ps q) := by
  have h0 : MLe (pt0 r) (pt0 q) := ⟨Int.le_refl 0, sq_le hq.sp.1 hs⟩
  exact Dom.cons h0 (run_dom hp.ok hw hr.w hq.w ht (pt0_ok hr) (pt0_ok hq) h0)
end Go.Hy
