/-
  More of the logic: a cut behind a piece of code.
-/
import Derived.Test.YtdgminllobhncaaGreatCore
namespace Go.Hy
set_option linter.unusedVariables false
set_option linter.unusedSimpArgs false
set_option maxHeartbeats 2000000
set_option maxRecDepth 10000

def kCut {α : Type} (I : α → World → Prop) (E : α → Env) (K : Kont) : Kont
  | .normal, ρ, w => ∃ y, I y w ∧ Sub (E y) ρ
  | e, ρ, w => K e ρ w
section
variable {P : Program} {N : Nat} {ρ : Env} {w : World} {K : Kont}
theorem rn_cut {α : Type} (I : α → World → Prop) (E : α → Env) {c : Code} (h : Rn P N c ρ w (kCut I E K)) (next : ∀ x w, I x w → K .normal (E x) w) : Rn P N c ρ w K := by
  unfold Rn at h ⊢
  intro a ha
  refine Code.wp_mono (fun e a w hh => ?_) (h a ha)
  obtain ⟨ρ', h1, h2⟩ := hh
  cases e with
  | normal =>
    obtain ⟨y, hI, hE⟩ := h2
    exact ⟨E y, h1.sub hE, next y w hI⟩
  | exit i => exact ⟨ρ', h1, h2⟩
  | ret => exact ⟨ρ', h1, h2⟩
  | _ => exact ⟨ρ', h1, h2⟩
theorem rn_id (id : Nat) {ops : Array Oper} {d : Bool} (h : Rn P N (.region id ops d) ρ w K) : Rn P N (.region id ops d) ρ w K := h
theorem kc_n {α : Type} {I : α → World → Prop} {E : α → Env} (y : α) (hI : I y w) (hs : Sub (E y) ρ) : kCut I E K .normal ρ w := ⟨y, hI, hs⟩
theorem kc_e {α : Type} {I : α → World → Prop} {E : α → Env} {i : Nat} (h : K (.exit i) ρ w) : kCut I E K (.exit i) ρ w := h
theorem kc_r {α : Type} {I : α → World → Prop} {E : α → Env} (h : K .ret ρ w) : kCut I E K .ret ρ w := h
end
attribute [irreducible] kCut

/-! ### Regions that draw, with calls in them that turn one of the caller's own things: what the quiet operations lean on is the others. -/
def Own (w : World) (L : List Res) : Prop := ∀ r ∈ L, r.holds w
section
variable {P : Program} {N : Nat} {ρ : Env} {w0 w : World} {K : Kont} {M L L' : List Res}
theorem St.own (hs : St w0 w M L) : Own w L := hs.hl
theorem Own.sub (h : Own w L) (hs : L'.Sublist L) : Own w L' := fun r hr => h r (hs.subset hr)
theorem Own.gr {w' : World} (h : Own w L) (hg : Gr w w') : Own w' L := fun r hr =>
  (h r hr).keep fun k hk => St.old hg k ((h r hr).lt hk) (by simp)
theorem Own.blkL (h : Own w L) {i g : Nat} {t : TypeId} {cs : List Value} (hi : L[i]? = some (.blk g t cs)) : Blk w g t cs := by
  unfold Blk
  exact h _ (List.mem_of_getElem? hi)
theorem rn_draw_own (id : Nat) {l : List Oper} (ph : List Nat) (π : List (Nat × Bool)) [hm : CM P] (sl : L'.Sublist L) (hs : St w0 w M L) (hp : NoPanic K) (hn : Region.noSelect l.toArray = true) (hl : π.length = l.length) (hB : linB l.toArray ph π (Array.replicate l.length false) = true)
    (h : ∀ w', St w0 w' M L → Dr P N l.toArray (fun w => Own w L') ph π ρ w' K) : Rn P N (.region id l.toArray true) ρ w K :=
  rn_draw id (fun w => Own w L') ph π hm.h hp hn hl hB (fun _ _ h hg => h.gr hg) fun w' hg => h w' (hs.call0 hg)
/-- All but the thing at a place, which is a block of this type. -/
theorem sk (j : Nat) (T : TypeId) {g : Nat} {cs : List Value} (hj : L[j]? = some (.blk g T cs)) (h : L'.Sublist L) : L'.Sublist L := h
end
end Go.Hy
