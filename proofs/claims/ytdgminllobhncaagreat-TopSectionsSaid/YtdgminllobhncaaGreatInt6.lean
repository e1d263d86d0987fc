/-
  The interpreter is sound, sixth: regions that draw their order.
-/
import Derived.Test.YtdgminllobhncaaGreatInt5
namespace Go.Hy.Ix
set_option linter.unusedVariables false
set_option linter.unusedSimpArgs false
set_option maxHeartbeats 2000000
set_option maxRecDepth 10000
open Go.RowKit Go.ChangeShapes

/-- All of these things are there. -/
def SubM (m : Nat → Option Ent) (s : Sgm) : Prop := ∀ b e, m b = some e → s.get b = some e
def RdOk (F : Ph) : Prop := ∀ rd, F.rd = some rd → F.m = lk rd
theorem lk_mem {α : Type} : ∀ {l : List (Nat × α)} {b : Nat} {e : α}, lk l b = some e → (b, e) ∈ l
  | [], b, e, h => by cases h
  | (k, v) :: l, b, e, h => by
    simp only [lk] at h
    cases hb : Nat.beq k b with
    | true => rw [hb] at h; cases h; obtain rfl := beq_t hb; exact List.mem_cons_self
    | false => rw [hb] at h; exact List.mem_cons_of_mem _ (lk_mem h)
section
variable {P : Program} {N : Nat} {ρ ρ' : Ev} {s s' : Sgm} {m : Nat → Option Ent} {F : Ph}
theorem reads_ok : ∀ (l : List Oper) {b : Nat} {e : Ent}, (b, e) ∈ readsX ρ s l → s.get b = some e
  | [], b, e, h => by cases h
  | o :: l, b, e, h => by
    rw [readsX] at h
    split at h
    · split at h
      · rename_i e' he
        rcases List.mem_cons.1 h with h1 | h1
        · cases h1; exact he
        · exact reads_ok l h1
      · exact reads_ok l h
    · split at h
      · rename_i e' he
        rcases List.mem_cons.1 h with h1 | h1
        · cases h1; exact he
        · exact reads_ok l h1
      · exact reads_ok l h
    · exact reads_ok l h
theorem exM_ok {ts : List TypeId} {bs : List Nat} : SubM (exM ts bs s) s := fun b e h => by
  unfold exM at h
  cases hb : bs.contains b with
  | true => rw [hb] at h; cases h
  | false =>
    rw [hb, cond_false] at h
    split at h
    · rename_i e' sz n xs hg
      cases ht : ts.contains e' with
      | true => rw [ht] at h; cases h
      | false => rw [ht, cond_false] at h; rw [hg]; exact h
    · exact h
theorem mkPh_sub (D : Dw) (lm : Nat) : SubM (mkPh D ρ s lm).m s := by
  unfold mkPh
  dsimp only
  split
  · show SubM (exM D.exT [] s) s
    exact exM_ok
  · show SubM (exM D.exT (storesX ρ D.ops.toList) s) s
    exact exM_ok
  · exact fun b e h => reads_ok _ (lk_mem h)
theorem mkPh_rd (D : Dw) (lm : Nat) : RdOk (mkPh D ρ s lm) := by
  unfold mkPh
  dsimp only
  split
  · intro rd h; cases h
  · intro rd h; cases h
  · intro rd h; cases h; rfl
theorem SubM.add (h : SubM m s) (hf : ∀ b, s.nx ≤ b → s.mem.get b = none) (e : Ent) : SubM m (s.add e) := fun b e' hb => by
  have h1 := h b e' hb
  unfold Sgm.get Sgm.add at *
  simp only
  by_cases e1 : b = s.nx
  · rw [hf b (by omega)] at h1; cases h1
  · rw [Tr.get_ne _ _ _ _ e1]; exact h1
theorem SubM.upd (h : SubM m s) {b : Nat} (hb : (m b).isNone = true) (e : Ent) : SubM m (s.upd b e) := fun c e' hc => by
  have h1 := h c e' hc
  unfold Sgm.get Sgm.upd at *
  simp only
  by_cases e1 : c = b
  · subst e1; rw [hc] at hb; cases hb
  · rw [Tr.get_ne _ _ _ _ e1]; exact h1
theorem fr_upd (hf : ∀ b, s.nx ≤ b → s.mem.get b = none) {b : Nat} {e' : Ent} (hg : s.get b = some e') (e : Ent) : ∀ c, (s.upd b e).nx ≤ c → (s.upd b e).mem.get c = none := fun c hc => by
  simp only [Sgm.upd] at hc ⊢
  have := hf c hc
  by_cases e1 : c = b
  · subst e1; unfold Sgm.get at hg; rw [this] at hg; cases hg
  · rw [Tr.get_ne _ _ _ _ e1]; exact this
theorem hv_sub {o : Op} {r : Vx} (h : hv P ρ s o = some (r, s')) (hr : F.rd = none) (hk : kept F ρ o s' = true) (hs : SubM F.m s) (hf : ∀ b, s.nx ≤ b → s.mem.get b = none) : SubM F.m s' := by
  unfold kept at hk
  rw [hr] at hk
  simp only at hk
  unfold hv at h
  split at h
  · split at h
    · split at h
      · cases h; exact hs.add hf _
      · cases h
    · cases h
  · split at h
    · cases h; exact hs.add hf _
    · cases h
  · split at h
    · rename_i b q hx
      simp only [hx] at hk
      split at h
      · split at h
        · obtain ⟨_, h⟩ := bif_t h
          split at h
          · obtain ⟨_, h⟩ := bif_t h; cases h; exact hs.upd hk _
          · obtain ⟨_, h⟩ := bif_t h; cases h; exact hs.upd hk _
          · cases h
        · cases h
      · cases h
    · cases h
  · split at h
    · split at h
      · split at h
        · obtain ⟨_, h⟩ := bif_t h; cases h; exact hs.add hf _
        · cases h
      · cases h
    · cases h
  · rename_i n parts
    split at h
    · split at h
      · rename_i qs _ _ i _
        cases hb : (Nat.beq n 0 && qs.isEmpty) with
        | true => rw [hb] at h; cases h; exact hs.add hf _
        | false =>
          rw [hb, cond_false] at h
          obtain ⟨_, h⟩ := bif_t h
          split at h
          · obtain ⟨_, h⟩ := bif_t h; cases h; exact hs.add hf _
          · cases h
      · cases h
    · cases h
  · split at h
    rotate_left
    · cases h
    rename_i x y T T' hx hT
    simp only [hx] at hk
    replace h := bif_t h
    obtain ⟨_, h⟩ := h
    split at h
    rotate_left
    · cases h
    split at h
    rotate_left
    · cases h
    split at h
    rotate_left
    · cases h
    replace h := bif_t h
    obtain ⟨_, h⟩ := h
    split at h
    · obtain ⟨_, h⟩ := bif_t h; cases h; exact hs.add hf _
    · rename_i b n hxe
      simp only [hxe] at hk
      split at h
      · rename_i hg
        obtain ⟨_, h⟩ := bif_t h
        cases h
        exact (hs.upd hk _).add (fr_upd hf hg _) _
      · cases h
    · cases h
  · cases h
theorem kept_sub {call : CallX} {ops : Array Oper} {o : Oper} (h : stepx call P N ops ρ s o = some (ρ', s')) (hk : kept F ρ o.op s' = true) (hrd : RdOk F) (hs : SubM F.m s) (hf : ∀ b, s.nx ≤ b → s.mem.get b = none) : SubM F.m s' := by
  cases hr : F.rd with
  | some rd =>
    intro b e hb
    unfold kept at hk
    rw [hr] at hk
    rw [hrd rd hr] at hb
    have h1 := List.all_eq_true.1 hk _ (lk_mem hb)
    simp only at h1
    split at h1
    · rename_i e' he
      rw [Ent.eq_spec h1]; exact he
    · cases h1
  | none =>
    unfold stepx at h
    split at h
    · split at h
      · rename_i q s'' hq
        split at h
        · cases h
          unfold opx at hq
          split at hq
          · cases hq; exact hs
          · split at hq
            · rename_i x args ts _
              unfold kept at hk
              rw [hr] at hk
              rename_i ho
              simp only [ho] at hk
              cases hk
            · exact hv_sub hq hr hk hs hf
        · cases h
      · cases h
    · split at h
      · cases h; exact hs
      · cases h
    · cases h
end
end Go.Hy.Ix
