/-
  The interpreter is sound, fifth: one operation, and lists of operations.
-/
import Derived.Test.YtdgminllobhncaaGreatInt4
namespace Go.Hy.Ix
set_option linter.unusedVariables false
set_option linter.unusedSimpArgs false
set_option maxHeartbeats 2000000
set_option maxRecDepth 10000
open Go.RowKit Go.ChangeShapes

/-- What the interpreter says of calls is so. -/
def SndC (P : Program) (call : CallX) : Prop := ∀ f args s r s', call f args s = some (r, s') → (∀ as w, (callFunc f as).run P w = .ok (.enter f as) w) ∧
  ∀ σ w0 w vs, Mem w0 w σ s → vals σ args = some vs → Calls P f vs.toArray w (fun e w' => ∃ σ' v, Ext σ σ' ∧ r.val σ' = some v ∧ e = .returned v ∧ Mem w0 w' σ' s')
def putc (ρc : Env) (d : Option Nat) (v : Value) : Env := match d with
  | none => ρc
  | some d => (d, v) :: ρc
section
variable {P : Program} {N : Nat} {σ τ : Pl0} {ρ ρ' : Ev} {ρc : Env} {w0 w : World} {s s' : Sgm} {r : Vx} {v : Value} {call : CallX} {ops : Array Oper} {o : Oper} {a : Act}
theorem wx_ok {g : Option (Nat × Bool)} {b : Bool} (hρ : EnvR σ ρ ρc) (h : wx ops ρ g = some b) : want ops ρc g = some b := by
  cases g with
  | none => exact h
  | some p =>
    obtain ⟨j, c⟩ := p
    simp only [wx] at h
    simp only [want]
    cases hd : (ops[j]?).bind (·.dst) with
    | none => rw [hd] at h; cases h
    | some d =>
      rw [hd] at h
      simp only at h ⊢
      cases hr : ρ.get d with
      | none => rw [hr] at h; cases h
      | some q =>
        rw [hr] at h
        obtain ⟨u, u1, u2⟩ := hρ d q hr
        rw [u2]
        cases q <;> simp only at h <;> try cases h
        · obtain rfl := val_bool u1; rfl
        · obtain ⟨us, _, rfl⟩ := val_tup u1; rfl
theorem putx_ok {d : Option Nat} (h : putx N ρ d r = some ρ') (hρ : EnvR σ ρ ρc) (hv : r.val σ = some v) : EnvR σ ρ' (putc ρc d v) ∧ ∀ a, Holds N a ρc → Holds N (a.put d v) (putc ρc d v) := by
  cases d with
  | none => cases h; exact ⟨hρ, fun a ha => ha⟩
  | some d =>
    obtain ⟨c1, c2⟩ := bif_t h
    cases c2
    exact ⟨hρ.put hv, fun a ha => ha.put c1 v⟩
theorem yv_get {o : Oper} (h : Yv P N ρc w o v) (ha : Holds N a ρc) : (execOp a.eval o).run P w = .ok (.value v) w := by
  unfold Yv at h
  exact h a ha
theorem run_callx {x : Operand} {args : Array Operand} {f : FuncId} {cs : List Vx} {as : List Vx} {ts : Array TypeId} {d : Option Nat} {ty : TypeId} {ps : String} {af : Array Edge} {gd : Option (Nat × Bool)} (hρ : EnvR σ ρ ρc) (hx : evx ρ x = some (.fn f cs)) (has : evxs ρ args.toList = some as) :
    ∃ vs, vals σ (as ++ cs) = some vs ∧ ∀ a, Holds N a ρc → ∀ R, (callFunc f vs.toArray).run P w = R → (execOp a.eval ⟨d, .call { callee := .value x, args := args, argTypes := ts }, ty, ps, af, gd⟩).run P w = R := by
  obtain ⟨u, u1, u2⟩ := evx_ok hρ hx
  obtain ⟨us, q1, rfl⟩ := val_fn u1
  obtain ⟨vs, s1, s2⟩ := evxs_ok hρ has
  refine ⟨vs ++ us, vals_app s1 q1, fun a ha R hR => ?_⟩
  have hm : Array.map a.eval args = vs.toArray := by
    rw [← evl_spec ha s2, ← List.map_toArray, Array.toArray_toList]
  simp only [execOp, resolve, ha.ev u2, Deferred.ofValue, hm, Sem.run_bind, Sem.run_pure, Result.andThen_ok, invoke]
  rw [← hR]
  simp
theorem opx_wp (hc : SndC P call) (h : opx call P ρ s o.op = some (r, s')) (hρ : EnvR σ ρ ρc) (hm : Mem w0 w σ s) {Q : Exit → Act → World → Prop} {K : Act → World → Prop} (ha : Holds N a ρc)
    (hk : ∀ σ' w' v, Ext σ σ' → r.val σ' = some v → Mem w0 w' σ' s' → K (a.put o.dst v) w') : o.wp P a w K Q := by
  obtain ⟨d, op, ty, ps, af, gd⟩ := o
  unfold opx at h
  simp only at h
  split at h
  · rename_i q hq
    cases h
    obtain ⟨v, v1, v2⟩ := pv_ok (N := N) (w := w) (d := d) (ty := ty) (ps := ps) (af := af) (gd := gd) hq hρ hm.ent
    unfold Oper.wp
    rw [yv_get v2 ha, Oper.upon_value]
    exact hk σ w v (Ext.refl σ) v1 hm
  · split at h
    · rename_i x args ts _
      split at h
      · rename_i f cs hx
        split at h
        · rename_i as has
          obtain ⟨c1, c2⟩ := hc _ _ _ _ _ h
          obtain ⟨vs, q1, q2⟩ := run_callx (P := P) (N := N) (w := w) (ts := ts) (d := d) (ty := ty) (ps := ps) (af := af) (gd := gd) hρ hx has
          unfold Oper.wp
          rw [q2 a ha _ (c1 vs.toArray w), Oper.upon_enter]
          refine (c2 σ w0 w vs hm q1).mono fun e w' ⟨σ', v, h1, h2, h3, h4⟩ => ?_
          subst h3
          exact hk σ' w' v h1 h2 h4
        · cases h
      · cases h
    · obtain ⟨w', σ', v, nx, h1, h2, h3, h4, h5⟩ := hv_ok (N := N) (d := d) (ty := ty) (ps := ps) (af := af) (gd := gd) h hρ hm
      unfold Oper.wp
      rw [h5 a ha]
      rcases h4 with rfl | ⟨rfl, rfl⟩
      · rw [Oper.upon_value]; exact hk σ' w' v h1 h2 h3
      · rw [Oper.upon_skip]; exact hk σ' w' undef h1 h2 h3
theorem step_wp (hc : SndC P call) (h : stepx call P N ops ρ s o = some (ρ', s')) (hρ : EnvR σ ρ ρc) (hm : Mem w0 w σ s) {Q : Exit → Act → World → Prop} {K : Act → World → Prop} (ha : Holds N a ρc)
    (hk : ∀ σ' w' ρc' a', Ext σ σ' → EnvR σ' ρ' ρc' → Mem w0 w' σ' s' → Holds N a' ρc' → K a' w') : if Region.wanted o (yielded ops a.tmps) then o.wp P a w K Q else K (a.put o.dst undef) w := by
  unfold stepx at h
  split at h
  · rename_i hg
    rw [want_spec ha (wx_ok hρ hg), if_pos rfl]
    split at h
    · rename_i q s'' hq
      split at h
      · rename_i ρ'' hp
        cases h
        refine opx_wp hc hq hρ hm ha fun σ' w' v h1 h2 h3 => ?_
        obtain ⟨p1, p2⟩ := putx_ok hp (hρ.ext h1) h2
        exact hk σ' w' _ _ h1 p1 h3 (p2 a ha)
      · cases h
    · cases h
  · rename_i hg
    rw [want_spec ha (wx_ok hρ hg), if_neg (by simp)]
    split at h
    · rename_i ρ'' hp
      cases h
      obtain ⟨p1, p2⟩ := putx_ok (v := undef) hp hρ rfl
      exact hk σ w _ _ (Ext.refl σ) p1 hm (p2 a ha)
    · cases h
  · cases h
theorem list_ok (hc : SndC P call) {Q : Exit → Act → World → Prop} : ∀ (l : List Oper) {ρ : Ev} {ρc : Env} {s : Sgm} {w : World} {σ : Pl0} {a : Act}, listx call P N ops l ρ s = some (ρ', s') → EnvR σ ρ ρc → Mem w0 w σ s → Holds N a ρc →
    (∀ σ' w' ρc' a', Ext σ σ' → EnvR σ' ρ' ρc' → Mem w0 w' σ' s' → Holds N a' ρc' → Q .normal a' w') → wpList P ops Q l a w
  | [], ρ, ρc, s, w, σ, a, h, hρ, hm, ha, hk => by
    cases h
    exact wpList_nil (hk σ w ρc a (Ext.refl σ) hρ hm ha)
  | o :: l, ρ, ρc, s, w, σ, a, h, hρ, hm, ha, hk => by
    simp only [listx] at h
    split at h
    · rename_i ρ1 s1 h1
      refine wpList_step fun K hK => step_wp hc h1 hρ hm ha fun σ1 w1 ρc1 a1 x1 e1 m1 g1 => hK _ _ (list_ok hc l h e1 m1 g1 fun σ' w' ρc' a' x' => hk σ' w' ρc' a' (x1.trans x'))
    · cases h
end
end Go.Hy.Ix
