/-
  The interpreter is sound, second: operations that leave the world as it is.
-/
import Derived.Test.YtdgminllobhncaaGreatInt1
namespace Go.Hy.Ix
set_option linter.unusedVariables false
set_option linter.unusedSimpArgs false
set_option maxHeartbeats 2000000
set_option maxRecDepth 10000
open Go.RowKit Go.ChangeShapes

def EnvR (σ : Pl0) (ρ : Ev) (ρc : Env) : Prop := ∀ t r, ρ.get t = some r → ∃ v, r.val σ = some v ∧ look ρc t = some v
section
variable {P : Program} {σ τ : Pl0} {ρ : Ev} {ρc : Env} {w : World}
theorem EnvR.ext (h : EnvR σ ρ ρc) (hx : Ext σ τ) : EnvR τ ρ ρc := fun t r ht => by
  obtain ⟨v, h1, h2⟩ := h t r ht
  exact ⟨v, val_mono hx r v h1, h2⟩
theorem EnvR.put (h : EnvR σ ρ ρc) {d : Nat} {r : Vx} {v : Value} (hv : r.val σ = some v) : EnvR σ (ρ.put d r) ((d, v) :: ρc) := fun t r' ht => by
  rcases Tr.get_put ht with ⟨rfl, rfl⟩ | ⟨hne, ht⟩
  · exact ⟨v, hv, by simp [look]⟩
  · obtain ⟨v', h1, h2⟩ := h t r' ht
    refine ⟨v', h1, ?_⟩
    have hb : Nat.beq d t = false := by rw [← Bool.not_eq_true, Nat.beq_eq]; exact Ne.symm hne
    simp only [look, hb, cond_false, h2]
theorem evx_ok (h : EnvR σ ρ ρc) {x : Operand} {r : Vx} (hx : evx ρ x = some r) : ∃ v, r.val σ = some v ∧ evo ρc x = some v := by
  cases x with
  | tmp t => exact h t r hx
  | const v => exact ⟨v, of_val σ hx, rfl⟩
  | global g => cases hx
  | func f => cases hx; exact ⟨_, rfl, rfl⟩
theorem evxs_ok (h : EnvR σ ρ ρc) : ∀ {xs : List Operand} {rs : List Vx}, evxs ρ xs = some rs → ∃ vs, vals σ rs = some vs ∧ evl ρc xs = some vs
  | [], rs, hx => by cases hx; exact ⟨[], rfl, rfl⟩
  | x :: xs, rs, hx => by
    simp only [evxs] at hx
    cases h1 : evx ρ x with
    | none => rw [h1] at hx; cases hx
    | some r =>
      rw [h1] at hx
      simp only at hx
      cases h2 : evxs ρ xs with
      | none => rw [h2] at hx; cases hx
      | some us =>
        rw [h2] at hx
        cases hx
        obtain ⟨v, a1, a2⟩ := evx_ok h h1
        obtain ⟨vs, b1, b2⟩ := evxs_ok h h2
        exact ⟨v :: vs, by simp only [vals, a1, b1], by simp only [evl, a2, b2]⟩
/-- Numbered parts. -/
def valp (σ : Pl0) : List (Nat × Vx) → List (Nat × Value) → Prop
  | [], [] => True
  | (i, r) :: l, (j, v) :: m => i = j ∧ r.val σ = some v ∧ valp σ l m
  | _, _ => False
theorem evxp_ok (h : EnvR σ ρ ρc) : ∀ {xs : List (Nat × Operand)} {rs : List (Nat × Vx)}, evxp ρ xs = some rs → ∃ vs, valp σ rs vs ∧ evp ρc xs = some vs
  | [], rs, hx => by cases hx; exact ⟨[], trivial, rfl⟩
  | (i, x) :: xs, rs, hx => by
    simp only [evxp] at hx
    cases h1 : evx ρ x with
    | none => rw [h1] at hx; cases hx
    | some r =>
      rw [h1] at hx
      simp only at hx
      cases h2 : evxp ρ xs with
      | none => rw [h2] at hx; cases hx
      | some us =>
        rw [h2] at hx
        cases hx
        obtain ⟨v, a1, a2⟩ := evx_ok h h1
        obtain ⟨vs, b1, b2⟩ := evxp_ok h h2
        exact ⟨(i, v) :: vs, ⟨rfl, a1, b1⟩, by simp only [evp, a2, b2]⟩
theorem evc_ok (h : EnvR σ ρ ρc) {x : Operand} {v : Value} (hx : evc ρ x = some v) : evo ρc x = some v := by
  unfold evc at hx
  cases h1 : evx ρ x with
  | none => rw [h1] at hx; cases hx
  | some r =>
    rw [h1] at hx
    simp only at hx
    obtain ⟨v', a1, a2⟩ := evx_ok h h1
    have := val_mono (Ext.none σ) r v hx
    rw [this] at a1
    cases a1
    exact a2
theorem semEv_run {α : Type} : ∀ {s : Sem α} {r : α}, semEv P s = some r → s.run P w = .ok r w
  | .pure a, r, h => by simp only [semEv, Option.some.injEq] at h; subst h; rfl
  | .program k, r, h => by
    simp only [semEv] at h
    exact semEv_run (s := k P) h
  | .load _ _ _, r, h => by cases h
  | .store _ _ _ _, r, h => by cases h
  | .new _ _, r, h => by cases h
  | .shape _ _, r, h => by cases h
  | .freeze _ _ _, r, h => by cases h
  | .frozen _ _, r, h => by cases h
  | .getObj _ _, r, h => by cases h
  | .setObj _ _ _, r, h => by cases h
  | .choose _ _, r, h => by cases h
  | .sys _ _, r, h => by cases h
  | .mark _ _, r, h => by cases h
  | .halt _, r, h => by cases h

theorem szP_ok {T : TypeId} {s : Nat} (h : szP P T = some s) : (sizeOf T).run P w = .ok s w := run_sizeOf' h
theorem fillX_ok (pl : Nat → Option (Nat × Nat)) : ∀ {ps : List (Nat × Vx)} {qs : List (Nat × Value)} {cs out : List Vx} {vs : List Value}, fillX pl cs ps = some out → valp σ ps qs → vals σ cs = some vs → ∃ ov, fillL pl vs qs = some ov ∧ vals σ out = some ov
  | [], qs, cs, out, vs, h, hp, hv => by
    cases qs with
    | nil => cases h; exact ⟨vs, rfl, hv⟩
    | cons q qs => exact hp.elim
  | (i, r) :: ps, qs, cs, out, vs, h, hp, hv => by
    cases qs with
    | nil => exact hp.elim
    | cons q qs =>
      obtain ⟨j, v⟩ := q
      obtain ⟨rfl, h1, h2⟩ := hp
      simp only [fillX] at h
      simp only [fillL]
      cases hpl : pl i with
      | none => rw [hpl] at h; cases h
      | some p =>
        obtain ⟨off, size⟩ := p
        rw [hpl] at h
        simp only at h ⊢
        have hc := cells_val h1
        obtain ⟨c1, c2⟩ := bif_t h
        rw [← vals_len hc, ← vals_len hv] at c1
        rw [c1, cond_true]
        exact fillX_ok pl c2 h2 (vals_put hv hc off)
theorem places_ok : ∀ {fs : List Field} {pl : List (Nat × Nat)}, places P fs = some pl → (fs.mapM fun (f : Field) => (do pure (f.offset, ← sizeOf f.type) : Sem (Nat × Nat))).run P w = .ok pl w
  | [], pl, h => by cases h; rfl
  | f :: fs, pl, h => by
    simp only [places] at h
    cases h1 : szP P f.type with
    | none => rw [h1] at h; cases h
    | some s =>
      rw [h1] at h
      simp only at h
      cases h2 : places P fs with
      | none => rw [h2] at h; cases h
      | some l =>
        rw [h2] at h
        cases h
        have ih := places_ok h2
        simp only [List.mapM_cons, Sem.run_bind, szP_ok h1, Result.andThen_ok, Sem.run_pure, ih]
end

section
variable {P : Program} {N : Nat} {σ τ : Pl0} {ρ : Ev} {ρc : Env} {w : World} {d : Option Nat} {ty : TypeId} {ps : String} {af : Array Edge} {gd : Option (Nat × Bool)}
theorem yv_sem {o : Op} {v : Value} {s : (Operand → Value) → Sem Value} (he : ∀ e : Operand → Value, execOp e ⟨d, o, ty, ps, af, gd⟩ = (do pure (.value (← s e)) : Sem Next)) (h : ∀ a, Holds N a ρc → (s a.eval).run P w = .ok v w) : Yv P N ρc w ⟨d, o, ty, ps, af, gd⟩ v := by
  unfold Yv
  intro a ha
  rw [he, Sem.run_bind, h a ha]
  rfl
theorem ldx_ok {T : TypeId} {e : Ent} {b q : Nat} {r : Vx} (hl : ldx P T e.cells q = some r) (he : EntW w σ b e) : ∃ k v, σ b = some k ∧ r.val σ = some v ∧ Ld P w T ⟨k.g, k.o + q, none⟩ v := by
  unfold ldx at hl
  cases hc : e.cells with
  | none => rw [hc] at hl; cases hl
  | some cs =>
    rw [hc] at hl
    simp only at hl
    obtain ⟨k, vs, h1, h2, h3⟩ := he.cell hc
    cases hu : P.underlying T with
    | none => rw [hu] at hl; cases hl
    | some D =>
      rw [hu] at hl
      simp only at hl
      cases hD : aggD D with
      | true =>
        rw [hD, cond_true] at hl
        cases hs : szP P T with
        | none => rw [hs] at hl; cases hl
        | some s =>
          rw [hs] at hl
          simp only at hl
          obtain ⟨c1, c2⟩ := bif_t hl
          have c1 := ble_t c1
          cases c2
          have hv : vals σ ((cs.drop q).take s) = some ((vs.drop q).take s) := vals_take (vals_drop h2 q) s
          refine ⟨k, .agg ((vs.drop q).take s).toArray, h1, by simp only [Vx.val, hv], ?_⟩
          have hC : CS P T s := ⟨⟨D, hu, by cases D <;> first | trivial | cases hD⟩, hs⟩
          refine ldS (hc := hC) (by rw [List.length_take, List.length_drop, vals_len h2]; omega) fun j v hv => ?_
          rw [Addr.add_lit, Nat.add_assoc]
          refine h3 _ v ?_
          rw [List.getElem?_take] at hv
          split at hv
          · rwa [List.getElem?_drop] at hv
          · cases hv
      | false =>
        rw [hD, cond_false] at hl
        obtain ⟨v, v1, v2⟩ := vals_get h2 hl
        have hC : C1 P T := ⟨⟨D, hu, by cases D <;> first | trivial | cases hD⟩⟩
        exact ⟨k, v, h1, v2, ld1 (h3 q v v1)⟩
theorem val_ptr {b q : Nat} {v : Value} (h : (Vx.ptr b q).val σ = some v) : ∃ k, σ b = some k ∧ v = .pointer (some ⟨k.g, k.o + q, none⟩) := by
  simp only [Vx.val] at h
  cases hb : σ b with
  | none => rw [hb] at h; cases h
  | some k => rw [hb] at h; cases h; exact ⟨k, rfl, rfl⟩
theorem val_sl {b q : Nat} {v : Value} (h : (Vx.sl b q).val σ = some v) : ∃ k, σ b = some k ∧ v = .slice (some ⟨k.g, k.o, none⟩) q k.c := by
  simp only [Vx.val] at h
  cases hb : σ b with
  | none => rw [hb] at h; cases h
  | some k => rw [hb] at h; cases h; exact ⟨k, rfl, rfl⟩
theorem ptr_val {b q : Nat} {k : Gh} (h : σ b = some k) : (Vx.ptr b q).val σ = some (.pointer (some ⟨k.g, k.o + q, none⟩)) := by simp only [Vx.val, h]
theorem sl_val {b q : Nat} {k : Gh} (h : σ b = some k) : (Vx.sl b q).val σ = some (.slice (some ⟨k.g, k.o, none⟩) q k.c) := by simp only [Vx.val, h]

theorem val_int {k : IntKind} {n : Int} {v : Value} (h : (Vx.int k n).val σ = some v) : v = .int k n := by simp only [Vx.val] at h; exact (Option.some.inj h).symm
theorem val_bool {b : Bool} {v : Value} (h : (Vx.bool b).val σ = some v) : v = .bool b := by simp only [Vx.val] at h; exact (Option.some.inj h).symm
theorem val_nils {v : Value} (h : Vx.nils.val σ = some v) : v = .slice none 0 0 := by simp only [Vx.val] at h; exact (Option.some.inj h).symm
theorem val_tup {cs : List Vx} {v : Value} (h : (Vx.tup cs).val σ = some v) : ∃ vs, vals σ cs = some vs ∧ v = .tuple vs.toArray := by
  simp only [Vx.val] at h
  cases hb : vals σ cs with
  | none => rw [hb] at h; cases h
  | some k => rw [hb] at h; cases h; exact ⟨k, rfl, rfl⟩
theorem val_fn {f : FuncId} {cs : List Vx} {v : Value} (h : (Vx.fn f cs).val σ = some v) : ∃ vs, vals σ cs = some vs ∧ v = .func (.func f) #[] vs.toArray := by
  simp only [Vx.val] at h
  cases hb : vals σ cs with
  | none => rw [hb] at h; cases h
  | some k => rw [hb] at h; cases h; exact ⟨k, rfl, rfl⟩

/-- Taking one step of an option apart. -/
theorem om {α β : Type} {x : Option α} {f : α → Option β} {r : β} (h : (match x with | some a => f a | none => none) = some r) : ∃ a, x = some a ∧ f a = some r := by
  cases x with
  | none => cases h
  | some a => exact ⟨a, rfl, h⟩

theorem build_ok {T : TypeId} {x : List (Nat × Operand)} {qs : List (Nat × Vx)} {r : Vx} (hρ : EnvR σ ρ ρc) (hx : evxp ρ x = some qs) (h : buildX P T qs = some r) : ∃ v, r.val σ = some v ∧ Yv P N ρc w ⟨d, .build T x.toArray, ty, ps, af, gd⟩ v := by
  obtain ⟨vs, p1, p2⟩ := evxp_ok hρ hx
  unfold buildX at h
  cases hz : (P.info? T).bind (·.zero) with
  | none => rw [hz] at h; cases h
  | some z =>
    rw [hz] at h
    simp only at h
    cases hzs : ofAs z.cells.toList with
    | none => rw [hzs] at h; cases h
    | some zs =>
      rw [hzs] at h
      simp only at h
      have hzv := ofAs_vals σ hzs
      cases hu : P.underlying T with
      | none => rw [hu] at h; cases h
      | some D =>
        rw [hu] at h
        cases D <;> simp only at h <;> try cases h
        case struct fs =>
          cases hpl : places P fs.toList with
          | none => rw [hpl] at h; cases h
          | some pl =>
            rw [hpl] at h
            simp only at h
            cases hf : fillX (pl[·]?) zs qs with
            | none => rw [hf] at h; cases h
            | some out =>
              rw [hf] at h
              cases h
              obtain ⟨ov, f1, f2⟩ := fillX_ok _ hf p1 hzv
              refine ⟨.agg ov.toArray, by simp only [Vx.val, f2], ?_⟩
              have hC : CB P T z.cells.toList pl.toArray := ⟨z, fs, hz, by simp, hu, fun w => by
                have := places_ok (w := w) hpl
                rw [← Array.toArray_toList (xs := fs), List.mapM_toArray]
                show ((fs.toList.mapM fun (f : Field) => (do pure (f.offset, ← sizeOf f.type) : Sem (Nat × Nat))) >>= fun x => pure x.toArray).run P w = _
                rw [Sem.run_bind, this]
                rfl⟩
              exact yv_build (hc := hC) p2 (by simpa using f1)
        case array n e =>
          cases hs : szP P e with
          | none => rw [hs] at h; cases h
          | some s =>
            rw [hs] at h
            simp only at h
            cases hf : fillX (fun i => some (i * s, s)) zs qs with
            | none => rw [hf] at h; cases h
            | some out =>
              rw [hf] at h
              cases h
              obtain ⟨ov, f1, f2⟩ := fillX_ok _ hf p1 hzv
              refine ⟨.agg ov.toArray, by simp only [Vx.val, f2], ?_⟩
              have hC : CA P T n e s z.cells.toList := ⟨hu, hs, z, hz, by simp⟩
              exact yv_buildA (hc := hC) p2 f1
end
end Go.Hy.Ix
