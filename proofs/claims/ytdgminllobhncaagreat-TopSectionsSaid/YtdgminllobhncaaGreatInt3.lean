/-
  The interpreter is sound, third: all operations that leave the world as it is.
-/
import Derived.Test.YtdgminllobhncaaGreatInt2
import Derived.WalkSpells
import Derived.Lib.SliceRun
namespace Go.Hy.Ix
set_option linter.unusedVariables false
set_option linter.unusedSimpArgs false
set_option maxHeartbeats 2000000
set_option maxRecDepth 10000
open Go.RowKit Go.ChangeShapes
section
variable {P : Program} {N : Nat} {σ τ : Pl0} {ρ : Ev} {ρc : Env} {w : World} {d : Option Nat} {ty : TypeId} {ps : String} {af : Array Edge} {gd : Option (Nat × Bool)}
theorem yv_of {o : Oper} {v : Value} (h : ∀ a, Holds N a ρc → (execOp a.eval o).run P w = .ok (.value v) w) : Yv P N ρc w o v := by
  unfold Yv
  exact h
theorem fieldOff_cf {T : TypeId} {f off : Nat} (h : fieldOff P T f = some off) : CF P T f off := by
  unfold fieldOff at h
  split at h
  · rename_i fs hu
    split at h
    · rename_i fd hf
      split at h
      · rename_i n hs
        cases h
        exact ⟨fs, fd, hu, hf, rfl, n, hs⟩
      · cases h
    · cases h
  · cases h
theorem elemSz_ok {T : TypeId} {sz : Nat} (h : elemSz P T = some sz) : ∃ e, P.underlying T = some (.slice e) ∧ (P.info? e).map (·.size) = some sz := by
  unfold elemSz at h
  split at h
  · rename_i e hu; exact ⟨e, hu, h⟩
  · cases h
theorem eqGuard_slice (op : BinOp) (t : TypeId) (x y : Operand) (a b : Option Addr) (n c n' c' : Nat) : (eqGuard op t x y (.slice a n c) (.slice b n' c')).run P w = .ok () w := by
  cases op <;> simp [eqGuard] <;> rfl
theorem run_eq_nil {t e : TypeId} (hu : P.underlying t = some (.slice e)) (a : Addr) (n c : Nat) : (binOp .eql t (.slice (some a) n c) (.slice none 0 0)).run P w = .ok (.bool false) w :=
  Lib.run_eql_slice_nil w t e (some a) n c 0 0 hu
theorem run_ne_nil {t e : TypeId} (hu : P.underlying t = some (.slice e)) (a : Addr) (n c : Nat) : (binOp .neq t (.slice (some a) n c) (.slice none 0 0)).run P w = .ok (.bool true) w :=
  run_neq_slice_nil_any w t e (some a) n c 0 0 hu
theorem pv_binOp {m : Nat → Option Ent} {op : BinOp} {t yt : TypeId} {x y : Operand} {r : Vx} (h : pv P m ρ (.binOp op t x y yt) = some r) (hρ : EnvR σ ρ ρc) : ∃ v, r.val σ = some v ∧ Yv P N ρc w ⟨d, .binOp op t x y yt, ty, ps, af, gd⟩ v := by
  simp only [pv] at h
  split at h
  · rename_i v hv
    split at h
    rotate_left
    · cases h
    rename_i u hu
    split at h
    rotate_left
    · cases h
    rename_i q hq
    refine ⟨q, of_val σ h, yv_sem (s := fun e => (do eqGuard op t x y (e x) (e y); binOp op t (e x) (e y))) (fun e => rfl) fun a ha => ?_⟩
    simp only [ha.ev (evc_ok hρ hv), ha.ev (evc_ok hρ hu)]
    exact semEv_run hq
  · split at h
    · rename_i b n hx
      split at h
      · rename_i hy
        split at h
        · rename_i e hu
          obtain ⟨v, hv, hxe⟩ := evx_ok hρ hx
          obtain ⟨k, _, rfl⟩ := val_sl hv
          obtain ⟨v', hv', hye⟩ := evx_ok hρ hy
          obtain rfl := val_nils hv'
          split at h
          · cases h
            refine ⟨_, rfl, yv_sem (s := fun e => (do eqGuard .eql t x y (e x) (e y); binOp .eql t (e x) (e y))) (fun e => rfl) fun a ha => ?_⟩
            simp only [ha.ev hxe, ha.ev hye, Sem.run_bind, eqGuard_slice, Result.andThen_ok, run_eq_nil hu]
          · cases h
            refine ⟨_, rfl, yv_sem (s := fun e => (do eqGuard .neq t x y (e x) (e y); binOp .neq t (e x) (e y))) (fun e => rfl) fun a ha => ?_⟩
            simp only [ha.ev hxe, ha.ev hye, Sem.run_bind, eqGuard_slice, Result.andThen_ok, run_ne_nil hu]
          · cases h
        · cases h
      · cases h
    · cases h
theorem pv_ok {m : Nat → Option Ent} {o : Op} {r : Vx} (h : pv P m ρ o = some r) (hρ : EnvR σ ρ ρc) (hm : ∀ b e, m b = some e → EntW w σ b e) : ∃ v, r.val σ = some v ∧ Yv P N ρc w ⟨d, o, ty, ps, af, gd⟩ v := by
  have h0 := h
  unfold pv at h
  split at h
  · obtain ⟨v, h1, h2⟩ := evx_ok hρ h; exact ⟨v, h1, yv_move h2⟩
  · obtain ⟨v, h1, h2⟩ := evx_ok hρ h; exact ⟨v, h1, yv_assign h2⟩
  · split at h
    · rename_i b hc
      obtain ⟨vc, c1, c2⟩ := evx_ok hρ hc
      obtain rfl := val_bool c1
      cases b with
      | true => obtain ⟨v, h1, h2⟩ := evx_ok hρ h; exact ⟨v, h1, yv_pick_t c2 h2⟩
      | false => obtain ⟨v, h1, h2⟩ := evx_ok hρ h; exact ⟨v, h1, yv_pick_f c2 h2⟩
    · cases h
  · split at h
    · rename_i b q hx
      split at h
      rotate_left
      · cases h
      rename_i e he
      obtain ⟨u, u1, u2⟩ := evx_ok hρ hx
      obtain ⟨k, k1, rfl⟩ := val_ptr u1
      obtain ⟨k', v, l1, l2, l3⟩ := ldx_ok h (hm b e he)
      rw [k1] at l1; cases l1
      exact ⟨v, l2, yv_load u2 l3⟩
    · cases h
  · split at h
    · rename_i b q hx
      cases h
      obtain ⟨u, u1, u2⟩ := evx_ok hρ hx
      obtain ⟨k, k1, rfl⟩ := val_ptr u1
      exact ⟨_, u1, yv_nil u2⟩
    · cases h
  · split at h
    · rename_i b q hx
      split at h
      rotate_left
      · cases h
      rename_i off ho
      cases h
      obtain ⟨u, u1, u2⟩ := evx_ok hρ hx
      obtain ⟨k, k1, rfl⟩ := val_ptr u1
      have hC := fieldOff_cf ho
      exact ⟨_, by rw [ptr_val k1, ← Nat.add_assoc], yv_fieldAddr (hc := hC) u2⟩
    · cases h
  · split at h
    · rename_i b n hx
      split at h
      · rename_i kk i hy
        split at h
        rotate_left
        · cases h
        rename_i sz hs
        obtain ⟨c1, c2⟩ := bif_t h
        cases c2
        simp only [Bool.and_eq_true, decide_eq_true_eq] at c1
        obtain ⟨u, u1, u2⟩ := evx_ok hρ hx
        obtain ⟨k, k1, rfl⟩ := val_sl u1
        obtain ⟨u', u1', u2'⟩ := evx_ok hρ hy
        obtain rfl := val_int u1'
        obtain ⟨e, e1, e2⟩ := elemSz_ok hs
        refine ⟨_, ptr_val k1, yv_of fun a ha => ?_⟩
        simp [execOp, ha.ev u2, ha.ev u2', Instr.indexAt, asIntOf, run_underlying e1, c1.1, c1.2, run_sizeOf' e2, Addr.add_lit]
      · cases h
    · cases h
  · split at h
    · rename_i vs hx
      obtain ⟨u, u1, u2⟩ := evx_ok hρ hx
      obtain ⟨us, t1, rfl⟩ := val_tup u1
      obtain ⟨v, v1, v2⟩ := vals_get t1 h
      exact ⟨v, v2, yv_extract u2 (by simpa using v1)⟩
    · cases h
  · rename_i f first caps
    obtain ⟨c1, c2⟩ := bif_t h
    split at c2
    rotate_left
    · cases c2
    rename_i cs hcs
    cases c2
    obtain ⟨vs, s1, s2⟩ := evxs_ok hρ hcs
    have hf : first = #[] := by simpa using c1
    subst hf
    refine ⟨.func (.func f) #[] vs.toArray, by simp only [Vx.val, s1], yv_of fun a ha => ?_⟩
    have hm : Array.map a.eval caps = vs.toArray := by
      rw [← evl_spec ha s2, ← List.map_toArray, Array.toArray_toList]
    simp [execOp, Instr.makeFunc, hm]
  · rename_i T parts
    split at h
    rotate_left
    · cases h
    rename_i qs hq
    have := build_ok (N := N) (w := w) (d := d) (ty := ty) (ps := ps) (af := af) (gd := gd) hρ hq h
    rwa [Array.toArray_toList] at this
  · exact pv_binOp h0 hρ
  · rename_i op t x
    split at h
    rotate_left
    · cases h
    rename_i v hv
    split at h
    rotate_left
    · cases h
    rename_i q hq
    refine ⟨q, of_val σ h, yv_sem (s := fun e => Op.unary op (e x)) (fun e => rfl) fun a ha => ?_⟩
    simp only [ha.ev (evc_ok hρ hv)]
    exact semEv_run hq
  · rename_i s t x
    split at h
    rotate_left
    · cases h
    rename_i v hv
    split at h
    rotate_left
    · cases h
    rename_i q hq
    refine ⟨q, of_val σ h, yv_sem (s := fun e => convert s t (e x)) (fun e => rfl) fun a ha => ?_⟩
    simp only [ha.ev (evc_ok hρ hv)]
    exact semEv_run hq
  · rename_i t x y
    split at h
    rotate_left
    · cases h
    rename_i v hv
    split at h
    rotate_left
    · cases h
    rename_i u hu
    split at h
    rotate_left
    · cases h
    rename_i q hq
    refine ⟨q, of_val σ h, yv_sem (s := fun e => Instr.index t (e x) (e y)) (fun e => rfl) fun a ha => ?_⟩
    simp only [ha.ev (evc_ok hρ hv), ha.ev (evc_ok hρ hu)]
    exact semEv_run hq
  · rename_i args argTypes
    split at h
    · rename_i x T hx hT
      have e1 : args = #[x] := by rw [← Array.toArray_toList (xs := args), hx]
      have e2 : argTypes = #[T] := by rw [← Array.toArray_toList (xs := argTypes), hT]
      subst e1 e2
      split at h
      · rename_i e hu
        split at h
        · rename_i b n hxe
          cases h
          obtain ⟨u, u1, u2⟩ := evx_ok hρ hxe
          obtain ⟨k, k1, rfl⟩ := val_sl u1
          refine ⟨_, rfl, yv_of fun a ha => ?_⟩
          simp [execOp, resolve, invoke, builtin, Builtin.len_, ha.ev u2, run_underlying hu, goInt]
        · rename_i hxe
          cases h
          obtain ⟨u, u1, u2⟩ := evx_ok hρ hxe
          obtain rfl := val_nils u1
          refine ⟨_, rfl, yv_of fun a ha => ?_⟩
          simp [execOp, resolve, invoke, builtin, Builtin.len_, ha.ev u2, run_underlying hu, goInt]
        · cases h
      · cases h
    · cases h
  · rename_i args argTypes
    split at h
    · rename_i x y hx
      have e1 : args = #[x, y] := by rw [← Array.toArray_toList (xs := args), hx]
      subst e1
      split at h
      · rename_i m1 hxe
        split at h
        · rename_i n1 hye
          cases h
          obtain ⟨u, u1, u2⟩ := evx_ok hρ hxe
          obtain rfl := val_int u1
          obtain ⟨u', u1', u2'⟩ := evx_ok hρ hye
          obtain rfl := val_int u1'
          refine ⟨_, rfl, yv_of fun a ha => ?_⟩
          simp only [execOp, resolve, invoke, builtin, List.map_toArray, List.map_cons, List.map_nil, ha.ev u2, ha.ev u2', Sem.run_bind, Sem.run_pure, Result.andThen_ok]
          simp only [Builtin.max_, List.foldlM_cons, List.foldlM_nil, Builtin.max2, Sem.run_bind, Sem.run_pure, Result.andThen_ok]
          have : (if m1 < n1 then n1 else m1) = max m1 n1 := by omega
          rw [this]
        · cases h
      · cases h
    · cases h
  · rename_i args argTypes
    split at h
    · rename_i x y hx
      have e1 : args = #[x, y] := by rw [← Array.toArray_toList (xs := args), hx]
      subst e1
      split at h
      · rename_i m1 hxe
        split at h
        · rename_i n1 hye
          cases h
          obtain ⟨u, u1, u2⟩ := evx_ok hρ hxe
          obtain rfl := val_int u1
          obtain ⟨u', u1', u2'⟩ := evx_ok hρ hye
          obtain rfl := val_int u1'
          refine ⟨_, rfl, yv_of fun a ha => ?_⟩
          simp only [execOp, resolve, invoke, builtin, List.map_toArray, List.map_cons, List.map_nil, ha.ev u2, ha.ev u2', Sem.run_bind, Sem.run_pure, Result.andThen_ok]
          simp only [Builtin.min_, List.foldlM_cons, List.foldlM_nil, Builtin.min2, Sem.run_bind, Sem.run_pure, Result.andThen_ok]
          have : (if n1 < m1 then n1 else m1) = min m1 n1 := by omega
          rw [this]
        · cases h
      · cases h
    · cases h
  · cases h
end
end Go.Hy.Ix
