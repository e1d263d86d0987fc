/-
  The interpreter is sound, fourth: operations that turn the world.
-/
import Derived.Test.YtdgminllobhncaaGreatInt3
namespace Go.Hy.Ix
set_option linter.unusedVariables false
set_option linter.unusedSimpArgs false
set_option maxHeartbeats 2000000
set_option maxRecDepth 10000
open Go.RowKit Go.ChangeShapes

theorem put_get {cs l : List Value} {off : Nat} (h : off + l.length ≤ cs.length) (j : Nat) : (putCells cs off l)[j]? = if j < off then cs[j]? else if j < off + l.length then l[j - off]? else cs[j]? := by
  unfold putCells
  rw [List.append_assoc, List.getElem?_append, List.length_take, List.getElem?_append]
  have e : min off cs.length = off := by omega
  rw [e]
  by_cases h1 : j < off
  · rw [if_pos h1, if_pos h1, List.getElem?_take, if_pos h1]
  · rw [if_neg h1, if_neg h1]
    by_cases h2 : j < off + l.length
    · rw [if_pos h2, if_pos (by omega)]
    · rw [if_neg h2, if_neg (by omega), List.getElem?_drop]
      congr 1
      omega
theorem put_len {cs l : List Value} {off : Nat} (h : off + l.length ≤ cs.length) : (putCells cs off l).length = cs.length := by
  unfold putCells
  simp only [List.length_append, List.length_take, List.length_drop]
  omega
theorem take_put {cur vs l : List Value} {o q m : Nat} (h : (cur.drop o).take m = vs) (hq : q + l.length ≤ vs.length) (hc : o + m ≤ cur.length) : ((putCells cur (o + q) l).drop o).take m = putCells vs q l := by
  have hm : vs.length = m := by rw [← h, List.length_take, List.length_drop]; omega
  apply List.ext_getElem?
  intro j
  rw [put_get hq, List.getElem?_take, List.getElem?_drop, put_get (by omega)]
  have hv : vs[j]? = if j < m then cur[o + j]? else none := by rw [← h, List.getElem?_take, List.getElem?_drop]
  by_cases h1 : j < m
  · rw [if_pos h1]
    by_cases h2 : j < q
    · rw [if_pos h2, if_pos (by omega), hv, if_pos h1]
    · rw [if_neg h2, if_neg (by omega)]
      by_cases h3 : j < q + l.length
      · rw [if_pos h3, if_pos (by omega)]
        congr 1
        omega
      · rw [if_neg h3, if_neg (by omega), hv, if_pos h1]
  · rw [if_neg h1, if_neg (by omega), if_neg (by omega), hv, if_neg h1]

section
variable {P : Program} {N : Nat} {σ τ : Pl0} {ρ : Ev} {ρc : Env} {w0 w : World} {d : Option Nat} {ty : TypeId} {ps : String} {af : Array Edge} {gd : Option (Nat × Bool)} {s : Sgm} {r : Vx}
/-- The operation does this to the world. -/
def Hv (P : Program) (N : Nat) (w0 w : World) (σ : Pl0) (ρc : Env) (o : Oper) (r : Vx) (s' : Sgm) : Prop :=
  ∃ w' σ' v nx, Ext σ σ' ∧ r.val σ' = some v ∧ Mem w0 w' σ' s' ∧ (nx = Next.value v ∨ (nx = Next.skip ∧ v = undef)) ∧ ∀ a, Holds N a ρc → (execOp a.eval o).run P w = .ok nx w'
theorem elI_ok {T : TypeId} {i : EI} (h : elI P T = some i) : ∃ z, CL P T i.e i.sz i.bytes z ∧ (∀ σ, vals σ i.zs = some (cl z)) ∧ i.zs.all Vx.one = true ∧ i.zs.length = i.sz := by
  unfold elI at h
  split at h
  · rename_i e hu
    split at h
    · rename_i inf hi
      split at h
      · rename_i z hz
        split at h
        · rename_i zs hzs
          obtain ⟨c1, c2⟩ := bif_t h
          cases c2
          simp only [Bool.and_eq_true] at c1
          obtain ⟨⟨c1, c2⟩, c3⟩ := c1
          have c1 := beq_t c1
          have c2 := blt_t c2
          have h1 := vals_len (ofAs_vals (fun _ => none) hzs)
          exact ⟨z, ⟨hu, inf, hi, hz, rfl, rfl, by rw [← Array.length_toList, h1, c1], c2⟩, fun σ => by rw [← cl_spec]; exact ofAs_vals σ hzs, c3, c1⟩
        · cases h
      · cases h
    · cases h
  · cases h
theorem run_alloc {T : TypeId} {z : Value} (hz : (P.info? T).bind (·.zero) = some z) (a : Act) : (execOp a.eval ⟨d, .alloc T, ty, ps, af, gd⟩).run P w = .ok (.value (.pointer (some ⟨w.heap.size, 0, none⟩))) (w.alloc (.cells z.cells T)) := by
  simp only [execOp, Instr.alloc, Sem.run_bind, run_zeroValue' hz, Result.andThen_ok, newVar, newRow, run_newObj, Sem.run_pure]
  rfl
theorem ent_alloc {T : TypeId} {b : Nat} {cs : List Vx} {c : Array Value} {k : Nat} (h : vals (setP σ b ⟨w.heap.size, 0, k⟩) cs = some c.toList) : EntW (w.alloc (.cells c T)) (setP σ b ⟨w.heap.size, 0, k⟩) b (.blk T cs) :=
  ⟨⟨w.heap.size, 0, k⟩, c.toList, setP_self, rfl, h, by rw [Array.toArray_toList]; exact heap_alloc_new w _⟩
theorem ent_row {e : TypeId} {sz n b : Nat} {cs : List Vx} {c : List Value} (hc : c.length = n * sz) (hn : n ≤ 1000000000) (h : vals (setP σ b ⟨w.heap.size, 0, n⟩) cs = some c) : EntW (w.alloc (.cells c.toArray e)) (setP σ b ⟨w.heap.size, 0, n⟩) b (.row e sz n cs) :=
  ⟨⟨w.heap.size, 0, n⟩, c, setP_self, h, hc, hn, .inr ⟨w.heap.size, 0, _, rfl, heap_alloc_new w _, Nat.le_refl _, by simp only [maxLen]; omega, by simp [hc], by simp [← hc]⟩⟩
theorem hv_alloc {T : TypeId} {s' : Sgm} (h : hv P ρ s (.alloc T) = some (r, s')) (hm : Mem w0 w σ s) : Hv P N w0 w σ ρc ⟨d, .alloc T, ty, ps, af, gd⟩ r s' := by
  simp only [hv] at h
  split at h
  · rename_i z hz
    split at h
    · rename_i cs hcs
      cases h
      refine ⟨_, _, _, _, hm.ext, ptr_val setP_self, hm.alloc _ (c := 0) (ent_alloc (ofAs_vals _ hcs)), .inl rfl, fun a _ => run_alloc hz a⟩
    · cases h
  · cases h
theorem hv_box {T : TypeId} {x : Operand} {s' : Sgm} (h : hv P ρ s (.box T x) = some (r, s')) (hρ : EnvR σ ρ ρc) (hm : Mem w0 w σ s) : Hv P N w0 w σ ρc ⟨d, .box T x, ty, ps, af, gd⟩ r s' := by
  simp only [hv] at h
  split at h
  · rename_i q hq
    cases h
    obtain ⟨v, v1, v2⟩ := evx_ok hρ hq
    refine ⟨w.alloc (.cells v.cells T), _, _, _, hm.ext, ptr_val setP_self, hm.alloc _ (c := 0) (ent_alloc (by rw [cl_spec]; exact vals_mono hm.ext _ _ (cells_val v1))), .inl rfl, fun a ha => ?_⟩
    simp only [execOp, Instr.box, ha.ev v2, Sem.run_bind, Result.andThen_ok, newVar, newRow, run_newObj, Sem.run_pure]
    rfl
  · cases h
theorem hv_store {T : TypeId} {x y : Operand} {s' : Sgm} (h : hv P ρ s (.store T x y) = some (r, s')) (hρ : EnvR σ ρ ρc) (hm : Mem w0 w σ s) : Hv P N w0 w σ ρc ⟨d, .store T x y, ty, ps, af, gd⟩ r s' := by
  simp only [hv] at h
  split at h
  · rename_i b q hx
    split at h
    · rename_i ry hy
      split at h
      · rename_i z hz
        obtain ⟨c1, h⟩ := bif_t h
        simp only [Bool.and_eq_true] at c1
        obtain ⟨c1, c2⟩ := c1
        have c1 := beq_t c1
        obtain ⟨v, v1, v2⟩ := evx_ok hρ hy
        obtain ⟨u, u1, u2⟩ := evx_ok hρ hx
        obtain ⟨k, k1, rfl⟩ := val_ptr u1
        have hcv := cells_val v1
        have hlen : (cl v).length = z := by rw [vals_len hcv, c1]
        have hone := vals_one hcv c2
        have hrun : ∀ (cur : List Value) (t : TypeId), w.heap[k.g]? = some (.cells cur.toArray t (0, 0)) → k.o + q + z ≤ cur.length → ∀ a, Holds N a ρc → (execOp a.eval ⟨d, .store T x y, ty, ps, af, gd⟩).run P w = .ok .skip (w.setRow k.g (putCells cur (k.o + q) (cl v)).toArray) := fun cur t hg hfit a ha => by
          simp only [execOp, Instr.storeAt, ha.ev u2, ha.ev v2, Instr.sureAddr, Sem.run_bind, Sem.run_pure, Result.andThen_ok, run_storeB hz hg (cl_spec v) hlen hfit hone]
        split at h
        · rename_i t cs hg
          obtain ⟨c3, h⟩ := bif_t h
          cases h
          have c3 := ble_t c3
          obtain ⟨k', vs, e1, e2, e3, e4⟩ := hm.ent b _ hg
          rw [k1] at e1; cases e1
          have hl := vals_len e3
          refine ⟨w.setRow k.g (putCells vs (k.o + q) (cl v)).toArray, σ, undef, .skip, Ext.refl σ, rfl, hm.upd hg trivial k1 rfl rfl rfl (by simp [World.setRow]) (fun j _ hj => setRow_other w _ j _ hj) ?_, .inr ⟨rfl, rfl⟩, hrun vs t e4 (by omega)⟩
          refine ⟨k, putCells vs q (cl v), k1, e2, vals_put e3 hcv q, ?_⟩
          rw [e2, Nat.zero_add]
          exact setRow_heap w _ _ _ t _ e4
        · rename_i e sz n xs hg
          obtain ⟨c3, h⟩ := bif_t h
          cases h
          have c3 := ble_t c3
          obtain ⟨k', vs, e1, e3, e4⟩ := hm.ent b _ hg
          rw [k1] at e1; cases e1
          have hl := vals_len e3
          obtain ⟨r1, r2, r3⟩ := e4
          rcases r3 with ⟨hA, _⟩ | ⟨g, o, cur, hA, hg', hnc, hcm, hcs, htk⟩
          · cases hA
          cases hA
          have hmul : n * sz ≤ k.c * sz := Nat.mul_le_mul_right sz hnc
          have hg2 : w.heap[k.g]? = some (.cells cur.toList.toArray e (0, 0)) := by rw [Array.toArray_toList]; exact hg'
          have hcl : cur.toList.length = cur.size := Array.length_toList
          refine ⟨w.setRow k.g (putCells cur.toList (k.o + q) (cl v)).toArray, σ, undef, .skip, Ext.refl σ, rfl, hm.upd hg trivial k1 rfl rfl rfl (by simp [World.setRow]) (fun j _ hj => setRow_other w _ j _ hj) ?_, .inr ⟨rfl, rfl⟩, hrun cur.toList e hg2 (by omega)⟩
          refine ⟨k, putCells vs q (cl v), k1, vals_put e3 hcv q, ?_, r2, .inr ⟨k.g, k.o, _, rfl, setRow_heap w _ _ _ e _ hg2, hnc, hcm, ?_, ?_⟩⟩
          · rw [put_len (by omega), r1]
          · rw [List.size_toArray, put_len (by omega), hcl]; exact hcs
          · exact take_put htk (by omega) (by omega)
        · cases h
      · cases h
    · cases h
  · cases h
theorem run_make {T : TypeId} {x y : Operand} {n : Int} {e : TypeId} {sz b : Nat} {z : Value} (hc : CL P T e sz b z) (hx : evo ρc x = some (.int .i64 n)) (hy : evo ρc y = some (.int .i64 n)) (hsb : b ≤ 1000) (hle : 0 ≤ n ∧ n ≤ 1000) {a : Act} (ha : Holds N a ρc) :
    (execOp a.eval ⟨d, .makeSlice T x y, ty, ps, af, gd⟩).run P w = .ok (.value (.slice (some ⟨w.heap.size, 0, none⟩) n.toNat n.toNat)) (w.alloc (.cells (rep n.toNat (cl z)).toArray e)) := by
  obtain ⟨inf, h2, h2z, h3, h4, h5, h6⟩ := hc.h
  have hi : (P.info? e).map (·.size) = some sz := by simp [h2, h3]
  have hzz : (P.info? e).bind (·.zero) = some z := by simp [h2, h2z]
  have hw : IntKind.i64.wrap n = n := IntWalk.i64_in n (by omega)
  have hb1 : (b : Int) * n ≤ 1000 * 1000 := by
    have h7 : (b : Int) ≤ 1000 := by omega
    have h8 : (b : Int) * n ≤ 1000 * n := Int.mul_le_mul_of_nonneg_right h7 hle.1
    omega
  have hb2 : ¬ (281474976710656 < (b : Int) * n) := by omega
  have hcells : ((Array.range (n.toNat * sz)).map (fun j => (if n.toNat * sz = 0 then (#[] : Array Value) else z.cells)[j % (if n.toNat * sz = 0 then (#[] : Array Value) else z.cells).size]!)) = (rep n.toNat (cl z)).toArray := by
    by_cases h0 : n.toNat * sz = 0
    · have hn0 : n.toNat = 0 := by rcases Nat.mul_eq_zero.1 h0 with h | h <;> omega
      simp [hn0, rep]
    · simp only [if_neg h0]
      rw [rep_spec h5 h6]
  have hneg : ¬ n < 0 := by omega
  by_cases h0 : n.toNat * sz = 0
  · simp only [h0, if_true] at hcells
    simp [execOp, ha.ev hx, ha.ev hy, Instr.makeSlice, run_underlying hc.u, typeInfo, h2, h4, hw, hneg, hb2, run_sizeOf' hi, askRoom, asInt, asIntOf, newRow, run_newObj, h0, ← hcells]
  · simp only [if_neg h0] at hcells
    simp [execOp, ha.ev hx, ha.ev hy, Instr.makeSlice, run_underlying hc.u, typeInfo, h2, h4, hw, hneg, hb2, run_sizeOf' hi, askRoom, asInt, asIntOf, newRow, run_newObj, h0, run_zeroValue' hzz, ← hcells]
theorem rep_len (l : List Value) : ∀ n, (rep n l).length = n * l.length
  | 0 => by simp [rep]
  | n + 1 => by rw [rep, List.length_append, rep_len l n, Nat.add_mul]; omega
theorem hv_make {T : TypeId} {x y : Operand} {s' : Sgm} (h : hv P ρ s (.makeSlice T x y) = some (r, s')) (hρ : EnvR σ ρ ρc) (hm : Mem w0 w σ s) : Hv P N w0 w σ ρc ⟨d, .makeSlice T x y, ty, ps, af, gd⟩ r s' := by
  simp only [hv] at h
  split at h
  · rename_i l hx
    split at h
    · rename_i c hy
      split at h
      · rename_i i hi
        obtain ⟨c1, h⟩ := bif_t h
        cases h
        simp only [Bool.and_eq_true, decide_eq_true_eq] at c1
        obtain ⟨⟨⟨c1, rfl⟩, c3⟩, c4⟩ := c1
        obtain ⟨z, hC, hz, hone, hzl⟩ := elI_ok hi
        obtain ⟨u, u1, u2⟩ := evx_ok hρ hx
        obtain rfl := val_int u1
        obtain ⟨u', u1', u2'⟩ := evx_ok hρ hy
        obtain rfl := val_int u1'
        have hl : (cl z).length = i.sz := by rw [vals_len (hz (fun _ => none)), hzl]
        refine ⟨_, _, _, _, hm.ext, sl_val setP_self, hm.alloc _ (c := l.toNat) (ent_row (by rw [rep_len, hl]) (by omega) (vals_rep (hz _) _)), .inl rfl, fun a ha => ?_⟩
        exact run_make hC u2 u2' (ble_t c4) ⟨c1, c3⟩ ha
      · cases h
    · cases h
  · cases h
theorem run_lit0 {T e : TypeId} {sz b : Nat} {z : Value} (hc : CL P T e sz b z) (a : Act) : (execOp a.eval ⟨d, .buildSlice T 0 #[], ty, ps, af, gd⟩).run P w = .ok (.value (.slice (some ⟨w.heap.size, 0, none⟩) 0 0)) (w.alloc (.cells #[] e)) := by
  obtain ⟨inf, h2, h2z, h3, _, h5, h6⟩ := hc.h
  have hi : (P.info? e).map (·.size) = some sz := by simp [h2, h3]
  simp only [execOp, Instr.buildSlice, Sem.run_bind, run_underlying hc.u, Result.andThen_ok, run_sizeOf' hi]
  simp [Instr.fill, newRow, run_newObj]
  have hr0 : Array.map (fun x => (default : Value)) (Array.range 0) = #[] := by simp
  rw [hr0]
theorem run_lit {T : TypeId} {x : List (Nat × Operand)} {n : Nat} {e : TypeId} {sz b : Nat} {z : Value} (hc : CL P T e sz b z) {parts : List (Nat × Value)} {out : List Value} (hx : evp ρc x = some parts) (hfl : fillL (fun i => some (i * sz, sz)) (rep n (cl z)) parts = some out) (hn : n ≤ 1000) (h16 : sz ≤ 1000) (h0' : 0 < n) {a : Act} (ha : Holds N a ρc) :
    (execOp a.eval ⟨d, .buildSlice T n x.toArray, ty, ps, af, gd⟩).run P w = .ok (.value (.slice (some ⟨w.heap.size, 0, none⟩) n n)) (w.alloc (.cells out.toArray e)) := by
  obtain ⟨inf, h2, h2z, h3, _, h5, h6⟩ := hc.h
  have hm' := parts_spec ha hx
  have hf := fillL_spec _ _ _ _ hfl
  rw [← rep_spec h5 h6] at hf
  have hi : (P.info? e).map (·.size) = some sz := by simp [h2, h3]
  have hz : (P.info? e).bind (·.zero) = some z := by simp [h2, h2z]
  have hle : ¬ n * sz > 2 ^ 24 := by have : n * sz ≤ 1000 * 1000 := Nat.mul_le_mul hn h16; omega
  have hne : ¬ n * sz = 0 := by have := Nat.mul_pos h0' h6; omega
  simp only [execOp, Instr.buildSlice, Sem.run_bind, run_underlying hc.u, Result.andThen_ok, run_sizeOf' hi, hle, if_false, Sem.run_pure, hne, run_zeroValue' hz, List.map_toArray, hm', hf, newRow, run_newObj]
  rfl
theorem fillL_len {pl : Nat → Option (Nat × Nat)} : ∀ {parts : List (Nat × Value)} {cs out : List Value}, fillL pl cs parts = some out → out.length = cs.length
  | [], cs, out, h => by simp only [fillL, Option.some.injEq] at h; subst h; rfl
  | (i, v) :: r, cs, out, h => by
    simp only [fillL] at h
    cases hp : pl i with
    | none => rw [hp] at h; cases h
    | some p =>
      obtain ⟨off, size⟩ := p
      rw [hp] at h
      simp only at h
      obtain ⟨c1, h⟩ := bif_t h
      simp only [Bool.and_eq_true] at c1
      have c2 := beq_t c1.1
      have c3 := ble_t c1.2
      rw [fillL_len h, put_len (by omega)]
theorem hv_lit {T : TypeId} {n : Nat} {parts : Array (Nat × Operand)} {s' : Sgm} (h : hv P ρ s (.buildSlice T n parts) = some (r, s')) (hρ : EnvR σ ρ ρc) (hm : Mem w0 w σ s) : Hv P N w0 w σ ρc ⟨d, .buildSlice T n parts, ty, ps, af, gd⟩ r s' := by
  simp only [hv] at h
  split at h
  · rename_i qs hq
    split at h
    · rename_i i hi
      obtain ⟨z, hC, hz, hone, hzl⟩ := elI_ok hi
      have hl : (cl z).length = i.sz := by rw [vals_len (hz (fun _ => none)), hzl]
      obtain ⟨vs, p1, p2⟩ := evxp_ok hρ hq
      cases hb : (Nat.beq n 0 && qs.isEmpty) with
      | true =>
        rw [hb, cond_true] at h
        cases h
        simp only [Bool.and_eq_true] at hb
        obtain rfl := beq_t hb.1
        have hqs : qs = [] := by simpa using hb.2
        subst hqs
        have hp : parts = #[] := by
          have h1 : parts.toList = [] := by
            cases hx : parts.toList with
            | nil => rfl
            | cons p l =>
              obtain ⟨j, x⟩ := p
              rw [hx] at hq
              simp only [evxp] at hq
              split at hq
              · cases hq
              · split at hq <;> cases hq
          rw [← Array.toArray_toList (xs := parts), h1]
        subst hp
        exact ⟨_, _, _, _, hm.ext, sl_val setP_self, hm.alloc _ (c := 0) (ent_row (c := []) (by simp) (by omega) rfl), .inl rfl, fun a ha => run_lit0 hC a⟩
      | false =>
        rw [hb, cond_false] at h
        obtain ⟨c1, h⟩ := bif_t h
        simp only [Bool.and_eq_true] at c1
        obtain ⟨⟨c1, c2⟩, c3⟩ := c1
        have c1 := ble_t c1
        have c2 := blt_t c2
        have c3 := ble_t c3
        split at h
        · rename_i out hf
          obtain ⟨c4, h⟩ := bif_t h
          cases h
          obtain ⟨ov, f1, f2⟩ := fillX_ok _ hf p1 (vals_rep (hz σ) n)
          have hol : ov.length = n * i.sz := by rw [fillL_len f1, rep_len, hl]
          refine ⟨_, _, _, _, hm.ext, sl_val setP_self, hm.alloc _ (c := n) (ent_row hol (by omega) (vals_mono hm.ext _ _ f2)), .inl rfl, fun a ha => ?_⟩
          have := run_lit (d := d) (ty := ty) (ps := ps) (af := af) (gd := gd) (w := w) hC p2 f1 c1 c3 c2 ha
          rwa [Array.toArray_toList] at this
        · cases h
    · cases h
  · cases h
theorem newsX_ok {e : TypeId} {sz k : Nat} {y : Vx} {new : List Vx} {v : Value} (h : newsX s e sz y = some (k, new)) (hm : Mem w0 w σ s) (hv : y.val σ = some v) : ∃ A c vs, v = .slice A k c ∧ vals σ new = some vs ∧ vs.length = k * sz ∧ (A = none → k = 0) ∧ ∀ ad, A = some ad → ∀ j u, vs[j]? = some u → w.cell? (ad.add j) = some u := by
  unfold newsX at h
  split at h
  · cases h
    obtain rfl := val_nils hv
    exact ⟨none, 0, [], rfl, rfl, by simp, fun _ => rfl, fun ad h => (by cases h)⟩
  · rename_i b n
    split at h
    · rename_i e' sz' n' xs hg
      replace h := bif_t h
      obtain ⟨c1, h⟩ := h
      simp only [Bool.and_eq_true] at c1
      obtain ⟨⟨c1, c2⟩, c3⟩ := c1
      obtain rfl := beq_t c1
      obtain rfl := beq_t c2
      obtain rfl := beq_t c3
      cases h
      obtain ⟨k1, q1, rfl⟩ := val_sl hv
      obtain ⟨k', vs, e1, e3, e4⟩ := hm.ent b _ hg
      rw [q1] at e1; cases e1
      exact ⟨_, _, vs, rfl, e3, e4.1, fun h => (by cases h), fun ad had => e4.cells had⟩
    · cases h
  · cases h
theorem hv_append {args : Array Operand} {ts : Array TypeId} {s' : Sgm} (h : hv P ρ s (.call { callee := .builtin .append, args := args, argTypes := ts }) = some (r, s')) (hρ : EnvR σ ρ ρc) (hm : Mem w0 w σ s) : Hv P N w0 w σ ρc ⟨d, .call { callee := .builtin .append, args := args, argTypes := ts }, ty, ps, af, gd⟩ r s' := by
  simp only [hv] at h
  split at h
  rotate_left
  · cases h
  rename_i x y T T' hx hT
  have e1 : args = #[x, y] := by rw [← Array.toArray_toList (xs := args), hx]
  have e2 : ts = #[T, T'] := by rw [← Array.toArray_toList (xs := ts), hT]
  subst e1 e2
  replace h := bif_t h
  obtain ⟨c1, h⟩ := h
  obtain rfl := beq_t c1
  split at h
  rotate_left
  · cases h
  rename_i i hi
  split at h
  rotate_left
  · cases h
  rename_i yv hy
  split at h
  rotate_left
  · cases h
  rename_i k new hk
  replace h := bif_t h
  obtain ⟨c1, h⟩ := h
  simp only [Bool.and_eq_true] at c1
  obtain ⟨⟨c1, c2⟩, c3⟩ := c1
  have c1 := ble_t c1
  have c2 := blt_t c2
  obtain ⟨z, hC, hz, hone, hzl⟩ := elI_ok hi
  obtain ⟨inf, g2, g2z, g3, g4, g5, g6⟩ := hC.h
  obtain ⟨vy, y1, y2⟩ := evx_ok hρ hy
  obtain ⟨A2, cy, vs, rfl, n1, n2, n3, n4⟩ := newsX_ok hk hm y1
  have h1 : ∀ u ∈ vs, u.oneCell' = true := List.all_eq_true.1 (vals_one n1 c3)
  split at h
  · rename_i hxe
    replace h := bif_t h
    obtain ⟨c4, h⟩ := h
    cases h
    have c4 := ble_t c4
    obtain ⟨u, u1, u2⟩ := evx_ok hρ hxe
    obtain rfl := val_nils u1
    have hb : (0 + k) * i.bytes ≤ 140737488355328 := by
      have : (0 + k) * i.bytes ≤ 1000 * 1000 := Nat.mul_le_mul (by omega) c1
      omega
    have hown : rowOk w none 0 i.e i.sz 0 [] := ⟨by simp, by omega, .inl ⟨rfl, rfl, rfl⟩⟩
    obtain ⟨A', cap', w', hrun, hown', hgr, hblk⟩ := run_append_row P w T ty i.e inf z i.sz i.bytes hC.u g2 g2z g3 g4 g5 g6 hown A2 k cy vs n2 n3 n4 h1 (by omega) hb
    rw [Nat.zero_add, List.nil_append] at hown'
    rw [Nat.zero_add] at hrun
    have hown2 := hown'
    obtain ⟨r1, r2, r3⟩ := hown'
    rcases r3 with ⟨_, h0, _⟩ | ⟨g, o, cur, rfl, hg', hnc, hcm, hcs, htk⟩
    · omega
    have hG : Gr w w' := (St.refl w).grow hgr.os hgr.tape hgr.output hgr.size fun q hq => hgr.block q hq (by simp)
    have hgs : g = w.heap.size := by
      rcases hblk with e | e
      · cases e
      · simpa using e
    have hm' := hm.gr hG
    have hglt : g < w'.heap.size := (Array.getElem?_eq_some_iff.1 hg').1
    refine ⟨w', setP σ s.nx ⟨g, o, cap'⟩, _, _, hm.ext, sl_val setP_self, ⟨hm'.toMemB.add (hm.fr _ (Nat.le_refl _)).1 (by rw [hgs]; exact hm.st.size) hglt (fun c f q hc _ hq => ?_) ?_, fun c hc => ?_⟩, .inl rfl, fun a ha => ?_⟩
    · have := hm.lt c q hq
      simp only
      omega
    · exact ⟨⟨g, o, cap'⟩, vs, setP_self, vals_mono hm.ext _ _ n1, hown2⟩
    · simp only [Sgm.add] at hc ⊢
      have h1 := hm.fr c (by omega)
      refine ⟨?_, ?_⟩
      · unfold setP; rw [if_neg (by omega)]; exact h1.1
      · rw [Tr.get_ne _ _ _ _ (by omega)]; exact h1.2
    · simp only [execOp, resolve, invoke, builtin, Sem.run_bind, Sem.run_pure, Result.andThen_ok, List.map_toArray, List.map_cons, List.map_nil, ha.ev u2, ha.ev y2, hrun]
  · rename_i b n hxe
    split at h
    rotate_left
    · cases h
    rename_i e' sz' n' xs hg
    replace h := bif_t h
    obtain ⟨c4, h⟩ := h
    cases h
    simp only [Bool.and_eq_true] at c4
    obtain ⟨⟨⟨c4, c5⟩, c6⟩, c7⟩ := c4
    obtain rfl := beq_t c4
    obtain rfl := beq_t c5
    obtain rfl := beq_t c6
    have c7 := ble_t c7
    obtain ⟨u, u1, u2⟩ := evx_ok hρ hxe
    obtain ⟨k1, q1, rfl⟩ := val_sl u1
    obtain ⟨k', vx, e1, e3, e4⟩ := hm.ent b _ hg
    rw [q1] at e1; cases e1
    have hb : (n' + k) * i.bytes ≤ 140737488355328 := by
      have : (n' + k) * i.bytes ≤ 1000 * 1000 := Nat.mul_le_mul (by omega) c1
      omega
    obtain ⟨A', cap', w', hrun, hown', hgr, hblk⟩ := run_append_row P w T ty i.e inf z i.sz i.bytes hC.u g2 g2z g3 g4 g5 g6 e4 A2 k cy vs n2 n3 n4 h1 (by omega) hb
    have hown2 := hown'
    obtain ⟨r1, r2, r3⟩ := hown'
    rcases r3 with ⟨_, h0, _⟩ | ⟨g, o, cur, rfl, hg', hnc, hcm, hcs, htk⟩
    · omega
    have hglt : g < w'.heap.size := (Array.getElem?_eq_some_iff.1 hg').1
    have hm1 : Mem w0 w' σ (s.upd b .dead) := hm.upd hg trivial q1 hgr.os hgr.tape hgr.output hgr.size (fun j hj hne => hgr.block j hj (by simpa using hne)) trivial
    have hgs : g = k1.g ∨ g = w.heap.size := by
      rcases hblk with e | e
      · left; simpa using e
      · right; simpa using e
    have hnx : b ≠ s.nx := fun e => by
      have := (hm.fr s.nx (Nat.le_refl _)).2
      unfold Sgm.get at hg
      rw [e, this] at hg; cases hg
    refine ⟨w', setP σ s.nx ⟨g, o, cap'⟩, _, _, hm.ext, sl_val setP_self, ⟨hm1.toMemB.add (hm.fr _ (Nat.le_refl _)).1 ?_ hglt (fun c f q hc hl hq => ?_) ?_, fun c hc => ?_⟩, .inl rfl, fun a ha => ?_⟩
    · rcases hgs with e | e
      · rw [e]; exact hm.ge b k1 q1
      · rw [e]; exact hm.st.size
    · simp only
      rcases Tr.get_put hc with ⟨rfl, rfl⟩ | ⟨hne, hc⟩
      · exact hl.elim
      · rcases hgs with e | e
        · rw [e]; exact fun e2 => hne (hm.ap c b f _ q k1 hc hg hl trivial hq q1 e2)
        · have := hm.lt c q hq
          omega
    · exact ⟨⟨g, o, cap'⟩, vx ++ vs, setP_self, vals_mono hm.ext _ _ (vals_app e3 n1), hown2⟩
    · simp only [Sgm.add, Sgm.upd] at hc ⊢
      have h1 := hm.fr c (by omega)
      refine ⟨?_, ?_⟩
      · unfold setP; rw [if_neg (by omega)]; exact h1.1
      · rw [Tr.get_ne _ _ _ _ (by omega)]
        by_cases e5 : c = b
        · subst e5
          unfold Sgm.get at hg
          rw [h1.2] at hg; cases hg
        · rw [Tr.get_ne _ _ _ _ e5]; exact h1.2
    · simp only [execOp, resolve, invoke, builtin, Sem.run_bind, Sem.run_pure, Result.andThen_ok, List.map_toArray, List.map_cons, List.map_nil, ha.ev u2, ha.ev y2, hrun]
  · cases h
theorem hv_ok {o : Op} {s' : Sgm} (h : hv P ρ s o = some (r, s')) (hρ : EnvR σ ρ ρc) (hm : Mem w0 w σ s) : Hv P N w0 w σ ρc ⟨d, o, ty, ps, af, gd⟩ r s' := by
  have h0 := h
  unfold hv at h
  split at h
  · exact hv_alloc h0 hm
  · exact hv_box h0 hρ hm
  · exact hv_store h0 hρ hm
  · exact hv_make h0 hρ hm
  · exact hv_lit h0 hρ hm
  · exact hv_append h0 hρ hm
  · cases h
end
end Go.Hy.Ix
