/-
  Slices of slices that are read; nil slices; an append of zeros onto nothing.
-/
import Derived.Test.YtdgminllobhncaaGreatMap
import Derived.Lib.SliceRun
import Derived.Lib.AppendZeros
namespace Go.Hy
set_option linter.unusedVariables false
set_option linter.unusedSimpArgs false
set_option maxHeartbeats 2000000
set_option maxRecDepth 10000
open Go.ChangeShapes

/-- The head of a list that lies elsewhere. -/
def encH {α : Type} (p : α × Hd) : List Value := [p.2.v]
instance {α : Type} : En (encH (α := α)) 1 := ⟨fun _ => rfl, fun a u hu => by simp only [encH, List.mem_cons, List.not_mem_nil, or_false] at hu; subst hu; rfl, by decide⟩
/-- A slice of slices reads as lists. -/
def SlD {α : Type} (w : World) (h : Hd) (enc : α → List Value) (ll : List (List α)) : Prop :=
  ∃ ps : List (List α × Hd), ps.map Prod.fst = ll ∧ Sl w h encH ps ∧ ∀ p ∈ ps, Sl w p.2 enc p.1
theorem SlD.two {α : Type} {w : World} {h h1 h2 : Hd} {enc : α → List Value} {l1 l2 : List α} (k : Sl w h encH [(l1, h1), (l2, h2)]) (k1 : Sl w h1 enc l1) (k2 : Sl w h2 enc l2) : SlD w h enc [l1, l2] :=
  ⟨_, rfl, k, fun p hp => by
    simp only [List.mem_cons, List.not_mem_nil, or_false] at hp
    rcases hp with rfl | rfl
    · exact k1
    · exact k2⟩
section
variable {P : Program} {N : Nat} {w0 w : World} {M L : List Res} {β : Type} {r : β} {K : Kont} {ρ : Env} {m : Option β} {ops : Array Oper} {rest : List Oper} {d : Nat} {ty : TypeId} {ps : String} {af : Array Edge} {gd : Option (Nat × Bool)}
theorem jn_none {c : Code} : Jn P N w0 M L c ρ (none : Option β) r K := fun w _ hm => by cases hm
theorem jg_ixD {α : Type} {ql : List (List α × Hd)} {ll : List (List α)} {i : Int} {f : List α → Option β} (e : ql.map Prod.fst = ll) (hk : ∀ (x : List α) (h : Hd), ql[i.toNat]? = some (x, h) ∧ 0 ≤ i → Jg P N w0 M L ops rest ρ (f x) r K) : Jg P N w0 M L ops rest ρ (ix ll i f) r K :=
  jg_ix fun a ha => by
    subst e
    rw [List.getElem?_map] at ha
    cases hq : ql[i.toNat]? with
    | none => rw [hq] at ha; cases ha.1
    | some q =>
      rw [hq] at ha
      obtain ⟨q1, q2⟩ := q
      obtain rfl : q1 = a := Option.some.inj ha.1
      exact hk q1 q2 ⟨hq, ha.2⟩
theorem yv_lnD {d : Option Nat} {T : TypeId} {α : Type} {ql : List (List α × Hd)} {ll : List (List α)} {h : Hd} {x : Operand} {e : TypeId} {sz b : Nat} {z : Value} [hc : CL P T e sz b z] (hx : evo ρ x = some h.v) (hr : Sl w h encH ql) (he : ql.map Prod.fst = ll) : Yv P N ρ w ⟨d, .call { callee := .builtin .len, args := #[x], argTypes := #[T] }, ty, ps, af, gd⟩ (.int .i64 (ll.length : Int)) := by
  have : ll.length = ql.length := by rw [← he, List.length_map]
  rw [this]
  exact yv_ln hx hr
theorem yv_cap0 {d : Option Nat} {T : TypeId} {x : Operand} {e : TypeId} {sz b : Nat} {z : Value} [hc : CL P T e sz b z] (hx : evo ρ x = some (.slice none 0 0)) : Yv P N ρ w ⟨d, .call { callee := .builtin .cap, args := #[x], argTypes := #[T] }, ty, ps, af, gd⟩ (.int .i64 0) := by
  unfold Yv
  intro a ha
  simp [execOp, resolve, invoke, builtin, Builtin.cap_, ha.ev hx, run_underlying hc.u, goInt]
theorem yv_hi0 {d : Option Nat} {T : TypeId} {x y : Operand} {e : TypeId} {sz b : Nat} {z : Value} {k : IntKind} [hc : CL P T e sz b z] (hx : evo ρ x = some (.slice none 0 0)) (hy : evo ρ y = some (.int k 0)) : Yv P N ρ w ⟨d, .slice T x none (some y) none, ty, ps, af, gd⟩ (.slice none 0 0) := by
  unfold Yv
  intro a' ha
  obtain ⟨inf, h2, _, h3, _⟩ := hc.h
  have hs : (P.info? e).map (·.size) = some sz := by simp [h2, h3]
  simp [execOp, ha.ev hx, ha.ev hy, Instr.sliceAt, Instr.slice, Instr.sliceBounds, Instr.sliceBound, asIntOf, run_underlying hc.u, run_sizeOf' hs]
theorem yv_eqnil {d : Option Nat} {T : TypeId} {h : Hd} {x y : Operand} {yt : TypeId} {e : TypeId} {sz b : Nat} {z : Value} [hc : CL P T e sz b z] (hx : evo ρ x = some h.v) (hy : evo ρ y = some (.slice none 0 0)) : Yv P N ρ w ⟨d, .binOp .eql T x y yt, ty, ps, af, gd⟩ (.bool h.A.isNone) := by
  unfold Yv
  intro a' ha
  have h1 := Lib.run_eql_slice_nil (P := P) w T e h.A h.n h.c 0 0 hc.u
  simp [execOp, ha.ev hx, ha.ev hy, eqGuard, Hd.v, h1]
/-- Is the slice nil? Then it has no elements. -/
theorem jn_nilq {α : Type} {x y : Code} {c : Operand} {h : Hd} {en : α → List Value} {l : List α} {m1 : Option β} (hc : evo ρ c = some (.bool h.A.isNone)) (hl : ∀ w, St w0 w M L → Sl w h en l) (e : l = [] → m = some r → m1 = some r) (h1 : l = [] → Jn P N w0 M L x ρ m1 r K) (h2 : Jn P N w0 M L y ρ m r K) : Jn P N w0 M L (.cond c x y) ρ m r K := fun w hs hm => by
  cases hb : h.A.isNone with
  | true =>
    have hl' := hl w hs
    have h0 : l = [] := by
      rcases Nat.eq_zero_or_pos h.n with h0 | h0
      · exact List.eq_nil_of_length_eq_zero (by rw [hl'.n]; exact h0)
      · obtain ⟨ad, hA⟩ := hl'.isSome h0
        rw [hA] at hb
        cases hb
    rw [hb] at hc
    exact rn_cond_t hc (h1 h0 w hs (e h0 hm))
  | false =>
    rw [hb] at hc
    exact rn_cond_f hc (h2 w hs hm)
/-- Zeros behind nothing. -/
theorem jg_append0 {T tn : TypeId} {x y : Operand} {n : Int} {e : TypeId} {sz b : Nat} {z : Value} [hc : CL P T e sz b z] {α : Type} {enc : α → List Value} [he : En enc sz] {zz : α} {f : List α → Option β} {kn : IntKind}
    (ht : P.underlying tn = some (.int kn)) (hx : evo ρ x = some (.slice none 0 0)) (hy : evo ρ y = some (.int .i64 n)) (hz : cl z = enc zz) (hsb : Nat.ble b 100000 = true) (hg : want ops ρ gd = some true) (hd : Nat.blt d N = true)
    (hk : ∀ (l : List α) (h : Hd), Jg P N w0 M (rowH h e sz enc l :: L) ops rest ((d, h.v) :: ρ) (f l) r K) :
    Jg P N w0 M L ops (⟨some d, .call { callee := .builtin .append, args := #[x, y], argTypes := #[T, tn] }, ty, ps, af, gd⟩ :: rest) ρ (ck (decide (1 ≤ n ∧ n ≤ 1000000000)) (vl (List.replicate n.toNat zz) f)) r K := fun w hs hm => by
  by_cases hle : ¬ (1 ≤ n ∧ n ≤ 1000000000)
  · rw [decide_eq_false hle] at hm; unfold ck at hm; cases hm
  have hle : 1 ≤ n ∧ n ≤ 1000000000 := by omega
  rw [decide_eq_true hle] at hm
  have hm : f (List.replicate n.toNat zz) = some r := by unfold ck vl at hm; exact hm
  obtain ⟨inf, g2, g2z, g3, g4, g5, g6⟩ := hc.h
  have hbn : n.toNat * inf.bytes ≤ 281474976710656 := by
    have : n.toNat * b ≤ 1000000000 * 100000 := Nat.mul_le_mul (by omega) (Nat.le_of_ble_eq_true hsb)
    rw [g4]
    omega
  have hrun := Lib.run_append_nil_zeros (P := P) w T tn ty e inf z .i64 kn hc.u ht g2 g2z n.toNat (by omega) (by omega) (by omega) hbn
  rw [show ((n.toNat : Nat) : Int) = n from by omega] at hrun
  have hge := grownCap_ge w n.toNat 0 e
  have hcm : grownCap w n.toNat 0 e ≤ maxLen := grownCap_le_maxLen w n.toNat 0 e (by simp only [maxLen]; omega)
  have hzr : ∀ k, Builtin.zeroCells z.cells k = (rep k (cl z)).toArray := fun k => by
    unfold Builtin.zeroCells
    rw [g5]
    have := rep_spec (n := k) g5 g6
    rw [g5] at this
    exact this
  have hz1 : rep n.toNat (cl z) = cellsOf enc (List.replicate n.toNat zz) := by rw [hz, rep_flat]
  generalize hcap : grownCap w n.toNat 0 e = cap at *
  have hcells : Builtin.zeroCells z.cells n.toNat ++ Builtin.zeroCells z.cells (cap - n.toNat) = (cellsOf enc (List.replicate n.toNat zz) ++ rep (cap - n.toNat) (cl z)).toArray := by
    rw [hzr, hzr, hz1]
    simp
  rw [hcells] at hrun
  have hal := hs.drew.alloc (cellsOf enc (List.replicate n.toNat zz) ++ rep (cap - n.toNat) (cl z)) e
  have hb : (w.drew.alloc (.cells (cellsOf enc (List.replicate n.toNat zz) ++ rep (cap - n.toNat) (cl z)).toArray e)).heap[w.heap.size]? = some (.cells (cellsOf enc (List.replicate n.toNat zz) ++ rep (cap - n.toNat) (cl z)).toArray e (0, 0)) := heap_alloc_new w.drew _
  have hlen : (cellsOf enc (List.replicate n.toNat zz)).length = n.toNat * sz := by rw [he.flen, List.length_replicate]
  have hclz : (cl z).length = sz := by rw [← cl_spec, Array.length_toList, g5]
  have hlen2 : (rep (cap - n.toNat) (cl z)).length = (cap - n.toNat) * sz := by
    have : (rep (cap - n.toNat) (cl z)).toArray.size = (cap - n.toNat) * z.cells.size := by rw [← hzr]; exact size_zeroCells ..
    rw [g5] at this
    simpa using this
  refine rg_w (v := .slice (some ⟨w.heap.size, 0, none⟩) n.toNat cap) (w' := w.drew.alloc (.cells (cellsOf enc (List.replicate n.toNat zz) ++ rep (cap - n.toNat) (cl z)).toArray e)) hg hd (fun a ha => ?_) (hk _ ⟨some ⟨w.heap.size, 0, none⟩, n.toNat, cap⟩ _ ?_ hm)
  · simp only [execOp, resolve, invoke, builtin, Sem.run_bind, Sem.run_pure, Result.andThen_ok, List.map_toArray, List.map_cons, List.map_nil, ha.ev hx, ha.ev hy, hrun]
  · have hp := List.pairwise_cons.1 hal.lne
    refine ⟨hal.os, hal.tape, hal.output, hal.size, hal.old, hal.hm, hal.mlt, hal.mne, fun s hsm => ?_, fun s hsm k hk' => ?_, List.pairwise_cons.2 ⟨fun s hsm k hk' => ?_, hp.2⟩⟩
    · rcases List.mem_cons.1 hsm with rfl | hsm
      · refine ⟨hlen, by simp only; omega, .inr ⟨w.heap.size, 0, _, rfl, hb, hge, hcm, ?_, ?_⟩⟩
        · simp only [List.size_toArray, List.length_append, hlen, hlen2, ← Nat.add_mul, Nat.zero_add]
          exact Nat.mul_le_mul_right _ (by omega)
        · simp only [List.drop_zero]
          rw [← hlen]
          exact List.take_left
      · exact hal.hl s (List.mem_cons_of_mem _ hsm)
    · rcases List.mem_cons.1 hsm with rfl | hsm
      · exact hal.lge _ (List.mem_cons_self ..) k (by simpa [Res.has] using hk')
      · exact hal.lge s (List.mem_cons_of_mem _ hsm) k hk'
    · exact hp.1 s hsm k (by simpa [Res.has] using hk')
end
end Go.Hy
