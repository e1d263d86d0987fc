/-
  Function values: closures that read what they have captured.
-/
import Derived.Test.YtdgminllobhncaaGreatTree
namespace Go.Hy
set_option linter.unusedVariables false
set_option linter.unusedSimpArgs false
set_option maxHeartbeats 2000000
set_option maxRecDepth 10000
open Go.ChangeShapes

section
variable {α : Type} {P : Program} {N : Nat} {w0 w w' : World} {M L : List Res} {β : Type} {r : β} {K : Kont} {ρ : Env} {m : Option β} {ops : Array Oper} {rest : List Oper} {d : Nat} {ty : TypeId} {ps : String} {af : Array Edge} {gd : Option (Nat × Bool)}
/-- What lay in the old memory lies there still. -/
abbrev Ltr (w w' : World) : Prop := Sx w w' [] []
theorem Sx.argb {g : Nat} {t : TypeId} {cs : List Value} (hx : Sx w0 w [] L) (k : Blk w0 g t cs) : Blk w g t cs := by
  unfold Blk at *
  rw [hx.old g (Array.getElem?_eq_some_iff.1 k).1 (by simp)]
  exact k
theorem St.argb {g : Nat} {t : TypeId} {cs : List Value} (hs : St w0 w [] L) (k : Blk w0 g t cs) : Blk w g t cs := (show Sx w0 w [] [] from hs.sx (is := []) rfl).argb k
theorem Ltr.trans {L : List Res} (h : Sx w0 w [] L) (h2 : Ltr w w') : Ltr w0 w' :=
  ⟨Nat.le_trans h.size h2.size, fun k hk _ => (h2.old k (Nat.lt_of_lt_of_le hk h.size) (by simp)).trans (h.old k hk (by simp)), fun r hr => by cases hr⟩
/-- A function value on integers: wherever it is called later, it gives what the plain function says. -/
def Fq (P : Program) (w : World) (v : Value) (q : Int → Option Bool) : Prop :=
  ∃ (f : FuncId) (caps : List Value), v = .func (.func f) #[] caps.toArray ∧ CFn P f ∧ ∀ w', Ltr w w' → ∀ i b, q i = some b → Gives P f (.int .i64 i :: caps) w' (.bool b)
theorem St.fq {v : Value} {q : Int → Option Bool} (hs : St w0 w [] L) (k : Fq P w0 v q) : Fq P w v q := by
  obtain ⟨f, caps, h1, h2, h3⟩ := k
  exact ⟨f, caps, h1, h2, fun w' hw => h3 w' (Ltr.trans (show Sx w0 w [] [] from hs.sx (is := []) rfl) hw)⟩
theorem yv_func {f : FuncId} {xs : List Operand} {vs : List Value} {d : Option Nat} (hx : evl ρ xs = some vs) : Yv P N ρ w ⟨d, .makeFunc (.func f) #[] xs.toArray, ty, ps, af, gd⟩ (.func (.func f) #[] vs.toArray) := by
  unfold Yv
  intro a ha
  simp [execOp, Instr.makeFunc, evl_spec ha hx]
theorem yv_shr1 {x y : Operand} {n : Int} {xt yt : TypeId} {d : Option Nat} (hx : evo ρ x = some (.int .u64 n)) (hy : evo ρ y = some (.int .u64 1)) : Yv P N ρ w ⟨d, .binOp .shr xt x y yt, ty, ps, af, gd⟩ (.int .u64 (n / 2)) := by
  unfold Yv
  intro a ha
  have e : n.fdiv (2 ^ (min 1 IntKind.u64.bits)) = n / 2 := by
    have : (2 : Int) ^ (min 1 IntKind.u64.bits) = 2 := by decide
    rw [this, Int.fdiv_eq_ediv_of_nonneg _ (by decide)]
  simp [execOp, binOp, eqGuard_int, Op.shift, ha.ev hx, ha.ev hy, e]
theorem run_callv {x y : Operand} {f : FuncId} [hf : CFn P f] {caps : List Value} {v1 : Value} {ts : Array TypeId} {d : Option Nat} (hx : evo ρ x = some (.func (.func f) #[] caps.toArray)) (hy : evo ρ y = some v1) {a : Act} (ha : Holds N a ρ) :
    (execOp a.eval ⟨d, .call { callee := .value x, args := #[y], argTypes := ts }, ty, ps, af, gd⟩).run P w = .ok (.enter f (v1 :: caps).toArray) w := by
  have e : (#[v1] : Array Value) ++ caps.toArray = (v1 :: caps).toArray := by simp
  simp only [execOp, resolve, ha.ev hx, Deferred.ofValue, Sem.run_bind, Sem.run_pure, Result.andThen_ok, invoke, List.map_toArray]
  simp only [List.map_cons, List.map_nil, ha.ev hy, Array.empty_append]
  simpa [e] using hf.h (v1 :: caps).toArray w
theorem jg_q {x y : Operand} {fv : Value} {i : Int} {q : Int → Option Bool} {k : Bool → Option β} {ts : Array TypeId} (hx : evo ρ x = some fv) (hy : evo ρ y = some (.int .i64 i)) (hq : ∀ w, St w0 w M L → Fq P w fv q) (hg : want ops ρ gd = some true) (hd : Nat.blt d N = true)
    (hk : ∀ v, Jg P N w0 M L ops rest ((d, .bool v) :: ρ) (k v) r K) : Jg P N w0 M L ops (⟨some d, .call { callee := .value x, args := #[y], argTypes := ts }, ty, ps, af, gd⟩ :: rest) ρ (bd (q i) k) r K := fun w hs hm => by
  obtain ⟨f, caps, rfl, hf, hc⟩ := hq w hs
  cases hqi : q i with
  | none => rw [hqi] at hm; unfold bd at hm; cases hm
  | some b =>
    rw [hqi] at hm
    have hm : k b = some r := by unfold bd at hm; exact hm
    unfold Rg
    intro a ha
    refine wpList_step fun J hJ => ?_
    rw [want_spec (o := ⟨some d, .call { callee := .value x, args := #[y], argTypes := ts }, ty, ps, af, gd⟩) ha hg, if_pos rfl]
    unfold Oper.wp
    rw [run_callv hx hy ha, Oper.upon_enter]
    have hcc := hc w (show Sx w w [] [] from ⟨Nat.le_refl _, fun _ _ _ => rfl, fun r hr => by cases hr⟩) i b hqi
    unfold Gives at hcc
    refine hcc.mono fun _ w' hR => ?_
    obtain ⟨rfl, h'⟩ := hR
    have h2 := hk b w' (hs.call0 h') hm
    unfold Rg at h2
    exact hJ _ _ (h2 _ (ha.put hd _))
/-- A slice between two bounds. -/
theorem slh1 {l : List α} {i j : Int} (h : decide ((0 : Int) ≤ i ∧ i ≤ j ∧ j ≤ (l.length : Int)) = true) : decide ((0 : Int) ≤ j ∧ j ≤ (l.length : Int)) = true := by
  have := of_decide_eq_true h
  exact decide_eq_true (by omega)
theorem slh2 {l : List α} {i j : Int} (h : decide ((0 : Int) ≤ i ∧ i ≤ j ∧ j ≤ (l.length : Int)) = true) : decide ((0 : Int) ≤ i ∧ i ≤ ((l.take j.toNat).length : Int)) = true := by
  have := of_decide_eq_true h
  exact decide_eq_true (by rw [List.length_take]; omega)
theorem yv_lh {T : TypeId} {h : Hd} {l : List α} {en : α → List Value} {x y y2 : Operand} {e : TypeId} {sz b : Nat} {z : Value} {i j : Int} {k k2 : IntKind} {d : Option Nat} [hc : CL P T e sz b z] (hx : evo ρ x = some h.v) (hy : evo ρ y = some (.int k i)) (hy2 : evo ρ y2 = some (.int k2 j)) (hr : Sl w h en l) (hj : 0 ≤ i ∧ i ≤ j ∧ j ≤ (l.length : Int)) :
    Yv P N ρ w ⟨d, .slice T x (some y) (some y2) none, ty, ps, af, gd⟩ (Hd.v (Hd.lo ⟨h.A, j.toNat, h.c⟩ i.toNat sz)) := by
  unfold Yv
  intro a' ha
  obtain ⟨inf, h2, _, h3, _⟩ := hc.h
  have hs : (P.info? e).map (·.size) = some sz := by simp [h2, h3]
  have h4 := hr.n
  have h5 := hr.c
  have h6 : j ≤ (h.c : Int) := by omega
  have h7 : 0 ≤ j := by omega
  simp [execOp, ha.ev hx, ha.ev hy, ha.ev hy2, Instr.sliceAt, Instr.slice, Instr.sliceBounds, Instr.sliceBound, asIntOf, run_underlying hc.u, hj.1, hj.2.1, h6, h7, run_sizeOf' hs, Hd.lo]
  intro h8
  exfalso
  omega
end
end Go.Hy
