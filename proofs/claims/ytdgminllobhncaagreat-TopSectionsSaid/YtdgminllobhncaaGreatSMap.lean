/-
  Maps from structs to integers.
-/
import Derived.Test.YtdgminllobhncaaGreatVMap
namespace Go.Hy
set_option linter.unusedVariables false
set_option linter.unusedSimpArgs false
set_option maxHeartbeats 2000000
set_option maxRecDepth 10000
open Go.ChangeShapes
section
variable {κ : Type}
def mentS (kv : κ → Value) : List (κ × Int) → Nat → List MapEntry
  | [], _ => []
  | a :: l, i => { key := kv a.1, val := .int .i64 a.2, born := i } :: mentS kv l (i + 1)
def mapS (kv : κ → Value) (l : List (κ × Int)) : Obj := .map (mentS kv l 0).toArray l.length
def sidx [DecidableEq κ] (k : κ) : List (κ × Int) → Nat → Option (Nat × Int)
  | [], _ => none
  | a :: l, j => if k = a.1 then some (j, a.2) else sidx k l (j + 1)
/-- The number of a key; 0 if there is none. -/
def sget [DecidableEq κ] (k : κ) (l : List (κ × Int)) : Int := ((sidx k l 0).map (·.2)).getD 0
def sput [DecidableEq κ] (k : κ) (v : Int) (l : List (κ × Int)) : List (κ × Int) := match sidx k l 0 with
  | none => l ++ [(k, v)]
  | some (j, _) => l.set j (k, v)
variable {kv : κ → Value}
theorem mentS_app (a : κ × Int) : ∀ (l : List (κ × Int)) (i : Nat), mentS kv (l ++ [a]) i = mentS kv l i ++ [{ key := kv a.1, val := .int .i64 a.2, born := i + l.length }]
  | [], i => by simp [mentS]
  | b :: l, i => by
    simp only [List.cons_append, mentS, List.length_cons]
    rw [mentS_app a l (i + 1)]
    simp only [List.cons.injEq, true_and]
    congr 3
    omega
theorem mentS_modify {k : κ} {v : Int} : ∀ (l : List (κ × Int)) (i j : Nat), (mentS kv l i).modify j (fun e => { e with key := kv k, val := .int .i64 v }) = mentS kv (l.set j (k, v)) i
  | [], _, _ => by simp [mentS]
  | b :: l, i, 0 => by simp [mentS]
  | b :: l, i, j + 1 => by simp [mentS, mentS_modify l (i + 1) j]
theorem sidx_at [DecidableEq κ] {k : κ} {x : Int} : ∀ {l : List (κ × Int)} {j i : Nat}, sidx k l j = some (i, x) → ∃ d, i = j + d ∧ l[d]? = some (k, x)
  | [], j, i => fun h => by simp [sidx] at h
  | a :: l, j, i => fun h => by
    rw [sidx] at h
    split at h
    · rename_i e
      simp only [Option.some.injEq, Prod.mk.injEq] at h
      exact ⟨0, by omega, by rw [List.getElem?_cons_zero, e, ← h.2]⟩
    · obtain ⟨d, h1, h2⟩ := sidx_at h
      exact ⟨d + 1, by omega, by rw [List.getElem?_cons_succ]; exact h2⟩
theorem mentS_get : ∀ {l : List (κ × Int)} {i j : Nat} {a : κ × Int}, l[j]? = some a → ∃ e, (mentS kv l i)[j]? = some e ∧ e.key = kv a.1
  | [], i, j, a => fun h => by simp at h
  | b :: l, i, 0, a => fun h => by
    rw [List.getElem?_cons_zero] at h; cases h
    exact ⟨_, rfl, rfl⟩
  | b :: l, i, j + 1, a => fun h => by
    rw [List.getElem?_cons_succ] at h
    obtain ⟨e, h1, h2⟩ := mentS_get (i := i + 1) h
    exact ⟨e, by rw [mentS, List.getElem?_cons_succ]; exact h1, h2⟩
class CKS [DecidableEq κ] (P : Program) (mt : TypeId) (kv : κ → Value) : Prop where
  h : ∃ kt et, P.underlying mt = some (.map kt et) ∧ (∀ w, (zeroValue et).run P w = .ok (.int .i64 0) w) ∧ (∀ k e w, (Instr.checkKey e 10000 kt (kv k)).run P w = .ok () w) ∧
    (∀ k (l : List (κ × Int)) w, (Instr.findKey kt (kv k) (mentS kv l 0)).run P w = .ok ((sidx k l 0).map fun p => (p.1, .int .i64 p.2)) w) ∧ ∀ k w, (Instr.keyThatStays (kv k) (kv k)).run P w = .ok (kv k) w
variable {P : Program}
theorem CKS.of [DecidableEq κ] {mt kt et : TypeId} {fs : Array Field} (hm : P.underlying mt = some (.map kt et)) (hk : P.underlying kt = some (.struct fs)) (hc : ∀ k e w, (Instr.checkKey e 10000 kt (kv k)).run P w = .ok () w)
    (hq : ∀ a b w, (Op.equal kt (kv a) (kv b)).run P w = .ok (decide (a = b)) w) (hst : ∀ k w, (Instr.keyThatStays (kv k) (kv k)).run P w = .ok (kv k) w) (hz : (P.info? et).bind (·.zero) = some (.int .i64 0)) : CKS P mt kv := by
  refine ⟨kt, et, hm, fun w => run_zeroValue' hz, hc, fun k l w => ?_, hst⟩
  have ask : ∀ (l : List (κ × Int)) (i j : Nat), (Instr.findAsking kt (kv k) (mentS kv l i) j).run P w = .ok ((sidx k l j).map fun p => (p.1, .int .i64 p.2)) w := by
    intro l
    induction l with
    | nil => intro i j; rfl
    | cons a l ih =>
      intro i j
      by_cases e : k = a.1
      · simp [mentS, Instr.findAsking, Sem.run_bind, hq, sidx, e]
      · simp [mentS, Instr.findAsking, Sem.run_bind, hq, sidx, e, ih (i + 1) (j + 1)]
  cases l with
  | nil => simp [mentS, sidx, Instr.findKey, run_underlying hk, Result.andThen, Instr.findNow]
  | cons a l =>
    have hn : Instr.findNow (.struct fs) (kv k) (mentS kv (a :: l) 0) 0 = none := by
      have : ∀ u v, Instr.sameNow (.struct fs) u v = none := fun u v => by unfold Instr.sameNow; split <;> simp_all
      simp [mentS, Instr.findNow, this]
    simp [Instr.findKey, run_underlying hk, Result.andThen, hn, ask (a :: l) 0 0]
end
section
variable {κ : Type} [DecidableEq κ] {kv : κ → Value} {P : Program} {N : Nat} {w0 w : World} {M L : List Res} {β : Type} {r : β} {K : Kont} {ρ : Env} {m : Option β} {ops : Array Oper} {rest : List Oper} {d : Nat} {ty : TypeId} {ps : String} {af : Array Edge} {gd : Option (Nat × Bool)}
def MapSAt (w : World) (g : Nat) (kv : κ → Value) (l : List (κ × Int)) : Prop := w.heap[g]? = some (mapS kv l)
omit [DecidableEq κ] in
theorem St.mapS (hs : St w0 w M L) {i g : Nat} {l : List (κ × Int)} (hi : L[i]? = some (.obj g (mapS kv l))) : MapSAt w g kv l := hs.hl _ (List.mem_of_getElem? hi)
omit [DecidableEq κ] in
theorem Sx.mapS {ids : List Nat} (hs : Sx w0 w ids L) {i g : Nat} {l : List (κ × Int)} (hi : L[i]? = some (.obj g (mapS kv l))) : MapSAt w g kv l := hs.hl _ (List.mem_of_getElem? hi)
theorem yv_lookS {T : TypeId} [hc : CKS P T kv] {x y : Operand} {g : Nat} {k : κ} {l : List (κ × Int)} {d : Option Nat} (hx : evo ρ x = some (.map (some g))) (hy : evo ρ y = some (kv k)) (hb : MapSAt w g kv l) : Yv P N ρ w ⟨d, .lookup T x y false, ty, ps, af, gd⟩ (.int .i64 (sget k l)) := by
  unfold Yv
  intro a ha
  obtain ⟨kt, et, h1, h2, h3, h4, _⟩ := hc.h
  unfold MapSAt Go.Hy.mapS at hb
  have h5 := h4 k l w
  cases hi : sidx k l 0 with
  | none =>
    rw [hi] at h5
    have h6 : sget k l = 0 := by unfold sget; rw [hi]; rfl
    rw [h6]
    simp at h5
    simp [execOp, ha.ev hx, ha.ev hy, Instr.lookup, run_underlying h1, Go.MapKept.run_getObj_map hb, h3, h5, h2]
  | some p =>
    rw [hi] at h5
    have h6 : sget k l = p.2 := by unfold sget; rw [hi]; rfl
    rw [h6]
    simp at h5
    simp [execOp, ha.ev hx, ha.ev hy, Instr.lookup, run_underlying h1, Go.MapKept.run_getObj_map hb, h3, h5, h2]
theorem jg_mapputS (i : Nat) {T : TypeId} [hc : CKS P T kv] {x y v : Operand} {g : Nat} {k : κ} {u : Int} {l : List (κ × Int)} {f : List (κ × Int) → Option β} (hx : evo ρ x = some (.map (some g))) (hy : evo ρ y = some (kv k)) (hv : evo ρ v = some (.int .i64 u)) (hi : L[i]? = some (.obj g (mapS kv l))) (hg : want ops ρ gd = some true)
    (hk : ∀ l', Jg P N w0 M (L.set i (.obj g (mapS kv l'))) ops rest ρ (f l') r K) : Jg P N w0 M L ops (⟨none, .mapUpdate T x y v, ty, ps, af, gd⟩ :: rest) ρ (vl (sput k u l) f) r K := fun w hs hm => by
  rw [vl_q] at hm
  obtain ⟨kt, et, h1, h2, h3, h4, h9⟩ := hc.h
  have hb : w.heap[g]? = some (.map (mentS kv l 0).toArray l.length) := hs.hl _ (List.mem_of_getElem? hi)
  have h5 := h4 k l w
  refine rg_u (w' := { w with heap := w.heap.setIfInBounds g (Go.Hy.mapS kv (sput k u l)) }) hg (fun ac hac => ?_) (hk _ _ ?_ hm)
  · cases hix : sidx k l 0 with
    | none =>
      rw [hix] at h5
      simp at h5
      have hp : sput k u l = l ++ [(k, u)] := by unfold sput; rw [hix]
      have ho : Go.Hy.mapS kv (l ++ [(k, u)]) = .map ((mentS kv l 0).toArray.push { key := kv k, val := .int .i64 u, born := l.length }) (l.length + 1) := by
        unfold Go.Hy.mapS
        rw [mentS_app]
        simp
      simp [execOp, hac.ev hx, hac.ev hy, hac.ev hv, Instr.mapUpdate, run_underlying h1, Go.MapKept.run_getObj_map hb, h3, h5, Go.MapKept.run_setObj_map _ hb, hp, ho]
    | some p =>
      obtain ⟨j, q⟩ := p
      rw [hix] at h5
      simp at h5
      obtain ⟨d, hd, hj⟩ := sidx_at hix
      have hjd : j = d := by omega
      subst hjd
      have hp : sput k u l = l.set j (k, u) := by unfold sput; rw [hix]
      obtain ⟨e, he, hek⟩ := mentS_get (kv := kv) (i := 0) hj
      have hst : (Instr.keyThatStays e.key (kv k)).run P w = .ok (kv k) w := by rw [hek]; exact h9 k w
      have ho : Go.Hy.mapS kv (l.set j (k, u)) = .map ((mentS kv l 0).toArray.modify j fun e => { e with key := kv k, val := .int .i64 u }) l.length := by
        unfold Go.Hy.mapS
        rw [← mentS_modify]
        simp
      simp [execOp, hac.ev hx, hac.ev hy, hac.ev hv, Instr.mapUpdate, run_underlying h1, Go.MapKept.run_getObj_map hb, h3, h5, he, hst, Go.MapKept.run_setObj_map _ hb, hp, ho]
  · have h8 := Go.MapKept.heap_set (w := w) (r := g) (o' := Go.Hy.mapS kv (sput k u l)) hb
    exact hs.turn hi (r' := .obj g (Go.Hy.mapS kv (sput k u l))) h8.1 rfl rfl rfl (by simp) (fun j _ hne => h8.2 j fun e => hne (by simp [Res.has, e])) (fun j hj => .inl hj)
omit [DecidableEq κ] in
theorem jg_mapS {T : TypeId} (kv : κ → Value) (hg : want ops ρ gd = some true) (hd : Nat.blt d N = true)
    (hk : ∀ g : Nat, Jg P N w0 M (.obj g (mapS kv []) :: L) ops rest ((d, .map (some g)) :: ρ) m r K) : Jg P N w0 M L ops (⟨some d, .makeMap T none, ty, ps, af, gd⟩ :: rest) ρ m r K := fun w hs hm => by
  refine rg_w (v := .map (some w.heap.size)) (w' := w.alloc (.map #[] 0)) hg hd (fun a ha => ?_) (hk w.heap.size _ (hs.alloc_obj (.map #[] 0)) hm)
  simp [execOp, Instr.makeMap, run_newObj]
end
end Go.Hy
