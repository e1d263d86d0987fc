/-
  Sets: maps to bool in which every key leads to true.
-/
import Derived.Test.YtdgminllobhncaaGreatFun
import Derived.MapKept
namespace Go.Hy
set_option linter.unusedVariables false
set_option linter.unusedSimpArgs false
set_option maxHeartbeats 2000000
set_option maxRecDepth 10000
open Go.ChangeShapes
open Go.MapKept (IsKey findNow_spec)

def kvI (n : Int) : Value := .int .i64 n
def kvZ (s : ByteArray) : Value := .string s
/-- How the keys lie in the map. -/
def ment {κ : Type} (kv : κ → Value) : List κ → Nat → List MapEntry
  | [], _ => []
  | k :: l, i => { key := kv k, val := .bool true, born := i } :: ment kv l (i + 1)
def mapO {κ : Type} (kv : κ → Value) (l : List κ) : Obj := .map (ment kv l 0).toArray l.length
/-- Is the key in the set? -/
def inS {κ : Type} [DecidableEq κ] (k : κ) (l : List κ) : Bool := l.any fun x => decide (x = k)
theorem inS_iff {κ : Type} [DecidableEq κ] {k : κ} {l : List κ} : inS k l = true ↔ k ∈ l := by
  unfold inS
  rw [List.any_eq_true]
  constructor
  · rintro ⟨x, hx, h⟩
    rw [of_decide_eq_true h] at hx; exact hx
  · exact fun h => ⟨k, h, decide_eq_true rfl⟩
section
variable {κ : Type} {kv : κ → Value}
theorem ment_app (k : κ) : ∀ (l : List κ) (i : Nat), ment kv (l ++ [k]) i = ment kv l i ++ [{ key := kv k, val := .bool true, born := i + l.length }]
  | [], i => by simp [ment]
  | a :: l, i => by
    simp only [List.cons_append, ment, List.length_cons]
    rw [ment_app k l (i + 1)]
    simp only [List.cons.injEq, true_and]
    congr 3
    omega
theorem ment_mem {x : MapEntry} : ∀ {l : List κ} {i : Nat}, x ∈ ment kv l i → ∃ k ∈ l, x.key = kv k ∧ x.val = .bool true
  | [], _, h => by cases h
  | a :: l, i, h => by
    rcases List.mem_cons.1 h with rfl | h
    · exact ⟨a, List.mem_cons_self .., rfl, rfl⟩
    · obtain ⟨k, hk, h2⟩ := ment_mem h
      exact ⟨k, List.mem_cons_of_mem _ hk, h2⟩
theorem mem_ment {k : κ} : ∀ {l : List κ} {i : Nat}, k ∈ l → ∃ x ∈ ment kv l i, x.key = kv k
  | a :: l, i, h => by
    rcases List.mem_cons.1 h with rfl | h
    · exact ⟨_, List.mem_cons_self .., rfl⟩
    · obtain ⟨x, hx, h2⟩ := mem_ment (i := i + 1) h
      exact ⟨x, List.mem_cons_of_mem _ hx, h2⟩
/-- A map type whose keys are such. -/
class CK (P : Program) (mt : TypeId) (kv : κ → Value) : Prop where
  h : ∃ kt et, P.underlying mt = some (.map kt et) ∧ (∀ w, (zeroValue et).run P w = .ok (.bool false) w) ∧ (∀ k e w, (Instr.checkKey e 10000 kt (kv k)).run P w = .ok () w) ∧
    ∀ k (l : List κ) w, ∃ a, (Instr.findKey kt (kv k) (ment kv l 0)).run P w = .ok a w ∧ (k ∈ l → ∃ i, a = some (i, .bool true)) ∧ (k ∉ l → a = none)
variable {P : Program}
theorem CK.of {mt kt et : TypeId} {d : TypeDesc} (hm : P.underlying mt = some (.map kt et)) (hk : P.underlying kt = some d) (hkey : ∀ k, IsKey d (kv k)) (hinj : ∀ a b, kv a = kv b → a = b) (hz : (P.info? et).bind (·.zero) = some (.bool false)) : CK P mt kv := by
  refine ⟨kt, et, hm, fun w => run_zeroValue' hz, fun k e w => Go.MapKept.run_checkKey hk (hkey k) e 9999, fun k l w => ?_⟩
  have hall : ∀ x ∈ ment kv l 0, IsKey d x.key := fun x hx => by
    obtain ⟨k', _, h2, _⟩ := ment_mem hx
    rw [h2]; exact hkey k'
  rcases findNow_spec (hkey k) (ment kv l 0) 0 hall with ⟨h1, h2⟩ | ⟨j, e, h1, h2, h3⟩
  · refine ⟨none, Go.MapKept.run_findKey hk h1, fun hm => ?_, fun _ => rfl⟩
    obtain ⟨x, hx, h4⟩ := mem_ment (kv := kv) (i := 0) hm
    exact absurd h4 (h2 x hx)
  · obtain ⟨k', hk', h4, h5⟩ := ment_mem (List.mem_of_getElem? h2)
    rw [h5] at h1
    refine ⟨_, Go.MapKept.run_findKey hk h1, fun _ => ⟨_, rfl⟩, fun hn => ?_⟩
    rw [h3] at h4
    rw [hinj _ _ h4] at hn
    exact absurd hk' hn
/-- Keys that are structs. -/
theorem CK.ofS [DecidableEq κ] {mt kt et : TypeId} {fs : Array Field} (hm : P.underlying mt = some (.map kt et)) (hk : P.underlying kt = some (.struct fs)) (hc : ∀ k e w, (Instr.checkKey e 10000 kt (kv k)).run P w = .ok () w)
    (hq : ∀ a b w, (Op.equal kt (kv a) (kv b)).run P w = .ok (decide (a = b)) w) (hz : (P.info? et).bind (·.zero) = some (.bool false)) : CK P mt kv := by
  refine ⟨kt, et, hm, fun w => run_zeroValue' hz, hc, fun k l w => ?_⟩
  have ask : ∀ (l : List κ) (i j : Nat), ∃ a, (Instr.findAsking kt (kv k) (ment kv l i) j).run P w = .ok a w ∧ (k ∈ l → ∃ i, a = some (i, .bool true)) ∧ (k ∉ l → a = none) := by
    intro l
    induction l with
    | nil => intro i j; exact ⟨none, rfl, fun h => by (cases h), fun _ => rfl⟩
    | cons a l ih =>
      intro i j
      by_cases e : k = a
      · subst e
        refine ⟨some (j, .bool true), ?_, fun _ => ⟨j, rfl⟩, fun h => absurd (List.mem_cons_self ..) h⟩
        simp [ment, Instr.findAsking, Sem.run_bind, hq]
      · obtain ⟨x, h1, h2, h3⟩ := ih (i + 1) (j + 1)
        refine ⟨x, ?_, fun h => h2 ((List.mem_cons.1 h).resolve_left e), fun h => h3 fun h' => h (List.mem_cons_of_mem _ h')⟩
        simp [ment, Instr.findAsking, Sem.run_bind, hq, e, h1]
  cases l with
  | nil => exact ⟨none, by simp [ment, Instr.findKey, run_underlying hk, Result.andThen, Instr.findNow], fun h => by (cases h), fun _ => rfl⟩
  | cons a l =>
    obtain ⟨x, h1, h2⟩ := ask (a :: l) 0 0
    refine ⟨x, ?_, h2⟩
    have hn : Instr.findNow (.struct fs) (kv k) (ment kv (a :: l) 0) 0 = none := by
      have : ∀ u v, Instr.sameNow (.struct fs) u v = none := fun u v => by unfold Instr.sameNow; split <;> simp_all
      simp [ment, Instr.findNow, this]
    simp [Instr.findKey, run_underlying hk, Result.andThen, hn, h1]
end
section
variable {κ : Type} {kv : κ → Value} {P : Program} {N : Nat} {w0 w w' : World} {M L : List Res} {β : Type} {r : β} {K : Kont} {ρ : Env} {m : Option β} {ops : Array Oper} {rest : List Oper} {d : Nat} {ty : TypeId} {ps : String} {af : Array Edge} {gd : Option (Nat × Bool)}
/-- What lies in the block is this set. -/
def MapAt (w : World) (g : Nat) (kv : κ → Value) (l : List κ) : Prop := w.heap[g]? = some (mapO kv l)
theorem St.mapL (hs : St w0 w M L) {i g : Nat} {l : List κ} (hi : L[i]? = some (.obj g (mapO kv l))) : MapAt w g kv l := hs.hl _ (List.mem_of_getElem? hi)
theorem Sx.mapL {ids : List Nat} (hs : Sx w0 w ids L) {i g : Nat} {l : List κ} (hi : L[i]? = some (.obj g (mapO kv l))) : MapAt w g kv l := hs.hl _ (List.mem_of_getElem? hi)
theorem yv_lookup [DecidableEq κ] {T : TypeId} [hc : CK P T kv] {x y : Operand} {g : Nat} {k : κ} {l : List κ} {d : Option Nat} (hx : evo ρ x = some (.map (some g))) (hy : evo ρ y = some (kv k)) (hb : MapAt w g kv l) :
    Yv P N ρ w ⟨d, .lookup T x y false, ty, ps, af, gd⟩ (.bool (inS k l)) := by
  unfold Yv
  intro a ha
  obtain ⟨kt, et, h1, h2, h3, h4⟩ := hc.h
  obtain ⟨q, h5, h6, h7⟩ := h4 k l w
  unfold MapAt mapO at hb
  have h5' : (Instr.findKey kt (kv k) (ment kv l 0).toArray.toList).run P w = .ok q w := by simpa using h5
  by_cases hm : k ∈ l
  · obtain ⟨i, rfl⟩ := h6 hm
    have hm' := inS_iff.2 hm
    simp [execOp, ha.ev hx, ha.ev hy, Instr.lookup, run_underlying h1, Go.MapKept.run_getObj_map hb, h3, h5, hm']
  · obtain rfl := h7 hm
    have hm' : inS k l = false := Bool.eq_false_iff.2 fun h => hm (inS_iff.1 h)
    simp [execOp, ha.ev hx, ha.ev hy, Instr.lookup, run_underlying h1, Go.MapKept.run_getObj_map hb, h3, h5, hm', h2]
theorem jg_map {T : TypeId} {κ : Type} {kv : κ → Value} (hg : want ops ρ gd = some true) (hd : Nat.blt d N = true)
    (hk : ∀ g : Nat, Jg P N w0 M (.obj g (mapO kv ([] : List κ)) :: L) ops rest ((d, .map (some g)) :: ρ) m r K) : Jg P N w0 M L ops (⟨some d, .makeMap T none, ty, ps, af, gd⟩ :: rest) ρ m r K := fun w hs hm => by
  refine rg_w (v := .map (some w.heap.size)) (w' := w.alloc (.map #[] 0)) hg hd (fun a ha => ?_) (hk w.heap.size _ (hs.alloc_obj (.map #[] 0)) hm)
  simp [execOp, Instr.makeMap, run_newObj]
theorem jg_mapset (i : Nat) [DecidableEq κ] {T : TypeId} [hc : CK P T kv] {x y z : Operand} {g : Nat} {k : κ} {l : List κ} {f : List κ → Option β} (hx : evo ρ x = some (.map (some g))) (hy : evo ρ y = some (kv k)) (hz : evo ρ z = some (.bool true))
    (hi : L[i]? = some (.obj g (mapO kv l))) (hg : want ops ρ gd = some true) (hk : ∀ l', Jg P N w0 M (L.set i (.obj g (mapO kv l'))) ops rest ρ (f l') r K) :
    Jg P N w0 M L ops (⟨none, .mapUpdate T x y z, ty, ps, af, gd⟩ :: rest) ρ (ck (!(inS k l)) (vl (l ++ [k]) f)) r K := fun w hs hm => by
  by_cases hkl : k ∈ l
  · rw [inS_iff.2 hkl] at hm; unfold ck at hm; cases hm
  rw [show inS k l = false from Bool.eq_false_iff.2 fun h => hkl (inS_iff.1 h)] at hm
  have hm : f (l ++ [k]) = some r := by unfold ck vl at hm; exact hm
  obtain ⟨kt, et, h1, h2, h3, h4⟩ := hc.h
  obtain ⟨q, h5, h6, h7⟩ := h4 k l w
  obtain rfl := h7 hkl
  have hb := hs.hl _ (List.mem_of_getElem? hi)
  have hb' : w.heap[g]? = some (.map (ment kv l 0).toArray l.length) := hb
  have ho : mapO kv (l ++ [k]) = .map ((ment kv l 0).toArray.push { key := kv k, val := .bool true, born := l.length }) (l.length + 1) := by
    unfold mapO
    rw [ment_app]
    simp
  refine rg_u (w' := { w with heap := w.heap.setIfInBounds g (mapO kv (l ++ [k])) }) hg (fun a ha => ?_) (hk (l ++ [k]) _ ?_ hm)
  · simp [execOp, ha.ev hx, ha.ev hy, ha.ev hz, Instr.mapUpdate, run_underlying h1, Go.MapKept.run_getObj_map hb', h3, h5, Go.MapKept.run_setObj_map _ hb', ho]
  · have h8 := Go.MapKept.heap_set (w := w) (r := g) (o' := mapO kv (l ++ [k])) hb'
    exact hs.turn hi (r' := .obj g (mapO kv (l ++ [k]))) h8.1 rfl rfl rfl (by simp) (fun j _ hne => h8.2 j fun e => hne (by simp [Res.has, e])) (fun j hj => .inl hj)
/-- An element of an array that is an element of a slice. -/
theorem yv_ixE {α : Type} {h : Hd} {l : List α} {en : α → List Value} {a : α} {T : TypeId} {x y : Operand} {j sz o n : Nat} {e : TypeId} {s : Nat} {zs : List Value} {d : Option Nat} [hc : CA P T n e s zs] {k : IntKind} {i : Int} (hx : evo ρ x = some (ep h.A j sz o)) (hr : Sl w h en l) (hl : l[j]? = some a) (hy : evo ρ y = some (.int k i)) (h0 : 0 ≤ i ∧ i < n) :
    Yv P N ρ w ⟨d, .indexAddr T x y, ty, ps, af, gd⟩ (ep h.A j sz (o + i.toNat * s)) := by
  obtain ⟨ad, hA⟩ := hr.sm hl
  unfold Yv
  intro a' ha
  have h5 : (ad.add (j * sz + o)).add (i.toNat * s) = ad.add (j * sz + (o + i.toNat * s)) := by
    unfold Addr.add
    by_cases q0 : j * sz = 0 <;> by_cases q1 : o = 0 <;> by_cases q2 : i.toNat * s = 0 <;> simp [q0, q1, q2, Nat.add_assoc]
  simp [execOp, ha.ev hx, ha.ev hy, Instr.indexAt, asIntOf, run_underlying hc.u, h0, run_sizeOf' hc.i, Instr.sureAddr, ep, hA, h5]
end
end Go.Hy
