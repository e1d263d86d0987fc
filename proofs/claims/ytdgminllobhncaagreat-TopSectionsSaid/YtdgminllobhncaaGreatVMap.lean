/-
  Maps from integers to values, and to lists.
-/
import Derived.Test.YtdgminllobhncaaGreatNest
namespace Go.Hy
set_option linter.unusedVariables false
set_option linter.unusedSimpArgs false
set_option maxHeartbeats 2000000
set_option maxRecDepth 10000
open Go.ChangeShapes

section
variable {α : Type}
def mentV (key : α → Int) (en : α → Value) : List α → Nat → List MapEntry
  | [], _ => []
  | a :: l, i => { key := kvI (key a), val := en a, born := i } :: mentV key en l (i + 1)
def mapV (key : α → Int) (en : α → Value) (l : List α) : Obj := .map (mentV key en l 0).toArray l.length
/-- The entry of a key. -/
def mfind (key : α → Int) (k : Int) : List α → Option α
  | [] => none
  | a :: l => if key a = k then some a else mfind key k l
/-- The entry in place of that of its key, or behind all. -/
def mput (key : α → Int) (a : α) : List α → List α
  | [] => [a]
  | b :: l => if key b = key a then a :: l else b :: mput key a l
variable {key : α → Int} {en : α → Value}
theorem mentV_app (a : α) : ∀ (l : List α) (i : Nat), mentV key en (l ++ [a]) i = mentV key en l i ++ [{ key := kvI (key a), val := en a, born := i + l.length }]
  | [], i => by simp [mentV]
  | b :: l, i => by
    simp only [List.cons_append, mentV, List.length_cons]
    rw [mentV_app a l (i + 1)]
    simp only [List.cons.injEq, true_and]
    congr 3
    omega
theorem mentV_len : ∀ (l : List α) (i : Nat), (mentV key en l i).length = l.length
  | [], _ => rfl
  | a :: l, i => by simp [mentV, mentV_len l (i + 1)]
theorem mentV_modify {k : Int} {v : Value} {a : α} (hk : key a = k) (hv : en a = v) : ∀ (l : List α) (i j : Nat), (mentV key en l i).modify j (fun e => { e with key := kvI k, val := v }) = mentV key en (l.set j a) i
  | [], _, _ => by simp [mentV]
  | b :: l, i, 0 => by simp [mentV, hk, hv]
  | b :: l, i, j + 1 => by simp [mentV, mentV_modify hk hv l (i + 1) j]
theorem mfind_spec {d : IntKind} (k : Int) : ∀ (l : List α) (b i : Nat), (mfind key k l = none ∧ Instr.findNow (.int d) (kvI k) (mentV key en l b) i = some none ∧ ∀ a, key a = k → mput key a l = l ++ [a]) ∨
    ∃ j x, mfind key k l = some x ∧ l[j]? = some x ∧ key x = k ∧ Instr.findNow (.int d) (kvI k) (mentV key en l b) i = some (some (i + j, en x)) ∧ ∀ a, key a = k → mput key a l = l.set j a
  | [], b, i => .inl ⟨rfl, rfl, fun _ _ => rfl⟩
  | a :: l, b, i => by
    by_cases e : key a = k
    · refine .inr ⟨0, a, by simp [mfind, e], rfl, e, ?_, fun a' h' => by simp [mput, e, h']⟩
      simp [mentV, Instr.findNow, Instr.sameNow, kvI, e]
    · have ht : Instr.sameNow (.int d) (kvI k) (kvI (key a)) = some false := by
        simp [Instr.sameNow, kvI, Ne.symm e]
      rcases mfind_spec (d := d) k l (b + 1) (i + 1) with ⟨h1, h2, h3⟩ | ⟨j, x, h1, h2, h3, h4, h5⟩
      · exact .inl ⟨by simp [mfind, e, h1], by simp [mentV, Instr.findNow, ht, h2], fun a' h' => by simp [mput, h', e, h3 a' h']⟩
      · refine .inr ⟨j + 1, x, by simp [mfind, e, h1], h2, h3, ?_, fun a' h' => by simp [mput, h', e, h5 a' h']⟩
        simp only [mentV, Instr.findNow, ht, h4]
        congr 3
        omega
/-- A map type from integers. -/
class CKV (P : Program) (mt : TypeId) (z : outParam Value) : Prop where
  h : ∃ kt et, P.underlying mt = some (.map kt et) ∧ P.underlying kt = some (.int .i64) ∧ (P.info? et).bind (·.zero) = some z
variable {P : Program} {N : Nat} {w0 w : World} {M L : List Res} {β : Type} {r : β} {K : Kont} {ρ : Env} {m : Option β} {ops : Array Oper} {rest : List Oper} {d : Nat} {ty : TypeId} {ps : String} {af : Array Edge} {gd : Option (Nat × Bool)} {z : Value}
def MapVAt (w : World) (g : Nat) (key : α → Int) (en : α → Value) (l : List α) : Prop := w.heap[g]? = some (mapV key en l)
theorem St.mapV (hs : St w0 w M L) {i g : Nat} {l : List α} (hi : L[i]? = some (.obj g (mapV key en l))) : MapVAt w g key en l := hs.hl _ (List.mem_of_getElem? hi)
theorem Sx.mapV {ids : List Nat} (hs : Sx w0 w ids L) {i g : Nat} {l : List α} (hi : L[i]? = some (.obj g (mapV key en l))) : MapVAt w g key en l := hs.hl _ (List.mem_of_getElem? hi)
theorem yv_lookV {T : TypeId} [hc : CKV P T z] {x y : Operand} {g : Nat} {k : Int} {l : List α} {d : Option Nat} (hx : evo ρ x = some (.map (some g))) (hy : evo ρ y = some (.int .i64 k)) (hb : MapVAt w g key en l) :
    Yv P N ρ w ⟨d, .lookup T x y false, ty, ps, af, gd⟩ (((mfind key k l).map en).getD z) := by
  unfold Yv
  intro a ha
  obtain ⟨kt, et, h1, h2, h3⟩ := hc.h
  unfold MapVAt Go.Hy.mapV at hb
  have hk : Go.MapKept.IsKey (.int .i64) (kvI k) := rfl
  rcases mfind_spec (key := key) (en := en) (d := .i64) k l 0 0 with ⟨h4, h5, _⟩ | ⟨j, q, h4, _, _, h5, _⟩
  · have h6 := Go.MapKept.run_findKey (P := P) (w := w) h2 h5
    have h7 : (zeroValue et).run P w = .ok z w := run_zeroValue' h3
    simp [execOp, ha.ev hx, ha.ev hy, Instr.lookup, run_underlying h1, Go.MapKept.run_getObj_map hb, Go.MapKept.run_checkKey h2 hk, show (Value.int .i64 k) = kvI k from rfl, h6, h7, h4]
  · have h6 := Go.MapKept.run_findKey (P := P) (w := w) h2 h5
    simp [execOp, ha.ev hx, ha.ev hy, Instr.lookup, run_underlying h1, Go.MapKept.run_getObj_map hb, Go.MapKept.run_checkKey h2 hk, show (Value.int .i64 k) = kvI k from rfl, h6, h4]
theorem yv_lookV2 {T : TypeId} [hc : CKV P T z] {x y : Operand} {g : Nat} {k : Int} {l : List α} {d : Option Nat} (hx : evo ρ x = some (.map (some g))) (hy : evo ρ y = some (.int .i64 k)) (hb : MapVAt w g key en l) :
    Yv P N ρ w ⟨d, .lookup T x y true, ty, ps, af, gd⟩ (.tuple #[((mfind key k l).map en).getD z, .bool (mfind key k l).isSome]) := by
  unfold Yv
  intro a ha
  obtain ⟨kt, et, h1, h2, h3⟩ := hc.h
  unfold MapVAt Go.Hy.mapV at hb
  have hk : Go.MapKept.IsKey (.int .i64) (kvI k) := rfl
  rcases mfind_spec (key := key) (en := en) (d := .i64) k l 0 0 with ⟨h4, h5, _⟩ | ⟨j, q, h4, _, _, h5, _⟩
  · have h6 := Go.MapKept.run_findKey (P := P) (w := w) h2 h5
    have h7 : (zeroValue et).run P w = .ok z w := run_zeroValue' h3
    simp [execOp, ha.ev hx, ha.ev hy, Instr.lookup, run_underlying h1, Go.MapKept.run_getObj_map hb, Go.MapKept.run_checkKey h2 hk, show (Value.int .i64 k) = kvI k from rfl, h6, h7, h4]
  · have h6 := Go.MapKept.run_findKey (P := P) (w := w) h2 h5
    simp [execOp, ha.ev hx, ha.ev hy, Instr.lookup, run_underlying h1, Go.MapKept.run_getObj_map hb, Go.MapKept.run_checkKey h2 hk, show (Value.int .i64 k) = kvI k from rfl, h6, h4]
theorem jg_mapV {T : TypeId} (key : α → Int) (en : α → Value) (hg : want ops ρ gd = some true) (hd : Nat.blt d N = true)
    (hk : ∀ g : Nat, Jg P N w0 M (.obj g (mapV key en []) :: L) ops rest ((d, .map (some g)) :: ρ) m r K) : Jg P N w0 M L ops (⟨some d, .makeMap T none, ty, ps, af, gd⟩ :: rest) ρ m r K := fun w hs hm => by
  refine rg_w (v := .map (some w.heap.size)) (w' := w.alloc (.map #[] 0)) hg hd (fun a ha => ?_) (hk w.heap.size _ (hs.alloc_obj (.map #[] 0)) hm)
  simp [execOp, Instr.makeMap, run_newObj]
/-- An entry is put in. -/
theorem jg_mapput (i : Nat) {T : TypeId} [hc : CKV P T z] {x y v : Operand} {g : Nat} {l : List α} (a : α) (hx : evo ρ x = some (.map (some g))) (hi : L[i]? = some (.obj g (mapV key en l))) (hy : evo ρ y = some (.int .i64 (key a))) (hv : evo ρ v = some (en a)) (hg : want ops ρ gd = some true)
    (hk : Jg P N w0 M (L.set i (.obj g (mapV key en (mput key a l)))) ops rest ρ m r K) : Jg P N w0 M L ops (⟨none, .mapUpdate T x y v, ty, ps, af, gd⟩ :: rest) ρ m r K := fun w hs hm => by
  obtain ⟨kt, et, h1, h2, h3⟩ := hc.h
  have hb : w.heap[g]? = some (.map (mentV key en l 0).toArray l.length) := hs.hl _ (List.mem_of_getElem? hi)
  have hik : Go.MapKept.IsKey (.int .i64) (kvI (key a)) := rfl
  refine rg_u (w' := { w with heap := w.heap.setIfInBounds g (mapV key en (mput key a l)) }) hg (fun ac hac => ?_) (hk _ ?_ hm)
  · rcases mfind_spec (key := key) (en := en) (d := .i64) (key a) l 0 0 with ⟨h4, h5, h8⟩ | ⟨j, q, h4, hj, hq, h5, h8⟩
    · have h6 := Go.MapKept.run_findKey (P := P) (w := w) h2 h5
      have ho : mapV key en (l ++ [a]) = .map ((mentV key en l 0).toArray.push { key := kvI (key a), val := en a, born := l.length }) (l.length + 1) := by
        unfold mapV
        rw [mentV_app]
        simp
      simp [execOp, hac.ev hx, hac.ev hy, hac.ev hv, Instr.mapUpdate, run_underlying h1, Go.MapKept.run_getObj_map hb, Go.MapKept.run_checkKey h2 hik, show (Value.int .i64 (key a)) = kvI (key a) from rfl, h6, Go.MapKept.run_setObj_map _ hb, h8 a rfl, ho]
    · have h6 := Go.MapKept.run_findKey (P := P) (w := w) h2 h5
      have hjl : j < l.length := (List.getElem?_eq_some_iff.1 hj).1
      have hmo := mentV_modify (key := key) (en := en) (k := key a) (v := en a) (a := a) rfl rfl l 0 j
      have hkey : ∀ e, (mentV key en l 0)[j]? = some e → e.key = kvI (key a) := by
        intro e he
        have : ∀ (l : List α) (i j : Nat) (x : α), l[j]? = some x → ∀ e, (mentV key en l i)[j]? = some e → e.key = kvI (key x) := by
          intro l
          induction l with
          | nil => intro i j x h; simp at h
          | cons b l ih =>
            intro i j x h e he
            cases j with
            | zero => simp [mentV] at h he; subst h; rw [← he]
            | succ j => simp [mentV] at h he; exact ih (i + 1) j x h e he
        rw [this l 0 j q hj e he, hq]
      have hget : ∃ e, (mentV key en l 0)[j]? = some e := ⟨_, List.getElem?_eq_getElem (by rw [mentV_len]; exact hjl)⟩
      obtain ⟨e, he⟩ := hget
      have hst : (Instr.keyThatStays e.key (kvI (key a))).run P w = .ok (kvI (key a)) w := by rw [hkey e he]; exact Go.MapKept.run_keyThatStays (d := .int .i64) hik
      have ho : mapV key en (l.set j a) = .map ((mentV key en l 0).toArray.modify j fun e => { e with key := kvI (key a), val := en a }) l.length := by
        unfold mapV
        rw [← hmo]
        simp
      simp [execOp, hac.ev hx, hac.ev hy, hac.ev hv, Instr.mapUpdate, run_underlying h1, Go.MapKept.run_getObj_map hb, Go.MapKept.run_checkKey h2 hik, show (Value.int .i64 (key a)) = kvI (key a) from rfl, h6, he, hst, Go.MapKept.run_setObj_map _ hb, h8 a rfl, ho]
  · have h8 := Go.MapKept.heap_set (w := w) (r := g) (o' := mapV key en (mput key a l)) hb
    exact hs.turn hi (r' := .obj g (mapV key en (mput key a l))) h8.1 rfl rfl rfl (by simp) (fun j _ hne => h8.2 j fun e => hne (by simp [Res.has, e])) (fun j hj => .inl hj)
theorem jg_vlq {α : Type} {e : α} {f : α → Option β} (hk : ∀ x, x = e → Jg P N w0 M L ops rest ρ (f x) r K) : Jg P N w0 M L ops rest ρ (vl e f) r K := fun w hs hm => hk e rfl w hs (by rw [vl_q] at hm; exact hm)
end
/-! ### Maps to lists: the rows of the lists lie in a nest of their own -/
section
variable {β : Type} {enc : β → List Value} {e : TypeId} {sz : Nat}
/-- An entry: its key, its list, and the list's header. -/
abbrev Ent (β : Type) := (Int × List β) × Hd
def keyE (p : Ent β) : Int := p.1.1
def valE (p : Ent β) : Value := p.2.v
def rowE (e : TypeId) (sz : Nat) (enc : β → List Value) (p : Ent β) : Rw := rw1 p.2 e sz enc p.1.2
def hdOf (k : Int) (q : List (Ent β)) : Hd := ((mfind keyE k q).map (·.2)).getD ⟨none, 0, 0⟩
def listOf (k : Int) (l : List (Int × List β)) : List β := ((mfind (·.1) k l).map (·.2)).getD []
def rest_ (k : Int) (q : List (Ent β)) : List (Ent β) := q.filter fun p => decide (keyE p ≠ k)
/-- The entries are those of the plain map; no key comes twice. -/
def KF (q : List (Ent β)) (l : List (Int × List β)) : Prop := q.map (·.1) = l ∧ (q.map keyE).Nodup
theorem KF.nil : KF ([] : List (Ent β)) [] := ⟨rfl, List.nodup_nil⟩
theorem mfind_map (k : Int) : ∀ q : List (Ent β), mfind (·.1) k (q.map (·.1)) = (mfind keyE k q).map (·.1)
  | [] => rfl
  | p :: q => by
    have ih := mfind_map k q
    by_cases h : p.1.1 = k
    · have h' : keyE p = k := h
      simp [mfind, h, h']
    · have h' : ¬ keyE p = k := h
      simp [mfind, h, h', ih]
theorem mput_map (a : Ent β) : ∀ q : List (Ent β), (mput keyE a q).map (·.1) = mput (·.1) a.1 (q.map (·.1))
  | [] => rfl
  | p :: q => by
    have ih := mput_map a q
    by_cases h : p.1.1 = a.1.1
    · have h' : keyE p = keyE a := h
      simp [mput, h, h']
    · have h' : ¬ keyE p = keyE a := h
      simp [mput, h, h', ih]
theorem mfind_mem {α : Type} {key : α → Int} {k : Int} : ∀ {l : List α} {a : α}, mfind key k l = some a → a ∈ l ∧ key a = k
  | b :: l, a, h => by
    simp only [mfind] at h
    split at h
    · obtain rfl := Option.some.inj h
      exact ⟨List.mem_cons_self .., by assumption⟩
    · exact ⟨List.mem_cons_of_mem _ (mfind_mem h).1, (mfind_mem h).2⟩
theorem mfind_none {α : Type} {key : α → Int} {k : Int} : ∀ {l : List α}, mfind key k l = none → ∀ a ∈ l, key a ≠ k
  | b :: l, h, a, ha => by
    simp only [mfind] at h
    split at h
    · cases h
    · rcases List.mem_cons.1 ha with rfl | ha
      · assumption
      · exact mfind_none h a ha
theorem val_hd (k : Int) (q : List (Ent β)) : ((mfind keyE k q).map valE).getD (Hd.v ⟨none, 0, 0⟩) = (hdOf k q).v := by
  unfold hdOf
  cases mfind keyE k q <;> rfl
theorem rest_none {k : Int} {q : List (Ent β)} (h : mfind keyE k q = none) : rest_ k q = q := by
  unfold rest_
  exact List.filter_eq_self.2 fun p hp => decide_eq_true (mfind_none h p hp)
theorem rest_some {k : Int} : ∀ {q : List (Ent β)} {p : Ent β}, (q.map keyE).Nodup → mfind keyE k q = some p → q.Perm (p :: rest_ k q)
  | b :: q, p, hn, h => by
    have hn' := List.nodup_cons.1 (by simpa using hn : (keyE b :: q.map keyE).Nodup)
    simp only [mfind] at h
    split at h
    · rename_i hb
      obtain rfl := Option.some.inj h
      have h1 : rest_ k (b :: q) = rest_ k q := by simp [rest_, hb]
      have h2 : rest_ k q = q := by
        unfold rest_
        refine List.filter_eq_self.2 fun x hx => decide_eq_true fun e => hn'.1 ?_
        rw [hb, ← e]
        exact List.mem_map_of_mem hx
      rw [h1, h2]
    · rename_i hb
      have h1 : rest_ k (b :: q) = b :: rest_ k q := by simp [rest_, hb]
      rw [h1]
      exact ((rest_some hn'.2 h).cons b).trans (List.Perm.swap p b _)
theorem rest_nodup {k : Int} {q : List (Ent β)} (hn : (q.map keyE).Nodup) : ((rest_ k q).map keyE).Nodup := by
  unfold rest_
  exact (List.filter_sublist.map keyE).nodup hn
theorem mput_perm (a : Ent β) : ∀ {q : List (Ent β)}, (q.map keyE).Nodup → (a :: rest_ (keyE a) q).Perm (mput keyE a q)
  | [], _ => List.Perm.refl _
  | b :: q, hn => by
    have hn' := List.nodup_cons.1 (by simpa using hn : (keyE b :: q.map keyE).Nodup)
    simp only [mput]
    split
    · rename_i hb
      have h1 : rest_ (keyE a) (b :: q) = rest_ (keyE a) q := by simp [rest_, hb]
      have h2 : rest_ (keyE a) q = q := by
        unfold rest_
        refine List.filter_eq_self.2 fun x hx => decide_eq_true fun e => hn'.1 ?_
        rw [hb, ← e]
        exact List.mem_map_of_mem hx
      rw [h1, h2]
    · rename_i hb
      have h1 : rest_ (keyE a) (b :: q) = b :: rest_ (keyE a) q := by simp [rest_, hb]
      rw [h1]
      exact (List.Perm.swap b a _).trans ((mput_perm a hn'.2).cons b)
theorem KF.put {q : List (Ent β)} {l l' : List (Int × List β)} (h : KF q l) (a : Ent β) (hl : l' = mput (·.1) a.1 l) : KF (mput keyE a q) l' := by
  refine ⟨by rw [mput_map, h.1, hl], ?_⟩
  have hp := ((mput_perm a h.2).map keyE).nodup_iff
  refine hp.1 ?_
  rw [List.map_cons, List.nodup_cons]
  refine ⟨fun hm => ?_, rest_nodup h.2⟩
  obtain ⟨x, hx, he⟩ := List.mem_map.1 hm
  unfold rest_ at hx
  exact of_decide_eq_true (List.mem_filter.1 hx).2 he
/-- The list of a key reads. -/
theorem ent_sl [En enc sz] {w : World} {q : List (Ent β)} {l : List (Int × List β)} (h : q.map (·.1) = l) (hd : ∀ p ∈ q, (rowE e sz enc p).rd w) (k : Int) : Sl w (hdOf k q) enc (listOf k l) := by
  subst h
  unfold hdOf listOf
  rw [mfind_map]
  cases hf : mfind keyE k q with
  | none => exact Sl.nil
  | some p => exact (hd p (mfind_mem hf).1).sl
variable {w0 w : World} {M L L' : List Res} {rs rs' : List Rw} {p p' : Prop}
theorem St.entD (hs : St w0 w M L) (i : Nat) {q : List (Ent β)} (hi : L[i]? = some (.nest (q.map (rowE e sz enc)) p)) : ∀ x ∈ q, (rowE e sz enc x).rd w := fun x hx => ((hs.hl _ (List.mem_of_getElem? hi)).2.1 _ (List.mem_map_of_mem hx)).rd
theorem Sx.entD {ids : List Nat} (hs : Sx w0 w ids L) (i : Nat) {q : List (Ent β)} (hi : L[i]? = some (.nest (q.map (rowE e sz enc)) p)) : ∀ x ∈ q, (rowE e sz enc x).rd w := fun x hx => ((hs.hl _ (List.mem_of_getElem? hi)).2.1 _ (List.mem_map_of_mem hx)).rd
theorem rw_symm {a b : Rw} (h : a.apart b) : b.apart a := fun k h1 h2 => h k h2 h1
/-- The rows in another order. -/
theorem St.perm (hs : St w0 w M L) {i : Nat} (hi : L[i]? = some (.nest rs p)) (hp : rs.Perm rs') (hpp : p → p') (hL : L.set i (.nest rs' p') = L') : St w0 w M L' := by
  have h1 := hs.hl _ (List.mem_of_getElem? hi)
  exact hL ▸ hs.turn hi (r' := .nest rs' p') ⟨hpp h1.1, fun r hr => h1.2.1 r (hp.mem_iff.2 hr), (hp.pairwise_iff (fun h => rw_symm h)).1 h1.2.2⟩ rfl rfl rfl (Nat.le_refl _) (fun _ _ _ => rfl) (fun k ⟨r, hr, hk⟩ => .inl ⟨r, hp.mem_iff.2 hr, hk⟩)
/-- A row comes out of the nest. -/
theorem St.out (hs : St w0 w M L) {i : Nat} {r0 : Rw} (hi : L[i]? = some (.nest (r0 :: rs) p)) : St w0 w M (.row r0.A r0.cap r0.e r0.sz r0.n r0.xs :: L.set i (.nest rs p)) := by
  have h1 := hs.hl _ (List.mem_of_getElem? hi)
  have hpw := List.pairwise_cons.1 h1.2.2
  have hs1 : St w0 w M (L.set i (.nest rs p)) := hs.turn hi (r' := .nest rs p) ⟨h1.1, fun r hr => h1.2.1 r (.tail _ hr), hpw.2⟩ rfl rfl rfl (Nat.le_refl _) (fun _ _ _ => rfl) (fun k ⟨r, hr, hk⟩ => .inl ⟨r, .tail _ hr, hk⟩)
  refine hs1.cons (h1.2.1 r0 (.head _)) (fun k hk => hs.lge _ (List.mem_of_getElem? hi) k ⟨r0, .head _, hk⟩) (fun s hsm k hk hk2 => ?_)
  obtain ⟨j, hj⟩ := List.mem_iff_getElem?.1 hsm
  by_cases e : j = i
  · subst e
    rw [List.getElem?_set_self (List.getElem?_eq_some_iff.1 hi).1] at hj
    obtain rfl := Option.some.inj hj
    obtain ⟨r, hr, hk'⟩ := hk2
    exact hpw.1 r hr k hk hk'
  · rw [List.getElem?_set_ne (Ne.symm e)] at hj
    exact pairwise_get hs.lne hi hj (Ne.symm e) k ⟨r0, .head _, hk⟩ hk2
end
section
variable {β : Type} {enc : β → List Value} {e : TypeId} {sz : Nat} {P : Program} {N : Nat} {w0 : World} {M L : List Res} {γ : Type} {r : γ} {K : Kont} {ρ : Env} {m : Option γ} {ops : Array Oper} {rest : List Oper} {d : Nat} {ty : TypeId} {ps : String} {af : Array Edge} {gd : Option (Nat × Bool)} {p : Prop}
/-- The row of a key's list comes out of the nest. -/
theorem jg_takeE (i : Nat) (k : Int) {q : List (Ent β)} {l : List (Int × List β)} (hi : L[i]? = some (.nest (q.map (rowE e sz enc)) p)) (hq : KF q l) (hk : Jg P N w0 M (rowH (hdOf k q) e sz enc (listOf k l) :: L.set i (.nest ((rest_ k q).map (rowE e sz enc)) p)) ops rest ρ m r K) : Jg P N w0 M L ops rest ρ m r K := fun w hs hm => by
  obtain ⟨rfl, hn⟩ := hq
  refine hk w ?_ hm
  unfold hdOf listOf
  rw [mfind_map]
  cases hf : mfind keyE k q with
  | none =>
    rw [rest_none hf]
    have h2 : L.set i (.nest (q.map (rowE e sz enc)) p) = L := by
      obtain ⟨h3, h4⟩ := List.getElem?_eq_some_iff.1 hi
      rw [← h4]
      exact List.set_getElem_self h3
    rw [h2]
    exact hs.addnil e sz
  | some x =>
    have h3 := (rest_some hn hf).map (rowE e sz enc)
    have h4 := hs.perm hi h3 (fun h => h) rfl
    have h5 := h4.out (i := i) (r0 := rowE e sz enc x) (rs := (rest_ k q).map (rowE e sz enc)) (p := p) (List.getElem?_set_self (List.getElem?_eq_some_iff.1 hi).1)
    rw [List.set_set] at h5
    exact h5
theorem jg_perm {i : Nat} {rs rs' : List Rw} (p' : Prop) {L' : List Res} (hi : L[i]? = some (.nest rs p)) (hp : rs.Perm rs') (hpp : p → p') (hL : L.set i (.nest rs' p') = L') (hk : Jg P N w0 M L' ops rest ρ m r K) : Jg P N w0 M L ops rest ρ m r K := fun w hs hm => hk w (hs.perm hi hp hpp hL) hm
theorem put_rows {q : List (Ent β)} {l : List (Int × List β)} (hq : KF q l) (a : Ent β) : (rowE e sz enc a :: (rest_ (keyE a) q).map (rowE e sz enc)).Perm ((mput keyE a q).map (rowE e sz enc)) := (mput_perm a hq.2).map (rowE e sz enc)
end
/-! ### What the lifter names -/
def keyP (p : Int × Int) : Int := p.1
def valP (p : Int × Int) : Value := .int .i64 p.2
def intOf (k : Int) (l : List (Int × Int)) : Int := ((mfind keyP k l).map (·.2)).getD 0
section
variable {P : Program} {N : Nat} {w0 w : World} {M L : List Res} {γ : Type} {r : γ} {K : Kont} {ρ : Env} {m : Option γ} {ops : Array Oper} {rest : List Oper} {d : Option Nat} {T ty : TypeId} {ps : String} {af : Array Edge} {gd : Option (Nat × Bool)} {x y : Operand} {g : Nat} {k : Int}
theorem yv_lookI2 {l : List (Int × Int)} [hc : CKV P T (.int .i64 0)] (hx : evo ρ x = some (.map (some g))) (hy : evo ρ y = some (.int .i64 k)) (hb : MapVAt w g keyP valP l) : Yv P N ρ w ⟨d, .lookup T x y true, ty, ps, af, gd⟩ (.tuple #[.int .i64 (intOf k l), .bool (mfind keyP k l).isSome]) := by
  have h := yv_lookV2 (P := P) (N := N) (d := d) (ty := ty) (ps := ps) (af := af) (gd := gd) (T := T) hx hy hb
  have e : ((mfind keyP k l).map valP).getD (.int .i64 0) = .int .i64 (intOf k l) := by unfold intOf; cases mfind keyP k l <;> rfl
  rw [e] at h
  exact h
theorem yv_lookE {β : Type} {q : List (Ent β)} [hc : CKV P T (.slice none 0 0)] (hx : evo ρ x = some (.map (some g))) (hy : evo ρ y = some (.int .i64 k)) (hb : MapVAt w g keyE valE q) : Yv P N ρ w ⟨d, .lookup T x y false, ty, ps, af, gd⟩ (hdOf k q).v := by
  have h := yv_lookV (P := P) (N := N) (d := d) (ty := ty) (ps := ps) (af := af) (gd := gd) (T := T) hx hy hb
  have e : ((mfind keyE k q).map valE).getD (.slice none 0 0) = (hdOf k q).v := val_hd k q
  rw [e] at h
  exact h
theorem jg_addnestE {β : Type} (e : TypeId) (sz : Nat) (enc : β → List Value) (hk : Jg P N w0 M (.nest (List.map (rowE e sz enc) ([] : List (Ent β))) (KF ([] : List (Ent β)) []) :: L) ops rest ρ m r K) : Jg P N w0 M L ops rest ρ m r K := fun w hs hm => hk w (hs.addnest (p := KF ([] : List (Ent β)) []) KF.nil) hm
variable {α : Type} {key : α → Int} {en : α → Value}
theorem St.argV {l : List α} (hs : St w0 w [] L) (h : MapVAt w0 g key en l) : MapVAt w g key en l := by
  unfold MapVAt at h ⊢
  rw [hs.old g (Array.getElem?_eq_some_iff.1 h).1 (by simp)]
  exact h
theorem Sx.argV {l : List α} (hs : Sx w0 w [] L) (h : MapVAt w0 g key en l) : MapVAt w g key en l := by
  unfold MapVAt at h ⊢
  rw [hs.old g (Array.getElem?_eq_some_iff.1 h).1 (by simp)]
  exact h
variable {β : Type} {q : List (Ent β)} {e : TypeId} {sz : Nat} {enc : β → List Value}
theorem St.argE (hs : St w0 w [] L) (h : ∀ x ∈ q, (rowE e sz enc x).rd w0) : ∀ x ∈ q, (rowE e sz enc x).rd w := fun x hx => (h x hx).sx (ids := []) (fun _ i hi => by cases hi) (hs.sx (is := []) rfl)
theorem Sx.argE (hs : Sx w0 w [] L) (h : ∀ x ∈ q, (rowE e sz enc x).rd w0) : ∀ x ∈ q, (rowE e sz enc x).rd w := fun x hx => (h x hx).sx (ids := []) (fun _ i hi => by cases hi) hs
end
end Go.Hy
