/-
  The lockstep logic: a function of Go is walked beside a plain model of it, an expression of Option; the world is hidden in the sequent. It holds over every program.
-/
import Derived.Test.YtdgminllobhncaaGreatMore
import Derived.Laws.BytesString
namespace Go.Hy
set_option linter.unusedVariables false
set_option linter.unusedSimpArgs false
set_option maxHeartbeats 2000000
set_option maxRecDepth 10000
open Go.RowKit

/-! ### The words of a model -/
abbrev w64 (n : Int) : Int := IntKind.i64.wrap n
def vl {α β : Type} (a : α) (f : α → Option β) : Option β := f a
def ck {β : Type} (c : Bool) (m : Option β) : Option β := cond c m none
def ix {α β : Type} (l : List α) (i : Int) (f : α → Option β) : Option β := if 0 ≤ i then (match l[i.toNat]? with | some a => f a | none => none) else none
def lp {σ β : Type} (body : σ → (σ → Option β) → Option β) : Nat → σ → Option β
  | 0, _ => none
  | n + 1, s => body s (lp body n)
theorem lp_succ {σ β : Type} (body : σ → (σ → Option β) → Option β) (n : Nat) (s : σ) : lp body (n + 1) s = body s (lp body n) := rfl
def jp {σ β : Type} (k : σ → Option β) (f : (σ → Option β) → Option β) : Option β := f k
def bd {α β : Type} (m : Option α) (f : α → Option β) : Option β := match m with | some a => f a | none => none
def byteAt (s : ByteArray) (i : Int) : Int := match s.data[i.toNat]? with | some b => (b.toNat : Int) | none => 0
def strOf (l : List Int) : ByteArray := ⟨(l.map fun n => UInt8.ofNat n.toNat).toArray⟩
/-- Rounds enough for every loop. -/
def big : Nat := 18446744073709551616

/-- How an element lies in cells. -/
class En {α : Type} (enc : α → List Value) (sz : outParam Nat) : Prop where
  len : ∀ a, (enc a).length = sz
  one : ∀ a, ∀ u ∈ enc a, u.oneCell' = true
  pos : 0 < sz
def encI (n : Int) : List Value := [.int .i64 n]
def encK (k : IntKind) (n : Int) : List Value := [.int k n]
def encB (b : Bool) : List Value := [.bool b]
def encZ (s : ByteArray) : List Value := [.string s]
instance : En encI 1 := ⟨fun _ => rfl, fun a u hu => by simp only [encI, List.mem_cons, List.not_mem_nil, or_false] at hu; subst hu; rfl, by decide⟩
instance {k : IntKind} : En (encK k) 1 := ⟨fun _ => rfl, fun a u hu => by simp only [encK, List.mem_cons, List.not_mem_nil, or_false] at hu; subst hu; rfl, by decide⟩
instance : En encB 1 := ⟨fun _ => rfl, fun a u hu => by simp only [encB, List.mem_cons, List.not_mem_nil, or_false] at hu; subst hu; rfl, by decide⟩
instance : En encZ 1 := ⟨fun _ => rfl, fun a u hu => by simp only [encZ, List.mem_cons, List.not_mem_nil, or_false] at hu; subst hu; rfl, by decide⟩
theorem En.flat1 {α : Type} {enc : α → List Value} {sz : Nat} (h : En enc sz) (l : List α) : ∀ u ∈ cellsOf enc l, u.oneCell' = true := fun u hu => by
  obtain ⟨a, _, ha⟩ := List.mem_flatMap.1 hu
  exact h.one a u ha
theorem En.flen {α : Type} {enc : α → List Value} {sz : Nat} (h : En enc sz) (l : List α) : (cellsOf enc l).length = l.length * sz := flat_len h.len l

/-- A slice: where it lies, how many elements it has, and how much room. -/
structure Hd where
  A : Option Addr
  n : Nat
  c : Nat
@[reducible] def Hd.v (h : Hd) : Value := .slice h.A h.n h.c
/-- What is left of a slice behind its first elements. -/
def Hd.lo (h : Hd) (i sz : Nat) : Hd := ⟨if h.c = i then h.A else h.A.map (·.add (i * sz)), h.n - i, h.c - i⟩
/-- The slice reads as the list. -/
structure Sl {α : Type} (w : World) (h : Hd) (enc : α → List Value) (l : List α) : Prop where
  r : ∃ sz, En enc sz ∧ Rd w h.A sz enc l
  n : l.length = h.n
  c : h.n ≤ h.c
@[reducible] def rowH {α : Type} (h : Hd) (e : TypeId) (sz : Nat) (enc : α → List Value) (l : List α) : Res := .row h.A h.c e sz h.n (cellsOf enc l)

/-- What the operations of a region may lean on: some blocks may turn, and these things hold. -/
structure Sx (w0 w : World) (ids : List Nat) (L : List Res) : Prop where
  size : w0.heap.size ≤ w.heap.size
  old : ∀ k, k < w0.heap.size → (∀ i ∈ ids, i ≠ k) → w.heap[k]? = w0.heap[k]?
  hl : ∀ r ∈ L, r.holds w
/-- Does the slice's memory lie outside of these? -/
def Offs (h : Hd) (ids : List Nat) : Prop := 0 < h.n → ∀ i ∈ ids, Off h.A i

def selL (L : List Res) : List Nat → Option (List Res)
  | [] => some []
  | i :: is => match L[i]? with
    | none => none
    | some r => match selL L is with
      | none => none
      | some rs => some (r :: rs)
def Res.ids : Res → List Nat
  | .blk g _ _ => [g]
  | .row A _ _ _ _ _ => (A.map (·.block)).toList
  | .obj g _ => [g]
  | .nest rs _ => rs.filterMap fun r => r.A.map (·.block)
def idsM : List Res → List Nat
  | [] => []
  | r :: M => r.ids ++ idsM M
theorem has_ids {r : Res} {k : Nat} (h : r.has k) : k ∈ r.ids := by
  cases r with
  | blk g t cs => exact List.mem_singleton.2 (Eq.symm h)
  | row A cap e sz n xs => exact Option.mem_toList.2 h
  | obj g o => exact List.mem_singleton.2 (Eq.symm h)
  | nest rs p => obtain ⟨r, hr, hk⟩ := h; exact List.mem_filterMap.2 ⟨r, hr, hk⟩
theorem selL_spec {L : List Res} : ∀ {is : List Nat} {L' : List Res}, selL L is = some L' → L'.length = is.length ∧ ∀ (j : Nat) (r : Res), L'[j]? = some r → ∃ i : Nat, is[j]? = some i ∧ L[i]? = some r
  | [], L', h => by simp only [selL, Option.some.injEq] at h; subst h; simp
  | i :: is, L', h => by
    simp only [selL] at h
    cases hi : L[i]? with
    | none => rw [hi] at h; cases h
    | some r0 =>
      rw [hi] at h
      simp only at h
      cases hs : selL L is with
      | none => rw [hs] at h; cases h
      | some rs =>
        rw [hs] at h
        simp only [Option.some.injEq] at h
        subst h
        obtain ⟨h1, h2⟩ := selL_spec hs
        refine ⟨by simp [h1], fun j r hj => ?_⟩
        cases j with
        | zero => simp only [List.getElem?_cons_zero, Option.some.injEq] at hj; subst hj; exact ⟨i, by simp, hi⟩
        | succ j => simp only [List.getElem?_cons_succ] at hj ⊢; exact h2 j r hj
def distinct : List Nat → Bool
  | [] => true
  | i :: is => (is.all fun j => !Nat.beq i j) && distinct is
theorem distinct_spec : ∀ {is : List Nat}, distinct is = true → is.Nodup
  | [], _ => List.nodup_nil
  | i :: is, h => by
    simp only [distinct, Bool.and_eq_true, List.all_eq_true, Bool.not_eq_true'] at h
    refine List.nodup_cons.2 ⟨fun hm => ?_, distinct_spec h.2⟩
    have := h.1 i hm
    simp at this
section
variable {w0 w w' : World} {M L L' : List Res}
/-- Some of the things, in another order. -/
theorem St.sel (h : St w0 w M L) {is : List Nat} (hs : selL L is = some L') (hd : distinct is = true) : St w0 w M L' := by
  obtain ⟨h1, h2⟩ := selL_spec hs
  have hm : ∀ r ∈ L', r ∈ L := fun r hr => by
    obtain ⟨j, hj⟩ := List.mem_iff_getElem?.1 hr
    obtain ⟨i, _, hi⟩ := h2 j r hj
    exact List.mem_of_getElem? hi
  refine ⟨h.os, h.tape, h.output, h.size, h.old, h.hm, h.mlt, h.mne, fun r hr => h.hl r (hm r hr), fun r hr => h.lge r (hm r hr), ?_⟩
  refine List.pairwise_iff_getElem.2 fun i j hi hj hij => ?_
  obtain ⟨a, ha, hLa⟩ := h2 i _ (List.getElem?_eq_getElem hi)
  obtain ⟨b, hb, hLb⟩ := h2 j _ (List.getElem?_eq_getElem hj)
  refine pairwise_get h.lne hLa hLb ?_
  have hn := List.pairwise_iff_getElem.1 (distinct_spec hd) i j (by omega) (by omega) hij
  rw [List.getElem?_eq_getElem (by omega)] at ha hb
  rw [← Option.some.inj ha, ← Option.some.inj hb]
  exact hn
theorem St.addnil (h : St w0 w M L) (e : TypeId) (sz : Nat) : St w0 w M (.row none 0 e sz 0 [] :: L) :=
  h.cons (r := .row none 0 e sz 0 []) ⟨by simp, by omega, .inl ⟨rfl, rfl, rfl⟩⟩ (fun k hk => by simp [Res.has] at hk) (fun s _ k hk => by simp [Res.has] at hk)
theorem mem_idsM {r : Res} {k : Nat} (e : r.has k) : ∀ {M : List Res}, r ∈ M → k ∈ idsM M
  | [], h => by cases h
  | a :: M, hm => by
    rcases List.mem_cons.1 hm with rfl | hm
    · exact List.mem_append_left _ (has_ids e)
    · exact List.mem_append_right _ (mem_idsM e hm)
theorem St.sx (h : St w0 w M L) {is : List Nat} (hs : selL (L ++ M) is = some L') : Sx w0 w (idsM M) L' := by
  obtain ⟨_, h2⟩ := selL_spec hs
  refine ⟨h.size, fun k hk hne => h.old k hk fun r hr e => hne k (mem_idsM e hr) rfl, fun r hr => ?_⟩
  obtain ⟨j, hj⟩ := List.mem_iff_getElem?.1 hr
  obtain ⟨i, _, hi⟩ := h2 j r hj
  rcases List.mem_append.1 (List.mem_of_getElem? hi) with hh | hh
  · exact h.hl r hh
  · exact h.hm r hh
theorem Sx.gr {ids : List Nat} (h : Sx w0 w ids L) (hg : Gr w w') : Sx w0 w' ids L :=
  ⟨Nat.le_trans h.size (St.size hg), fun k hk hne => (St.old hg k (Nat.lt_of_lt_of_le hk h.size) (by simp)).trans (h.old k hk hne), fun r hr => (h.hl r hr).keep fun k hk => St.old hg k ((h.hl r hr).lt hk) (by simp)⟩
theorem Sx.blk {ids : List Nat} (h : Sx w0 w ids L) {i g : Nat} {t : TypeId} {cs : List Value} (hi : L[i]? = some (.blk g t cs)) : Blk w g t cs := by
  unfold Blk
  exact h.hl _ (List.mem_of_getElem? hi)

variable {α : Type} {h : Hd} {sz : Nat} {e : TypeId} {enc : α → List Value} {l : List α}
theorem Sl.sx {ids : List Nat} (k : Sl w0 h enc l) (ho : Offs h ids) (hx : Sx w0 w ids L) : Sl w h enc l := by
  obtain ⟨⟨sz, he, hr⟩, hn, hc⟩ := k
  exact ⟨⟨sz, he, hr.keep fun ad hA hp => hx.old _ (hr.lt he.pos ad hA hp) fun i hi e => ho (by omega) i hi ad hA e.symm⟩, hn, hc⟩
theorem Offs.nil : Offs h [] := fun _ i hi => by cases hi
theorem Offs.none {ids : List Nat} : Offs ⟨none, 0, 0⟩ ids := fun hn => absurd hn (Nat.lt_irrefl 0)
theorem row_rn (he : En enc sz) (k : rowOk w h.A h.c e sz h.n (cellsOf enc l)) : Sl w h enc l := by
  have hp := he.pos
  have hn : l.length = h.n := by
    have := k.1
    rw [he.flen] at this
    exact Nat.eq_of_mul_eq_mul_right hp this
  refine ⟨⟨sz, he, he.len, by have := k.2.1; omega, fun hn => ?_⟩, hn, by rcases k.2.2 with ⟨_, h1, h2⟩ | ⟨_, _, _, _, _, h1, _⟩ <;> omega⟩
  rcases k.2.2 with ⟨_, h0, _⟩ | ⟨g, o, cur, hA, _⟩
  · omega
  · exact ⟨_, hA, k.cells hA⟩
theorem Sx.row [he : En enc sz] {ids : List Nat} (k : Sx w0 w ids L) (i : Nat) (hi : L[i]? = some (rowH h e sz enc l)) : Sl w h enc l :=
  row_rn he (k.hl _ (List.mem_of_getElem? hi))
theorem St.row [he : En enc sz] (k : St w0 w M L) (i : Nat) (hi : L[i]? = some (rowH h e sz enc l)) : Sl w h enc l :=
  row_rn he (k.hl _ (List.mem_of_getElem? hi))
theorem St.arg (hs : St w0 w [] L) (k : Sl w0 h enc l) : Sl w h enc l :=
  k.sx (ids := []) Offs.nil (hs.sx (is := []) rfl)
theorem St.argM {g : Nat} {t : TypeId} {cs : List Value} (hs : St w0 w [.blk g t cs] L) (k : Sl w0 h enc l) (ho : Offs h [g]) : Sl w h enc l :=
  k.sx (ids := [g]) ho (hs.sx (is := []) rfl)
theorem Sx.arg (hx : Sx w0 w [] L) (k : Sl w0 h enc l) : Sl w h enc l := k.sx Offs.nil hx
theorem Sx.argM {g : Nat} (hx : Sx w0 w [g] L) (k : Sl w0 h enc l) (ho : Offs h [g]) : Sl w h enc l := k.sx ho hx
theorem Sl.isSome (k : Sl w h enc l) (hn : 0 < h.n) : ∃ ad, h.A = some ad := by
  obtain ⟨⟨sz, he, hr⟩, h2, _⟩ := k
  exact hr.isSome (by omega)
theorem Sl.rd (k : Sl w h enc l) [he : En enc sz] {i : Nat} {a : α} (hl : l[i]? = some a) : Rd w h.A sz enc l := by
  obtain ⟨⟨sz', he', hr⟩, h2, _⟩ := k
  have : sz' = sz := by rw [← he'.len a, ← he.len a]
  subst this
  exact hr
theorem Sl.sm (k : Sl w h enc l) {i : Nat} {a : α} (hl : l[i]? = some a) : ∃ ad, h.A = some ad :=
  k.isSome (by have := (List.getElem?_eq_some_iff.1 hl).1; have := k.n; omega)
theorem Sl.nil [he : En enc sz] : Sl w ⟨none, 0, 0⟩ enc ([] : List α) := ⟨⟨sz, he, he.len, by simp, by simp⟩, rfl, Nat.le_refl _⟩
theorem Sl.max (k : Sl w h enc l) : h.n ≤ 9223372036854775807 := by
  obtain ⟨⟨sz, he, hr⟩, h2, _⟩ := k
  have := hr.max
  omega
theorem cells_take (he : En enc sz) (l : List α) (j : Nat) : cellsOf enc (l.take j) = (cellsOf enc l).take (j * sz) := by
  induction l generalizing j with
  | nil => simp [cellsOf]
  | cons a l ih =>
    cases j with
    | zero => simp [cellsOf]
    | succ j =>
      have := ih j
      simp only [cellsOf, List.take_succ_cons, List.flatMap_cons] at this ⊢
      rw [this, List.take_append, he.len]
      have e1 : (enc a).take ((j + 1) * sz) = enc a := List.take_of_length_le (by rw [he.len, Nat.add_mul]; omega)
      have e2 : (j + 1) * sz - sz = j * sz := by rw [Nat.add_mul]; omega
      rw [e1, e2]
theorem cells_drop (he : En enc sz) (l : List α) (j : Nat) : cellsOf enc (l.drop j) = (cellsOf enc l).drop (j * sz) := by
  induction l generalizing j with
  | nil => simp [cellsOf]
  | cons a l ih =>
    cases j with
    | zero => simp [cellsOf]
    | succ j =>
      have := ih j
      simp only [cellsOf, List.drop_succ_cons, List.flatMap_cons] at this ⊢
      rw [this, List.drop_append, he.len]
      have e1 : (enc a).drop ((j + 1) * sz) = [] := List.drop_of_length_le (by rw [he.len, Nat.add_mul]; omega)
      have e2 : (j + 1) * sz - sz = j * sz := by rw [Nat.add_mul]; omega
      rw [e1, e2, List.nil_append]
theorem Sl.hi (k : Sl w h enc l) {j : Int} (hj : 0 ≤ j ∧ j ≤ (l.length : Int)) : Sl w ⟨h.A, j.toNat, h.c⟩ enc (l.take j.toNat) := by
  obtain ⟨⟨sz, he, hr⟩, h2, h3⟩ := k
  refine ⟨⟨sz, he, he.len, by have := hr.max; simp; omega, fun hn => ?_⟩, by simp; omega, by simp only; omega⟩
  have hp : 0 < l.length := by simp at hn; omega
  obtain ⟨ad, hA, hc⟩ := hr.rd hp
  refine ⟨ad, hA, fun i u hu => hc i u ?_⟩
  rw [cells_take he, List.getElem?_take] at hu
  split at hu
  · exact hu
  · cases hu
theorem Addr.add_add (ad : Addr) (i j : Nat) : (ad.add i).add j = ad.add (i + j) := by
  unfold Addr.add; by_cases h0 : i = 0 <;> by_cases hj : j = 0 <;> simp [h0, hj, Nat.add_assoc]
theorem Sl.lo [he0 : En enc sz] (k : Sl w h enc l) {i : Int} (hi : 0 ≤ i ∧ i ≤ (l.length : Int)) : Sl w (h.lo i.toNat sz) enc (l.drop i.toNat) := by
  obtain ⟨⟨sz', he, hr⟩, h2, h3⟩ := k
  refine ⟨⟨sz, he0, he0.len, by have := hr.max; simp; omega, fun hn => ?_⟩, by simp [Hd.lo]; omega, by simp only [Hd.lo]; omega⟩
  simp only [List.length_drop] at hn
  have hp : 0 < l.length := by omega
  obtain rfl : sz' = sz := by
    obtain ⟨a, ha⟩ : ∃ a, l[0]? = some a := ⟨_, List.getElem?_eq_getElem hp⟩
    rw [← he.len a, ← he0.len a]
  obtain ⟨ad, hA, hc⟩ := hr.rd hp
  have hne : ¬ h.c = i.toNat := by omega
  refine ⟨ad.add (i.toNat * sz'), by simp [Hd.lo, hne, hA], fun j u hu => ?_⟩
  rw [Addr.add_add]
  refine hc _ u ?_
  rw [cells_drop he, List.getElem?_drop] at hu
  exact hu
theorem rowOk.hi [he : En enc sz] {w : World} {A : Option Addr} {c n : Nat} (k : rowOk w A c e sz n (cellsOf enc l)) {j : Nat} (hj : j ≤ n) : rowOk w A c e sz j (cellsOf enc (l.take j)) := by
  have hl : l.length = n := by
    have := k.1
    rw [he.flen] at this
    exact Nat.eq_of_mul_eq_mul_right he.pos this
  refine ⟨by rw [he.flen, List.length_take]; congr 1; omega, by have := k.2.1; omega, ?_⟩
  rcases k.2.2 with ⟨h1, h2, h3⟩ | ⟨g, o, cur, h1, h2, h3, h4, h5, h6⟩
  · exact .inl ⟨h1, by omega, h3⟩
  · refine .inr ⟨g, o, cur, h1, h2, by omega, h4, h5, ?_⟩
    rw [cells_take he, ← h6, List.take_take]
    congr 1
    have : j * sz ≤ n * sz := Nat.mul_le_mul_right _ hj
    omega
theorem rowOk.lo [he : En enc sz] {w : World} {h : Hd} (k : rowOk w h.A h.c e sz h.n (cellsOf enc l)) {i : Nat} (hi : i ≤ h.n) : rowOk w (h.lo i sz).A (h.lo i sz).c e sz (h.lo i sz).n (cellsOf enc (l.drop i)) := by
  have hl : l.length = h.n := by
    have := k.1
    rw [he.flen] at this
    exact Nat.eq_of_mul_eq_mul_right he.pos this
  refine ⟨by rw [he.flen]; simp [Hd.lo, hl], by have := k.2.1; simp only [Hd.lo]; omega, ?_⟩
  rcases k.2.2 with ⟨h1, h2, h3⟩ | ⟨g, o, cur, h1, h2, h3, h4, h5, h6⟩
  · exact .inl ⟨by simp [Hd.lo, h1], by simp only [Hd.lo]; omega, by simp only [Hd.lo]; omega⟩
  · by_cases hc : h.c = i
    · have e : l.length - i = 0 := by omega
      refine .inr ⟨g, o, cur, by simp [Hd.lo, hc, h1], h2, by simp only [Hd.lo]; omega, by simp only [Hd.lo]; omega, ?_, ?_⟩
      · simp only [Hd.lo, hc, Nat.sub_self, Nat.zero_mul]; omega
      · have e2 : l.drop i = [] := List.drop_eq_nil_of_le (by omega)
        have e3 : h.n - i = 0 := by omega
        simp [Hd.lo, e2, e3, cellsOf]
    · refine .inr ⟨g, o + i * sz, cur, by simp [Hd.lo, hc, h1, Addr.add_lit], h2, by simp only [Hd.lo]; omega, by simp only [Hd.lo]; omega, ?_, ?_⟩
      · simp only [Hd.lo]
        have : i + (h.c - i) = h.c := by omega
        rw [Nat.add_assoc, ← Nat.add_mul, this]
        exact h5
      · simp only [Hd.lo]
        rw [cells_drop he, ← h6, List.drop_take, List.drop_drop]
        congr 1
        rw [Nat.sub_mul]
/-- The slice of a thing of the call's own, and the block of another. -/
theorem St.offLL (hs : St w0 w M L) (i j : Nat) {g : Nat} {t : TypeId} {xs cs : List Value} (hi : L[i]? = some (.row h.A h.c e sz h.n xs)) (hj : L[j]? = some (.blk g t cs)) : Offs h [g] := fun _ k hk => by
  simp only [List.mem_singleton] at hk
  subst hk
  exact hs.offL hi hj
theorem St.offML (hs : St w0 w M L) (i j : Nat) {g : Nat} {t : TypeId} {xs cs : List Value} (hi : L[i]? = some (.row h.A h.c e sz h.n xs)) (hj : M[j]? = some (.blk g t cs)) : Offs h [g] := fun _ k hk ad hA hb => by
  simp only [List.mem_singleton] at hk
  subst hk
  exact hs.apartML (List.mem_of_getElem? hj) (List.mem_of_getElem? hi) k rfl (by simp [Res.has, hA, hb])
/-- A slice that was there, and a block of the call's own. -/
theorem St.offAL (hs : St w0 w M L) (j : Nat) {g : Nat} {t : TypeId} {cs : List Value} (k : Sl w0 h enc l) (hj : L[j]? = some (.blk g t cs)) : Offs h [g] := fun hn i hk => by
  simp only [List.mem_singleton] at hk
  subst hk
  obtain ⟨⟨sz, he, hr⟩, h2, _⟩ := k
  exact hr.offL he.pos hs hj (by omega)
end

/-! ### Sequents -/
section
variable {P : Program} {N : Nat} {w0 : World} {M L : List Res} {β : Type} {r : β} {K : Kont} {ρ : Env} {m : Option β}
def Jn (P : Program) (N : Nat) (w0 : World) (M L : List Res) {β : Type} (c : Code) (ρ : Env) (m : Option β) (r : β) (K : Kont) : Prop := ∀ w, St w0 w M L → m = some r → Rn P N c ρ w K
def Jg (P : Program) (N : Nat) (w0 : World) (M L : List Res) {β : Type} (ops : Array Oper) (rest : List Oper) (ρ : Env) (m : Option β) (r : β) (K : Kont) : Prop := ∀ w, St w0 w M L → m = some r → Rg P N ops rest ρ w K
def Jk (w0 : World) (M L : List Res) {β : Type} (e : Exit) (ρ : Env) (m : Option β) (r : β) (K : Kont) : Prop := ∀ w, St w0 w M L → m = some r → K e ρ w
/-- What a model's continuation is good for. -/
def Jp {σ γ β : Type} (w0 : World) (E : σ → γ → Env) (Mf Lf : σ → γ → List Res) (k : σ → Option β) (r : β) (K : Kont) : Prop := ∀ s g ρ w, Sub (E s g) ρ → St w0 w (Mf s g) (Lf s g) → k s = some r → K .normal ρ w

theorem jn_seq {x y : Code} (h : Jn P N w0 M L x ρ m r (kSeq P N y K)) : Jn P N w0 M L (.seq x y) ρ m r K := fun w hs hm => rn_seq (h w hs hm)
theorem jn_block {id : Nat} {c : Code} (h : Jn P N w0 M L c ρ m r (kBlk id K)) : Jn P N w0 M L (.block id c) ρ m r K := fun w hs hm => rn_block (h w hs hm)
theorem jn_skip (h : Jk w0 M L .normal ρ m r K) : Jn P N w0 M L .skip ρ m r K := fun w hs hm => rn_skip (h w hs hm)
theorem jn_ret (h : Jk w0 M L .ret ρ m r K) : Jn P N w0 M L .ret ρ m r K := fun w hs hm => rn_ret (h w hs hm)
theorem jn_exit {id : Nat} (h : Jk w0 M L (.exit id) ρ m r K) : Jn P N w0 M L (.exit id) ρ m r K := fun w hs hm => rn_exit (h w hs hm)
theorem jn_cond {x y : Code} {c : Operand} {b : Bool} {m1 m2 : Option β} (hc : evo ρ c = some (.bool b)) (h1 : Jn P N w0 M L x ρ m1 r K) (h2 : Jn P N w0 M L y ρ m2 r K) : Jn P N w0 M L (.cond c x y) ρ (cond b m1 m2) r K := fun w hs hm => by
  cases b with
  | true => exact rn_cond_t hc (h1 w hs hm)
  | false => exact rn_cond_f hc (h2 w hs hm)
theorem jn_ct {x y : Code} {c : Operand} (hc : evo ρ c = some (.bool true)) (h : Jn P N w0 M L x ρ m r K) : Jn P N w0 M L (.cond c x y) ρ m r K := fun w hs hm => rn_cond_t hc (h w hs hm)
theorem jn_cf {x y : Code} {c : Operand} (hc : evo ρ c = some (.bool false)) (h : Jn P N w0 M L y ρ m r K) : Jn P N w0 M L (.cond c x y) ρ m r K := fun w hs hm => rn_cond_f hc (h w hs hm)
theorem jn_reg (id : Nat) {l : List Oper} (h : Jg P N w0 M L l.toArray l ρ m r K) : Jn P N w0 M L (.region id l.toArray false) ρ m r K := fun w hs hm => rn_region (h w hs hm)
theorem jk_sn {y : Code} (h : Jn P N w0 M L y ρ m r K) : Jk w0 M L .normal ρ m r (kSeq P N y K) := fun w hs hm => ks_n (h w hs hm)
theorem jk_se {y : Code} {i : Nat} (h : Jk w0 M L (.exit i) ρ m r K) : Jk w0 M L (.exit i) ρ m r (kSeq P N y K) := fun w hs hm => ks_e (h w hs hm)
theorem jk_sr {y : Code} (h : Jk w0 M L .ret ρ m r K) : Jk w0 M L .ret ρ m r (kSeq P N y K) := fun w hs hm => ks_r (h w hs hm)
theorem jk_bn {id : Nat} (h : Jk w0 M L .normal ρ m r K) : Jk w0 M L .normal ρ m r (kBlk id K) := fun w hs hm => kb_n (h w hs hm)
theorem jk_br {id : Nat} (h : Jk w0 M L .ret ρ m r K) : Jk w0 M L .ret ρ m r (kBlk id K) := fun w hs hm => kb_r (h w hs hm)
theorem jk_bh {id : Nat} (h : Jk w0 M L .normal ρ m r K) : Jk w0 M L (.exit id) ρ m r (kBlk id K) := fun w hs hm => kb_hit (h w hs hm)
theorem jk_bm {id i : Nat} (hi : Nat.beq i id = false) (h : Jk w0 M L (.exit i) ρ m r K) : Jk w0 M L (.exit i) ρ m r (kBlk id K) := fun w hs hm => kb_miss hi (h w hs hm)
theorem jk_le {c : Code} {n i : Nat} (h : Jk w0 M L (.exit i) ρ m r K) : Jk w0 M L (.exit i) ρ m r (kRnd P N c n K) := fun w hs hm => kr_e (h w hs hm)
theorem jk_lr {c : Code} {n : Nat} (h : Jk w0 M L .ret ρ m r K) : Jk w0 M L .ret ρ m r (kRnd P N c n K) := fun w hs hm => kr_r (h w hs hm)
/-- A place where ways meet: what stands behind it is walked once. -/
theorem jn_join {σ γ : Type} {x y : Code} {k : σ → Option β} {body : (σ → Option β) → Option β} (E : σ → γ → Env) (Mf Lf : σ → γ → List Res)
    (hy : ∀ s g, Jn P N w0 (Mf s g) (Lf s g) y (E s g) (k s) r K) (hx : ∀ k', Jp w0 E Mf Lf k' r (kSeq P N y K) → Jn P N w0 M L x ρ (body k') r (kSeq P N y K)) : Jn P N w0 M L (.seq x y) ρ (jp k body) r K := fun w hs hm =>
  rn_seq (hx k (fun s g ρ w hE hs hm => ks_n (rn_sub _ hE (hy s g w hs hm))) w hs hm)
/-- The way arrives there. -/
theorem jk_use {σ γ : Type} {E : σ → γ → Env} {Mf Lf : σ → γ → List Res} {k : σ → Option β} (h : Jp w0 E Mf Lf k r K) (s : σ) (g : γ) (is : List Nat) (hE : Sub (E s g) ρ) (hM : Mf s g = M) (hL : selL L is = some (Lf s g)) (hd : distinct is = true) : Jk w0 M L .normal ρ (k s) r K := fun w hs hm =>
  h s g ρ w hE (hM ▸ hs.sel hL hd) hm
/-- A loop. -/
theorem jn_lp {σ γ : Type} {c : Code} {body : σ → (σ → Option β) → Option β} {n : Nat} (E : σ → γ → Env) (Mf Lf : σ → γ → List Res) (s : σ) (g : γ) (is : List Nat) (hE : Sub (E s g) ρ) (hM : Mf s g = M) (hL : selL L is = some (Lf s g)) (hd : distinct is = true)
    (round : ∀ s g n next, Jp w0 E Mf Lf next r (kRnd P N c n K) → Jn P N w0 (Mf s g) (Lf s g) c (E s g) (body s next) r (kRnd P N c n K)) : Jn P N w0 M L (.loop c) ρ (lp body n s) r K := fun w hs hm => by
  have key : ∀ n s g w, St w0 w (Mf s g) (Lf s g) → lp body n s = some r → Rnds P N c K n (E s g) w := by
    intro n
    induction n with
    | zero => intro s g w _ h; cases h
    | succ n ih => exact fun s g w hs h => rnds_succ (round s g n (lp body n) (fun s' g' ρ' w' hE' hs' h' => kr_n (by
        have := ih s' g' w' hs' h'
        unfold Rnds at this ⊢
        exact fun a ha => this a (ha.sub hE'))) w hs h)
  refine rn_rounds n ?_
  have := key n s g w (hM ▸ hs.sel hL hd) hm
  unfold Rnds at this ⊢
  exact fun a ha => this a (ha.sub hE)

/-! ### Regions -/
section
variable {ops : Array Oper} {rest : List Oper} {d : Nat} {op : Op} {ty : TypeId} {ps : String} {af : Array Edge} {gd : Option (Nat × Bool)}
theorem jg_nil (h : Jk w0 M L .normal ρ m r K) : Jg P N w0 M L ops [] ρ m r K := fun w hs hm => rg_nil (h w hs hm)
theorem jg_nils (r' : Env) (hs : Sub r' ρ) (h : Jk w0 M L .normal r' m r K) : Jg P N w0 M L ops [] ρ m r K := fun w hs' hm => rg_nils r' hs (h w hs' hm)
theorem jg_y {v : Value} (hy : ∀ w, St w0 w M L → Yv P N ρ w ⟨some d, op, ty, ps, af, gd⟩ v) (hg : want ops ρ gd = some true) (hd : Nat.blt d N = true) (hk : Jg P N w0 M L ops rest ((d, v) :: ρ) m r K) :
    Jg P N w0 M L ops (⟨some d, op, ty, ps, af, gd⟩ :: rest) ρ m r K := fun w hs hm => rg_y (hy w hs) hg hd (hk w hs hm)
theorem jg_mv {x : Operand} {v : Value} (hx : evo ρ x = some v) (hg : want ops ρ gd = some true) (hd : Nat.blt d N = true) (hk : Jg P N w0 M L ops rest ((d, v) :: ρ) m r K) :
    Jg P N w0 M L ops (⟨some d, .move x, ty, ps, af, gd⟩ :: rest) ρ m r K := jg_y (fun _ _ => yv_move hx) hg hd hk
theorem jg_as {x : Operand} {v : Value} (hx : evo ρ x = some v) (hg : want ops ρ gd = some true) (hd : Nat.blt d N = true) (hk : Jg P N w0 M L ops rest ((d, v) :: ρ) m r K) :
    Jg P N w0 M L ops (⟨some d, .assign x, ty, ps, af, gd⟩ :: rest) ρ m r K := jg_y (fun _ _ => yv_assign hx) hg hd hk
theorem jg_yl {k : IntKind} {e : Int} {f : Int → Option β} (hy : ∀ w, St w0 w M L → Yv P N ρ w ⟨some d, op, ty, ps, af, gd⟩ (.int k e)) (hg : want ops ρ gd = some true) (hd : Nat.blt d N = true) (hk : ∀ x, Jg P N w0 M L ops rest ((d, .int k x) :: ρ) (f x) r K) :
    Jg P N w0 M L ops (⟨some d, op, ty, ps, af, gd⟩ :: rest) ρ (vl e f) r K := fun w hs hm => rg_y (hy w hs) hg hd (hk e w hs hm)
theorem jg_skip (hg : want ops ρ gd = some false) (hd : Nat.blt d N = true) (hk : Jg P N w0 M L ops rest ((d, undef) :: ρ) m r K) : Jg P N w0 M L ops (⟨some d, op, ty, ps, af, gd⟩ :: rest) ρ m r K := fun w hs hm => rg_skip hg hd (hk w hs hm)
theorem jg_skip0 (hg : want ops ρ gd = some false) (hk : Jg P N w0 M L ops rest ρ m r K) : Jg P N w0 M L ops (⟨none, op, ty, ps, af, gd⟩ :: rest) ρ m r K := fun w hs hm => rg_skip0 hg (hk w hs hm)
theorem holds_lit {a : Act} {t : Nat} {b c : Bool} (ha : Holds N a ρ) (h : look ρ t = some (.bool b)) (e : b = c) : Holds N a ((t, .bool c) :: ρ) := by
  subst e
  refine ⟨ha.dn, ha.sz, fun t' v hv => ?_⟩
  simp only [look] at hv
  cases hb : Nat.beq t t' with
  | true =>
    rw [hb] at hv
    simp only [cond_true, Option.some.injEq] at hv
    subst hv
    obtain rfl : t = t' := by simpa using hb
    exact ha.at_ _ _ h
  | false => rw [hb] at hv; exact ha.at_ _ _ hv
theorem jg_split (t : Nat) {b : Bool} {m1 m2 : Option β} (hl : look ρ t = some (.bool b)) (h1 : Jg P N w0 M L ops rest ((t, .bool true) :: ρ) m1 r K) (h2 : Jg P N w0 M L ops rest ((t, .bool false) :: ρ) m2 r K) : Jg P N w0 M L ops rest ρ (cond b m1 m2) r K := fun w hs hm => by
  unfold Rg
  intro a ha
  cases b with
  | true =>
    have := h1 w hs hm
    unfold Rg at this
    exact this a (holds_lit ha hl rfl)
  | false =>
    have := h2 w hs hm
    unfold Rg at this
    exact this a (holds_lit ha hl rfl)
theorem jg_ck {c : Bool} (hk : c = true → Jg P N w0 M L ops rest ρ m r K) : Jg P N w0 M L ops rest ρ (ck c m) r K := fun w hs hm => by
  cases c with
  | true => exact hk rfl w hs hm
  | false => cases hm
theorem jg_ix {α : Type} {l : List α} {i : Int} {f : α → Option β} (hk : ∀ a, l[i.toNat]? = some a ∧ 0 ≤ i → Jg P N w0 M L ops rest ρ (f a) r K) : Jg P N w0 M L ops rest ρ (ix l i f) r K := fun w hs hm => by
  unfold ix at hm
  by_cases h0 : 0 ≤ i
  · rw [if_pos h0] at hm
    cases ha : l[i.toNat]? with
    | none => rw [ha] at hm; cases hm
    | some a => rw [ha] at hm; exact hk a ⟨ha, h0⟩ w hs hm
  · rw [if_neg h0] at hm; cases hm
theorem jg_vl {α : Type} {e : α} {f : α → Option β} (hk : ∀ x, x = e → Jg P N w0 M L ops rest ρ (f x) r K) : Jg P N w0 M L ops rest ρ (vl e f) r K := fun w hs hm => hk e rfl w hs hm
theorem jg_addnil (e : TypeId) (sz : Nat) {α : Type} (enc : α → List Value) (hk : Jg P N w0 M (rowH ⟨none, 0, 0⟩ e sz enc ([] : List α) :: L) ops rest ρ m r K) : Jg P N w0 M L ops rest ρ m r K := fun w hs hm => hk w (hs.addnil e sz) hm
/-- Only these things are wanted henceforth. -/
theorem jk_sel {is : List Nat} {e : Exit} {L' : List Res} (hsel : selL L is = some L') (hd : distinct is = true) (h : Jk w0 M L' e ρ m r K) : Jk w0 M L e ρ m r K := fun w hs hm => h w (hs.sel hsel hd) hm
theorem jn_sel {is : List Nat} {c : Code} {L' : List Res} (hsel : selL L is = some L') (hd : distinct is = true) (h : Jn P N w0 M L' c ρ m r K) : Jn P N w0 M L c ρ m r K := fun w hs hm => h w (hs.sel hsel hd) hm
theorem jn_addnil (e : TypeId) (sz : Nat) {α : Type} (enc : α → List Value) {c : Code} (hk : Jn P N w0 M (rowH ⟨none, 0, 0⟩ e sz enc ([] : List α) :: L) c ρ m r K) : Jn P N w0 M L c ρ m r K := fun w hs hm => hk w (hs.addnil e sz) hm
theorem jk_addnil (e : TypeId) (sz : Nat) {α : Type} (enc : α → List Value) {x : Exit} (hk : Jk w0 M (rowH ⟨none, 0, 0⟩ e sz enc ([] : List α) :: L) x ρ m r K) : Jk w0 M L x ρ m r K := fun w hs hm => hk w (hs.addnil e sz) hm

/-! new blocks, stores -/
theorem jg_alloc {T : TypeId} {v : Value} [hz : CZ P T v] {cs : List Value} (hv : v.cells.toList = cs) (hg : want ops ρ gd = some true) (hd : Nat.blt d N = true)
    (hk : ∀ g, Jg P N w0 M (.blk g T cs :: L) ops rest ((d, .pointer (some ⟨g, 0, none⟩)) :: ρ) m r K) : Jg P N w0 M L ops (⟨some d, .alloc T, ty, ps, af, gd⟩ :: rest) ρ m r K := fun w hs hm =>
  rg_alloc hs hv hg hd fun g w' hs' => hk g w' hs' hm
theorem jg_box {T : TypeId} {x : Operand} {v : Value} {cs : List Value} (hx : evo ρ x = some v) (hv : v.cells.toList = cs) (hg : want ops ρ gd = some true) (hd : Nat.blt d N = true)
    (hk : ∀ g, Jg P N w0 M (.blk g T cs :: L) ops rest ((d, .pointer (some ⟨g, 0, none⟩)) :: ρ) m r K) : Jg P N w0 M L ops (⟨some d, .box T x, ty, ps, af, gd⟩ :: rest) ρ m r K := fun w hs hm =>
  rg_box hs hx hv hg hd fun g w' hs' => hk g w' hs' hm
theorem jg_store (i : Nat) {T : TypeId} {x y : Operand} {g off : Nat} {t : TypeId} {cs vs cs' : List Value} {L' : List Res} {v : Value} {s : Nat} [hz : CN P T s]
    (hx : evo ρ x = some (.pointer (some ⟨g, off, none⟩))) (hi : L[i]? = some (.blk g t cs)) (hy : evo ρ y = some v) (hv : v.cells.toList = vs) (hl : vs.length = s) (hfit : Nat.ble (off + s) cs.length = true) (h1 : vs.all Value.oneCell' = true) (hg : want ops ρ gd = some true)
    (hc : putCells cs off vs = cs') (hL : L.set i (.blk g t cs') = L')
    (hk : Jg P N w0 M L' ops rest ρ m r K) : Jg P N w0 M L ops (⟨none, .store T x y, ty, ps, af, gd⟩ :: rest) ρ m r K := fun w hs hm =>
  rg_store i hs hx hi hy hv hl hfit h1 hg fun w' hs' => hk w' (by rw [← hL, ← hc]; exact hs') hm
theorem jg_storeM (i : Nat) {T : TypeId} {x y : Operand} {g off : Nat} {t : TypeId} {cs vs cs' : List Value} {M' : List Res} {v : Value} {s : Nat} [hz : CN P T s]
    (hx : evo ρ x = some (.pointer (some ⟨g, off, none⟩))) (hi : M[i]? = some (.blk g t cs)) (hy : evo ρ y = some v) (hv : v.cells.toList = vs) (hl : vs.length = s) (hfit : Nat.ble (off + s) cs.length = true) (h1 : vs.all Value.oneCell' = true) (hg : want ops ρ gd = some true)
    (hc : putCells cs off vs = cs') (hL : M.set i (.blk g t cs') = M')
    (hk : Jg P N w0 M' L ops rest ρ m r K) : Jg P N w0 M L ops (⟨none, .store T x y, ty, ps, af, gd⟩ :: rest) ρ m r K := fun w hs hm =>
  rg_storeM i hs hx hi hy hv hl hfit h1 hg fun w' hs' => hk w' (by rw [← hL, ← hc]; exact hs') hm

/-- The same things, written out. -/
theorem jg_L {L' : List Res} (h : L = L') (k : Jg P N w0 M L' ops rest ρ m r K) : Jg P N w0 M L ops rest ρ m r K := h ▸ k
theorem jg_M {M' : List Res} (h : M = M') (k : Jg P N w0 M' L ops rest ρ m r K) : Jg P N w0 M L ops rest ρ m r K := h ▸ k

/-! ### Calls -/
/-- A call that leaves nothing. -/
theorem jg_c0 {α : Type} {f : FuncId} [hf : CFn P f] {xs : List Operand} {vs : List Value} {ts : Array TypeId} {ma : Option α} {k : α → Option β} {U : α → Value} (hx : evl ρ xs = some vs)
    (hc : ∀ v w, St w0 w M L → ma = some v → Gives P f vs w (U v)) (hg : want ops ρ gd = some true) (hd : Nat.blt d N = true)
    (hk : ∀ v, Jg P N w0 M L ops rest ((d, U v) :: ρ) (k v) r K) : Jg P N w0 M L ops (⟨some d, .call { callee := .value (.func f), args := xs.toArray, argTypes := ts }, ty, ps, af, gd⟩ :: rest) ρ (bd ma k) r K := fun w hs hm => by
  cases hma : ma with
  | none => rw [hma] at hm; cases hm
  | some v =>
    rw [hma] at hm
    have hc := hc v w hs hma
    unfold Gives at hc
    exact rg_call hc hx hg hd fun e w' hR => ⟨U v, hR.1, hk v w' (hs.call0 hR.2) hm⟩
theorem jg_c0n {α : Type} {f : FuncId} [hf : CFn P f] {xs : List Operand} {vs : List Value} {ts : Array TypeId} {ma : Option α} {k : α → Option β} {U : α → Value} (hx : evl ρ xs = some vs)
    (hc : ∀ v w, St w0 w M L → ma = some v → Gives P f vs w (U v)) (hg : want ops ρ gd = some true)
    (hk : ∀ v, Jg P N w0 M L ops rest ρ (k v) r K) : Jg P N w0 M L ops (⟨none, .call { callee := .value (.func f), args := xs.toArray, argTypes := ts }, ty, ps, af, gd⟩ :: rest) ρ (bd ma k) r K := fun w hs hm => by
  cases hma : ma with
  | none => rw [hma] at hm; cases hm
  | some v =>
    rw [hma] at hm
    have hc := hc v w hs hma
    unfold Gives at hc
    exact rg_calln hc hx hg fun e w' hR => ⟨U v, hR.1, hk v w' (hs.call0 hR.2) hm⟩
/-- A call that makes new things. -/
theorem jg_c {α γ : Type} {f : FuncId} [hf : CFn P f] {xs : List Operand} {vs : List Value} {ts : Array TypeId} {ma : Option α} {k : α → Option β} {U : α → γ → Value} {Nw : α → γ → List Res} (hx : evl ρ xs = some vs)
    (hc : ∀ v w, St w0 w M L → ma = some v → Calls P f vs.toArray w (fun e w' => ∃ g : γ, e = .returned (U v g) ∧ St w w' [] (Nw v g))) (hg : want ops ρ gd = some true) (hd : Nat.blt d N = true)
    (hk : ∀ v g, Jg P N w0 M (Nw v g ++ L) ops rest ((d, U v g) :: ρ) (k v) r K) : Jg P N w0 M L ops (⟨some d, .call { callee := .value (.func f), args := xs.toArray, argTypes := ts }, ty, ps, af, gd⟩ :: rest) ρ (bd ma k) r K := fun w hs hm => by
  cases hma : ma with
  | none => rw [hma] at hm; cases hm
  | some v =>
    rw [hma] at hm
    exact rg_call (hc v w hs hma) hx hg hd fun e w' ⟨g, he, h'⟩ => ⟨U v g, he, hk v g w' (hs.call h') hm⟩
/-- A call that turns one of the caller's own things. -/
theorem jl_c (i : Nat) {r0 : Res} {α γ : Type} {f : FuncId} [hf : CFn P f] {xs : List Operand} {vs : List Value} {ts : Array TypeId} {ma : Option α} {k : α → Option β} {U : α → γ → Value} {Nw : α → γ → List Res} {r1 : α → Res} (hx : evl ρ xs = some vs)
    (hi : L[i]? = some r0) (hc : ∀ v w, St w0 w M L → ma = some v → Calls P f vs.toArray w (fun e w' => ∃ g : γ, e = .returned (U v g) ∧ St w w' [r1 v] (Nw v g))) (hid : ∀ v, (r1 v).has = r0.has) (hg : want ops ρ gd = some true) (hd : Nat.blt d N = true)
    (hk : ∀ v g, Jg P N w0 M (Nw v g ++ L.set i (r1 v)) ops rest ((d, U v g) :: ρ) (k v) r K) : Jg P N w0 M L ops (⟨some d, .call { callee := .value (.func f), args := xs.toArray, argTypes := ts }, ty, ps, af, gd⟩ :: rest) ρ (bd ma k) r K := fun w hs hm => by
  cases hma : ma with
  | none => rw [hma] at hm; cases hm
  | some v =>
    rw [hma] at hm
    exact rg_call (hc v w hs hma) hx hg hd fun e w' ⟨g, he, h'⟩ => ⟨U v g, he, hk v g w' (hs.callL hi h' (hid v)) hm⟩
theorem jm_c {r0 : Res} {α γ : Type} {f : FuncId} [hf : CFn P f] {xs : List Operand} {vs : List Value} {ts : Array TypeId} {ma : Option α} {k : α → Option β} {U : α → γ → Value} {Nw : α → γ → List Res} {r1 : α → Res} (hx : evl ρ xs = some vs)
    (hc : ∀ v w, St w0 w [r0] L → ma = some v → Calls P f vs.toArray w (fun e w' => ∃ g : γ, e = .returned (U v g) ∧ St w w' [r1 v] (Nw v g))) (hid : ∀ v, (r1 v).has = r0.has) (hg : want ops ρ gd = some true) (hd : Nat.blt d N = true)
    (hk : ∀ v g, Jg P N w0 [r1 v] (Nw v g ++ L) ops rest ((d, U v g) :: ρ) (k v) r K) : Jg P N w0 [r0] L ops (⟨some d, .call { callee := .value (.func f), args := xs.toArray, argTypes := ts }, ty, ps, af, gd⟩ :: rest) ρ (bd ma k) r K := fun w hs hm => by
  cases hma : ma with
  | none => rw [hma] at hm; cases hm
  | some v =>
    rw [hma] at hm
    exact rg_call (hc v w hs hma) hx hg hd fun e w' ⟨g, he, h'⟩ => ⟨U v g, he, hk v g w' (hs.callM (i := 0) rfl h' (hid v)) hm⟩
theorem jl_cn (i : Nat) {r0 : Res} {α γ : Type} {f : FuncId} [hf : CFn P f] {xs : List Operand} {vs : List Value} {ts : Array TypeId} {ma : Option α} {k : α → Option β} {U : α → γ → Value} {Nw : α → γ → List Res} {r1 : α → Res} (hx : evl ρ xs = some vs)
    (hi : L[i]? = some r0) (hc : ∀ v w, St w0 w M L → ma = some v → Calls P f vs.toArray w (fun e w' => ∃ g : γ, e = .returned (U v g) ∧ St w w' [r1 v] (Nw v g))) (hid : ∀ v, (r1 v).has = r0.has) (hg : want ops ρ gd = some true)
    (hk : ∀ v g, Jg P N w0 M (Nw v g ++ L.set i (r1 v)) ops rest ρ (k v) r K) : Jg P N w0 M L ops (⟨none, .call { callee := .value (.func f), args := xs.toArray, argTypes := ts }, ty, ps, af, gd⟩ :: rest) ρ (bd ma k) r K := fun w hs hm => by
  cases hma : ma with
  | none => rw [hma] at hm; cases hm
  | some v =>
    rw [hma] at hm
    exact rg_calln (hc v w hs hma) hx hg fun e w' ⟨g, he, h'⟩ => ⟨U v g, he, hk v g w' (hs.callL hi h' (hid v)) hm⟩
theorem jm_cn {r0 : Res} {α γ : Type} {f : FuncId} [hf : CFn P f] {xs : List Operand} {vs : List Value} {ts : Array TypeId} {ma : Option α} {k : α → Option β} {U : α → γ → Value} {Nw : α → γ → List Res} {r1 : α → Res} (hx : evl ρ xs = some vs)
    (hc : ∀ v w, St w0 w [r0] L → ma = some v → Calls P f vs.toArray w (fun e w' => ∃ g : γ, e = .returned (U v g) ∧ St w w' [r1 v] (Nw v g))) (hid : ∀ v, (r1 v).has = r0.has) (hg : want ops ρ gd = some true)
    (hk : ∀ v g, Jg P N w0 [r1 v] (Nw v g ++ L) ops rest ρ (k v) r K) : Jg P N w0 [r0] L ops (⟨none, .call { callee := .value (.func f), args := xs.toArray, argTypes := ts }, ty, ps, af, gd⟩ :: rest) ρ (bd ma k) r K := fun w hs hm => by
  cases hma : ma with
  | none => rw [hma] at hm; cases hm
  | some v =>
    rw [hma] at hm
    exact rg_calln (hc v w hs hma) hx hg fun e w' ⟨g, he, h'⟩ => ⟨U v g, he, hk v g w' (hs.callM (i := 0) rfl h' (hid v)) hm⟩

/-! ### Slices -/
theorem jg_lit {T : TypeId} {x : List (Nat × Operand)} {n : Nat} {e : TypeId} {sz b : Nat} {z : Value} [hc : CL P T e sz b z] {parts : List (Nat × Value)} {α : Type} {enc : α → List Value} (l : List α)
    (hx : evp ρ x = some parts) (hfl : fillL (fun i => some (i * sz, sz)) (rep n (cl z)) parts = some (cellsOf enc l)) (hl : Nat.beq (cellsOf enc l).length (n * sz) = true)
    (hn : Nat.ble n 1000 = true) (h16 : Nat.ble sz 1000 = true) (h0 : Nat.blt 0 n = true) (hg : want ops ρ gd = some true) (hd : Nat.blt d N = true)
    (hk : ∀ h : Hd, Jg P N w0 M (rowH h e sz enc l :: L) ops rest ((d, h.v) :: ρ) m r K) : Jg P N w0 M L ops (⟨some d, .buildSlice T n x.toArray, ty, ps, af, gd⟩ :: rest) ρ m r K := fun w hs hm =>
  rg_buildSlice hs hx hfl hn h16 h0 hg hd fun g w' hs' => hk ⟨some ⟨g, 0, none⟩, n, n⟩ w' (by
    have hl' : (cellsOf enc l).length = n * sz := by simpa using hl
    have hb : w'.heap[g]? = some (.cells (cellsOf enc l).toArray e (0, 0)) := hs'.hl (.blk g e (cellsOf enc l)) (List.mem_cons_self ..)
    have hp := List.pairwise_cons.1 hs'.lne
    have hn' : n ≤ 1000 := Nat.le_of_ble_eq_true hn
    refine ⟨hs'.os, hs'.tape, hs'.output, hs'.size, hs'.old, hs'.hm, hs'.mlt, hs'.mne, fun s hsm => ?_, fun s hsm k hk' => ?_, List.pairwise_cons.2 ⟨fun s hsm k hk' => ?_, hp.2⟩⟩
    · rcases List.mem_cons.1 hsm with rfl | hsm
      · exact ⟨hl', by simp only; omega, .inr ⟨g, 0, _, rfl, hb, Nat.le_refl _, by simp only [maxLen]; omega, by simp [hl'], by simp [← hl']⟩⟩
      · exact hs'.hl s (List.mem_cons_of_mem _ hsm)
    · rcases List.mem_cons.1 hsm with rfl | hsm
      · exact hs'.lge (.blk g e (cellsOf enc l)) (List.mem_cons_self ..) k (by simpa [Res.has] using hk')
      · exact hs'.lge s (List.mem_cons_of_mem _ hsm) k hk'
    · exact hp.1 s hsm k (by simpa [Res.has] using hk')) hm
/-- 'make'. -/
theorem rep_flat {α : Type} {enc : α → List Value} (zz : α) : ∀ n, rep n (enc zz) = cellsOf enc (List.replicate n zz)
  | 0 => rfl
  | n + 1 => by
    rw [rep, List.replicate_succ]
    simp only [cellsOf, List.flatMap_cons]
    rw [rep_flat zz n]
    rfl
theorem jg_makeC {T : TypeId} {x y : Operand} {n : Int} {e : TypeId} {sz b : Nat} {z : Value} [hc : CL P T e sz b z] {α : Type} {enc : α → List Value} [he : En enc sz] {zz : α}
    (hx : evo ρ x = some (.int .i64 n)) (hy : evo ρ y = some (.int .i64 n)) (hz : cl z = enc zz) (hsb : Nat.ble b 100000 = true) (hg : want ops ρ gd = some true) (hd : Nat.blt d N = true)
    (hle : 0 ≤ n ∧ n ≤ 1000000000) (hk : ∀ (h : Hd), Jg P N w0 M (rowH h e sz enc (List.replicate n.toNat zz) :: L) ops rest ((d, h.v) :: ρ) m r K) :
    Jg P N w0 M L ops (⟨some d, .makeSlice T x y, ty, ps, af, gd⟩ :: rest) ρ m r K := fun w hs hm => by
  obtain ⟨inf, h2, h2z, h3, h4, h5, h6⟩ := hc.h
  have hi : (P.info? e).map (·.size) = some sz := by simp [h2, h3]
  have hzz : (P.info? e).bind (·.zero) = some z := by simp [h2, h2z]
  have hw : IntKind.i64.wrap n = n := IntWalk.i64_in n (by omega)
  have hb1 : (b : Int) * n ≤ 100000 * 1000000000 := by
    have h7 : (b : Int) ≤ 100000 := by have := Nat.le_of_ble_eq_true hsb; omega
    have h8 : (b : Int) * n ≤ 100000 * n := Int.mul_le_mul_of_nonneg_right h7 hle.1
    omega
  have hb2 : ¬ (281474976710656 < (b : Int) * n) := by omega
  have hcells : ((Array.range (n.toNat * sz)).map (fun j => (if n.toNat * sz = 0 then (#[] : Array Value) else z.cells)[j % (if n.toNat * sz = 0 then (#[] : Array Value) else z.cells).size]!)) = (cellsOf enc (List.replicate n.toNat zz)).toArray := by
    by_cases h0 : n.toNat * sz = 0
    · have hn0 : n.toNat = 0 := by rcases Nat.mul_eq_zero.1 h0 with h | h <;> omega
      simp [hn0, cellsOf]
    · simp only [if_neg h0]
      rw [rep_spec h5 h6, hz, rep_flat]
  have hal := hs.alloc (cellsOf enc (List.replicate n.toNat zz)) e
  have hb : (w.alloc (.cells (cellsOf enc (List.replicate n.toNat zz)).toArray e)).heap[w.heap.size]? = some (.cells (cellsOf enc (List.replicate n.toNat zz)).toArray e (0, 0)) := heap_alloc_new w _
  have hlen : (cellsOf enc (List.replicate n.toNat zz)).length = n.toNat * sz := by rw [he.flen, List.length_replicate]
  refine rg_w (v := .slice (some ⟨w.heap.size, 0, none⟩) n.toNat n.toNat) (w' := w.alloc (.cells (cellsOf enc (List.replicate n.toNat zz)).toArray e)) hg hd (fun a ha => ?_) (hk ⟨some ⟨w.heap.size, 0, none⟩, n.toNat, n.toNat⟩ _ ?_ hm)
  · have hneg : ¬ n < 0 := by omega
    by_cases h0 : n.toNat * sz = 0
    · simp only [h0, if_true] at hcells
      simp [execOp, ha.ev hx, ha.ev hy, Instr.makeSlice, run_underlying hc.u, typeInfo, h2, h4, hw, hneg, hb2, run_sizeOf' hi, askRoom, asInt, asIntOf, newRow, run_newObj, h0, ← hcells]
    · simp only [if_neg h0] at hcells
      simp [execOp, ha.ev hx, ha.ev hy, Instr.makeSlice, run_underlying hc.u, typeInfo, h2, h4, hw, hneg, hb2, run_sizeOf' hi, askRoom, asInt, asIntOf, newRow, run_newObj, h0, run_zeroValue' hzz, ← hcells]
  · have hp := List.pairwise_cons.1 hal.lne
    refine ⟨hal.os, hal.tape, hal.output, hal.size, hal.old, hal.hm, hal.mlt, hal.mne, fun s hsm => ?_, fun s hsm k hk' => ?_, List.pairwise_cons.2 ⟨fun s hsm k hk' => ?_, hp.2⟩⟩
    · rcases List.mem_cons.1 hsm with rfl | hsm
      · exact ⟨hlen, by simp only; omega, .inr ⟨w.heap.size, 0, _, rfl, hb, Nat.le_refl _, by simp only [maxLen]; omega, by simp [hlen], by simp [← hlen]⟩⟩
      · exact hal.hl s (List.mem_cons_of_mem _ hsm)
    · rcases List.mem_cons.1 hsm with rfl | hsm
      · exact hal.lge (.blk w.heap.size e _) (List.mem_cons_self ..) k (by simpa [Res.has] using hk')
      · exact hal.lge s (List.mem_cons_of_mem _ hsm) k hk'
    · exact hp.1 s hsm k (by simpa [Res.has] using hk')
theorem jg_make {T : TypeId} {x y : Operand} {n : Int} {e : TypeId} {sz b : Nat} {z : Value} [hc : CL P T e sz b z] {α : Type} {enc : α → List Value} [he : En enc sz] {zz : α} {f : List α → Option β}
    (hx : evo ρ x = some (.int .i64 n)) (hy : evo ρ y = some (.int .i64 n)) (hz : cl z = enc zz) (hsb : Nat.ble b 100000 = true) (hg : want ops ρ gd = some true) (hd : Nat.blt d N = true)
    (hk : ∀ (l : List α) (h : Hd), Jg P N w0 M (rowH h e sz enc l :: L) ops rest ((d, h.v) :: ρ) (f l) r K) :
    Jg P N w0 M L ops (⟨some d, .makeSlice T x y, ty, ps, af, gd⟩ :: rest) ρ (ck (decide (0 ≤ n ∧ n ≤ 1000000000)) (vl (List.replicate n.toNat zz) f)) r K := fun w hs hm => by
  by_cases hle : ¬ (0 ≤ n ∧ n ≤ 1000000000)
  · rw [decide_eq_false hle] at hm; cases hm
  have hle : 0 ≤ n ∧ n ≤ 1000000000 := by omega
  rw [decide_eq_true hle] at hm
  exact jg_makeC hx hy hz hsb hg hd hle (fun h => hk _ h) w hs hm
/-- A list without elements. -/
theorem jg_lit0 {T : TypeId} {e : TypeId} {sz b : Nat} {z : Value} [hc : CL P T e sz b z] {α : Type} {enc : α → List Value} (hg : want ops ρ gd = some true) (hd : Nat.blt d N = true)
    (hk : ∀ h : Hd, Jg P N w0 M (rowH h e sz enc ([] : List α) :: L) ops rest ((d, h.v) :: ρ) m r K) : Jg P N w0 M L ops (⟨some d, .buildSlice T 0 #[], ty, ps, af, gd⟩ :: rest) ρ m r K := fun w hs hm => by
  obtain ⟨inf, h2, h2z, h3, _, h5, h6⟩ := hc.h
  have hi : (P.info? e).map (·.size) = some sz := by simp [h2, h3]
  have hal := hs.alloc [] e
  have hb : (w.alloc (.cells #[] e)).heap[w.heap.size]? = some (.cells #[] e (0, 0)) := heap_alloc_new w _
  refine rg_w (v := .slice (some ⟨w.heap.size, 0, none⟩) 0 0) (w' := w.alloc (.cells #[] e)) hg hd (fun a ha => ?_) (hk ⟨some ⟨w.heap.size, 0, none⟩, 0, 0⟩ _ ?_ hm)
  · simp only [execOp, Instr.buildSlice, Sem.run_bind, run_underlying hc.u, Result.andThen_ok, run_sizeOf' hi]
    simp [Instr.fill, newRow, run_newObj]
    have hr0 : Array.map (fun x => (default : Value)) (Array.range 0) = #[] := by simp
    rw [hr0]
  · have hp := List.pairwise_cons.1 hal.lne
    refine ⟨hal.os, hal.tape, hal.output, hal.size, hal.old, hal.hm, hal.mlt, hal.mne, fun s hsm => ?_, fun s hsm k hk' => ?_, List.pairwise_cons.2 ⟨fun s hsm k hk' => ?_, hp.2⟩⟩
    · rcases List.mem_cons.1 hsm with rfl | hsm
      · exact ⟨by simp [cellsOf], by simp only; omega, .inr ⟨w.heap.size, 0, #[], rfl, hb, Nat.le_refl _, by simp only [maxLen]; omega, by simp, by simp [cellsOf]⟩⟩
      · exact hal.hl s (List.mem_cons_of_mem _ hsm)
    · rcases List.mem_cons.1 hsm with rfl | hsm
      · exact hal.lge (.blk w.heap.size e []) (List.mem_cons_self ..) k (by simpa [Res.has] using hk')
      · exact hal.lge s (List.mem_cons_of_mem _ hsm) k hk'
    · exact hp.1 s hsm k (by simpa [Res.has] using hk')
theorem jg_append (i : Nat) {T : TypeId} {x y : Operand} {e : TypeId} {sz b : Nat} {z : Value} [hc : CL P T e sz b z] {α : Type} {enc : α → List Value} [he : En enc sz] {h h2 : Hd} {l l2 : List α} {f : List α → Option β}
    (hx : evo ρ x = some h.v) (hi : L[i]? = some (rowH h e sz enc l)) (hy : evo ρ y = some h2.v) (hr : ∀ w, St w0 w M L → Sl w h2 enc l2) (hsb : Nat.ble b 100000 = true) (hg : want ops ρ gd = some true) (hd : Nat.blt d N = true)
    (hk : ∀ (l' : List α) (h' : Hd), Jg P N w0 M (L.set i (rowH h' e sz enc l')) ops rest ((d, h'.v) :: ρ) (f l') r K) :
    Jg P N w0 M L ops (⟨some d, .call { callee := .builtin .append, args := #[x, y], argTypes := #[T, T] }, ty, ps, af, gd⟩ :: rest) ρ (ck (decide (l.length + l2.length ≤ 1000000000)) (vl (l ++ l2) f)) r K := fun w hs hm => by
  by_cases hle : ¬ l.length + l2.length ≤ 1000000000
  · rw [decide_eq_false hle] at hm; cases hm
  have hle : l.length + l2.length ≤ 1000000000 := by omega
  rw [decide_eq_true hle] at hm
  obtain ⟨inf, g2, g2z, g3, g4, g5, g6⟩ := hc.h
  have hown : rowOk w h.A h.c e sz h.n (cellsOf enc l) := hs.hl _ (List.mem_of_getElem? hi)
  have s1 := hs.row i hi
  have s2 := hr w hs
  have n1 := s1.n
  have n2 := s2.n
  have hb : (h.n + h2.n) * b ≤ 140737488355328 := by
    have : (h.n + h2.n) * b ≤ 1000000000 * 100000 := Nat.mul_le_mul (by omega) (Nat.le_of_ble_eq_true hsb)
    omega
  obtain ⟨A', cap', w', hrun, hown', hgr, hblk⟩ := run_append_row P w T ty e inf z sz b hc.u g2 g2z g3 g4 g5 g6 hown h2.A h2.n h2.c (cellsOf enc l2) (by rw [he.flen, n2])
    (fun hA => by
      rcases Nat.eq_zero_or_pos h2.n with h0 | h0
      · exact h0
      · obtain ⟨ad, hA'⟩ := s2.isSome h0; rw [hA] at hA'; cases hA')
    (fun ad hA j u hu => by
      have hpos : 0 < l2.length := by
        rcases l2 with _ | ⟨a, l2⟩
        · simp [cellsOf] at hu
        · simp
      have hrd := s2.rd (List.getElem?_eq_getElem hpos)
      obtain ⟨ad', hA', hc'⟩ := hrd.rd hpos
      obtain rfl : ad' = ad := Option.some.inj (hA'.symm.trans hA)
      exact hc' j u hu) (he.flat1 l2) (by omega) hb
  have hcells : cellsOf enc l ++ cellsOf enc l2 = cellsOf enc (l ++ l2) := by simp [cellsOf]
  rw [hcells] at hown'
  refine rg_w (v := .slice A' (h.n + h2.n) cap') (w' := w') hg hd (fun a ha => ?_) (hk (l ++ l2) ⟨A', h.n + h2.n, cap'⟩ w' ?_ hm)
  · simp only [execOp, resolve, invoke, builtin, Sem.run_bind, Sem.run_pure, Result.andThen_ok, List.map_toArray, List.map_cons, List.map_nil, ha.ev hx, ha.ev hy, hrun]
  · refine hs.turn hi hown' hgr.os hgr.tape hgr.output hgr.size (fun k hk hne => hgr.block k hk fun e => hne (by simpa [Res.has] using e.symm)) (fun k hk => ?_)
    simp only [Res.has] at hk ⊢
    rcases hblk with e | e
    · left; rw [← e]; exact hk
    · right; rw [e] at hk; simp at hk; omega
/-- Behind the first elements of a row, what may lie in the same row. -/
theorem jg_appendHi (i : Nat) {T : TypeId} {x y : Operand} {e : TypeId} {sz b : Nat} {z : Value} [hc : CL P T e sz b z] {α : Type} {enc : α → List Value} [he : En enc sz] {h h2 : Hd} {l l2 : List α} {j : Int} {f : List α → Option β}
    (hj : 0 ≤ j ∧ j ≤ (l.length : Int)) (hx : evo ρ x = some (⟨h.A, j.toNat, h.c⟩ : Hd).v) (hi : L[i]? = some (rowH h e sz enc l)) (hy : evo ρ y = some h2.v) (hr : ∀ w, St w0 w M L → Sl w h2 enc l2) (hsb : Nat.ble b 100000 = true) (hg : want ops ρ gd = some true) (hd : Nat.blt d N = true)
    (hk : ∀ (l' : List α) (h' : Hd), Jg P N w0 M (L.set i (rowH h' e sz enc l')) ops rest ((d, h'.v) :: ρ) (f l') r K) :
    Jg P N w0 M L ops (⟨some d, .call { callee := .builtin .append, args := #[x, y], argTypes := #[T, T] }, ty, ps, af, gd⟩ :: rest) ρ (ck (decide ((l.take j.toNat).length + l2.length ≤ 1000000000)) (vl (l.take j.toNat ++ l2) f)) r K := fun w hs hm => by
  by_cases hle : ¬ (l.take j.toNat).length + l2.length ≤ 1000000000
  · rw [decide_eq_false hle] at hm; cases hm
  have hle : (l.take j.toNat).length + l2.length ≤ 1000000000 := by omega
  rw [decide_eq_true hle] at hm
  obtain ⟨inf, g2, g2z, g3, g4, g5, g6⟩ := hc.h
  have hown0 : rowOk w h.A h.c e sz h.n (cellsOf enc l) := hs.hl _ (List.mem_of_getElem? hi)
  have n0 := (hs.row i hi).n
  have hown : rowOk w h.A h.c e sz j.toNat (cellsOf enc (l.take j.toNat)) := rowOk.hi hown0 (by omega)
  have s2 := hr w hs
  have n1 : (l.take j.toNat).length = j.toNat := by rw [List.length_take]; omega
  have n2 := s2.n
  have hb : (j.toNat + h2.n) * b ≤ 140737488355328 := by
    have : (j.toNat + h2.n) * b ≤ 1000000000 * 100000 := Nat.mul_le_mul (by omega) (Nat.le_of_ble_eq_true hsb)
    omega
  obtain ⟨A', cap', w', hrun, hown', hgr, hblk⟩ := run_append_row P w T ty e inf z sz b hc.u g2 g2z g3 g4 g5 g6 hown h2.A h2.n h2.c (cellsOf enc l2) (by rw [he.flen, n2])
    (fun hA => by
      rcases Nat.eq_zero_or_pos h2.n with h0 | h0
      · exact h0
      · obtain ⟨ad, hA'⟩ := s2.isSome h0; rw [hA] at hA'; cases hA')
    (fun ad hA j u hu => by
      have hpos : 0 < l2.length := by
        rcases l2 with _ | ⟨a, l2⟩
        · simp [cellsOf] at hu
        · simp
      have hrd := s2.rd (List.getElem?_eq_getElem hpos)
      obtain ⟨ad', hA', hc'⟩ := hrd.rd hpos
      obtain rfl : ad' = ad := Option.some.inj (hA'.symm.trans hA)
      exact hc' j u hu) (he.flat1 l2) (by omega) hb
  have hcells : cellsOf enc (l.take j.toNat) ++ cellsOf enc l2 = cellsOf enc (l.take j.toNat ++ l2) := by simp [cellsOf]
  rw [hcells] at hown'
  refine rg_w (v := .slice A' (j.toNat + h2.n) cap') (w' := w') hg hd (fun a ha => ?_) (hk (l.take j.toNat ++ l2) ⟨A', j.toNat + h2.n, cap'⟩ w' ?_ hm)
  · simp only [execOp, resolve, invoke, builtin, Sem.run_bind, Sem.run_pure, Result.andThen_ok, List.map_toArray, List.map_cons, List.map_nil, ha.ev hx, ha.ev hy, hrun]
  · refine hs.turn hi hown' hgr.os hgr.tape hgr.output hgr.size (fun k hk hne => hgr.block k hk fun e => hne (by simpa [Res.has] using e.symm)) (fun k hk => ?_)
    simp only [Res.has] at hk ⊢
    rcases hblk with e | e
    · left; rw [← e]; exact hk
    · right; rw [e] at hk; simp at hk; omega
/-- The row becomes a part of itself. -/
theorem St.rhi {w0 w : World} {M L L' : List Res} (i : Nat) {e : TypeId} {sz : Nat} {α : Type} {enc : α → List Value} [he : En enc sz] {h : Hd} {l : List α} {j : Int} (hs : St w0 w M L) (hi : L[i]? = some (rowH h e sz enc l)) (hj : 0 ≤ j ∧ j ≤ (l.length : Int)) (hL : L.set i (rowH ⟨h.A, j.toNat, h.c⟩ e sz enc (l.take j.toNat)) = L') : St w0 w M L' := by
  have hn := (hs.row i hi).n
  have hown : rowOk w h.A h.c e sz h.n (cellsOf enc l) := hs.hl _ (List.mem_of_getElem? hi)
  exact hL ▸ hs.turn hi (r' := rowH ⟨h.A, j.toNat, h.c⟩ e sz enc (l.take j.toNat)) (rowOk.hi hown (by omega)) rfl rfl rfl (Nat.le_refl _) (fun _ _ _ => rfl) (fun k hk => .inl hk)
theorem St.rlo {w0 w : World} {M L L' : List Res} (i : Nat) {e : TypeId} {sz : Nat} {α : Type} {enc : α → List Value} [he : En enc sz] {h : Hd} {l : List α} {j : Int} (hs : St w0 w M L) (hi : L[i]? = some (rowH h e sz enc l)) (hj : 0 ≤ j ∧ j ≤ (l.length : Int)) (hL : L.set i (rowH (h.lo j.toNat sz) e sz enc (l.drop j.toNat)) = L') : St w0 w M L' := by
  have hn := (hs.row i hi).n
  have hown : rowOk w h.A h.c e sz h.n (cellsOf enc l) := hs.hl _ (List.mem_of_getElem? hi)
  refine hL ▸ hs.turn hi (r' := rowH (h.lo j.toNat sz) e sz enc (l.drop j.toNat)) (rowOk.lo hown (by omega)) rfl rfl rfl (Nat.le_refl _) (fun _ _ _ => rfl) (fun k hk => .inl ?_)
  simp only [Res.has, Hd.lo] at hk ⊢
  split at hk
  · exact hk
  · cases hA : h.A with
    | none => rw [hA] at hk; simp at hk
    | some ad => rw [hA] at hk; simpa [block_add] using hk
theorem jk_rhi (i : Nat) {x : Exit} {L' : List Res} {e : TypeId} {sz : Nat} {α : Type} {enc : α → List Value} [he : En enc sz] {h : Hd} {l : List α} {j : Int} (hi : L[i]? = some (rowH h e sz enc l)) (hj : 0 ≤ j ∧ j ≤ (l.length : Int)) (hL : L.set i (rowH ⟨h.A, j.toNat, h.c⟩ e sz enc (l.take j.toNat)) = L') (k : Jk w0 M L' x ρ m r K) : Jk w0 M L x ρ m r K := fun w hs hm => k w (hs.rhi i hi hj hL) hm
theorem jk_rlo (i : Nat) {x : Exit} {L' : List Res} {e : TypeId} {sz : Nat} {α : Type} {enc : α → List Value} [he : En enc sz] {h : Hd} {l : List α} {j : Int} (hi : L[i]? = some (rowH h e sz enc l)) (hj : 0 ≤ j ∧ j ≤ (l.length : Int)) (hL : L.set i (rowH (h.lo j.toNat sz) e sz enc (l.drop j.toNat)) = L') (k : Jk w0 M L' x ρ m r K) : Jk w0 M L x ρ m r K := fun w hs hm => k w (hs.rlo i hi hj hL) hm
theorem jg_rhi (i : Nat) {L' : List Res} {e : TypeId} {sz : Nat} {α : Type} {enc : α → List Value} [he : En enc sz] {h : Hd} {l : List α} {j : Int} (hi : L[i]? = some (rowH h e sz enc l)) (hj : 0 ≤ j ∧ j ≤ (l.length : Int)) (hL : L.set i (rowH ⟨h.A, j.toNat, h.c⟩ e sz enc (l.take j.toNat)) = L') (k : Jg P N w0 M L' ops rest ρ m r K) : Jg P N w0 M L ops rest ρ m r K := fun w hs hm => k w (hs.rhi i hi hj hL) hm
theorem jg_rlo (i : Nat) {L' : List Res} {e : TypeId} {sz : Nat} {α : Type} {enc : α → List Value} [he : En enc sz] {h : Hd} {l : List α} {j : Int} (hi : L[i]? = some (rowH h e sz enc l)) (hj : 0 ≤ j ∧ j ≤ (l.length : Int)) (hL : L.set i (rowH (h.lo j.toNat sz) e sz enc (l.drop j.toNat)) = L') (k : Jg P N w0 M L' ops rest ρ m r K) : Jg P N w0 M L ops rest ρ m r K := fun w hs hm => k w (hs.rlo i hi hj hL) hm
/-- A store into an element of a slice of the call's own. -/
theorem jg_storeE (i : Nat) {T : TypeId} {x y : Operand} {e : TypeId} {sz k o s : Nat} [hz : CN P T s] {α : Type} {enc : α → List Value} [he : En enc sz] {h : Hd} {l : List α} {a a' : α} {v : Value} {vs : List Value} {f : List α → Option β}
    (hx : evo ρ x = some (ep h.A k sz o)) (hi : L[i]? = some (rowH h e sz enc l)) (ha : l[k]? = some a) (hy : evo ρ y = some v) (hv : v.cells.toList = vs) (hl : vs.length = s) (hfit : Nat.ble (o + s) sz = true) (hp : putCells (enc a) o vs = enc a') (hg : want ops ρ gd = some true)
    (hk : ∀ l', Jg P N w0 M (L.set i (rowH h e sz enc l')) ops rest ρ (f l') r K) :
    Jg P N w0 M L ops (⟨none, .store T x y, ty, ps, af, gd⟩ :: rest) ρ (vl (l.set k a') f) r K := fun w hs hm => by
  have hown : rowOk w h.A h.c e sz h.n (cellsOf enc l) := hs.hl _ (List.mem_of_getElem? hi)
  have s1 := hs.row i hi
  have hkl : k < l.length := (List.getElem?_eq_some_iff.1 ha).1
  rcases hown.2.2 with ⟨_, h0, _⟩ | ⟨g, o0, cur, hA, hgc, hnc, hcm, hcs, ht⟩
  · have := s1.n; omega
  have n1 := s1.n
  have hos : o + s ≤ sz := Nat.le_of_ble_eq_true hfit
  have hsz : (k + 1) * sz ≤ h.n * sz := Nat.mul_le_mul_right _ (by omega)
  have hsz2 : h.n * sz ≤ h.c * sz := Nat.mul_le_mul_right _ hnc
  have hk1 : (k + 1) * sz = k * sz + sz := by rw [Nat.add_mul, Nat.one_mul]
  have hone : ∀ u ∈ vs, u.oneCell' = true := fun u hu => he.one a' u (by rw [← hp]; unfold putCells; simp [hu])
  have hpa : (h.A.map (·.add (k * sz + o))) = some ⟨g, o0 + (k * sz + o), none⟩ := by rw [hA]; simp [Addr.add_lit]
  have hsv : v.cells.size = s := by rw [← hl, ← hv, Array.length_toList]
  have hst := run_storeCells_at P g (o0 + (k * sz + o)) e vs 0 cur w hgc (by rw [hl]; omega) hone
  simp only [Nat.add_zero] at hst
  have hlen' : (cellsOf enc (l.set k a')).length = h.n * sz := by rw [he.flen]; simp [n1]
  refine rg_u (w' := w.setRow g (cur.toList.take (o0 + (k * sz + o)) ++ vs ++ cur.toList.drop (o0 + (k * sz + o) + vs.length)).toArray) hg (fun ac hac => ?_) (hk (l.set k a') _ ?_ hm)
  · have hx' := hac.ev hx
    unfold ep at hx'
    rw [hpa] at hx'
    simp only [execOp, Instr.storeAt, hx', hac.ev hy, Instr.sureAddr, Sem.run_bind, Sem.run_pure, Result.andThen_ok, storeVar, run_sizeOf' hz.z, hsv, ne_eq, not_true_eq_false, if_false, hv, hst]
  · refine hs.turn hi (r' := rowH h e sz enc (l.set k a')) ⟨hlen', hown.2.1, .inr ⟨g, o0, _, hA, setRow_heap w g _ _ e _ hgc, hnc, hcm, ?_, ?_⟩⟩ rfl rfl rfl (by simp [World.setRow]) (fun j _ hne => setRow_other w g j _ fun e => hne (by simp [Res.has, hA, e])) (fun j hj => .inl hj)
    · simp only [List.size_toArray, List.length_append, List.length_take, List.length_drop, Array.length_toList]
      omega
    · have hcur : ∀ j, j < h.n * sz → (cur.toList[o0 + j]?) = (cellsOf enc l)[j]? := fun j hj => by
        rw [← ht, List.getElem?_take, if_pos hj, List.getElem?_drop]
      apply List.ext_getElem?
      intro j
      by_cases hj : ¬ j < h.n * sz
      · rw [List.getElem?_eq_none (by simp; omega), List.getElem?_eq_none (by omega)]
      have hj : j < h.n * sz := by omega
      rw [List.getElem?_take, if_pos hj, List.getElem?_drop]
      have hspos := he.pos
      -- element and offset
      have hq : j / sz * sz + j % sz = j := by rw [Nat.mul_comm]; exact Nat.div_add_mod j sz
      have hr : j % sz < sz := Nat.mod_lt _ hspos
      have hql : j / sz < l.length := by rw [n1]; exact (Nat.div_lt_iff_lt_mul hspos).2 hj
      obtain ⟨b, hb⟩ : ∃ b, l[j / sz]? = some b := ⟨_, List.getElem?_eq_getElem hql⟩
      have hflat := flat_get he.len l (j / sz) (j % sz) b hb hr
      rw [hq] at hflat
      have hidx : (cur.toList.take (o0 + (k * sz + o)) ++ vs ++ cur.toList.drop (o0 + (k * sz + o) + vs.length))[o0 + j]? = if k * sz + o ≤ j ∧ j < k * sz + o + s then vs[j - (k * sz + o)]? else cur.toList[o0 + j]? := by
        have ht' : (cur.toList.take (o0 + (k * sz + o))).length = o0 + (k * sz + o) := by simp only [List.length_take, Array.length_toList]; omega
        rw [List.getElem?_append, List.getElem?_append, List.length_append, ht', hl]
        by_cases c1 : j < k * sz + o
        · rw [if_pos (by omega), if_pos (by omega), if_neg (by omega), List.getElem?_take, if_pos (by omega)]
        · by_cases c2 : j < k * sz + o + s
          · rw [if_pos (by omega), if_neg (by omega), if_pos (by omega)]
            congr 1
            omega
          · rw [if_neg (by omega), if_neg (by omega), List.getElem?_drop]
            congr 1
            omega
      rw [hidx]
      by_cases hjk : j / sz = k
      · have hb' : (l.set k a')[j / sz]? = some a' := by rw [hjk]; simp [hkl]
        have hflat' := flat_get he.len (l.set k a') (j / sz) (j % sz) a' hb' hr
        rw [hq] at hflat'
        rw [hflat']
        rw [hjk] at hb hq
        obtain rfl : a = b := Option.some.inj (ha.symm.trans hb)
        rw [← hp]
        unfold putCells
        have hta : ((enc a).take o).length = o := by rw [List.length_take, he.len]; omega
        rw [List.getElem?_append, List.getElem?_append, List.length_append, hta, hl, List.getElem?_take, List.getElem?_drop]
        by_cases c1 : j % sz < o
        · rw [if_neg (by omega), if_pos (by omega), if_pos c1, if_pos c1, hcur j hj, hflat]
        · by_cases c2 : j % sz < o + s
          · rw [if_pos (by omega), if_pos c2, if_neg c1]
            congr 1
            omega
          · rw [if_neg (by omega), if_neg c2, hcur j hj, hflat]
            congr 1
            omega
      · have hb' : (l.set k a')[j / sz]? = some b := by rw [List.getElem?_set_ne (Ne.symm hjk)]; exact hb
        have hflat' := flat_get he.len (l.set k a') (j / sz) (j % sz) b hb' hr
        rw [hq] at hflat'
        rw [hflat', if_neg, hcur j hj, hflat]
        rintro ⟨c1, c2⟩
        apply hjk
        exact Nat.div_eq_of_lt_le (by omega) (by omega)
end
end

/-! ### Values -/
section
variable {P : Program} {N : Nat} {ρ : Env} {w : World} {d : Option Nat} {T ty : TypeId} {ps : String} {af : Array Edge} {gd : Option (Nat × Bool)} {α : Type} {h : Hd} {enc : α → List Value} {l : List α} {a : α} {sz : Nat}
theorem yv_ix {x y : Operand} {i : Int} {k : IntKind} {e : TypeId} {b : Nat} {z : Value} [hc : CL P T e sz b z] [he : En enc sz] (hx : evo ρ x = some h.v) (hy : evo ρ y = some (.int k i)) (hr : Sl w h enc l) (hl : l[i.toNat]? = some a ∧ 0 ≤ i) :
    Yv P N ρ w ⟨d, .indexAddr T x y, ty, ps, af, gd⟩ (ep h.A i.toNat sz 0) := by
  have := (List.getElem?_eq_some_iff.1 hl.1).1
  have := hr.n
  exact yv_indexAddr hx hy (hr.rd hl.1) hr.n hl.2 (by omega)
theorem yv_e1 [C1 P T] [he : En enc sz] {x : Operand} {k f : Nat} {v : Value} (hx : evo ρ x = some (ep h.A k sz f)) (hr : Sl w h enc l) (hl : l[k]? = some a) (hf : (enc a)[f]? = some v) : Yv P N ρ w ⟨d, .load T x, ty, ps, af, gd⟩ v :=
  yv_load_ep1 hx (hr.rd hl) hl hf
theorem yv_eS {s : Nat} [hS : CS P T s] [he : En enc sz] {x : Operand} {k f : Nat} {vs : List Value} (hx : evo ρ x = some (ep h.A k sz f)) (hr : Sl w h enc l) (hl : l[k]? = some a) (hf : ((enc a).drop f).take s = vs) (hn : vs.length = s) : Yv P N ρ w ⟨d, .load T x, ty, ps, af, gd⟩ (.agg vs.toArray) := by
  have hrd := hr.rd hl
  obtain ⟨ad, hA⟩ := hr.sm hl
  unfold ep at hx
  rw [hA] at hx
  refine yv_load hx (ldS hn fun j v hv => ?_)
  have hj : j < s := by rw [← hn]; exact (List.getElem?_eq_some_iff.1 hv).1
  have hv' : (enc a)[f + j]? = some v := by rw [← hf, List.getElem?_take, if_pos hj, List.getElem?_drop] at hv; exact hv
  have := hrd.cell hl hv' hA
  have h2 : (ad.add (k * sz + f)).add j = ad.add (k * sz + (f + j)) := by unfold Addr.add; by_cases h0 : k * sz = 0 <;> by_cases hj0 : j = 0 <;> by_cases hf0 : f = 0 <;> simp [h0, hj0, hf0, Nat.add_assoc]
  rw [h2]; exact this
theorem yv_ef {x : Operand} {k o f off : Nat} [CF P T f off] (hx : evo ρ x = some (ep h.A k sz o)) (hr : Sl w h enc l) (hl : l[k]? = some a) : Yv P N ρ w ⟨d, .fieldAddr T x f, ty, ps, af, gd⟩ (ep h.A k sz (o + off)) :=
  yv_fieldAddr_ep hx (hr.sm hl)
theorem yv_hi {x y : Operand} {e : TypeId} {b : Nat} {z : Value} {j : Int} {k : IntKind} [hc : CL P T e sz b z] (hx : evo ρ x = some h.v) (hy : evo ρ y = some (.int k j)) (hr : Sl w h enc l) (hj : 0 ≤ j ∧ j ≤ (l.length : Int)) :
    Yv P N ρ w ⟨d, .slice T x none (some y) none, ty, ps, af, gd⟩ (Hd.v ⟨h.A, j.toNat, h.c⟩) := by
  unfold Yv
  intro a' ha
  obtain ⟨inf, h2, _, h3, _⟩ := hc.h
  have hs : (P.info? e).map (·.size) = some sz := by simp [h2, h3]
  have h4 := hr.n
  have h5 := hr.c
  have h6 : j ≤ (h.c : Int) := by omega
  have h7 : (if h.c = 0 then h.A else h.A.map (·.add (0 * sz))) = h.A := by
    split
    · rfl
    · cases h.A <;> simp [Addr.add]
  have hA : h.A.map (·.add 0) = h.A := by cases h.A <;> simp [Addr.add]
  simp [execOp, ha.ev hx, ha.ev hy, Instr.sliceAt, Instr.slice, Instr.sliceBounds, Instr.sliceBound, asIntOf, run_underlying hc.u, hj.1, h6, run_sizeOf' hs, hA]
theorem yv_lo {x y : Operand} {e : TypeId} {b : Nat} {z : Value} {i : Int} {k : IntKind} [hc : CL P T e sz b z] (hx : evo ρ x = some h.v) (hy : evo ρ y = some (.int k i)) (hr : Sl w h enc l) (hi : 0 ≤ i ∧ i ≤ (l.length : Int)) :
    Yv P N ρ w ⟨d, .slice T x (some y) none none, ty, ps, af, gd⟩ (Hd.v (h.lo i.toNat sz)) := by
  unfold Yv
  intro a' ha
  obtain ⟨inf, h2, _, h3, _⟩ := hc.h
  have hs : (P.info? e).map (·.size) = some sz := by simp [h2, h3]
  have h4 := hr.n
  have h6 : i ≤ (h.n : Int) := by omega
  simp [execOp, ha.ev hx, ha.ev hy, Instr.sliceAt, Instr.slice, Instr.sliceBounds, Instr.sliceBound, asIntOf, run_underlying hc.u, hi.1, h6, run_sizeOf' hs, Hd.lo]
theorem yv_ln {x : Operand} {e : TypeId} {b : Nat} {z : Value} [hc : CL P T e sz b z] (hx : evo ρ x = some h.v) (hr : Sl w h enc l) : Yv P N ρ w ⟨d, .call { callee := .builtin .len, args := #[x], argTypes := #[T] }, ty, ps, af, gd⟩ (.int .i64 (l.length : Int)) := by
  rw [hr.n]; exact yv_len hx
theorem yv_ixL {x y : Operand} {l : List Int} {k kk : IntKind} {i a : Int} {n : Nat} {e : TypeId} {zs : List Value} [hc : CA P T n e 1 zs] [C1 P e] (hx : evo ρ x = some (.agg (l.map (Value.int kk)).toArray)) (hy : evo ρ y = some (.int k i)) (hn : Nat.beq l.length n = true) (hl : l[i.toNat]? = some a ∧ 0 ≤ i) :
    Yv P N ρ w ⟨d, .index T x y, ty, ps, af, gd⟩ (.int kk a) := by
  have h1 := (List.getElem?_eq_some_iff.1 hl.1).1
  have h2 : l.length = n := by simpa using hn
  refine yv_indexA hx hy ⟨hl.2, by omega⟩ ?_
  rw [Nat.mul_one]
  simp [hl.1]
theorem yv_neg_w {x : Operand} {n : Int} {xt : TypeId} (hx : evo ρ x = some (.int .i64 n)) : Yv P N ρ w ⟨d, .unOp .neg xt x, ty, ps, af, gd⟩ (.int .i64 (w64 (-n))) := by
  unfold Yv
  intro a' ha
  simp [execOp, Op.unary, Op.intArith, ha.ev hx]
theorem yv_nilE {x : Operand} {k o : Nat} (hx : evo ρ x = some (ep h.A k sz o)) (hr : Sl w h enc l) (hl : l[k]? = some a) : Yv P N ρ w ⟨d, .nilCheck x, ty, ps, af, gd⟩ (ep h.A k sz o) := by
  obtain ⟨ad, hA⟩ := hr.sm hl
  unfold ep at hx ⊢
  rw [hA] at hx ⊢
  exact yv_nil hx
theorem yv_len0 {x : Operand} {e : TypeId} {b : Nat} {z : Value} [hc : CL P T e sz b z] (hx : evo ρ x = some (.slice none 0 0)) : Yv P N ρ w ⟨d, .call { callee := .builtin .len, args := #[x], argTypes := #[T] }, ty, ps, af, gd⟩ (.int .i64 0) := yv_len hx
theorem yv_ixZ {x y : Operand} {s : ByteArray} {k : IntKind} {i : Int} (ht : P.underlying T = some .string) (hx : evo ρ x = some (.string s)) (hy : evo ρ y = some (.int k i)) (h0 : 0 ≤ i ∧ i < (s.size : Int)) : Yv P N ρ w ⟨d, .index T x y, ty, ps, af, gd⟩ (.int .u8 (byteAt s i)) := by
  unfold Yv
  intro a' ha
  have hi : i.toNat < s.size := by omega
  have hb : byteAt s i = ((s[i.toNat]'hi).toNat : Int) := by
    unfold byteAt
    have : s.data[i.toNat]? = some (s.data[i.toNat]'hi) := Array.getElem?_eq_getElem hi
    rw [this]
    rfl
  simp [execOp, ha.ev hx, ha.ev hy, Instr.index, asIntOf, run_underlying ht, h0.1, hb, hi]
theorem yv_lnz {x : Operand} {s : ByteArray} {t : TypeId} (ht : P.underlying t = some .string) (hx : evo ρ x = some (.string s)) : Yv P N ρ w ⟨d, .call { callee := .builtin .len, args := #[x], argTypes := #[t] }, ty, ps, af, gd⟩ (.int .i64 (s.size : Int)) := by
  unfold Yv
  intro a' ha
  simp [execOp, resolve, invoke, builtin, Builtin.len_, ha.ev hx, run_underlying ht, goInt]
theorem str_beq (m n : ByteArray) : (m.toList == n.toList) = decide (m = n) := by
  rw [Bool.eq_iff_iff, decide_eq_true_iff, beq_iff_eq, ByteArray.toList_eq, ByteArray.toList_eq]
  obtain ⟨⟨a⟩⟩ := m
  obtain ⟨⟨b⟩⟩ := n
  simp
theorem yv_eqlz {x y : Operand} {m n : ByteArray} {xt yt : TypeId} (ht : P.underlying xt = some .string) (hx : evo ρ x = some (.string m)) (hy : evo ρ y = some (.string n)) : Yv P N ρ w ⟨d, .binOp .eql xt x y yt, ty, ps, af, gd⟩ (.bool (decide (m = n))) := by
  unfold Yv
  intro a' ha
  have h1 : (binOp .eql xt (.string m) (.string n)).run P w = .ok (.bool (decide (m = n))) w := by
    simp [binOp, Op.stringOp, beq_toListBytes, str_beq, bne]
  simp only [execOp, ha.ev hx, ha.ev hy, Sem.run_bind, eqGuard_string, Result.andThen_ok, h1, Sem.run_pure]
theorem yv_neqz {x y : Operand} {m n : ByteArray} {xt yt : TypeId} (ht : P.underlying xt = some .string) (hx : evo ρ x = some (.string m)) (hy : evo ρ y = some (.string n)) : Yv P N ρ w ⟨d, .binOp .neq xt x y yt, ty, ps, af, gd⟩ (.bool (decide (m ≠ n))) := by
  unfold Yv
  intro a' ha
  have h1 : (binOp .neq xt (.string m) (.string n)).run P w = .ok (.bool (decide (m ≠ n))) w := by
    simp [binOp, Op.stringOp, beq_toListBytes, str_beq, bne]
  simp only [execOp, ha.ev hx, ha.ev hy, Sem.run_bind, eqGuard_string, Result.andThen_ok, h1, Sem.run_pure]
theorem yv_conv {x : Operand} {n : Int} {k0 k1 k : IntKind} {src dst : TypeId} (hs : P.underlying src = some (.int k0)) (hd : P.underlying dst = some (.int k)) (hx : evo ρ x = some (.int k1 n)) : Yv P N ρ w ⟨d, .convert src dst x, ty, ps, af, gd⟩ (.int k (k.wrap n)) := by
  unfold Yv
  intro a' ha
  simp [execOp, ha.ev hx, convert, run_underlying hs, run_underlying hd, Conv.intToInt]
theorem yv_b2s {x : Operand} {l : List Int} {src dst e : TypeId} (hs : P.underlying src = some (.slice e)) (he : P.underlying e = some (.int .u8)) (hd : P.underlying dst = some .string) (hx : evo ρ x = some h.v) (hr : Sl w h (encK .u8) l) :
    Yv P N ρ w ⟨d, .convert src dst x, ty, ps, af, gd⟩ (.string (strOf l)) := by
  unfold Yv
  intro a' ha
  have hf : ∀ (l : List Int) (acc : ByteArray), l.foldl (fun s n => s.push (UInt8.ofNat n.toNat)) acc = ⟨acc.data ++ (l.map fun n => UInt8.ofNat n.toNat).toArray⟩ := by
    intro l
    induction l with
    | nil => intro acc; simp
    | cons n l ih => intro acc; rw [List.foldl_cons, ih]; simp [ByteArray.push]
  have hstr : ∀ l : List Int, l.foldl (fun s n => s.push (UInt8.ofNat n.toNat)) ByteArray.empty = strOf l := by
    intro l
    rw [hf]; simp [strOf, ByteArray.empty, ByteArray.emptyWithCapacity]; rfl
  have hce : cellsOf (encK .u8) l = l.map (Value.int .u8) := by
    unfold cellsOf
    clear hr
    induction l with
    | nil => rfl
    | cons y ys ih => rw [List.flatMap_cons, ih]; rfl
  have key : (Conv.bytesToString h.v).run P w = .ok (.string (strOf l)) w := by
    obtain ⟨hA0, hn0, hc0⟩ := h
    have hn := hr.n
    simp only at hn
    cases hA0 with
    | none =>
      have : l = [] := by
        rcases Nat.eq_zero_or_pos hn0 with h0 | h0
        · exact List.eq_nil_of_length_eq_zero (by omega)
        · obtain ⟨ad, hA⟩ := hr.isSome (by simpa using h0); cases hA
      subst this
      simp only [Conv.bytesToString, Hd.v, Sem.run_pure]
      rfl
    | some ad =>
      rw [← hstr l]
      refine run_bytesToString w ad hn0 hc0 l ?_
      have hc' : ∀ j u, (cellsOf (encK .u8) l)[j]? = some u → w.cell? (ad.add j) = some u := by
        intro j u hu
        have hpos : 0 < l.length := by
          rcases l with _ | ⟨y, ys⟩
          · simp [cellsOf] at hu
          · simp
        obtain ⟨ad', hA', hc'⟩ := (hr.rd (sz := 1) (List.getElem?_eq_getElem hpos)).rd hpos
        obtain rfl := Option.some.inj hA'
        exact hc' j u hu
      have hload := run_loadCells_list (P := P) w ad (cellsOf (encK .u8) l) hc'
      rw [hce, List.length_map, hn] at hload
      exact hload
  simp only [execOp, ha.ev hx, convert, Sem.run_bind, run_underlying hs, run_underlying hd, run_underlying he, Result.andThen_ok, key, Sem.run_pure]
/-- An element of an array in a block. -/
theorem yv_ixA {x y : Operand} {g o n : Nat} {e : TypeId} {s : Nat} {zs : List Value} [hc : CA P T n e s zs] {k : IntKind} {i : Int} (hx : evo ρ x = some (.pointer (some ⟨g, o, none⟩))) (hy : evo ρ y = some (.int k i)) (h0 : 0 ≤ i ∧ i < n) :
    Yv P N ρ w ⟨d, .indexAddr T x y, ty, ps, af, gd⟩ (.pointer (some ⟨g, o + i.toNat * s, none⟩)) := by
  unfold Yv
  intro a' ha
  simp [execOp, ha.ev hx, ha.ev hy, Instr.indexAt, asIntOf, run_underlying hc.u, h0, run_sizeOf' hc.i, Instr.sureAddr, Addr.add_lit]
end

/-! ### What a call hands back -/
section
variable {P : Program} {N : Nat} {w0 : World} {M L : List Res} {β : Type} {r : β} {ρ : Env} {fn : Func} {R : β → Ending → World → Prop} {v : β}
def kRt (P : Program) (fn : Func) (N : Nat) {β : Type} (R : β → Ending → World → Prop) (r : β) : Kont := kRet P fn N (R r)
theorem np_rt : NoPanic (kRt P fn N R r) := np_ret
theorem jk_ret0 (hr : fn.results = #[]) (hR : ∀ w, St w0 w M L → R v (.returned (.tuple #[])) w) : Jk w0 M L .ret ρ (some v) r (kRt P fn N R r) := fun w hs hm => by
  obtain rfl := Option.some.inj hm
  exact k_ret0 hr (hR w hs)
theorem jk_ret0n (hr : fn.results = #[]) (hR : ∀ w, St w0 w M L → R v (.returned (.tuple #[])) w) : Jk w0 M L .normal ρ (some v) r (kRt P fn N R r) := fun w hs hm => by
  obtain rfl := Option.some.inj hm
  exact k_ret0n hr (hR w hs)
theorem jk_ret1 {r1 : ResultVar} {v1 : Value} (hr : fn.results = #[r1]) (h1 : ∀ w, St w0 w M L → RV P w ρ r1 v1) (hR : ∀ w, St w0 w M L → R v (.returned v1) w) : Jk w0 M L .ret ρ (some v) r (kRt P fn N R r) := fun w hs hm => by
  obtain rfl := Option.some.inj hm
  exact k_ret1 hr (h1 w hs) (hR w hs)
theorem jk_ret2 {r1 r2 : ResultVar} {v1 v2 : Value} (hr : fn.results = #[r1, r2]) (h1 : ∀ w, St w0 w M L → RV P w ρ r1 v1) (h2 : ∀ w, St w0 w M L → RV P w ρ r2 v2) (hR : ∀ w, St w0 w M L → R v (.returned (.tuple #[v1, v2])) w) : Jk w0 M L .ret ρ (some v) r (kRt P fn N R r) := fun w hs hm => by
  obtain rfl := Option.some.inj hm
  exact k_ret2 hr (h1 w hs) (h2 w hs) (hR w hs)
theorem jk_ret3 {r1 r2 r3 : ResultVar} {v1 v2 v3 : Value} (hr : fn.results = #[r1, r2, r3]) (h1 : ∀ w, St w0 w M L → RV P w ρ r1 v1) (h2 : ∀ w, St w0 w M L → RV P w ρ r2 v2) (h3 : ∀ w, St w0 w M L → RV P w ρ r3 v3) (hR : ∀ w, St w0 w M L → R v (.returned (.tuple #[v1, v2, v3])) w) : Jk w0 M L .ret ρ (some v) r (kRt P fn N R r) := fun w hs hm => by
  obtain rfl := Option.some.inj hm
  exact k_ret3 hr (h1 w hs) (h2 w hs) (h3 w hs) (hR w hs)
/-- A call begins. -/
theorem j_enter {m : Option β} {f : FuncId} {c : Code} {vs : List Value} {ρ0 : Env} (hf : P.funcs[f]? = some fn) (hb : fn.body = some c) (hN : fn.ntmps = N) (hl : Nat.ble vs.length N = true) (hE : argEnv 0 vs = ρ0) (hs : St w0 w0 M []) (hm : m = some r)
    (h : Jn P N w0 M [] c ρ0 m r (kRt P fn N R r)) : Calls P f vs.toArray w0 (R r) := calls_enter hf hb hN hl hE (h w0 hs hm)
theorem j_gives {m : Option β} {f : FuncId} {c : Code} {vs : List Value} {ρ0 : Env} {U : β → Value} (hf : P.funcs[f]? = some fn) (hb : fn.body = some c) (hN : fn.ntmps = N) (hl : Nat.ble vs.length N = true) (hE : argEnv 0 vs = ρ0) (hm : m = some r)
    (h : Jn P N w0 [] [] c ρ0 m r (kRt P fn N (fun (v : β) e w' => e = .returned (U v) ∧ St w0 w' [] []) r)) : Gives P f vs w0 (U r) := by
  unfold Gives
  exact calls_enter hf hb hN hl hE (h w0 (St.refl w0) hm)
end
theorem mk_st {w : World} {g : Nat} {t : TypeId} {cs : List Value} (h : Blk w g t cs) : St w w [.blk g t cs] [] := by
  unfold Blk at h
  exact St.init w _ (by intro r hr; simp only [List.mem_singleton] at hr; subst hr; exact h) (List.pairwise_singleton _ _)

/-! ### One order serves all: a check by masks -/
def dmask (o : Oper) : Nat := o.after.toList.foldl (fun m e => if Region.binds .any e then m ||| (1 <<< e.on) else m) 0
/-- The first waits for the second, through others too: a table that is checked. -/
def upTo (d : Nat) (ms : List Nat) (n : Nat) : Nat := (List.range n).foldl (fun m k => if d.testBit k then m ||| ms.getD k 0 else m) d
def okAnc (ds ms : List Nat) : Bool := (List.range ms.length).all fun j => Nat.beq (ms.getD j 0 &&& upTo (ds.getD j 0) ms j) (ms.getD j 0)
def pend (ops : Array Oper) (oi : Oper) (i phm lm : Nat) : List Nat → Nat → Bool
  | [], _ => true
  | m :: ms, j => (lm.testBit j || Nat.beq j i || m.testBit i || (phm.testBit j && (match ops[j]? with | some oj => oi.apart ops oj | none => true))) && pend ops oi i phm lm ms (j + 1)
def none_ready (i lm : Nat) : List Nat → Nat → Bool
  | [], _ => true
  | d :: ds, j => (lm.testBit j || Nat.beq j i || !(Nat.beq (d &&& lm) d)) && none_ready i lm ds (j + 1)
def linM (ops : Array Oper) (ds ms : List Nat) (phm full : Nat) : List (Nat × Bool) → Nat → Bool
  | [], lm => Nat.beq lm full
  | (i, b) :: π, lm => (!lm.testBit i && full.testBit i && Nat.beq (ds.getD i 0 &&& lm) (ds.getD i 0)) &&
      (match b with
       | true => phm.testBit i && (match ops[i]? with | some oi => pend ops oi i phm lm ms 0 | none => false)
       | false => none_ready i lm ds 0) && linM ops ds ms phm full π (lm ||| (1 <<< i))
section
variable {P : Program} {ops : Array Oper} {Q : Exit → Act → World → Prop} {D : World → Prop} {ph : List Nat}
theorem fold_bit (p : Edge → Bool) : ∀ (l : List Edge) (m k : Nat), (l.foldl (fun m e => if p e then m ||| (1 <<< e.on) else m) m).testBit k = true ↔ m.testBit k = true ∨ ∃ e ∈ l, p e = true ∧ e.on = k
  | [], m, k => by simp
  | e :: l, m, k => by
    rw [List.foldl_cons, fold_bit p l]
    by_cases h : p e = true
    · rw [if_pos h, Nat.testBit_or, Bool.or_eq_true, Nat.one_shiftLeft, Nat.testBit_two_pow]
      simp [h, or_assoc]
    · rw [if_neg h]
      simp [h]
theorem dmask_bit (o : Oper) (k : Nat) : (dmask o).testBit k = true ↔ ∃ e ∈ o.after, Region.binds .any e = true ∧ e.on = k := by
  unfold dmask
  rw [fold_bit]
  simp
theorem upTo_bit (d : Nat) (ms : List Nat) (i : Nat) : ∀ (l : List Nat) (m : Nat), (l.foldl (fun m k => if d.testBit k then m ||| ms.getD k 0 else m) m).testBit i = true → m.testBit i = true ∨ ∃ k ∈ l, d.testBit k = true ∧ (ms.getD k 0).testBit i = true
  | [], m, h => .inl h
  | k :: l, m, h => by
    rw [List.foldl_cons] at h
    rcases upTo_bit d ms i l _ h with h | ⟨k', hk', h1, h2⟩
    · by_cases hb : d.testBit k = true
      · rw [if_pos hb, Nat.testBit_or, Bool.or_eq_true] at h
        rcases h with h | h
        · exact .inl h
        · exact .inr ⟨k, by simp, hb, h⟩
      · rw [if_neg hb] at h; exact .inl h
    · exact .inr ⟨k', List.mem_cons_of_mem _ hk', h1, h2⟩
theorem and_sub {a b i : Nat} (h : Nat.beq (a &&& b) a = true) (hi : a.testBit i = true) : b.testBit i = true := by
  have e : a &&& b = a := by simpa using h
  have h2 : (a &&& b).testBit i = true := by rw [e]; exact hi
  rw [Nat.testBit_and, Bool.and_eq_true] at h2
  exact h2.2
theorem anc_spec {ds ms : List Nat} (hds : ops.toList.map dmask = ds) (hm : okAnc ds ms = true) (listed : Array Bool) (hc : Closed ops listed) : ∀ (n j i : Nat), j < n → (ms.getD j 0).testBit i = true →
    (∀ o, ops[j]? = some o → ∀ e ∈ o.after, Region.binds .any e = true → listed.getD e.on false = true) → listed.getD i false = true := by
  intro n
  induction n with
  | zero => intro j i h; omega
  | succ n ih =>
    intro j i hj hb hp
    have hjl : j < ms.length := by
      rcases Nat.lt_or_ge j ms.length with h | h
      · exact h
      · rw [List.getD_eq_getElem?_getD, List.getElem?_eq_none h] at hb; simp at hb
    simp only [okAnc, List.all_eq_true, List.mem_range] at hm
    have h1 := and_sub (hm j hjl) hb
    have hd : ∀ k, (ds.getD j 0).testBit k = true → listed.getD k false = true := fun k hk => by
      rw [← hds, List.getD_eq_getElem?_getD, List.getElem?_map] at hk
      cases ho : ops[j]? with
      | none =>
        have : ops.toList[j]? = none := by simpa using ho
        rw [this] at hk; simp at hk
      | some o =>
        have : ops.toList[j]? = some o := by simpa using ho
        rw [this] at hk
        simp only [Option.map_some, Option.getD_some] at hk
        obtain ⟨e, he, hbi, rfl⟩ := (dmask_bit o k).1 hk
        exact hp o ho e he hbi
    rcases upTo_bit _ ms i _ _ h1 with h2 | ⟨k, hk, h2, h3⟩
    · exact hd i h2
    · have hkj : k < j := List.mem_range.1 hk
      exact ih k i (by omega) h3 fun o ho e he hbi => hc k o ho (hd k h2) e he hbi
theorem pend_spec {oi : Oper} {i phm lm : Nat} : ∀ (ms : List Nat) (j0 : Nat), pend ops oi i phm lm ms j0 = true → ∀ j, j0 ≤ j → j < j0 + ms.length → lm.testBit j = false → j ≠ i → (ms.getD (j - j0) 0).testBit i = true ∨ (phm.testBit j = true ∧ ∀ oj, ops[j]? = some oj → oi.apart ops oj = true)
  | [], j0, _, j, h1, h2, _, _ => by simp at h2; omega
  | m :: ms, j0, h, j, h1, h2, h3, h4 => by
    simp only [pend, Bool.and_eq_true, Bool.or_eq_true] at h
    by_cases e : j = j0
    · subst e
      simp only [Nat.sub_self, List.getD_cons_zero]
      rcases h.1 with ((h5 | h5) | h5) | h5
      · rw [h3] at h5; cases h5
      · exact absurd (by simpa using h5) h4
      · exact .inl h5
      · refine .inr ⟨h5.1, fun oj ho => ?_⟩
        have := h5.2
        rw [ho] at this
        exact this
    · have := pend_spec ms (j0 + 1) h.2 j (by omega) (by simp at h2; omega) h3 h4
      rw [show j - j0 = (j - (j0 + 1)) + 1 from by omega, List.getD_cons_succ]
      exact this
theorem none_ready_spec {i lm : Nat} : ∀ (ds : List Nat) (j0 : Nat), none_ready i lm ds j0 = true → ∀ j, j0 ≤ j → j < j0 + ds.length → lm.testBit j = false → j ≠ i → ¬ ((ds.getD (j - j0) 0) &&& lm = ds.getD (j - j0) 0)
  | [], j0, _, j, h1, h2, _, _ => by simp at h2; omega
  | d :: ds, j0, h, j, h1, h2, h3, h4 => by
    simp only [none_ready, Bool.and_eq_true, Bool.or_eq_true, Bool.not_eq_true'] at h
    by_cases e : j = j0
    · subst e
      simp only [Nat.sub_self, List.getD_cons_zero]
      rcases h.1 with (h5 | h5) | h5
      · rw [h3] at h5; cases h5
      · exact absurd (by simpa using h5) h4
      · intro e; rw [e] at h5; simp at h5
    · have := none_ready_spec ds (j0 + 1) h.2 j (by omega) (by simp at h2; omega) h3 h4
      rw [show j - j0 = (j - (j0 + 1)) + 1 from by omega, List.getD_cons_succ]
      exact this
/-- What is listed, as a mask. -/
def Lm (n : Nat) (listed : Array Bool) (lm : Nat) : Prop := listed.size = n ∧ ∀ j, listed.getD j false = lm.testBit j
theorem Lm.lt {n j lm : Nat} {listed : Array Bool} (h : Lm n listed lm) (hj : lm.testBit j = true) : j < n := by
  rw [← h.1]
  rcases Nat.lt_or_ge j listed.size with h1 | h1
  · exact h1
  · have := h.2 j
    rw [hj] at this
    simp [Array.getElem?_eq_none h1] at this
theorem Lm.set {n i lm : Nat} {listed : Array Bool} (h : Lm n listed lm) (hi : i < n) : Lm n (listed.setIfInBounds i true) (lm ||| (1 <<< i)) := by
  refine ⟨by simp [h.1], fun j => ?_⟩
  rw [Nat.testBit_or, Nat.one_shiftLeft, Nat.testBit_two_pow, ← h.2 j]
  by_cases e : i = j
  · subst e
    simp [Array.getD_eq_getD_getElem?, h.1, hi]
  · simp [Array.getD_eq_getD_getElem?, Array.getElem?_setIfInBounds_ne e, e]
theorem Lm.un {n j lm : Nat} {listed : Array Bool} (h : Lm n listed lm) : listed.getD j true = false ↔ j < n ∧ lm.testBit j = false := by
  have h2 := h.2 j
  rw [← h.1]
  rcases Nat.lt_or_ge j listed.size with h1 | h1
  · simp only [Array.getD_eq_getD_getElem?, Array.getElem?_eq_getElem h1, Option.getD_some] at h2 ⊢
    rw [← h2]; simp [h1]
  · simp [Array.getElem?_eq_none h1]; omega
theorem wpAnyG_linM {ds ms : List Nat} {phm full : Nat} (hds : ops.toList.map dmask = ds) (hms : okAnc ds ms = true) (hml : Nat.beq ms.length ds.length = true) (hfull : Nat.beq full (2 ^ ds.length - 1) = true) (hph : ((List.range ds.length).all fun j => !phm.testBit j || ph.contains j) = true)
    (hD : ∀ w w', D w → Gr w w' → D w') (hQ : ∀ c a w, ¬ Q (.panic c) a w) (hsel : ∀ (j : Nat) (o : Oper) cs b, ops[j]? = some o → o.op ≠ .select cs b) :
    ∀ (π : List (Nat × Bool)) (listed : Array Bool) (lm : Nat) (a : Act) (w : World), Closed ops listed → Lm ds.length listed lm → linM ops ds ms phm full π lm = true → wpLin P ops Q D ph π a w → wpAnyG P ops Q D ph π.length listed a w := by
  have hn : ops.size = ds.length := by rw [← hds]; simp
  have hml' : ms.length = ds.length := by simpa using hml
  have hfull' : full = 2 ^ ds.length - 1 := by simpa using hfull
  have hph' : ∀ j, j < ds.length → phm.testBit j = true → j ∈ ph := fun j hj h => by
    simp only [List.all_eq_true, List.mem_range, Bool.or_eq_true, Bool.not_eq_true'] at hph
    rcases hph j hj with h1 | h1
    · rw [h] at h1; cases h1
    · simpa using h1
  have hdm : ∀ j o, ops[j]? = some o → ds.getD j 0 = dmask o := fun j o ho => by
    rw [← hds, List.getD_eq_getElem?_getD, List.getElem?_map]
    have : ops.toList[j]? = some o := by simpa using ho
    rw [this]; rfl
  have hready : ∀ (listed : Array Bool) (lm j : Nat), Lm ds.length listed lm → (j ∈ Region.ready .any ops listed ↔ j < ds.length ∧ lm.testBit j = false ∧ (ds.getD j 0) &&& lm = ds.getD j 0) := fun listed lm j hL => by
    rw [mem_ready, hL.un]
    constructor
    · rintro ⟨⟨h1, h2⟩, o, ho, hall⟩
      refine ⟨h1, h2, Nat.eq_of_testBit_eq fun k => ?_⟩
      rw [Nat.testBit_and]
      cases hk : (ds.getD j 0).testBit k with
      | false => rfl
      | true =>
        rw [hdm j o ho] at hk
        obtain ⟨e, he, hb, rfl⟩ := (dmask_bit o k).1 hk
        rw [← hL.2, hall e he hb]; rfl
    · rintro ⟨h1, h2, h3⟩
      obtain ⟨o, ho⟩ : ∃ o, ops[j]? = some o := ⟨_, Array.getElem?_eq_getElem (by omega)⟩
      refine ⟨⟨h1, h2⟩, o, ho, fun e he hb => ?_⟩
      rw [hL.2]
      exact and_sub (a := ds.getD j 0) (by rw [h3]; simp) (by rw [hdm j o ho]; exact (dmask_bit o e.on).2 ⟨e, he, hb, rfl⟩)
  intro π
  induction π with
  | nil =>
    intro listed lm a w hc hL hB h
    simp only [linM] at hB
    have e : lm = full := by simpa using hB
    refine ⟨List.eq_nil_iff_forall_not_mem.2 fun j hj => ?_, h⟩
    obtain ⟨h1, h2, _⟩ := (hready listed lm j hL).1 hj
    rw [e, hfull', Nat.testBit_two_pow_sub_one] at h2
    simp [h1] at h2
  | cons p π ih =>
    obtain ⟨i, b⟩ := p
    intro listed lm a w hc hL hB h
    simp only [linM, Bool.and_eq_true, Bool.not_eq_true'] at hB
    obtain ⟨⟨⟨⟨b1, b2⟩, b3⟩, b4⟩, b5⟩ := hB
    have hin : i < ds.length := by
      rw [hfull', Nat.testBit_two_pow_sub_one] at b2
      simpa using b2
    have hr : i ∈ Region.ready .any ops listed := (hready listed lm i hL).2 ⟨hin, b1, by simpa using b3⟩
    cases b with
    | true =>
      obtain ⟨hw, o, v, ho, hy, hk⟩ := h
      simp only [ho, Bool.and_eq_true] at b4
      refine wpAnyG_first (W := fun j i => (ms.getD j 0).testBit i = true) (fun listed hc j i h hp => anc_spec hds hms listed hc (j + 1) j i (by omega) h hp) hD hQ ho hsel π.length listed a w hc (fun j oj hj hne hun => ?_) hr hw hy fun w' hg => ih _ _ _ w' (closed_set hc hr) (hL.set hin) b5 (hk w' hg)
      obtain ⟨u1, u2⟩ := (hL.un (j := j)).1 hun
      have := pend_spec ms 0 b4.2 j (Nat.zero_le _) (by omega) u2 hne
      rw [Nat.sub_zero] at this
      rcases this with h1 | h1
      · exact .inl h1
      · exact .inr ⟨h1.2 oj hj, hph' j u1 h1.1⟩
    | false =>
      refine ⟨fun h0 => (by rw [h0] at hr; cases hr), fun j hj => ?_⟩
      obtain ⟨u1, u2, u3⟩ := (hready listed lm j hL).1 hj
      have e : j = i := by
        by_cases e : j = i
        · exact e
        · have := none_ready_spec ds 0 b4 j (Nat.zero_le _) (by omega) u2 e
          rw [Nat.sub_zero] at this
          exact absurd u3 this
      subst e
      exact wpOp_mono (fun a' w' hh => ⟨hh.1, fun w'' hg => ih _ _ a' w'' (closed_set hc hr) (hL.set hin) b5 (hh.2 w'' hg)⟩) h
end
/-! ### Shapes -/
section
variable {L : List Res} {o : Option (List Res)} {x0 x1 x2 x3 x4 x5 x6 x7 x8 x9 x10 x11 x12 x13 x14 x15 x16 x17 x18 x19 x20 x21 x22 x23 x24 x25 x26 x27 x28 x29 : Res}
theorem r0 (q : L = []) : L = [] := q
theorem s0 (q : o = some []) : o = some [] := q
theorem r1 (q : L = [x0]) : L = [x0] := q
theorem s1 (q : o = some [x0]) : o = some [x0] := q
theorem r2 (q : L = [x0, x1]) : L = [x0, x1] := q
theorem s2 (q : o = some [x0, x1]) : o = some [x0, x1] := q
theorem r3 (q : L = [x0, x1, x2]) : L = [x0, x1, x2] := q
theorem s3 (q : o = some [x0, x1, x2]) : o = some [x0, x1, x2] := q
theorem r4 (q : L = [x0, x1, x2, x3]) : L = [x0, x1, x2, x3] := q
theorem s4 (q : o = some [x0, x1, x2, x3]) : o = some [x0, x1, x2, x3] := q
theorem r5 (q : L = [x0, x1, x2, x3, x4]) : L = [x0, x1, x2, x3, x4] := q
theorem s5 (q : o = some [x0, x1, x2, x3, x4]) : o = some [x0, x1, x2, x3, x4] := q
theorem r6 (q : L = [x0, x1, x2, x3, x4, x5]) : L = [x0, x1, x2, x3, x4, x5] := q
theorem s6 (q : o = some [x0, x1, x2, x3, x4, x5]) : o = some [x0, x1, x2, x3, x4, x5] := q
theorem r7 (q : L = [x0, x1, x2, x3, x4, x5, x6]) : L = [x0, x1, x2, x3, x4, x5, x6] := q
theorem s7 (q : o = some [x0, x1, x2, x3, x4, x5, x6]) : o = some [x0, x1, x2, x3, x4, x5, x6] := q
theorem r8 (q : L = [x0, x1, x2, x3, x4, x5, x6, x7]) : L = [x0, x1, x2, x3, x4, x5, x6, x7] := q
theorem s8 (q : o = some [x0, x1, x2, x3, x4, x5, x6, x7]) : o = some [x0, x1, x2, x3, x4, x5, x6, x7] := q
theorem r9 (q : L = [x0, x1, x2, x3, x4, x5, x6, x7, x8]) : L = [x0, x1, x2, x3, x4, x5, x6, x7, x8] := q
theorem s9 (q : o = some [x0, x1, x2, x3, x4, x5, x6, x7, x8]) : o = some [x0, x1, x2, x3, x4, x5, x6, x7, x8] := q
theorem r10 (q : L = [x0, x1, x2, x3, x4, x5, x6, x7, x8, x9]) : L = [x0, x1, x2, x3, x4, x5, x6, x7, x8, x9] := q
theorem s10 (q : o = some [x0, x1, x2, x3, x4, x5, x6, x7, x8, x9]) : o = some [x0, x1, x2, x3, x4, x5, x6, x7, x8, x9] := q
theorem r11 (q : L = [x0, x1, x2, x3, x4, x5, x6, x7, x8, x9, x10]) : L = [x0, x1, x2, x3, x4, x5, x6, x7, x8, x9, x10] := q
theorem s11 (q : o = some [x0, x1, x2, x3, x4, x5, x6, x7, x8, x9, x10]) : o = some [x0, x1, x2, x3, x4, x5, x6, x7, x8, x9, x10] := q
theorem r12 (q : L = [x0, x1, x2, x3, x4, x5, x6, x7, x8, x9, x10, x11]) : L = [x0, x1, x2, x3, x4, x5, x6, x7, x8, x9, x10, x11] := q
theorem s12 (q : o = some [x0, x1, x2, x3, x4, x5, x6, x7, x8, x9, x10, x11]) : o = some [x0, x1, x2, x3, x4, x5, x6, x7, x8, x9, x10, x11] := q
theorem r13 (q : L = [x0, x1, x2, x3, x4, x5, x6, x7, x8, x9, x10, x11, x12]) : L = [x0, x1, x2, x3, x4, x5, x6, x7, x8, x9, x10, x11, x12] := q
theorem s13 (q : o = some [x0, x1, x2, x3, x4, x5, x6, x7, x8, x9, x10, x11, x12]) : o = some [x0, x1, x2, x3, x4, x5, x6, x7, x8, x9, x10, x11, x12] := q
theorem r14 (q : L = [x0, x1, x2, x3, x4, x5, x6, x7, x8, x9, x10, x11, x12, x13]) : L = [x0, x1, x2, x3, x4, x5, x6, x7, x8, x9, x10, x11, x12, x13] := q
theorem s14 (q : o = some [x0, x1, x2, x3, x4, x5, x6, x7, x8, x9, x10, x11, x12, x13]) : o = some [x0, x1, x2, x3, x4, x5, x6, x7, x8, x9, x10, x11, x12, x13] := q
theorem r15 (q : L = [x0, x1, x2, x3, x4, x5, x6, x7, x8, x9, x10, x11, x12, x13, x14]) : L = [x0, x1, x2, x3, x4, x5, x6, x7, x8, x9, x10, x11, x12, x13, x14] := q
theorem s15 (q : o = some [x0, x1, x2, x3, x4, x5, x6, x7, x8, x9, x10, x11, x12, x13, x14]) : o = some [x0, x1, x2, x3, x4, x5, x6, x7, x8, x9, x10, x11, x12, x13, x14] := q
theorem r16 (q : L = [x0, x1, x2, x3, x4, x5, x6, x7, x8, x9, x10, x11, x12, x13, x14, x15]) : L = [x0, x1, x2, x3, x4, x5, x6, x7, x8, x9, x10, x11, x12, x13, x14, x15] := q
theorem s16 (q : o = some [x0, x1, x2, x3, x4, x5, x6, x7, x8, x9, x10, x11, x12, x13, x14, x15]) : o = some [x0, x1, x2, x3, x4, x5, x6, x7, x8, x9, x10, x11, x12, x13, x14, x15] := q
theorem r17 (q : L = [x0, x1, x2, x3, x4, x5, x6, x7, x8, x9, x10, x11, x12, x13, x14, x15, x16]) : L = [x0, x1, x2, x3, x4, x5, x6, x7, x8, x9, x10, x11, x12, x13, x14, x15, x16] := q
theorem s17 (q : o = some [x0, x1, x2, x3, x4, x5, x6, x7, x8, x9, x10, x11, x12, x13, x14, x15, x16]) : o = some [x0, x1, x2, x3, x4, x5, x6, x7, x8, x9, x10, x11, x12, x13, x14, x15, x16] := q
theorem r18 (q : L = [x0, x1, x2, x3, x4, x5, x6, x7, x8, x9, x10, x11, x12, x13, x14, x15, x16, x17]) : L = [x0, x1, x2, x3, x4, x5, x6, x7, x8, x9, x10, x11, x12, x13, x14, x15, x16, x17] := q
theorem s18 (q : o = some [x0, x1, x2, x3, x4, x5, x6, x7, x8, x9, x10, x11, x12, x13, x14, x15, x16, x17]) : o = some [x0, x1, x2, x3, x4, x5, x6, x7, x8, x9, x10, x11, x12, x13, x14, x15, x16, x17] := q
theorem r19 (q : L = [x0, x1, x2, x3, x4, x5, x6, x7, x8, x9, x10, x11, x12, x13, x14, x15, x16, x17, x18]) : L = [x0, x1, x2, x3, x4, x5, x6, x7, x8, x9, x10, x11, x12, x13, x14, x15, x16, x17, x18] := q
theorem s19 (q : o = some [x0, x1, x2, x3, x4, x5, x6, x7, x8, x9, x10, x11, x12, x13, x14, x15, x16, x17, x18]) : o = some [x0, x1, x2, x3, x4, x5, x6, x7, x8, x9, x10, x11, x12, x13, x14, x15, x16, x17, x18] := q
theorem r20 (q : L = [x0, x1, x2, x3, x4, x5, x6, x7, x8, x9, x10, x11, x12, x13, x14, x15, x16, x17, x18, x19]) : L = [x0, x1, x2, x3, x4, x5, x6, x7, x8, x9, x10, x11, x12, x13, x14, x15, x16, x17, x18, x19] := q
theorem s20 (q : o = some [x0, x1, x2, x3, x4, x5, x6, x7, x8, x9, x10, x11, x12, x13, x14, x15, x16, x17, x18, x19]) : o = some [x0, x1, x2, x3, x4, x5, x6, x7, x8, x9, x10, x11, x12, x13, x14, x15, x16, x17, x18, x19] := q
theorem r21 (q : L = [x0, x1, x2, x3, x4, x5, x6, x7, x8, x9, x10, x11, x12, x13, x14, x15, x16, x17, x18, x19, x20]) : L = [x0, x1, x2, x3, x4, x5, x6, x7, x8, x9, x10, x11, x12, x13, x14, x15, x16, x17, x18, x19, x20] := q
theorem s21 (q : o = some [x0, x1, x2, x3, x4, x5, x6, x7, x8, x9, x10, x11, x12, x13, x14, x15, x16, x17, x18, x19, x20]) : o = some [x0, x1, x2, x3, x4, x5, x6, x7, x8, x9, x10, x11, x12, x13, x14, x15, x16, x17, x18, x19, x20] := q
theorem r22 (q : L = [x0, x1, x2, x3, x4, x5, x6, x7, x8, x9, x10, x11, x12, x13, x14, x15, x16, x17, x18, x19, x20, x21]) : L = [x0, x1, x2, x3, x4, x5, x6, x7, x8, x9, x10, x11, x12, x13, x14, x15, x16, x17, x18, x19, x20, x21] := q
theorem s22 (q : o = some [x0, x1, x2, x3, x4, x5, x6, x7, x8, x9, x10, x11, x12, x13, x14, x15, x16, x17, x18, x19, x20, x21]) : o = some [x0, x1, x2, x3, x4, x5, x6, x7, x8, x9, x10, x11, x12, x13, x14, x15, x16, x17, x18, x19, x20, x21] := q
theorem r23 (q : L = [x0, x1, x2, x3, x4, x5, x6, x7, x8, x9, x10, x11, x12, x13, x14, x15, x16, x17, x18, x19, x20, x21, x22]) : L = [x0, x1, x2, x3, x4, x5, x6, x7, x8, x9, x10, x11, x12, x13, x14, x15, x16, x17, x18, x19, x20, x21, x22] := q
theorem s23 (q : o = some [x0, x1, x2, x3, x4, x5, x6, x7, x8, x9, x10, x11, x12, x13, x14, x15, x16, x17, x18, x19, x20, x21, x22]) : o = some [x0, x1, x2, x3, x4, x5, x6, x7, x8, x9, x10, x11, x12, x13, x14, x15, x16, x17, x18, x19, x20, x21, x22] := q
theorem r24 (q : L = [x0, x1, x2, x3, x4, x5, x6, x7, x8, x9, x10, x11, x12, x13, x14, x15, x16, x17, x18, x19, x20, x21, x22, x23]) : L = [x0, x1, x2, x3, x4, x5, x6, x7, x8, x9, x10, x11, x12, x13, x14, x15, x16, x17, x18, x19, x20, x21, x22, x23] := q
theorem s24 (q : o = some [x0, x1, x2, x3, x4, x5, x6, x7, x8, x9, x10, x11, x12, x13, x14, x15, x16, x17, x18, x19, x20, x21, x22, x23]) : o = some [x0, x1, x2, x3, x4, x5, x6, x7, x8, x9, x10, x11, x12, x13, x14, x15, x16, x17, x18, x19, x20, x21, x22, x23] := q
theorem r25 (q : L = [x0, x1, x2, x3, x4, x5, x6, x7, x8, x9, x10, x11, x12, x13, x14, x15, x16, x17, x18, x19, x20, x21, x22, x23, x24]) : L = [x0, x1, x2, x3, x4, x5, x6, x7, x8, x9, x10, x11, x12, x13, x14, x15, x16, x17, x18, x19, x20, x21, x22, x23, x24] := q
theorem s25 (q : o = some [x0, x1, x2, x3, x4, x5, x6, x7, x8, x9, x10, x11, x12, x13, x14, x15, x16, x17, x18, x19, x20, x21, x22, x23, x24]) : o = some [x0, x1, x2, x3, x4, x5, x6, x7, x8, x9, x10, x11, x12, x13, x14, x15, x16, x17, x18, x19, x20, x21, x22, x23, x24] := q
theorem r26 (q : L = [x0, x1, x2, x3, x4, x5, x6, x7, x8, x9, x10, x11, x12, x13, x14, x15, x16, x17, x18, x19, x20, x21, x22, x23, x24, x25]) : L = [x0, x1, x2, x3, x4, x5, x6, x7, x8, x9, x10, x11, x12, x13, x14, x15, x16, x17, x18, x19, x20, x21, x22, x23, x24, x25] := q
theorem s26 (q : o = some [x0, x1, x2, x3, x4, x5, x6, x7, x8, x9, x10, x11, x12, x13, x14, x15, x16, x17, x18, x19, x20, x21, x22, x23, x24, x25]) : o = some [x0, x1, x2, x3, x4, x5, x6, x7, x8, x9, x10, x11, x12, x13, x14, x15, x16, x17, x18, x19, x20, x21, x22, x23, x24, x25] := q
theorem r27 (q : L = [x0, x1, x2, x3, x4, x5, x6, x7, x8, x9, x10, x11, x12, x13, x14, x15, x16, x17, x18, x19, x20, x21, x22, x23, x24, x25, x26]) : L = [x0, x1, x2, x3, x4, x5, x6, x7, x8, x9, x10, x11, x12, x13, x14, x15, x16, x17, x18, x19, x20, x21, x22, x23, x24, x25, x26] := q
theorem s27 (q : o = some [x0, x1, x2, x3, x4, x5, x6, x7, x8, x9, x10, x11, x12, x13, x14, x15, x16, x17, x18, x19, x20, x21, x22, x23, x24, x25, x26]) : o = some [x0, x1, x2, x3, x4, x5, x6, x7, x8, x9, x10, x11, x12, x13, x14, x15, x16, x17, x18, x19, x20, x21, x22, x23, x24, x25, x26] := q
theorem r28 (q : L = [x0, x1, x2, x3, x4, x5, x6, x7, x8, x9, x10, x11, x12, x13, x14, x15, x16, x17, x18, x19, x20, x21, x22, x23, x24, x25, x26, x27]) : L = [x0, x1, x2, x3, x4, x5, x6, x7, x8, x9, x10, x11, x12, x13, x14, x15, x16, x17, x18, x19, x20, x21, x22, x23, x24, x25, x26, x27] := q
theorem s28 (q : o = some [x0, x1, x2, x3, x4, x5, x6, x7, x8, x9, x10, x11, x12, x13, x14, x15, x16, x17, x18, x19, x20, x21, x22, x23, x24, x25, x26, x27]) : o = some [x0, x1, x2, x3, x4, x5, x6, x7, x8, x9, x10, x11, x12, x13, x14, x15, x16, x17, x18, x19, x20, x21, x22, x23, x24, x25, x26, x27] := q
theorem r29 (q : L = [x0, x1, x2, x3, x4, x5, x6, x7, x8, x9, x10, x11, x12, x13, x14, x15, x16, x17, x18, x19, x20, x21, x22, x23, x24, x25, x26, x27, x28]) : L = [x0, x1, x2, x3, x4, x5, x6, x7, x8, x9, x10, x11, x12, x13, x14, x15, x16, x17, x18, x19, x20, x21, x22, x23, x24, x25, x26, x27, x28] := q
theorem s29 (q : o = some [x0, x1, x2, x3, x4, x5, x6, x7, x8, x9, x10, x11, x12, x13, x14, x15, x16, x17, x18, x19, x20, x21, x22, x23, x24, x25, x26, x27, x28]) : o = some [x0, x1, x2, x3, x4, x5, x6, x7, x8, x9, x10, x11, x12, x13, x14, x15, x16, x17, x18, x19, x20, x21, x22, x23, x24, x25, x26, x27, x28] := q
end
/-! ### Regions that draw -/
section
variable {P : Program} {N : Nat} {w0 : World} {M L : List Res} {β : Type} {r : β} {K : Kont} {ρ : Env} {m : Option β} {D : World → Prop} {ph : List Nat} {π : List (Nat × Bool)} {ops : Array Oper} {i d : Nat} {op : Op} {ty : TypeId} {ps : String} {af : Array Edge} {gd : Option (Nat × Bool)}
/-- With what the quiet operations lean on. -/
def Jd (P : Program) (N : Nat) (w0 : World) (M L : List Res) {β : Type} (ops : Array Oper) (D : World → Prop) (ph : List Nat) (π : List (Nat × Bool)) (ρ : Env) (m : Option β) (r : β) (K : Kont) : Prop := ∀ w, D w → St w0 w M L → m = some r → Dr P N ops D ph π ρ w K
/-- Without it: the heavy operations that are left. -/
def Jf (P : Program) (N : Nat) (w0 : World) (M L : List Res) {β : Type} (ops : Array Oper) (D : World → Prop) (ph : List Nat) (π : List (Nat × Bool)) (ρ : Env) (m : Option β) (r : β) (K : Kont) : Prop := ∀ w, St w0 w M L → m = some r → Dr P N ops D ph π ρ w K
theorem jn_draw (id : Nat) {l : List Oper} {L' : List Res} (is : List Nat) (ph : List Nat) (phm full : Nat) (ds ms : List Nat) (π : List (Nat × Bool)) [hm : CM P] (hsel : selL (L ++ M) is = some L') (hp : NoPanic K) (hn : Region.noSelect l.toArray = true) (hl : Nat.beq π.length l.length = true)
    (hds : l.map dmask = ds) (hms : okAnc ds ms = true) (hml : Nat.beq ms.length ds.length = true) (hfull : Nat.beq full (2 ^ ds.length - 1) = true) (hph : ((List.range ds.length).all fun j => !phm.testBit j || ph.contains j) = true) (hB : linM l.toArray ds ms phm full π 0 = true)
    (h : Jd P N w0 M L l.toArray (fun w => Sx w0 w (idsM M) L') ph π ρ m r K) : Jn P N w0 M L (.region id l.toArray true) ρ m r K := fun w hs hm' =>
  by
  have hl' : π.length = l.length := by simpa using hl
  unfold Rn
  intro a ha
  refine wp_region_any hm.h (wpAny_of_G (D := fun w => Sx w0 w (idsM M) L') (ph := ph) _ _ _ _ ?_)
  have hQ : ∀ c a w, ¬ lift N K (.panic c) a w := fun c a w ⟨ρ', _, hk⟩ => by unfold NoPanic at hp; exact hp c ρ' w hk
  have hc : Closed l.toArray (Array.replicate l.length false) := fun j o _ hj => by
    rcases Nat.lt_or_ge j l.length with h' | h' <;> simp [h'] at hj
  have hdl : ds.length = l.length := by rw [← hds]; simp
  have hL : Lm ds.length (Array.replicate l.length false) 0 := ⟨by simp [hdl], fun j => by
    rcases Nat.lt_or_ge j l.length with h' | h' <;> simp [h']⟩
  have hd := h { w with drawn := w.drawn + 1 } ((hs.sx hsel).gr (St.drew (St.refl w))) (hs.drew) hm'
  unfold Dr at hd
  have := wpAnyG_linM (P := P) (Q := lift N K) (ops := l.toArray) (by simpa using hds) hms hml hfull hph (fun _ _ h hg => Sx.gr h hg) hQ (Region.noSelect_spec hn) π (Array.replicate l.length false) 0 a { w with drawn := w.drawn + 1 } hc hL hB (hd a ha)
  rw [hl'] at this
  simpa using this
theorem jd_f (h : Jf P N w0 M L ops D ph π ρ m r K) : Jd P N w0 M L ops D ph π ρ m r K := fun w _ hs hm => h w hs hm
theorem jd_y {ids : List Nat} {L' : List Res} {v : Value} (hi : ops[i]? = some ⟨some d, op, ty, ps, af, gd⟩) (hy : ∀ w, Sx w0 w ids L' → Yv P N ρ w ⟨some d, op, ty, ps, af, gd⟩ v) (hg : want ops ρ gd = some true) (hd : Nat.blt d N = true)
    (hk : Jd P N w0 M L ops (fun w => Sx w0 w ids L') ph π ((d, v) :: ρ) m r K) : Jd P N w0 M L ops (fun w => Sx w0 w ids L') ph ((i, true) :: π) ρ m r K := fun w hD hs hm =>
  dr_y hi hy hD hg hd fun w' hgr => hk w' (hD.gr hgr) (hs.call0 hgr) hm
theorem jd_yl {ids : List Nat} {L' : List Res} {k : IntKind} {e : Int} {f : Int → Option β} (hi : ops[i]? = some ⟨some d, op, ty, ps, af, gd⟩) (hy : ∀ w, Sx w0 w ids L' → Yv P N ρ w ⟨some d, op, ty, ps, af, gd⟩ (.int k e)) (hg : want ops ρ gd = some true) (hd : Nat.blt d N = true)
    (hk : ∀ x, Jd P N w0 M L ops (fun w => Sx w0 w ids L') ph π ((d, .int k x) :: ρ) (f x) r K) : Jd P N w0 M L ops (fun w => Sx w0 w ids L') ph ((i, true) :: π) ρ (vl e f) r K := fun w hD hs hm =>
  dr_y hi hy hD hg hd fun w' hgr => hk e w' (hD.gr hgr) (hs.call0 hgr) hm
theorem jd_mv {ids : List Nat} {L' : List Res} {x : Operand} {v : Value} (hi : ops[i]? = some ⟨some d, .move x, ty, ps, af, gd⟩) (hx : evo ρ x = some v) (hg : want ops ρ gd = some true) (hd : Nat.blt d N = true)
    (hk : Jd P N w0 M L ops (fun w => Sx w0 w ids L') ph π ((d, v) :: ρ) m r K) : Jd P N w0 M L ops (fun w => Sx w0 w ids L') ph ((i, true) :: π) ρ m r K := jd_y hi (fun _ _ => yv_move hx) hg hd hk
theorem jd_as {ids : List Nat} {L' : List Res} {x : Operand} {v : Value} (hi : ops[i]? = some ⟨some d, .assign x, ty, ps, af, gd⟩) (hx : evo ρ x = some v) (hg : want ops ρ gd = some true) (hd : Nat.blt d N = true)
    (hk : Jd P N w0 M L ops (fun w => Sx w0 w ids L') ph π ((d, v) :: ρ) m r K) : Jd P N w0 M L ops (fun w => Sx w0 w ids L') ph ((i, true) :: π) ρ m r K := jd_y hi (fun _ _ => yv_assign hx) hg hd hk
theorem jd_skip {ids : List Nat} {L' : List Res} (hi : ops[i]? = some ⟨some d, op, ty, ps, af, gd⟩) (hg : want ops ρ gd = some false) (hd : Nat.blt d N = true)
    (hk : Jd P N w0 M L ops (fun w => Sx w0 w ids L') ph π ((d, undef) :: ρ) m r K) : Jd P N w0 M L ops (fun w => Sx w0 w ids L') ph ((i, true) :: π) ρ m r K := fun w hD hs hm =>
  dr_skip hi hD hg hd fun w' hgr => hk w' (hD.gr hgr) (hs.call0 hgr) hm
theorem jd_c0 {ids : List Nat} {L' : List Res} {α : Type} {f : FuncId} [hf : CFn P f] {xs : List Operand} {vs : List Value} {ts : Array TypeId} {ma : Option α} {k : α → Option β} {U : α → Value} (hi : ops[i]? = some ⟨some d, .call { callee := .value (.func f), args := xs.toArray, argTypes := ts }, ty, ps, af, gd⟩) (hx : evl ρ xs = some vs)
    (hc : ∀ v w, Sx w0 w ids L' → ma = some v → Gives P f vs w (U v)) (hg : want ops ρ gd = some true) (hd : Nat.blt d N = true)
    (hk : ∀ v, Jd P N w0 M L ops (fun w => Sx w0 w ids L') ph π ((d, U v) :: ρ) (k v) r K) : Jd P N w0 M L ops (fun w => Sx w0 w ids L') ph ((i, true) :: π) ρ (bd ma k) r K := fun w hD hs hm => by
  cases hma : ma with
  | none => rw [hma] at hm; cases hm
  | some v =>
    rw [hma] at hm
    exact dr_call0 hi (fun w hw => hc v w hw hma) hx hD hg hd fun w' hgr => hk v w' (hD.gr hgr) (hs.call0 hgr) hm
theorem dr_lit {t : Nat} {b c : Bool} {w : World} (hl : look ρ t = some (.bool b)) (e : b = c) (h : Dr P N ops D ph π ((t, .bool c) :: ρ) w K) : Dr P N ops D ph π ρ w K := by
  unfold Dr at h ⊢
  exact fun a ha => h a (holds_lit ha hl e)
theorem jd_split (t : Nat) {b : Bool} {m1 m2 : Option β} (hl : look ρ t = some (.bool b)) (h1 : Jd P N w0 M L ops D ph π ((t, .bool true) :: ρ) m1 r K) (h2 : Jd P N w0 M L ops D ph π ((t, .bool false) :: ρ) m2 r K) : Jd P N w0 M L ops D ph π ρ (cond b m1 m2) r K := fun w hD hs hm => by
  cases b with
  | true => exact dr_lit hl rfl (h1 w hD hs hm)
  | false => exact dr_lit hl rfl (h2 w hD hs hm)
theorem jf_split (t : Nat) {b : Bool} {m1 m2 : Option β} (hl : look ρ t = some (.bool b)) (h1 : Jf P N w0 M L ops D ph π ((t, .bool true) :: ρ) m1 r K) (h2 : Jf P N w0 M L ops D ph π ((t, .bool false) :: ρ) m2 r K) : Jf P N w0 M L ops D ph π ρ (cond b m1 m2) r K := fun w hs hm => by
  cases b with
  | true => exact dr_lit hl rfl (h1 w hs hm)
  | false => exact dr_lit hl rfl (h2 w hs hm)
theorem jd_ck {c : Bool} (hk : c = true → Jd P N w0 M L ops D ph π ρ m r K) : Jd P N w0 M L ops D ph π ρ (ck c m) r K := fun w hD hs hm => by
  cases c with
  | true => exact hk rfl w hD hs hm
  | false => cases hm
theorem jd_ix {α : Type} {l : List α} {j : Int} {f : α → Option β} (hk : ∀ a, l[j.toNat]? = some a ∧ 0 ≤ j → Jd P N w0 M L ops D ph π ρ (f a) r K) : Jd P N w0 M L ops D ph π ρ (ix l j f) r K := fun w hD hs hm => by
  unfold ix at hm
  by_cases h0 : 0 ≤ j
  · rw [if_pos h0] at hm
    cases ha : l[j.toNat]? with
    | none => rw [ha] at hm; cases hm
    | some a => rw [ha] at hm; exact hk a ⟨ha, h0⟩ w hD hs hm
  · rw [if_neg h0] at hm; cases hm
/-- A heavy operation. -/
theorem jd_h {o : Oper} (hi : ops[i]? = some o) (h : Jg P N w0 M L ops [o] ρ m r (kDr P N ops D ph i π K)) : Jd P N w0 M L ops D ph ((i, false) :: π) ρ m r K := fun w _ hs hm => dr_h hi (h w hs hm)
theorem jf_h {o : Oper} (hi : ops[i]? = some o) (h : Jg P N w0 M L ops [o] ρ m r (kDr P N ops D ph i π K)) : Jf P N w0 M L ops D ph ((i, false) :: π) ρ m r K := fun w hs hm => dr_h hi (h w hs hm)
theorem jk_dn {L' : List Res} (is : List Nat) (hsel : selL (L ++ M) is = some L') (h : Jd P N w0 M L ops (fun w => Sx w0 w (idsM M) L') ph π ρ m r K) : Jk w0 M L .normal ρ m r (kDr P N ops (fun w => Sx w0 w (idsM M) L') ph i π K) := fun w hs hm =>
  kd_n (hs.sx hsel) fun w' hg => h w' ((hs.sx hsel).gr hg) (hs.call0 hg) hm
theorem jk_df (hi : ph.contains i = false) (h : Jf P N w0 M L ops D ph π ρ m r K) : Jk w0 M L .normal ρ m r (kDr P N ops D ph i π K) := fun w hs hm =>
  kd_last hi fun w' hg => h w' (hs.call0 hg) hm
theorem jd_nils (r' : Env) (hs : Sub r' ρ) (h : Jk w0 M L .normal r' m r K) : Jd P N w0 M L ops D ph [] ρ m r K := fun w _ hs' hm => dr_nils r' hs (h w hs' hm)
theorem jf_nils (r' : Env) (hs : Sub r' ρ) (h : Jk w0 M L .normal r' m r K) : Jf P N w0 M L ops D ph [] ρ m r K := fun w hs' hm => dr_nils r' hs (h w hs' hm)
end
attribute [irreducible] vl ck ix lp jp bd
end Go.Hy
