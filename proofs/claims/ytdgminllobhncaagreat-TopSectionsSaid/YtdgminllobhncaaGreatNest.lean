/-
  Nests: rows in rows.
-/
import Derived.Test.YtdgminllobhncaaGreatClo
import Derived.Scope
namespace Go.Hy
set_option linter.unusedVariables false
set_option linter.unusedSimpArgs false
set_option maxHeartbeats 2000000
set_option maxRecDepth 10000
open Go.RowKit

@[reducible] def rw1 {α : Type} (d : Hd) (e : TypeId) (sz : Nat) (enc : α → List Value) (x : List α) : Rw := ⟨d.A, d.c, e, sz, d.n, cellsOf enc x⟩
/-- The row reads as its cells. -/
structure Rw.rd (w : World) (r : Rw) : Prop where
  c : r.n ≤ r.cap
  m : r.n ≤ 9223372036854775807
  l : r.xs.length = r.n * r.sz
  r : 0 < r.n → ∃ ad, r.A = some ad ∧ ad.block < w.heap.size ∧ ∀ j u, r.xs[j]? = some u → w.cell? (ad.add j) = some u
def Rw.nil (r : Rw) : Prop := r.A = none ∧ r.cap = 0 ∧ r.n = 0 ∧ r.xs = []
theorem Rw.nil.rd {w : World} {r : Rw} (h : r.nil) : r.rd w := by
  obtain ⟨_, h2, h3, h4⟩ := h
  exact ⟨by omega, by omega, by rw [h4, h3]; simp, fun hn => by omega⟩
theorem rowOk.rd {w : World} {r : Rw} (h : rowOk w r.A r.cap r.e r.sz r.n r.xs) : r.rd w := by
  refine ⟨by rcases h.2.2 with ⟨_, h1, h2⟩ | ⟨_, _, _, _, _, h1, _⟩ <;> omega, by have := h.2.1; omega, h.1, fun hn => ?_⟩
  rcases h.2.2 with ⟨_, h0, _⟩ | ⟨g, o, cur, hA, _⟩
  · omega
  · exact ⟨_, hA, h.lt (by rw [hA]; rfl), h.cells hA⟩
section
variable {α : Type} {w : World} {d : Hd} {e : TypeId} {sz : Nat} {enc : α → List Value} {x : List α}
theorem Rw.rd.sl [he : En enc sz] (h : (rw1 d e sz enc x).rd w) : Sl w d enc x := by
  obtain ⟨hc, hm, hl, hr⟩ := h
  have hn : x.length = d.n := by
    rw [he.flen] at hl
    exact Nat.eq_of_mul_eq_mul_right he.pos hl
  exact ⟨⟨sz, he, he.len, by rw [hn]; exact hm, fun hp => by obtain ⟨ad, h1, _, h2⟩ := hr (by show 0 < d.n; omega); exact ⟨ad, h1, h2⟩⟩, hn, hc⟩
theorem Sl.rdw [he : En enc sz] (e : TypeId) (h : Sl w d enc x) : (rw1 d e sz enc x).rd w := by
  have h1 := h.n
  have h2 := h.c
  have h3 := h.max
  refine ⟨h2, h3, by show (cellsOf enc x).length = d.n * sz; rw [he.flen, h1], fun hn => ?_⟩
  have hn : 0 < d.n := hn
  have hp : 0 < x.length := by omega
  have hrd := h.rd (sz := sz) (List.getElem?_eq_getElem hp)
  obtain ⟨ad, hA, hcells⟩ := hrd.rd hp
  exact ⟨ad, hA, hrd.lt he.pos ad hA hp, hcells⟩
end
theorem map_at {α η : Type} {q : List (α × η)} {l : List α} {i : Nat} {x : α} (h : q.map (·.1) = l) (hx : l[i]? = some x) : ∃ d, q[i]? = some (x, d) := by
  rw [← h, List.getElem?_map] at hx
  cases hq : q[i]? with
  | none => rw [hq] at hx; cases hx
  | some p =>
    rw [hq] at hx
    obtain rfl := Option.some.inj hx
    exact ⟨p.2, rfl⟩
/-- Things with lists in them: how they lie (with the lists' headers), and the rows of their lists. -/
class Nt (α η : Type) where
  enc : α × η → List Value
  parts : α × η → List Rw
section
variable {α η : Type} [Nt α η]
def rdN (w : World) (p : α × η) : Prop := ∀ r ∈ Nt.parts p, r.rd w
def offN (ids : List Nat) (p : α × η) : Prop := ∀ r ∈ Nt.parts p, 0 < r.n → ∀ i ∈ ids, Off r.A i
/-- The lists lie in these rows, or are nil, or lie where 'ar' says. -/
def okN (ar : Rw → Prop) (rs : List Rw) (p : α × η) : Prop := ∀ r ∈ Nt.parts p, r ∈ rs ∨ r.nil ∨ ar r
abbrev noAr : Rw → Prop := fun _ => False
/-- A list of such things. -/
def NF (ar : Rw → Prop) (rs : List Rw) (q : List (α × η)) (l : List α) : Prop := q.map (·.1) = l ∧ ∀ p ∈ q, okN ar rs p
variable {ar : Rw → Prop} {rs rs' : List Rw} {q q2 : List (α × η)} {l l2 : List α} {w : World} {p : α × η}
theorem rdN.sl (h : rdN w p) {β : Type} {d : Hd} {e : TypeId} {sz : Nat} {enc : β → List Value} {x : List β} [En enc sz] (hm : rw1 d e sz enc x ∈ Nt.parts p) : Sl w d enc x := (h _ hm).sl
theorem offN.off {ids : List Nat} (h : offN ids p) {β : Type} {d : Hd} {e : TypeId} {sz : Nat} {enc : β → List Value} {x : List β} (hm : rw1 d e sz enc x ∈ Nt.parts p) : Offs d ids := h _ hm
theorem okN.mono (h : okN ar rs p) (hs : ∀ r ∈ rs, r ∈ rs') : okN ar rs' p := fun r hr => (h r hr).imp (hs r) id
theorem NF.nil : NF ar rs ([] : List (α × η)) [] := ⟨rfl, fun p hp => by cases hp⟩
theorem NF.mono (h : NF ar rs q l) (hs : ∀ r ∈ rs, r ∈ rs') : NF ar rs' q l := ⟨h.1, fun p hp => (h.2 p hp).mono hs⟩
theorem NF.app (h : NF ar rs q l) (h2 : NF ar rs q2 l2) {l' : List α} (e : l' = l ++ l2) : NF ar rs (q ++ q2) l' := ⟨by rw [List.map_append, h.1, h2.1, e], fun p hp => (List.mem_append.1 hp).elim (h.2 p) (h2.2 p)⟩
theorem NF.one {x : α} {d : η} (h : okN ar rs (x, d)) : NF ar rs [(x, d)] [x] := ⟨rfl, fun p hp => by rw [List.mem_singleton.1 hp]; exact h⟩
theorem NF.set (h : NF ar rs q l) {i : Nat} {a : α} {d : η} {l' : List α} (hn : okN ar rs (a, d)) (e : l' = l.set i a) : NF ar rs (q.set i (a, d)) l' := ⟨by rw [List.map_set, h.1, e], fun p hp => by
  rcases List.mem_or_eq_of_mem_set hp with hp | rfl
  · exact h.2 p hp
  · exact hn⟩
theorem NF.setp (h : NF ar rs q l) {i : Nat} {a : α} {d : η} {l' : List α} (hq : q[i]? = some p) (hp : Nt.parts (a, d) = Nt.parts p) (e : l' = l.set i a) : NF ar rs (q.set i (a, d)) l' := h.set (fun r hr => h.2 p (List.mem_of_getElem? hq) r (hp ▸ hr)) e
theorem NF.take (h : NF ar rs q l) (n : Nat) : NF ar rs (q.take n) (l.take n) := ⟨by rw [List.map_take, h.1], fun p hp => h.2 p (List.mem_of_mem_take hp)⟩
theorem NF.at (h : NF ar rs q l) {i : Nat} {p : α × η} (hq : q[i]? = some p) : okN ar rs p := h.2 p (List.mem_of_getElem? hq)
end
/-! ### Nested things that were there -/
section
variable {w0 w : World} {M L : List Res}
theorem Rw.rd.sx {ids : List Nat} {r : Rw} (k : r.rd w0) (ho : 0 < r.n → ∀ i ∈ ids, Off r.A i) (hx : Sx w0 w ids L) : r.rd w := by
  obtain ⟨hc, hm, hl, hr⟩ := k
  refine ⟨hc, hm, hl, fun hn => ?_⟩
  obtain ⟨ad, hA, hb, hcells⟩ := hr hn
  refine ⟨ad, hA, Nat.lt_of_lt_of_le hb hx.size, fun j u hu => ?_⟩
  rw [World.cell?_of_block (w := w0) (by rw [block_add]; exact hx.old _ hb fun i hi e => ho hn i hi ad hA e.symm)]
  exact hcells j u hu
variable {α η : Type} [Nt α η] {q : List (α × η)}
theorem St.argN (hs : St w0 w [] L) (D : ∀ p ∈ q, rdN w0 p) : ∀ p ∈ q, rdN w p := fun p hp r hr => (D p hp r hr).sx (ids := []) (fun _ i hi => by cases hi) (hs.sx (is := []) rfl)
theorem Sx.argN (hs : Sx w0 w [] L) (D : ∀ p ∈ q, rdN w0 p) : ∀ p ∈ q, rdN w p := fun p hp r hr => (D p hp r hr).sx (ids := []) (fun _ i hi => by cases hi) hs
theorem St.argNM {g : Nat} {t : TypeId} {cs : List Value} (hs : St w0 w [.blk g t cs] L) (D : ∀ p ∈ q, rdN w0 p) (O : ∀ p ∈ q, offN [g] p) : ∀ p ∈ q, rdN w p := fun p hp r hr => (D p hp r hr).sx (ids := [g]) (O p hp r hr) (hs.sx (is := []) rfl)
theorem Sx.argNM {g : Nat} (hs : Sx w0 w [g] L) (D : ∀ p ∈ q, rdN w0 p) (O : ∀ p ∈ q, offN [g] p) : ∀ p ∈ q, rdN w p := fun p hp r hr => (D p hp r hr).sx (ids := [g]) (O p hp r hr) hs
end
section
variable {w0 w : World} {M L L' : List Res} {rs rs2 : List Rw} {p p' p2 : Prop} {i j : Nat}
theorem St.nP (hs : St w0 w M L) (i : Nat) (hi : L[i]? = some (.nest rs p)) : p := (hs.hl _ (List.mem_of_getElem? hi)).1
theorem Sx.nP {ids : List Nat} (hs : Sx w0 w ids L) (i : Nat) (hi : L[i]? = some (.nest rs p)) : p := (hs.hl _ (List.mem_of_getElem? hi)).1
theorem St.addnest (hs : St w0 w M L) (hp : p) : St w0 w M (.nest [] p :: L) :=
  hs.cons ⟨hp, fun r hr => (by cases hr), List.Pairwise.nil⟩ (fun k ⟨r, hr, _⟩ => (by cases hr)) (fun s _ k ⟨r, hr, _⟩ => (by cases hr))
/-- The same things, some of them left, one of them turned into one that has no more blocks than two of them. -/
theorem St.two (hs : St w0 w M L) {r0 r1 r' : Res} (hij : Nat.beq i j = false) (hi : L[i]? = some r0) (hj : L[j]? = some r1) (hh : r'.holds w) (hk : ∀ k, r'.has k → r0.has k ∨ r1.has k) {is : List Nat} (hsel : selL (L.set i r') is = some L') (hd : distinct is = true) (hn : is.contains j = false) : St w0 w M L' := by
  obtain ⟨h1, h2⟩ := selL_spec hsel
  have hij : i ≠ j := by rintro rfl; simp at hij
  have hil : i < L.length := (List.getElem?_eq_some_iff.1 hi).1
  have cases_ : ∀ (a : Nat) (r : Res), is.contains a = true → (L.set i r')[a]? = some r → (a = i ∧ r = r') ∨ (a ≠ i ∧ a ≠ j ∧ L[a]? = some r) := fun a r ha hr => by
    by_cases e : a = i
    · subst e
      rw [List.getElem?_set_self hil] at hr
      exact .inl ⟨rfl, (Option.some.inj hr).symm⟩
    · rw [List.getElem?_set_ne (Ne.symm e)] at hr
      refine .inr ⟨e, ?_, hr⟩
      rintro rfl
      rw [ha] at hn
      cases hn
  have each : ∀ (b : Nat) (r : Res), L'[b]? = some r → ∃ a, is[b]? = some a ∧ ((a = i ∧ r = r') ∨ (a ≠ i ∧ a ≠ j ∧ L[a]? = some r)) := fun b r hb => by
    obtain ⟨a, ha, hr⟩ := h2 b r hb
    exact ⟨a, ha, cases_ a r (by rw [List.contains_iff_mem]; exact List.mem_of_getElem? ha) hr⟩
  have ap : ∀ (a : Nat) (r : Res), a ≠ i → a ≠ j → L[a]? = some r → Apart r' r := fun a r h3 h4 hr k hk1 hk2 => by
    rcases hk k hk1 with h5 | h5
    · exact pairwise_get hs.lne hi hr (Ne.symm h3) k h5 hk2
    · exact pairwise_get hs.lne hj hr (Ne.symm h4) k h5 hk2
  refine ⟨hs.os, hs.tape, hs.output, hs.size, hs.old, hs.hm, hs.mlt, hs.mne, fun r hr => ?_, fun r hr k hk1 => ?_, ?_⟩
  · obtain ⟨b, hb⟩ := List.mem_iff_getElem?.1 hr
    obtain ⟨a, _, h3 | h3⟩ := each b r hb
    · rw [h3.2]; exact hh
    · exact hs.hl r (List.mem_of_getElem? h3.2.2)
  · obtain ⟨b, hb⟩ := List.mem_iff_getElem?.1 hr
    obtain ⟨a, _, h3 | h3⟩ := each b r hb
    · rw [h3.2] at hk1
      rcases hk k hk1 with h5 | h5
      · exact hs.lge _ (List.mem_of_getElem? hi) k h5
      · exact hs.lge _ (List.mem_of_getElem? hj) k h5
    · exact hs.lge r (List.mem_of_getElem? h3.2.2) k hk1
  · refine List.pairwise_iff_getElem.2 fun b c hb hc hbc => ?_
    obtain ⟨a1, ha1, h3⟩ := each b _ (List.getElem?_eq_getElem hb)
    obtain ⟨a2, ha2, h4⟩ := each c _ (List.getElem?_eq_getElem hc)
    have hne : a1 ≠ a2 := by
      have hn := List.pairwise_iff_getElem.1 (distinct_spec hd) b c (by omega) (by omega) hbc
      rw [List.getElem?_eq_getElem (by omega)] at ha1 ha2
      rw [← Option.some.inj ha1, ← Option.some.inj ha2]
      exact hn
    rcases h3 with ⟨e1, e2⟩ | ⟨e1, e3, e2⟩ <;> rcases h4 with ⟨g1, g2⟩ | ⟨g1, g3, g2⟩
    · exact absurd (e1.trans g1.symm) hne
    · rw [e2]; exact ap a2 _ g1 g3 g2
    · rw [g2]; exact (ap a1 _ e1 e3 e2).symm
    · exact pairwise_get hs.lne e2 g2 hne
/-- A row goes into a nest. -/
theorem St.absorb (hs : St w0 w M L) {A : Option Addr} {c : Nat} {e : TypeId} {sz n : Nat} {xs : List Value} (hij : Nat.beq i j = false) (hi : L[i]? = some (.nest rs p)) (hj : L[j]? = some (.row A c e sz n xs)) (hp : p → p') {is : List Nat} (hsel : selL (L.set i (.nest (⟨A, c, e, sz, n, xs⟩ :: rs) p')) is = some L') (hd : distinct is = true) (hn : is.contains j = false) : St w0 w M L' := by
  have h1 := hs.hl _ (List.mem_of_getElem? hi)
  have h2 : rowOk w A c e sz n xs := hs.hl _ (List.mem_of_getElem? hj)
  have hne : j ≠ i := by rintro rfl; simp at hij
  have hap := pairwise_get hs.lne hj hi hne
  refine hs.two hij hi hj (r' := .nest (⟨A, c, e, sz, n, xs⟩ :: rs) p') ⟨hp h1.1, fun r hr => ?_, List.pairwise_cons.2 ⟨fun r hr k hk hk2 => hap k hk ⟨r, hr, hk2⟩, h1.2.2⟩⟩ (fun k ⟨r, hr, hk⟩ => ?_) hsel hd hn
  · rcases List.mem_cons.1 hr with rfl | hr
    · exact h2
    · exact h1.2.1 r hr
  · rcases List.mem_cons.1 hr with rfl | hr
    · exact .inr hk
    · exact .inl ⟨r, hr, hk⟩
/-- Two nests become one. -/
theorem St.merge (hs : St w0 w M L) (hij : Nat.beq i j = false) (hi : L[i]? = some (.nest rs p)) (hj : L[j]? = some (.nest rs2 p2)) (hp : p → p2 → p') {is : List Nat} (hsel : selL (L.set i (.nest (rs ++ rs2) p')) is = some L') (hd : distinct is = true) (hn : is.contains j = false) : St w0 w M L' := by
  have h1 := hs.hl _ (List.mem_of_getElem? hi)
  have h2 := hs.hl _ (List.mem_of_getElem? hj)
  have hne : i ≠ j := by rintro rfl; simp at hij
  have hap := pairwise_get hs.lne hi hj hne
  refine hs.two hij hi hj (r' := .nest (rs ++ rs2) p') ⟨hp h1.1 h2.1, fun r hr => (List.mem_append.1 hr).elim (h1.2.1 r) (h2.2.1 r), List.pairwise_append.2 ⟨h1.2.2, h2.2.2, fun a ha b hb k hka hkb => hap k ⟨a, ha, hka⟩ ⟨b, hb, hkb⟩⟩⟩ (fun k ⟨r, hr, hk⟩ => ?_) hsel hd hn
  rcases List.mem_append.1 hr with hr | hr
  · exact .inl ⟨r, hr, hk⟩
  · exact .inr ⟨r, hr, hk⟩
/-- Another fact. -/
theorem St.refact (hs : St w0 w M L) (hi : L[i]? = some (.nest rs p)) (hp : p → p') : St w0 w M (L.set i (.nest rs p')) := by
  have h1 := hs.hl _ (List.mem_of_getElem? hi)
  exact hs.turn hi (r' := .nest rs p') ⟨hp h1.1, h1.2.1, h1.2.2⟩ rfl rfl rfl (Nat.le_refl _) (fun _ _ _ => rfl) (fun k hk => .inl hk)
end
section
variable {P : Program} {N : Nat} {w0 : World} {M L : List Res} {β : Type} {r : β} {K : Kont} {ρ : Env} {ops : Array Oper} {rest : List Oper} {ph : List Nat} {π : List (Nat × Bool)} {α η : Type} {l : List α} {q : List (α × η)} {i : Int} {f : α → Option β}
theorem jg_ixq (hq : ∀ w, St w0 w M L → q.map (·.1) = l) (hk : ∀ x d, q[i.toNat]? = some (x, d) ∧ 0 ≤ i → Jg P N w0 M L ops rest ρ (f x) r K) : Jg P N w0 M L ops rest ρ (ix l i f) r K := fun w hs hm =>
  jg_ix (f := f) (fun x ⟨hx, h0⟩ => by
    obtain ⟨d, hd⟩ := map_at (hq w hs) hx
    exact hk x d ⟨hd, h0⟩) w hs hm
theorem jd_ixq {ids : List Nat} {L' : List Res} (hq : ∀ w, Sx w0 w ids L' → q.map (·.1) = l) (hk : ∀ x d, q[i.toNat]? = some (x, d) ∧ 0 ≤ i → Jd P N w0 M L ops (fun w => Sx w0 w ids L') ph π ρ (f x) r K) : Jd P N w0 M L ops (fun w => Sx w0 w ids L') ph π ρ (ix l i f) r K := fun w hD hs hm =>
  jd_ix (f := f) (fun x ⟨hx, h0⟩ => by
    obtain ⟨d, hd⟩ := map_at (hq w hD) hx
    exact hk x d ⟨hd, h0⟩) w hD hs hm
end
/-! ### Views, lengths, apartness -/
section
variable {α η : Type} [Nt α η] {q : List (α × η)} {l : List α} {w0 w : World} {M L : List Res} {P : Program} {N : Nat} {ρ : Env} {d : Option Nat} {T ty : TypeId} {ps : String} {af : Array Edge} {gd : Option (Nat × Bool)} {h : Hd} {sz : Nat} {n : Nat}
omit [Nt α η] in
theorem eq_take (e : q.map (·.1) = l) : (q.take n).map (·.1) = l.take n := by rw [List.map_take, e]
omit [Nt α η] in
theorem eq_drop (e : q.map (·.1) = l) : (q.drop n).map (·.1) = l.drop n := by rw [List.map_drop, e]
omit [Nt α η] in
theorem nlen (e : q.map (·.1) = l) {j : Int} (hj : 0 ≤ j ∧ j ≤ (l.length : Int)) : 0 ≤ j ∧ j ≤ (q.length : Int) := by rw [← e, List.length_map] at hj; exact hj
theorem rd_take (h : ∀ p ∈ q, rdN w p) : ∀ p ∈ q.take n, rdN w p := fun p hp => h p (List.mem_of_mem_take hp)
theorem rd_drop (h : ∀ p ∈ q, rdN w p) : ∀ p ∈ q.drop n, rdN w p := fun p hp => h p (List.mem_of_mem_drop hp)
omit [Nt α η] in
theorem yv_lnq {enc : α × η → List Value} {x : Operand} {e : TypeId} {b : Nat} {z : Value} [hc : CL P T e sz b z] (eq : q.map (·.1) = l) (hx : evo ρ x = some h.v) (hr : Sl w h enc q) : Yv P N ρ w ⟨d, .call { callee := .builtin .len, args := #[x], argTypes := #[T] }, ty, ps, af, gd⟩ (.int .i64 (l.length : Int)) := by
  have := yv_ln (d := d) (ty := ty) (ps := ps) (af := af) (gd := gd) (T := T) (P := P) (N := N) hx hr
  rw [← eq, List.length_map]
  exact this
theorem St.offNA (hs : St w0 w M L) (j : Nat) {g : Nat} {t : TypeId} {cs : List Value} (D : ∀ p ∈ q, rdN w0 p) (hj : L[j]? = some (.blk g t cs)) : ∀ p ∈ q, offN [g] p := fun p hp r hr hn k hk => by
  simp only [List.mem_singleton] at hk
  subst hk
  obtain ⟨ad, hA, hb, _⟩ := (D p hp r hr).r hn
  have hge := hs.lge _ (List.mem_of_getElem? hj) k rfl
  intro ad' hA' e
  rw [hA] at hA'
  obtain rfl := Option.some.inj hA'
  omega
theorem St.offNN (hs : St w0 w M L) (i j : Nat) {rs : List Rw} {pp : Prop} {g : Nat} {t : TypeId} {cs : List Value} (hi : L[i]? = some (.nest rs pp)) (hj : L[j]? = some (.blk g t cs)) (h : ∀ p ∈ q, okN noAr rs p) : ∀ p ∈ q, offN [g] p := fun p hp r hr hn k hk => by
  simp only [List.mem_singleton] at hk
  subst hk
  intro ad hA e
  rcases h p hp r hr with h1 | h1 | h1
  · refine pairwise_get hs.lne hi hj (fun hij => ?_) k ⟨r, h1, ?_⟩ rfl
    · subst hij; rw [hi] at hj; cases hj
    · unfold Rw.has; rw [hA, ← e]; rfl
  · have := h1.2.2.1; omega
  · exact h1
end
/-! ### Nested things of the call's own -/
section
variable {P : Program} {N : Nat} {w0 : World} {M L : List Res} {β : Type} {r : β} {K : Kont} {ρ : Env} {ops : Array Oper} {rest : List Oper} {m : Option β} {α η : Type} [Nt α η] {d : Nat} {ty : TypeId} {ps : String} {af : Array Edge} {gd : Option (Nat × Bool)} {rs : List Rw} {p p' : Prop}
theorem ck_t {b : Bool} {m : Option β} (h : b = true) : ck b m = m := by rw [h]; unfold ck; rfl
theorem vl_q {α : Type} {e : α} {f : α → Option β} : vl e f = f e := by unfold vl; rfl
theorem jg_addnest (hk : Jg P N w0 M (.nest [] True :: L) ops rest ρ m r K) : Jg P N w0 M L ops rest ρ m r K := fun w hs hm => hk w (hs.addnest trivial) hm
theorem jk_addnest {x : Exit} (hk : Jk w0 M (.nest [] True :: L) x ρ m r K) : Jk w0 M L x ρ m r K := fun w hs hm => hk w (hs.addnest trivial) hm
theorem jn_addnest {c : Code} (hk : Jn P N w0 M (.nest [] True :: L) c ρ m r K) : Jn P N w0 M L c ρ m r K := fun w hs hm => hk w (hs.addnest trivial) hm
theorem jg_refact {i : Nat} (p' : Prop) (hi : L[i]? = some (.nest rs p)) (hp : p → p') {L' : List Res} (hL : L.set i (.nest rs p') = L') (hk : Jg P N w0 M L' ops rest ρ m r K) : Jg P N w0 M L ops rest ρ m r K := fun w hs hm => hk w (hL ▸ hs.refact hi hp) hm
theorem jk_refact {i : Nat} (p' : Prop) {x : Exit} (hi : L[i]? = some (.nest rs p)) (hp : p → p') {L' : List Res} (hL : L.set i (.nest rs p') = L') (hk : Jk w0 M L' x ρ m r K) : Jk w0 M L x ρ m r K := fun w hs hm => hk w (hL ▸ hs.refact hi hp) hm
theorem jn_refact {i : Nat} (p' : Prop) {c : Code} (hi : L[i]? = some (.nest rs p)) (hp : p → p') {L' : List Res} (hL : L.set i (.nest rs p') = L') (hk : Jn P N w0 M L' c ρ m r K) : Jn P N w0 M L c ρ m r K := fun w hs hm => hk w (hL ▸ hs.refact hi hp) hm
section
variable {i j : Nat} {is : List Nat} {L' : List Res} {h : Hd} {e : TypeId} {sz : Nat} {α' : Type} {enc : α' → List Value} {l : List α'}
theorem jg_absorb (p' : Prop) (hij : Nat.beq i j = false) (hi : L[i]? = some (.nest rs p)) (hj : L[j]? = some (rowH h e sz enc l)) (hp : p → p') (hsel : selL (L.set i (.nest (rw1 h e sz enc l :: rs) p')) is = some L') (hd : distinct is = true) (hn : is.contains j = false) (hk : Jg P N w0 M L' ops rest ρ m r K) : Jg P N w0 M L ops rest ρ m r K := fun w hs hm => hk w (hs.absorb hij hi hj hp hsel hd hn) hm
theorem jk_absorb (p' : Prop) {x : Exit} (hij : Nat.beq i j = false) (hi : L[i]? = some (.nest rs p)) (hj : L[j]? = some (rowH h e sz enc l)) (hp : p → p') (hsel : selL (L.set i (.nest (rw1 h e sz enc l :: rs) p')) is = some L') (hd : distinct is = true) (hn : is.contains j = false) (hk : Jk w0 M L' x ρ m r K) : Jk w0 M L x ρ m r K := fun w hs hm => hk w (hs.absorb hij hi hj hp hsel hd hn) hm
theorem jg_merge {rs2 : List Rw} {p2 : Prop} (p' : Prop) (hij : Nat.beq i j = false) (hi : L[i]? = some (.nest rs p)) (hj : L[j]? = some (.nest rs2 p2)) (hp : p → p2 → p') (hsel : selL (L.set i (.nest (rs ++ rs2) p')) is = some L') (hd : distinct is = true) (hn : is.contains j = false) (hk : Jg P N w0 M L' ops rest ρ m r K) : Jg P N w0 M L ops rest ρ m r K := fun w hs hm => hk w (hs.merge hij hi hj hp hsel hd hn) hm
end
omit [Nt α η] in
open Classical in
theorem jg_appendN (i : Nat) {T : TypeId} {x y : Operand} {e : TypeId} {sz b : Nat} {z : Value} [hc : CL P T e sz b z] {enc : α × η → List Value} [he : En enc sz] {h h2 : Hd} {q q2 : List (α × η)} {l l2 : List α} {F : List α → Option β}
    (hx : evo ρ x = some h.v) (hi : L[i]? = some (rowH h e sz enc q)) (hy : evo ρ y = some h2.v) (hq : ∀ w, St w0 w M L → q.map (·.1) = l) (hq2 : ∀ w, St w0 w M L → q2.map (·.1) = l2) (hr : ∀ w, St w0 w M L → Sl w h2 enc q2) (hsb : Nat.ble b 100000 = true) (hg : want ops ρ gd = some true) (hd : Nat.blt d N = true)
    (hk : ∀ (l' : List α) (h' : Hd), l' = l ++ l2 → Jg P N w0 M (L.set i (rowH h' e sz enc (q ++ q2))) ops rest ((d, h'.v) :: ρ) (F l') r K) :
    Jg P N w0 M L ops (⟨some d, .call { callee := .builtin .append, args := #[x, y], argTypes := #[T, T] }, ty, ps, af, gd⟩ :: rest) ρ (ck (decide (l.length + l2.length ≤ 1000000000)) (vl (l ++ l2) F)) r K := fun w hs hm => by
  have e1 := hq w hs
  have e2 := hq2 w hs
  refine jg_append (r := r) i (l := q) (l2 := q2) (f := fun q' => if q' = q ++ q2 then F (l ++ l2) else none) hx hi hy hr hsb hg hd (fun q' h' w' hs' hm' => ?_) w hs ?_
  · by_cases hqq : q' = q ++ q2
    · subst hqq
      rw [if_pos rfl] at hm'
      exact hk _ h' rfl w' hs' hm'
    · rw [if_neg hqq] at hm'; cases hm'
  · rw [vl_q, if_pos rfl]
    rw [vl_q] at hm
    have h1 : q.length = l.length := by rw [← e1, List.length_map]
    have h2 : q2.length = l2.length := by rw [← e2, List.length_map]
    rw [h1, h2]
    exact hm
omit [Nt α η] in
open Classical in
/-- A store into the flat part of an element. -/
theorem jg_storeN (i : Nat) {T : TypeId} {x y : Operand} {e : TypeId} {sz k o s : Nat} [hz : CN P T s] {enc : α × η → List Value} [he : En enc sz] {h : Hd} {q : List (α × η)} {l : List α} {a : α × η} {a' : α} {v : Value} {vs : List Value} {F : List α → Option β}
    (hx : evo ρ x = some (ep h.A k sz o)) (hi : L[i]? = some (rowH h e sz enc q)) (ha : q[k]? = some a) (hy : evo ρ y = some v) (hv : v.cells.toList = vs) (hl : vs.length = s) (hfit : Nat.ble (o + s) sz = true) (hp : putCells (enc a) o vs = enc (a', a.2)) (hg : want ops ρ gd = some true)
    (hk : ∀ l', l' = l.set k a' → Jg P N w0 M (L.set i (rowH h e sz enc (q.set k (a', a.2)))) ops rest ρ (F l') r K) :
    Jg P N w0 M L ops (⟨none, .store T x y, ty, ps, af, gd⟩ :: rest) ρ (vl (l.set k a') F) r K := fun w hs hm => by
  refine jg_storeE (r := r) i (l := q) (a := a) (a' := (a', a.2)) (f := fun q' => if q' = q.set k (a', a.2) then F (l.set k a') else none) hx hi ha hy hv hl hfit hp hg (fun q' w' hs' hm' => ?_) w hs ?_
  · by_cases hqq : q' = q.set k (a', a.2)
    · subst hqq
      rw [if_pos rfl] at hm'
      exact hk _ rfl w' hs' hm'
    · rw [if_neg hqq] at hm'; cases hm'
  · rw [vl_q, if_pos rfl]
    rw [vl_q] at hm
    exact hm
variable {ar : Rw → Prop} {rs' : List Rw} {r0 : Rw} {q q2 : List (α × η)} {l l2 : List α}
theorem mn1 : ∀ r ∈ rs, r ∈ r0 :: rs := fun _ h => .tail _ h
theorem mnl : ∀ r ∈ rs, r ∈ rs ++ rs' := fun _ h => List.mem_append_left _ h
theorem mnr : ∀ r ∈ rs', r ∈ rs ++ rs' := fun _ h => List.mem_append_right _ h
theorem ok0 : ∀ r ∈ ([] : List Rw), r ∈ rs ∨ r.nil ∨ ar r := fun _ h => by cases h
theorem okc {lr : List Rw} (h1 : r0 ∈ rs ∨ r0.nil ∨ ar r0) (h2 : ∀ r ∈ lr, r ∈ rs ∨ r.nil ∨ ar r) : ∀ r ∈ r0 :: lr, r ∈ rs ∨ r.nil ∨ ar r := fun r hr => by
  rcases List.mem_cons.1 hr with rfl | hr
  · exact h1
  · exact h2 r hr
theorem nil0 {e : TypeId} {sz : Nat} {α : Type} {enc : α → List Value} : (rw1 ⟨none, 0, 0⟩ e sz enc ([] : List α)).nil := ⟨rfl, rfl, rfl, rfl⟩
/-- Things of another call: they lie in its rows, or where the caller's lie. -/
def arOf (q : List (α × η)) : Rw → Prop := fun r => ∃ p ∈ q, r ∈ Nt.parts p
theorem NF.from (h : NF (arOf q2) rs q l) (h2 : ∀ p ∈ q2, okN ar rs' p) {rs3 : List Rw} (hs : ∀ r ∈ rs, r ∈ rs3) (hs' : ∀ r ∈ rs', r ∈ rs3) : NF ar rs3 q l := ⟨h.1, fun p hp r hr => by
  rcases h.2 p hp r hr with h1 | h1 | ⟨p2, hp2, hr2⟩
  · exact .inl (hs _ h1)
  · exact .inr (.inl h1)
  · exact (h2 p2 hp2 r hr2).imp (hs' r) id⟩
end
/-! ### Reading what lies in the nest; facts; capped views -/
theorem noAr_rd {w : World} : ∀ r, noAr r → r.rd w := fun _ h => h.elim
section
variable {α η : Type} [Nt α η] {q : List (α × η)} {l : List α} {w0 w : World} {M L : List Res} {rs rs' : List Rw} {pp p : Prop} {ar : Rw → Prop} {a : α × η}
theorem arOf_rd (h : ∀ p ∈ q, rdN w p) : ∀ r, arOf q r → r.rd w := fun r ⟨p, hp, hr⟩ => h p hp r hr
theorem nrdA (hn : ∀ r ∈ rs, rowOk w r.A r.cap r.e r.sz r.n r.xs) (h : okN ar rs a) (har : ∀ r, ar r → r.rd w) : rdN w a := fun r hr => by
  rcases h r hr with h | h | h
  · exact (hn _ h).rd
  · exact h.rd
  · exact har _ h
theorem St.nO (hs : St w0 w M L) (i : Nat) (hi : L[i]? = some (.nest rs pp)) (h : okN ar rs a) (har : ∀ r, ar r → r.rd w) : rdN w a := nrdA (hs.hl _ (List.mem_of_getElem? hi)).2.1 h har
theorem Sx.nO {ids : List Nat} (hs : Sx w0 w ids L) (i : Nat) (hi : L[i]? = some (.nest rs pp)) (h : okN ar rs a) (har : ∀ r, ar r → r.rd w) : rdN w a := nrdA (hs.hl _ (List.mem_of_getElem? hi)).2.1 h har
theorem St.nD (hs : St w0 w M L) (i : Nat) (hi : L[i]? = some (.nest rs pp)) (h : ∀ p ∈ q, okN ar rs p) (har : ∀ r, ar r → r.rd w) : ∀ p ∈ q, rdN w p := fun p hp => hs.nO i hi (h p hp) har
theorem Sx.nD {ids : List Nat} (hs : Sx w0 w ids L) (i : Nat) (hi : L[i]? = some (.nest rs pp)) (h : ∀ p ∈ q, okN ar rs p) (har : ∀ r, ar r → r.rd w) : ∀ p ∈ q, rdN w p := fun p hp => hs.nO i hi (h p hp) har
theorem St.offNO (hs : St w0 w M L) (i j : Nat) {g : Nat} {t : TypeId} {cs : List Value} (hi : L[i]? = some (.nest rs pp)) (hj : L[j]? = some (.blk g t cs)) (h : okN noAr rs a) : offN [g] a := hs.offNN (q := [a]) i j hi hj (fun p hp => by rw [List.mem_singleton.1 hp]; exact h) a (List.mem_singleton.2 rfl)
theorem NF.arg (e : q.map (·.1) = l) : NF (arOf q) rs q l := ⟨e, fun p hp r hr => .inr (.inr ⟨p, hp, hr⟩)⟩
theorem NF.wide (h : NF noAr rs q l) (hs : ∀ r ∈ rs, r ∈ rs') : NF ar rs' q l := ⟨h.1, fun p hp r hr => (h.2 p hp r hr).elim (fun h => .inl (hs _ h)) fun h => .inr (h.imp id fun h => h.elim)⟩
end
section
variable {P : Program} {N : Nat} {w0 w : World} {M L : List Res} {β : Type} {r : β} {K : Kont} {ρ : Env} {ops : Array Oper} {rest : List Oper} {m : Option β} {rs : List Rw} {p : Prop} {i : Nat}
theorem jn_np {c : Code} (hi : L[i]? = some (.nest rs p)) (hk : p → Jn P N w0 M L c ρ m r K) : Jn P N w0 M L c ρ m r K := fun w hs hm => hk (hs.nP i hi) w hs hm
theorem jg_np (hi : L[i]? = some (.nest rs p)) (hk : p → Jg P N w0 M L ops rest ρ m r K) : Jg P N w0 M L ops rest ρ m r K := fun w hs hm => hk (hs.nP i hi) w hs hm
variable {α : Type} {e : TypeId} {sz : Nat} {enc : α → List Value} {h : Hd} {l : List α} {j : Int} {L' : List Res}
theorem Sl.hm (k : Sl w h enc l) {j : Int} (hj : 0 ≤ j ∧ j ≤ (l.length : Int)) : Sl w ⟨h.A, j.toNat, j.toNat⟩ enc (l.take j.toNat) := by
  have := k.hi hj
  exact ⟨this.1, this.n, Nat.le_refl _⟩
theorem rowOk.hm [he : En enc sz] {A : Option Addr} {c n : Nat} (k : rowOk w A c e sz n (cellsOf enc l)) {j : Nat} (hj : j ≤ n) : rowOk w A j e sz j (cellsOf enc (l.take j)) := by
  have h1 := rowOk.hi k hj
  refine ⟨h1.1, h1.2.1, ?_⟩
  rcases h1.2.2 with ⟨a, b, _⟩ | ⟨g, o, cur, a, b, c1, d, f, g1⟩
  · exact .inl ⟨a, b, b⟩
  · refine .inr ⟨g, o, cur, a, b, Nat.le_refl _, by omega, ?_, g1⟩
    have := Nat.mul_le_mul_right sz c1
    omega
theorem St.rhm (i : Nat) [he : En enc sz] (hs : St w0 w M L) (hi : L[i]? = some (rowH h e sz enc l)) (hj : 0 ≤ j ∧ j ≤ (l.length : Int)) (hL : L.set i (rowH ⟨h.A, j.toNat, j.toNat⟩ e sz enc (l.take j.toNat)) = L') : St w0 w M L' := by
  have hn := (hs.row i hi).n
  have hown : rowOk w h.A h.c e sz h.n (cellsOf enc l) := hs.hl _ (List.mem_of_getElem? hi)
  exact hL ▸ hs.turn hi (r' := rowH ⟨h.A, j.toNat, j.toNat⟩ e sz enc (l.take j.toNat)) (rowOk.hm hown (by omega)) rfl rfl rfl (Nat.le_refl _) (fun _ _ _ => rfl) (fun k hk => .inl hk)
theorem jk_rhm (i : Nat) {x : Exit} [he : En enc sz] (hi : L[i]? = some (rowH h e sz enc l)) (hj : 0 ≤ j ∧ j ≤ (l.length : Int)) (hL : L.set i (rowH ⟨h.A, j.toNat, j.toNat⟩ e sz enc (l.take j.toNat)) = L') (k : Jk w0 M L' x ρ m r K) : Jk w0 M L x ρ m r K := fun w hs hm => k w (hs.rhm i hi hj hL) hm
theorem jg_rhm (i : Nat) [he : En enc sz] (hi : L[i]? = some (rowH h e sz enc l)) (hj : 0 ≤ j ∧ j ≤ (l.length : Int)) (hL : L.set i (rowH ⟨h.A, j.toNat, j.toNat⟩ e sz enc (l.take j.toNat)) = L') (k : Jg P N w0 M L' ops rest ρ m r K) : Jg P N w0 M L ops rest ρ m r K := fun w hs hm => k w (hs.rhm i hi hj hL) hm
variable {d : Option Nat} {T ty : TypeId} {ps : String} {af : Array Edge} {gd : Option (Nat × Bool)}
theorem yv_hm {x y z' : Operand} {b : Nat} {z : Value} {k k' : IntKind} [hc : CL P T e sz b z] (hx : evo ρ x = some h.v) (hy : evo ρ y = some (.int k j)) (hz : evo ρ z' = some (.int k' j)) (hr : Sl w h enc l) (hj : 0 ≤ j ∧ j ≤ (l.length : Int)) :
    Yv P N ρ w ⟨d, .slice T x none (some y) (some z'), ty, ps, af, gd⟩ (Hd.v ⟨h.A, j.toNat, j.toNat⟩) := by
  unfold Yv
  intro a' ha
  obtain ⟨inf, h2, _, h3, _⟩ := hc.h
  have hs : (P.info? e).map (·.size) = some sz := by simp [h2, h3]
  have h4 := hr.n
  have h5 := hr.c
  have h6 : j ≤ (h.c : Int) := by omega
  have h8 : ¬ max j 0 < j := by omega
  have hA : h.A.map (·.add 0) = h.A := by cases h.A <;> simp [Addr.add]
  simp [execOp, ha.ev hx, ha.ev hy, ha.ev hz, Instr.sliceAt, Instr.slice, Instr.sliceBounds, Instr.sliceBound, asIntOf, run_underlying hc.u, hj.1, h6, run_sizeOf' hs, hA, h8]
end
/-! ### Stores of lists into elements; parts of values -/
section
variable {P : Program} {N : Nat} {w0 w : World} {M L : List Res} {β : Type} {r : β} {K : Kont} {ρ : Env} {ops : Array Oper} {rest : List Oper} {m : Option β} {ty : TypeId} {ps : String} {af : Array Edge} {gd : Option (Nat × Bool)} {α η : Type}
theorem set_at {α : Type} {q : List α} {k : Nat} {b a : α} (h : q[k]? = some b) : (q.set k a)[k]? = some a := List.getElem?_set_self (List.getElem?_eq_some_iff.1 h).1
open Classical in
theorem jg_storeQ (i : Nat) {T : TypeId} {x y : Operand} {e : TypeId} {sz k o s : Nat} [hz : CN P T s] {α : Type} {enc : α → List Value} [he : En enc sz] {h : Hd} {q : List α} {a a' : α} {v : Value} {vs : List Value}
    (hx : evo ρ x = some (ep h.A k sz o)) (hi : L[i]? = some (rowH h e sz enc q)) (ha : q[k]? = some a) (hy : evo ρ y = some v) (hv : v.cells.toList = vs) (hl : vs.length = s) (hfit : Nat.ble (o + s) sz = true) (hp : putCells (enc a) o vs = enc a') (hg : want ops ρ gd = some true)
    (hk : Jg P N w0 M (L.set i (rowH h e sz enc (q.set k a'))) ops rest ρ m r K) : Jg P N w0 M L ops (⟨none, .store T x y, ty, ps, af, gd⟩ :: rest) ρ m r K := fun w hs hm => by
  refine jg_storeE (r := r) i (l := q) (a := a) (a' := a') (f := fun q' => if q' = q.set k a' then m else none) hx hi ha hy hv hl hfit hp hg (fun q' w' hs' hm' => ?_) w hs ?_
  · by_cases hqq : q' = q.set k a'
    · subst hqq
      rw [if_pos rfl] at hm'
      exact hk w' hs' hm'
    · rw [if_neg hqq] at hm'; cases hm'
  · rw [vl_q, if_pos rfl]
    exact hm
theorem jg_storeQ2 (i : Nat) {T : TypeId} {x y : Operand} {e : TypeId} {sz k o s : Nat} [hz : CN P T s] {α : Type} {enc : α → List Value} [he : En enc sz] {h : Hd} {q : List α} {b a a' : α} {v : Value} {vs : List Value}
    (hx : evo ρ x = some (ep h.A k sz o)) (hi : L[i]? = some (rowH h e sz enc (q.set k a))) (ha : q[k]? = some b) (hy : evo ρ y = some v) (hv : v.cells.toList = vs) (hl : vs.length = s) (hfit : Nat.ble (o + s) sz = true) (hp : putCells (enc a) o vs = enc a') (hg : want ops ρ gd = some true)
    (hk : Jg P N w0 M (L.set i (rowH h e sz enc (q.set k a'))) ops rest ρ m r K) : Jg P N w0 M L ops (⟨none, .store T x y, ty, ps, af, gd⟩ :: rest) ρ m r K :=
  jg_storeQ i hx hi (set_at ha) hy hv hl hfit hp hg (by rw [List.set_set]; exact hk)
theorem cells_set {α : Type} {enc : α → List Value} {a a' : α} (h : enc a = enc a') : ∀ (q : List α) (k : Nat), cellsOf enc (q.set k a) = cellsOf enc (q.set k a')
  | [], _ => rfl
  | b :: q, 0 => by simp only [cellsOf, List.set_cons_zero, List.flatMap_cons, h]
  | b :: q, k + 1 => by
    have := cells_set h q k
    simp only [cellsOf, List.set_cons_succ, List.flatMap_cons] at this ⊢
    rw [this]
theorem jk_settle (i : Nat) {x : Exit} {e : TypeId} {sz k : Nat} {enc : α × η → List Value} {h : Hd} {q : List (α × η)} {l : List α} {a : α × η} {a' : α} {d' : η} {F : List α → Option β} {L' : List Res}
    (hi : L[i]? = some (rowH h e sz enc (q.set k a))) (he : enc a = enc (a', d')) (hL : L.set i (rowH h e sz enc (q.set k (a', d'))) = L') (hk : ∀ l', l' = l.set k a' → Jk w0 M L' x ρ (F l') r K) : Jk w0 M L x ρ (vl (l.set k a') F) r K := fun w hs hm => by
  rw [vl_q] at hm
  have h1 : rowH h e sz enc (q.set k a) = rowH h e sz enc (q.set k (a', d')) := by unfold rowH; rw [cells_set he]
  rw [h1] at hi
  have h2 : L.set i (rowH h e sz enc (q.set k (a', d'))) = L := by
    obtain ⟨h3, h4⟩ := List.getElem?_eq_some_iff.1 hi
    rw [← h4]
    exact List.set_getElem_self h3
  rw [h2] at hL
  subst hL
  exact hk _ rfl w hs hm
variable {d : Option Nat} {T : TypeId} {f ft off : Nat} {fs : Array Field} {fd : Field} {cs : Array Value} {x : Operand}
theorem yv_fieldS {vs : List Value} {s : Nat} [hc : CS P ft s] (hu : P.underlying T = some (.struct fs)) (hf : fs[f]? = some fd) (ht : fd.type = ft) (hx : evo ρ x = some (.agg cs)) (hv : (cs.toList.drop fd.offset).take s = vs) (hl : vs.length = s) : Yv P N ρ w ⟨d, .field T x f, ty, ps, af, gd⟩ (.agg vs.toArray) := by
  unfold Yv
  intro a ha
  subst ht
  have h1 : cs.extract fd.offset (fd.offset + s) = vs.toArray := by
    apply Array.ext'
    rw [Array.toList_extract, ← hv]
    simp [List.extract_eq_take_drop]
  simp [execOp, ha.ev hx, Instr.field, run_underlying hu, hf, asAgg, part, run_isAggS, run_sizeOf' hc.z, h1]
theorem yv_field1 {v : Value} [hc : C1 P ft] (hu : P.underlying T = some (.struct fs)) (hf : fs[f]? = some fd) (ht : fd.type = ft) (hx : evo ρ x = some (.agg cs)) (ho : cs[fd.offset]? = some v) (hl : True) : Yv P N ρ w ⟨d, .field T x f, ty, ps, af, gd⟩ v := by
  unfold Yv
  intro a ha
  subst ht
  simp [execOp, ha.ev hx, Instr.field, run_underlying hu, hf, asAgg, part, run_isAgg1, ho]
end
/-! ### A call whose body is walked on the spot -/
section
variable {P : Program} {N N' : Nat} {w0 : World} {M L : List Res} {β : Type} {r : β} {K : Kont} {ρ ρ0 ρc : Env} {ops : Array Oper} {rest : List Oper} {m : Option β} {d : Nat} {ty : TypeId} {ps : String} {af : Array Edge} {gd : Option (Nat × Bool)} {fn : Func}
/-- What is to be shown when it comes back: the rest of the caller's region. -/
def rIn (P : Program) (N : Nat) (ops : Array Oper) (rest : List Oper) (d : Nat) (ρ : Env) (K : Kont) {β : Type} (_ : β) (e : Ending) (w' : World) : Prop := ∃ v, e = .returned v ∧ Rg P N ops rest ((d, v) :: ρ) w' K
def rInn (P : Program) (N : Nat) (ops : Array Oper) (rest : List Oper) (ρ : Env) (K : Kont) {β : Type} (_ : β) (e : Ending) (w' : World) : Prop := ∃ v, e = .returned v ∧ Rg P N ops rest ρ w' K
theorem jg_inl {f : FuncId} [hf : CFn P f] {xs : List Operand} {vs : List Value} {ts : Array TypeId} {c : Code} (hx : evl ρ xs = some vs) (hfn : P.funcs[f]? = some fn) (hb : fn.body = some c) (hN : fn.ntmps = N') (hl : Nat.ble vs.length N' = true) (hE : argEnv 0 vs = ρ0) (hg : want ops ρ gd = some true) (hd : Nat.blt d N = true)
    (h : Jn P N' w0 M L c ρ0 m r (kRt P fn N' (rIn P N ops rest d ρ K) r)) : Jg P N w0 M L ops (⟨some d, .call { callee := .value (.func f), args := xs.toArray, argTypes := ts }, ty, ps, af, gd⟩ :: rest) ρ m r K := fun w hs hm =>
  rg_call (calls_enter hfn hb hN hl hE (h w hs hm)) hx hg hd (fun _ _ hR => hR)
theorem jg_inln {f : FuncId} [hf : CFn P f] {xs : List Operand} {vs : List Value} {ts : Array TypeId} {c : Code} (hx : evl ρ xs = some vs) (hfn : P.funcs[f]? = some fn) (hb : fn.body = some c) (hN : fn.ntmps = N') (hl : Nat.ble vs.length N' = true) (hE : argEnv 0 vs = ρ0) (hg : want ops ρ gd = some true)
    (h : Jn P N' w0 M L c ρ0 m r (kRt P fn N' (rInn P N ops rest ρ K) r)) : Jg P N w0 M L ops (⟨none, .call { callee := .value (.func f), args := xs.toArray, argTypes := ts }, ty, ps, af, gd⟩ :: rest) ρ m r K := fun w hs hm =>
  rg_calln (calls_enter hfn hb hN hl hE (h w hs hm)) hx hg (fun _ _ hR => hR)
theorem jk_reti0 (hr : fn.results = #[]) (hk : Jg P N w0 M L ops rest ((d, .tuple #[]) :: ρc) m r K) : Jk w0 M L .ret ρ m r (kRt P fn N' (rIn P N ops rest d ρc K) r) := fun w hs hm => k_ret0 hr ⟨_, rfl, hk w hs hm⟩
theorem jk_reti0n (hr : fn.results = #[]) (hk : Jg P N w0 M L ops rest ((d, .tuple #[]) :: ρc) m r K) : Jk w0 M L .normal ρ m r (kRt P fn N' (rIn P N ops rest d ρc K) r) := fun w hs hm => k_ret0n hr ⟨_, rfl, hk w hs hm⟩
theorem jk_reti1 {r1 : ResultVar} {v1 : Value} (hr : fn.results = #[r1]) (h1 : ∀ w, St w0 w M L → RV P w ρ r1 v1) (hk : Jg P N w0 M L ops rest ((d, v1) :: ρc) m r K) : Jk w0 M L .ret ρ m r (kRt P fn N' (rIn P N ops rest d ρc K) r) := fun w hs hm => k_ret1 hr (h1 w hs) ⟨_, rfl, hk w hs hm⟩
theorem jk_retm0 (hr : fn.results = #[]) (hk : Jg P N w0 M L ops rest ρc m r K) : Jk w0 M L .ret ρ m r (kRt P fn N' (rInn P N ops rest ρc K) r) := fun w hs hm => k_ret0 hr ⟨_, rfl, hk w hs hm⟩
theorem jk_retm0n (hr : fn.results = #[]) (hk : Jg P N w0 M L ops rest ρc m r K) : Jk w0 M L .normal ρ m r (kRt P fn N' (rInn P N ops rest ρc K) r) := fun w hs hm => k_ret0n hr ⟨_, rfl, hk w hs hm⟩
end
/-! ### Scopes without a goto -/
section
variable {P : Program} {N : Nat} {w0 : World} {M L : List Res} {β : Type} {r : β} {K : Kont} {ρ : Env} {w : World} {m : Option β}
def kScp (K : Kont) : Kont
  | .goto _, _, _ => False
  | e, ρ, w => K e ρ w
theorem rn_scope {c : Code} (h : Rn P N c ρ w (kScp K)) : Rn P N (.scope c) ρ w K := by
  unfold Rn at h ⊢
  intro a ha
  refine wp_scope_straight (Code.wp_mono (fun e a' w' h => ?_) (h a ha))
  obtain ⟨ρ', h1, h2⟩ := h
  cases e with
  | goto l => exact h2.elim
  | _ => exact ⟨ρ', h1, h2⟩
theorem rn_label {l : Nat} (h : K .normal ρ w) : Rn P N (.label l) ρ w K := by
  unfold Rn
  exact fun _ ha => wp_label ⟨ρ, ha, h⟩
theorem jn_scope {c : Code} (h : Jn P N w0 M L c ρ m r (kScp K)) : Jn P N w0 M L (.scope c) ρ m r K := fun w hs hm => rn_scope (h w hs hm)
theorem jn_label {l : Nat} (h : Jk w0 M L .normal ρ m r K) : Jn P N w0 M L (.label l) ρ m r K := fun w hs hm => rn_label (h w hs hm)
theorem jk_scn (h : Jk w0 M L .normal ρ m r K) : Jk w0 M L .normal ρ m r (kScp K) := fun w hs hm => h w hs hm
theorem jk_scr (h : Jk w0 M L .ret ρ m r K) : Jk w0 M L .ret ρ m r (kScp K) := fun w hs hm => h w hs hm
theorem jk_sce {i : Nat} (h : Jk w0 M L (.exit i) ρ m r K) : Jk w0 M L (.exit i) ρ m r (kScp K) := fun w hs hm => h w hs hm
theorem np_scp (h : NoPanic K) : NoPanic (kScp K) := by
  unfold NoPanic at h ⊢
  exact h
end
attribute [irreducible] kScp
end Go.Hy
