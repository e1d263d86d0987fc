/-
  Function values that turn a list of the caller's.
-/
import Derived.Test.YtdgminllobhncaaGreatStd
namespace Go.Hy
set_option linter.unusedVariables false
set_option linter.unusedSimpArgs false
set_option maxHeartbeats 2000000
set_option maxRecDepth 10000
open Go.ChangeShapes

/-- The block in which a slice lies. -/
def rid (h : Hd) : List Nat := match h.A with | some a => [a.block] | none => []
theorem rid_ids {α : Type} (h : Hd) (e : TypeId) (sz : Nat) (enc : α → List Value) (l : List α) : idsM [rowH h e sz enc l] = rid h := by
  unfold rid
  cases hA : h.A <;> simp [idsM, Res.ids, hA]
/-- What stays so whatever is written into these blocks. -/
def Stb (w : World) (ids : List Nat) (Φ : World → Prop) : Prop := ∀ w', Sx w w' ids [] → Φ w'
theorem Sx.refl (w : World) (ids : List Nat) : Sx w w ids [] := ⟨Nat.le_refl _, fun _ _ _ => rfl, fun r hr => by cases hr⟩
theorem Sx.trans {w0 w w' : World} {ids : List Nat} (h : Sx w0 w ids []) (h2 : Sx w w' ids []) : Sx w0 w' ids [] :=
  ⟨Nat.le_trans h.size h2.size, fun k hk hn => (h2.old k (Nat.lt_of_lt_of_le hk h.size) hn).trans (h.old k hk hn), fun r hr => by cases hr⟩
theorem Stb.now {w : World} {ids : List Nat} {Φ : World → Prop} (h : Stb w ids Φ) : Φ w := h w (Sx.refl w ids)
theorem Stb.on {w w' : World} {ids : List Nat} {Φ : World → Prop} (h : Stb w ids Φ) (hx : Sx w w' ids []) : Stb w' ids Φ := fun w2 h2 => h w2 (hx.trans h2)
theorem mk_stR {α : Type} {w : World} {h : Hd} {e : TypeId} {sz : Nat} {enc : α → List Value} {l : List α} (k : (rowH h e sz enc l).holds w) : St w w [rowH h e sz enc l] [] :=
  St.init w _ (by intro r hr; simp only [List.mem_singleton] at hr; subst hr; exact k) (List.pairwise_singleton _ _)
section
variable {P : Program} {N : Nat} {w0 w : World} {M L : List Res} {β : Type} {r : β} {K : Kont} {ρ : Env} {m : Option β} {ops : Array Oper} {rest : List Oper} {d : Nat} {ty : TypeId} {ps : String} {af : Array Edge} {gd : Option (Nat × Bool)}
variable {α : Type} {h : Hd} {e : TypeId} {sz : Nat} {enc : α → List Value} {l : List α}
theorem St.sxR (hs : St w0 w [rowH h e sz enc l] L) : Sx w0 w (rid h) [] := by
  have := hs.sx (is := []) rfl
  rw [rid_ids] at this
  exact this
theorem St.stR {Φ : World → Prop} (hs : St w0 w [rowH h e sz enc l] L) (k : Stb w0 (rid h) Φ) : Φ w := k w hs.sxR
theorem St.stO {Φ : World → Prop} (hs : St w0 w [rowH h e sz enc l] L) (k : Stb w0 (rid h) Φ) : Stb w (rid h) Φ := k.on hs.sxR
theorem St.rowM (hs : St w0 w [rowH h e sz enc l] L) : (rowH h e sz enc l).holds w := hs.hm _ (List.mem_singleton.2 rfl)
theorem rid_mem {k : Nat} (hk : k ∈ rid h) : h.A.map (·.block) = some k := by
  unfold rid at hk
  cases hA : h.A with
  | none => rw [hA] at hk; cases hk
  | some a => rw [hA] at hk; rw [List.mem_singleton.1 hk]; rfl
/-- A block of the caller's, beside the list. -/
theorem St.stB (hs : St w0 w M L) (i j : Nat) {g : Nat} {t : TypeId} {cs : List Value} (hi : L[i]? = some (rowH h e sz enc l)) (hj : L[j]? = some (.blk g t cs)) (hij : i ≠ j) : Stb w (rid h) (fun w' => Blk w' g t cs) := fun w' hx => by
  have hb : (Res.blk g t cs).holds w := hs.hl _ (List.mem_of_getElem? hj)
  have hlt : g < w.heap.size := Res.holds.lt hb rfl
  have hne : ∀ k ∈ rid h, k ≠ g := fun k hk e' => by
    subst e'
    exact pairwise_get hs.lne hi hj hij k (rid_mem hk) rfl
  show Blk w' g t cs
  unfold Blk
  rw [hx.old g hlt hne]
  exact hb
/-- What was there, beside a list of the caller's own. -/
theorem St.stA {α2 : Type} {h2 : Hd} {enc2 : α2 → List Value} {l2 : List α2} (hs : St w0 w M L) (i : Nat) (hi : L[i]? = some (rowH h e sz enc l)) (k : Sl w0 h2 enc2 l2) (hM : M = []) : Stb w (rid h) (fun w' => Sl w' h2 enc2 l2) := fun w' hx => by
  subst hM
  have hx0 : Sx w0 w' (rid h) [] := ⟨Nat.le_trans hs.size hx.size, fun j hj hn => (hx.old j (Nat.lt_of_lt_of_le hj hs.size) hn).trans (hs.old j hj (by simp)), fun r hr => by cases hr⟩
  have hge : ∀ j ∈ rid h, w0.heap.size ≤ j := fun j hj => hs.lge _ (List.mem_of_getElem? hi) j (rid_mem hj)
  refine k.sx (fun hn j hj => ?_) hx0
  obtain ⟨⟨sz', he, hr⟩, hlen, _⟩ := k
  intro ad hA hb
  have := hr.lt he.pos ad hA (by omega)
  have := hge j hj
  omega
/-- A function value on integers that turns a list. -/
def Fs (P : Program) (w : World) (v : Value) (h : Hd) (q : Int → List Int → Option (Bool × List Int)) : Prop :=
  ∃ (f : FuncId) (caps : List Value), v = .func (.func f) #[] caps.toArray ∧ CFn P f ∧ ∀ w' l, Sx w w' (rid h) [] → (rowH h 3 1 encI l).holds w' → ∀ i b, q i l = some b → Calls P f (.int .i64 i :: caps).toArray w' (fun e w'' => ∃ _g : Unit, e = .returned (.bool b.1) ∧ St w' w'' [rowH h 3 1 encI b.2] [])
theorem jm_q {x y : Operand} {fv : Value} {i : Int} {q : Int → List Int → Option (Bool × List Int)} {k : (Bool × List Int) → Option β} {ts : Array TypeId} {l : List Int} (hx : evo ρ x = some fv) (hy : evo ρ y = some (.int .i64 i)) (hq : Fs P w0 fv h q) (hg : want ops ρ gd = some true) (hd : Nat.blt d N = true)
    (hk : ∀ v, Jg P N w0 [rowH h 3 1 encI v.2] L ops rest ((d, .bool v.1) :: ρ) (k v) r K) : Jg P N w0 [rowH h 3 1 encI l] L ops (⟨some d, .call { callee := .value x, args := #[y], argTypes := ts }, ty, ps, af, gd⟩ :: rest) ρ (bd (q i l) k) r K := fun w hs hm => by
  obtain ⟨f, caps, rfl, hf, hc⟩ := hq
  cases hqi : q i l with
  | none => rw [hqi] at hm; unfold bd at hm; cases hm
  | some b =>
    rw [hqi] at hm
    have hm : k b = some r := by unfold bd at hm; exact hm
    unfold Rg
    intro a ha
    refine wpList_step fun J hJ => ?_
    rw [want_spec (o := ⟨some d, .call { callee := .value x, args := #[y], argTypes := ts }, ty, ps, af, gd⟩) ha hg, if_pos rfl]
    unfold Oper.wp
    rw [run_callv hx hy ha, Oper.upon_enter]
    have hcc := hc w l hs.sxR hs.rowM i b hqi
    refine hcc.mono fun _ w' hR => ?_
    obtain ⟨_, rfl, h'⟩ := hR
    have hs2 : St w0 w' [rowH h 3 1 encI b.2] L := hs.callM (i := 0) rfl h' rfl
    have h2 := hk b w' hs2 hm
    unfold Rg at h2
    exact hJ _ _ (h2 _ (ha.put hd _))
theorem rg_callv {x y : Operand} {f : FuncId} [hf : CFn P f] {caps : List Value} {v1 : Value} {ts : Array TypeId} {R : Ending → World → Prop} (hc : Calls P f (v1 :: caps).toArray w R) (hx : evo ρ x = some (.func (.func f) #[] caps.toArray)) (hy : evo ρ y = some v1) (hg : want ops ρ gd = some true) (hd : Nat.blt d N = true)
    (hk : ∀ e w', R e w' → ∃ v, e = .returned v ∧ Rg P N ops rest ((d, v) :: ρ) w' K) : Rg P N ops (⟨some d, .call { callee := .value x, args := #[y], argTypes := ts }, ty, ps, af, gd⟩ :: rest) ρ w K := by
  unfold Rg
  intro a ha
  refine wpList_step fun J hJ => ?_
  rw [want_spec (o := ⟨some d, .call { callee := .value x, args := #[y], argTypes := ts }, ty, ps, af, gd⟩) ha hg, if_pos rfl]
  unfold Oper.wp
  rw [run_callv hx hy ha, Oper.upon_enter]
  refine hc.mono fun _ w' hR => ?_
  obtain ⟨v, rfl, h2⟩ := hk _ w' hR
  unfold Rg at h2
  exact hJ _ _ (h2 _ (ha.put hd v))
theorem jm_v {r0 : Res} {α γ : Type} {x y : Operand} {f : FuncId} [hf : CFn P f] {caps : List Value} {v1 : Value} {ts : Array TypeId} {ma : Option α} {k : α → Option β} {U : α → γ → Value} {Nw : α → γ → List Res} {r1 : α → Res} (hx : evo ρ x = some (.func (.func f) #[] caps.toArray)) (hy : evo ρ y = some v1)
    (hc : ∀ v w, St w0 w [r0] L → ma = some v → Calls P f (v1 :: caps).toArray w (fun e w' => ∃ g : γ, e = .returned (U v g) ∧ St w w' [r1 v] (Nw v g))) (hid : ∀ v, (r1 v).has = r0.has) (hg : want ops ρ gd = some true) (hd : Nat.blt d N = true)
    (hk : ∀ v g, Jg P N w0 [r1 v] (Nw v g ++ L) ops rest ((d, U v g) :: ρ) (k v) r K) : Jg P N w0 [r0] L ops (⟨some d, .call { callee := .value x, args := #[y], argTypes := ts }, ty, ps, af, gd⟩ :: rest) ρ (bd ma k) r K := fun w hs hm => by
  cases hma : ma with
  | none => rw [hma] at hm; unfold bd at hm; cases hm
  | some v =>
    rw [hma] at hm
    have hm : k v = some r := by unfold bd at hm; exact hm
    exact rg_callv (hc v w hs hma) hx hy hg hd fun e w' ⟨g, he, h'⟩ => ⟨U v g, he, hk v g w' (hs.callM (i := 0) rfl h' (hid v)) hm⟩
theorem jl_v (i : Nat) {r0 : Res} {α γ : Type} {x y : Operand} {f : FuncId} [hf : CFn P f] {caps : List Value} {v1 : Value} {ts : Array TypeId} {ma : Option α} {k : α → Option β} {U : α → γ → Value} {Nw : α → γ → List Res} {r1 : α → Res} (hx : evo ρ x = some (.func (.func f) #[] caps.toArray)) (hy : evo ρ y = some v1)
    (hi : L[i]? = some r0) (hc : ∀ v w, St w0 w M L → ma = some v → Calls P f (v1 :: caps).toArray w (fun e w' => ∃ g : γ, e = .returned (U v g) ∧ St w w' [r1 v] (Nw v g))) (hid : ∀ v, (r1 v).has = r0.has) (hg : want ops ρ gd = some true) (hd : Nat.blt d N = true)
    (hk : ∀ v g, Jg P N w0 M (Nw v g ++ L.set i (r1 v)) ops rest ((d, U v g) :: ρ) (k v) r K) : Jg P N w0 M L ops (⟨some d, .call { callee := .value x, args := #[y], argTypes := ts }, ty, ps, af, gd⟩ :: rest) ρ (bd ma k) r K := fun w hs hm => by
  cases hma : ma with
  | none => rw [hma] at hm; unfold bd at hm; cases hm
  | some v =>
    rw [hma] at hm
    have hm : k v = some r := by unfold bd at hm; exact hm
    exact rg_callv (hc v w hs hma) hx hy hg hd fun e w' ⟨g, he, h'⟩ => ⟨U v g, he, hk v g w' (hs.callL hi h' (hid v)) hm⟩
theorem St.rowL (hs : St w0 w M L) (i : Nat) (hi : L[i]? = some (rowH h e sz enc l)) : (rowH h e sz enc l).holds w := hs.hl _ (List.mem_of_getElem? hi)
theorem jg_storeEM (i : Nat) {T : TypeId} {x y : Operand} {e : TypeId} {sz k o s : Nat} [hz : CN P T s] {α : Type} {enc : α → List Value} [he : En enc sz] {h : Hd} {l : List α} {a a' : α} {v : Value} {vs : List Value} {f : List α → Option β}
    (hx : evo ρ x = some (ep h.A k sz o)) (hi : M[i]? = some (rowH h e sz enc l)) (ha : l[k]? = some a) (hy : evo ρ y = some v) (hv : v.cells.toList = vs) (hl : vs.length = s) (hfit : Nat.ble (o + s) sz = true) (hp : putCells (enc a) o vs = enc a') (hg : want ops ρ gd = some true)
    (hk : ∀ l', Jg P N w0 (M.set i (rowH h e sz enc l')) L ops rest ρ (f l') r K) :
    Jg P N w0 M L ops (⟨none, .store T x y, ty, ps, af, gd⟩ :: rest) ρ (vl (l.set k a') f) r K := fun w hs hm => by
  have hm : f (l.set k a') = some r := by unfold vl at hm; exact hm
  have hown : rowOk w h.A h.c e sz h.n (cellsOf enc l) := hs.hm _ (List.mem_of_getElem? hi)
  have s1 := row_rn he hown
  have hkl : k < l.length := (List.getElem?_eq_some_iff.1 ha).1
  rcases hown.2.2 with ⟨_, h0, _⟩ | ⟨g, o0, cur, hA, hgc, hnc, hcm, hcs, ht⟩
  · have := s1.n; omega
  have n1 := s1.n
  have hos : o + s ≤ sz := Nat.le_of_ble_eq_true hfit
  have hsz : (k + 1) * sz ≤ h.n * sz := Nat.mul_le_mul_right _ (by omega)
  have hsz2 : h.n * sz ≤ h.c * sz := Nat.mul_le_mul_right _ hnc
  have hk1 : (k + 1) * sz = k * sz + sz := by rw [Nat.add_mul, Nat.one_mul]
  have hone : ∀ u ∈ vs, u.oneCell' = true := fun u hu => he.one a' u (by rw [← hp]; unfold putCells; simp [hu])
  have hpa : (h.A.map (·.add (k * sz + o))) = some ⟨g, o0 + (k * sz + o), none⟩ := by rw [hA]; simp [Addr.add_lit]
  have hsv : v.cells.size = s := by rw [← hl, ← hv, Array.length_toList]
  have hst := run_storeCells_at P g (o0 + (k * sz + o)) e vs 0 cur w hgc (by rw [hl]; omega) hone
  simp only [Nat.add_zero] at hst
  have hlen' : (cellsOf enc (l.set k a')).length = h.n * sz := by rw [he.flen]; simp [n1]
  refine rg_u (w' := w.setRow g (cur.toList.take (o0 + (k * sz + o)) ++ vs ++ cur.toList.drop (o0 + (k * sz + o) + vs.length)).toArray) hg (fun ac hac => ?_) (hk (l.set k a') _ ?_ hm)
  · have hx' := hac.ev hx
    unfold ep at hx'
    rw [hpa] at hx'
    simp only [execOp, Instr.storeAt, hx', hac.ev hy, Instr.sureAddr, Sem.run_bind, Sem.run_pure, Result.andThen_ok, storeVar, run_sizeOf' hz.z, hsv, ne_eq, not_true_eq_false, if_false, hv, hst]
  · refine hs.turnM hi (r' := rowH h e sz enc (l.set k a')) ⟨hlen', hown.2.1, .inr ⟨g, o0, _, hA, setRow_heap w g _ _ e _ hgc, hnc, hcm, ?_, ?_⟩⟩ rfl rfl rfl (by simp [World.setRow]) (fun j _ hne => setRow_other w g j _ fun e => hne (by simp [Res.has, hA, e])) rfl
    · simp only [List.size_toArray, List.length_append, List.length_take, List.length_drop, Array.length_toList]
      omega
    · have hcur : ∀ j, j < h.n * sz → (cur.toList[o0 + j]?) = (cellsOf enc l)[j]? := fun j hj => by
        rw [← ht, List.getElem?_take, if_pos hj, List.getElem?_drop]
      apply List.ext_getElem?
      intro j
      by_cases hj : ¬ j < h.n * sz
      · rw [List.getElem?_eq_none (by simp; omega), List.getElem?_eq_none (by omega)]
      have hj : j < h.n * sz := by omega
      rw [List.getElem?_take, if_pos hj, List.getElem?_drop]
      have hspos := he.pos
      -- element and offset
      have hq : j / sz * sz + j % sz = j := by rw [Nat.mul_comm]; exact Nat.div_add_mod j sz
      have hr : j % sz < sz := Nat.mod_lt _ hspos
      have hql : j / sz < l.length := by rw [n1]; exact (Nat.div_lt_iff_lt_mul hspos).2 hj
      obtain ⟨b, hb⟩ : ∃ b, l[j / sz]? = some b := ⟨_, List.getElem?_eq_getElem hql⟩
      have hflat := flat_get he.len l (j / sz) (j % sz) b hb hr
      rw [hq] at hflat
      have hidx : (cur.toList.take (o0 + (k * sz + o)) ++ vs ++ cur.toList.drop (o0 + (k * sz + o) + vs.length))[o0 + j]? = if k * sz + o ≤ j ∧ j < k * sz + o + s then vs[j - (k * sz + o)]? else cur.toList[o0 + j]? := by
        have ht' : (cur.toList.take (o0 + (k * sz + o))).length = o0 + (k * sz + o) := by simp only [List.length_take, Array.length_toList]; omega
        rw [List.getElem?_append, List.getElem?_append, List.length_append, ht', hl]
        by_cases c1 : j < k * sz + o
        · rw [if_pos (by omega), if_pos (by omega), if_neg (by omega), List.getElem?_take, if_pos (by omega)]
        · by_cases c2 : j < k * sz + o + s
          · rw [if_pos (by omega), if_neg (by omega), if_pos (by omega)]
            congr 1
            omega
          · rw [if_neg (by omega), if_neg (by omega), List.getElem?_drop]
            congr 1
            omega
      rw [hidx]
      by_cases hjk : j / sz = k
      · have hb' : (l.set k a')[j / sz]? = some a' := by rw [hjk]; simp [hkl]
        have hflat' := flat_get he.len (l.set k a') (j / sz) (j % sz) a' hb' hr
        rw [hq] at hflat'
        rw [hflat']
        rw [hjk] at hb hq
        obtain rfl : a = b := Option.some.inj (ha.symm.trans hb)
        rw [← hp]
        unfold putCells
        have hta : ((enc a).take o).length = o := by rw [List.length_take, he.len]; omega
        rw [List.getElem?_append, List.getElem?_append, List.length_append, hta, hl, List.getElem?_take, List.getElem?_drop]
        by_cases c1 : j % sz < o
        · rw [if_neg (by omega), if_pos (by omega), if_pos c1, if_pos c1, hcur j hj, hflat]
        · by_cases c2 : j % sz < o + s
          · rw [if_pos (by omega), if_pos c2, if_neg c1]
            congr 1
            omega
          · rw [if_neg (by omega), if_neg c2, hcur j hj, hflat]
            congr 1
            omega
      · have hb' : (l.set k a')[j / sz]? = some b := by rw [List.getElem?_set_ne (Ne.symm hjk)]; exact hb
        have hflat' := flat_get he.len (l.set k a') (j / sz) (j % sz) b hb' hr
        rw [hq] at hflat'
        rw [hflat', if_neg, hcur j hj, hflat]
        rintro ⟨c1, c2⟩
        apply hjk
        exact Nat.div_eq_of_lt_le (by omega) (by omega)
end
end Go.Hy
