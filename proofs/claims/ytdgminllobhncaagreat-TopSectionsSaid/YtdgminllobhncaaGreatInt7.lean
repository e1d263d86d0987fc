/-
  The interpreter is sound, seventh: a region that draws its order is walked in one order.
-/
import Derived.Test.YtdgminllobhncaaGreatInt6
namespace Go.Hy.Ix
set_option linter.unusedVariables false
set_option linter.unusedSimpArgs false
set_option maxHeartbeats 2000000
set_option maxRecDepth 10000
open Go.RowKit Go.ChangeShapes

section
variable {P : Program} {ops : Array Oper} {Q : Exit → Act → World → Prop} {D D1 : World → Prop} {ph : List Nat}
/-- All orders; some operations keep a class of worlds. -/
def wpAnyP (P : Program) (ops : Array Oper) (Q : Exit → Act → World → Prop) (D : World → Prop) (ph : List Nat) : Nat → Array Bool → Act → World → Prop
  | 0, listed, a, w => Region.ready .any ops listed = [] ∧ Q .normal a w
  | fuel + 1, listed, a, w => (Region.ready .any ops listed = [] → Q .normal a w) ∧
    ∀ i ∈ Region.ready .any ops listed, wpOp P ops Q i (fun a' w' => (i ∈ ph → D w → D w') ∧ ∀ w'', Gr w' w'' → wpAnyP P ops Q D ph fuel (listed.setIfInBounds i true) a' w'') a w
theorem wpAny_of_P : ∀ (fuel : Nat) (listed : Array Bool) (a : Act) (w : World), wpAnyP P ops Q D ph fuel listed a w → wpAny P .any ops Q fuel listed a w
  | 0, _, _, _, h => h
  | fuel + 1, _, _, _, h => ⟨h.1, fun i hi => wpOp_mono (fun _ _ hh => wpAny_of_P fuel _ _ _ (hh.2 _ (Gr.refl _))) (h.2 i hi)⟩
theorem wpAnyP_re {D' : World → Prop} {ph' : List Nat} : ∀ (fuel : Nat) (listed : Array Bool) (a : Act) (w : World), (∀ i, listed.getD i true = false → i ∉ ph) → wpAnyP P ops Q D' ph' fuel listed a w → wpAnyP P ops Q D ph fuel listed a w
  | 0, _, _, _, _, h => h
  | fuel + 1, listed, a, w, hno, h => ⟨h.1, fun i hi => by
    have hun := (mem_ready.1 hi).1
    refine wpOp_mono (fun a' w' hh => ⟨fun hm _ => absurd hm (hno i hun), fun w'' hg => wpAnyP_re fuel _ a' w'' (fun k hk => hno k ?_) (hh.2 w'' hg)⟩) (h.2 i hi)
    by_cases e : i = k
    · subst e; exact hun
    · rw [getD_set_ne true e] at hk; exact hk⟩
theorem wpAnyP_first {W : Nat → Nat → Prop} (hW : ∀ (listed : Array Bool), Closed ops listed → ∀ j i, W j i → (∀ o, ops[j]? = some o → ∀ e ∈ o.after, Region.binds .any e = true → listed.getD e.on false = true) → listed.getD i false = true)
    (hD : ∀ w w', D w → Gr w w' → D w') (hD1 : ∀ w w', D1 w → Gr w w' → D1 w') (hQ : ∀ c a w, ¬ Q (.panic c) a w) {i : Nat} {oi : Oper} {v : Value} (hi : ops[i]? = some oi) (hsel : ∀ (j : Nat) (o : Oper) cs b, ops[j]? = some o → o.op ≠ .select cs b) :
    ∀ (fuel : Nat) (listed : Array Bool) (a : Act) (w : World), Closed ops listed →
      (∀ j oj, ops[j]? = some oj → j ≠ i → listed.getD j true = false → W j i ∨ (oi.apart ops oj = true ∧ ∀ w w', (j ∈ ph → D w → D w') → D1 w → D1 w')) →
      i ∈ Region.ready .any ops listed → D1 w → YG P ops D1 oi v a → (∀ w', Gr w w' → wpAnyP P ops Q D ph fuel (listed.setIfInBounds i true) (a.put oi.dst v) w') → wpAnyP P ops Q D ph (fuel + 1) listed a w := by
  intro fuel
  induction fuel with
  | zero =>
    intro listed a w _ _ hr hw hy H
    refine ⟨fun h => (by rw [h] at hr; cases hr), fun j hj => ?_⟩
    by_cases hji : j = i
    · subst hji
      exact hy.wpOp hi hw fun w' hg => ⟨fun _ hd => hD w w' hd hg, fun w'' hg' => H w'' (hg.trans hg')⟩
    · have := ready_mono hj hji
      rw [(H w (Gr.refl w)).1] at this
      cases this
  | succ fuel ih =>
    intro listed a w hc hfree hr hw hy H
    refine ⟨fun h => (by rw [h] at hr; cases hr), fun j hj => ?_⟩
    by_cases hji : j = i
    · subst hji
      exact hy.wpOp hi hw fun w' hg => ⟨fun _ hd => hD w w' hd hg, fun w'' hg' => H w'' (hg.trans hg')⟩
    · have h1 := (H w (Gr.refl w)).2 j (ready_mono hj hji)
      obtain ⟨hjun, oj, hoj, hall⟩ := mem_ready.1 hj
      have hiun := (mem_ready.1 hr).1
      have hnw : ¬ W j i := fun hwt =>
        getD_tf hiun (hW listed hc j i hwt fun o ho e he hb => by
          obtain rfl : oj = o := Option.some.inj (hoj.symm.trans ho)
          exact hall e he hb)
      obtain ⟨hap, hpr⟩ := (hfree j oj hoj hji hjun).resolve_left hnw
      have h2 := wpOp_put hoj hap (fun cs b => hsel i oi cs b hi) (fun cs b => hsel j oj cs b hoj) hQ hy h1
      have hfree' : ∀ k ok, ops[k]? = some ok → k ≠ i → (listed.setIfInBounds j true).getD k true = false → W k i ∨ (oi.apart ops ok = true ∧ ∀ w w', (k ∈ ph → D w → D w') → D1 w → D1 w') := fun k ok hk hki hun => by
        refine hfree k ok hk hki ?_
        by_cases hjk : j = k
        · subst hjk; exact hjun
        · rw [getD_set_ne true hjk] at hun; exact hun
      refine wpOp_mono (fun a' w' h3 => ⟨h3.2.1, fun w'' hg => ?_⟩) h2
      refine ih (listed.setIfInBounds j true) a' w'' (closed_set hc hj) hfree' (ready_mono hr (Ne.symm hji)) (hD1 w' w'' (hpr w w' h3.2.1 hw) hg) h3.1 fun w3 hg3 => ?_
      have := h3.2.2 w3 (hg.trans hg3)
      rwa [Array.setIfInBounds_comm _ _ (Ne.symm hji)] at this
end

def Dc (F : Ph) (σF : Pl0) (w : World) : Prop := ∀ b e, F.m b = some e → EntW w σF b e
def phL (X : Dw) (F : Ph) : List Nat := (List.range X.ds.length).filter F.phm.testBit
structure DwOk (X : Dw) : Prop where
  hds : X.ops.toList.map dmask = X.ds
  full : X.full = 2 ^ X.ds.length - 1
  hms : okAnc X.ds X.ms = true
  hml : X.ms.length = X.ds.length
  hsel : Region.noSelect X.ops = true
section
variable {X : Dw} {F : Ph} {N : Nat} {ρ ρ' : Ev} {ρc : Env} {s s' : Sgm} {σ σF : Pl0} {w w' w0 : World} {Q : Exit → Act → World → Prop} {call : CallX}
theorem EntW.gr {b : Nat} {e : Ent} (h : EntW w σ b e) (hg : Gr w w') : EntW w' σ b e := h.keep fun k hl hk => by
  obtain ⟨k', h1, h2⟩ := h.at_ hl
  rw [hk] at h1; cases h1
  exact St.old hg _ h2 (by simp)
theorem Dc.gr (h : Dc F σF w) (hg : Gr w w') : Dc F σF w' := fun b e hb => (h b e hb).gr hg
theorem full_bit (hX : DwOk X) (j : Nat) : X.full.testBit j = decide (j < X.ds.length) := by rw [hX.full, Nat.testBit_two_pow_sub_one]
theorem firstQ_ok {lm : Nat} : ∀ {is : List Nat} {i : Nat} {mm : Bool} {d : Option Nat} {r : Vx}, firstQ X F ρ lm is = some (i, mm, d, r) → i ∈ is ∧ ∃ o, X.ops[i]? = some o ∧ d = o.dst ∧
    ((qv X.P (fun _ => none) X.ops ρ o = some r ∧ pend X.ops o i X.full lm X.ms 0 = true) ∨ (qv X.P F.m X.ops ρ o = some r ∧ pend X.ops o i F.phm lm X.ms 0 = true))
  | [], i, mm, d, r, h => by cases h
  | k :: is, i, mm, d, r, h => by
    have rec_ : firstQ X F ρ lm is = some (i, mm, d, r) → i ∈ k :: is ∧ ∃ o, X.ops[i]? = some o ∧ d = o.dst ∧
      ((qv X.P (fun _ => none) X.ops ρ o = some r ∧ pend X.ops o i X.full lm X.ms 0 = true) ∨ (qv X.P F.m X.ops ρ o = some r ∧ pend X.ops o i F.phm lm X.ms 0 = true)) := fun h => by
      obtain ⟨h1, h2⟩ := firstQ_ok h
      exact ⟨List.mem_cons_of_mem _ h1, h2⟩
    rw [firstQ] at h
    split at h
    · cases h
    · rename_i o ho
      split at h
      · rename_i q hq
        cases hp : pend X.ops o k X.full lm X.ms 0 with
        | true => rw [hp] at h; cases h; exact ⟨List.mem_cons_self, o, ho, rfl, .inl ⟨hq, hp⟩⟩
        | false => rw [hp] at h; exact rec_ h
      · split at h
        · rename_i q hq
          cases hp : pend X.ops o k F.phm lm X.ms 0 with
          | true => rw [hp] at h; cases h; exact ⟨List.mem_cons_self, o, ho, rfl, .inr ⟨hq, hp⟩⟩
          | false => rw [hp] at h; exact rec_ h
        · exact rec_ h
theorem qv_ok {P : Program} {m : Nat → Option Ent} {ops : Array Oper} {o : Oper} {r : Vx} {Dm : World → Prop} (h : qv P m ops ρ o = some r) (hρ : EnvR σ ρ ρc) (hw : Dm w) (hm : ∀ w, Dm w → ∀ b e, m b = some e → EntW w σ b e) :
    ∃ v, r.val σ = some v ∧ ∀ a, Holds N a ρc → YG P ops Dm o v a := by
  obtain ⟨d, op, ty, ps, af, gd⟩ := o
  unfold qv at h
  split at h
  · rename_i hg
    obtain ⟨v, v1, v2⟩ := pv_ok (N := N) (w := w) (d := d) (ty := ty) (ps := ps) (af := af) (gd := gd) h hρ (hm w hw)
    refine ⟨v, v1, fun a ha => .inl ⟨want_spec ha (wx_ok hρ hg), fun w' hw' => ?_⟩⟩
    obtain ⟨v', v1', v2'⟩ := pv_ok (N := N) (w := w') (d := d) (ty := ty) (ps := ps) (af := af) (gd := gd) h hρ (hm w' hw')
    rw [v1] at v1'; cases v1'
    rw [yv_get v2' ha]
    exact ⟨rfl, rfl⟩
  · rename_i hg
    cases h
    exact ⟨undef, rfl, fun a ha => .inr ⟨want_spec ha (wx_ok hρ hg), rfl⟩⟩
  · cases h
theorem phL_mem {j : Nat} : j ∈ phL X F ↔ j < X.ds.length ∧ F.phm.testBit j = true := by
  unfold phL
  rw [List.mem_filter, List.mem_range]
theorem Tr.put_comm {α : Type} : ∀ (t : Tr α) (j k : Nat) (x y : α), j ≠ k → (t.put j x).put k y = (t.put k y).put j x
  | .e, _, _, _, _, _ => rfl
  | .n v l r, j, k, x, y, h => by
    rw [Tr.put_n, Tr.put_n]
    by_cases j0 : j = 0
    · have k0 : ¬ k = 0 := by omega
      rw [if_pos j0, if_neg k0, Tr.put_n, if_neg k0]
      by_cases k1 : k % 2 = 0
      · rw [if_pos k1, if_pos k1, Tr.put_n, if_pos j0]
      · rw [if_neg k1, if_neg k1, Tr.put_n, if_pos j0]
    · rw [if_neg j0]
      by_cases k0 : k = 0
      · rw [if_pos k0, Tr.put_n, if_neg j0]
        by_cases j1 : j % 2 = 0
        · rw [if_pos j1, if_pos j1, Tr.put_n, if_pos k0]
        · rw [if_neg j1, if_neg j1, Tr.put_n, if_pos k0]
      · rw [if_neg k0]
        by_cases j1 : j % 2 = 0
        · rw [if_pos j1, Tr.put_n, if_neg k0]
          by_cases k1 : k % 2 = 0
          · rw [if_pos k1, if_pos k1, Tr.put_n, if_neg j0, if_pos j1, Tr.put_comm r _ _ x y (by omega)]
          · rw [if_neg k1, if_neg k1, Tr.put_n, if_neg j0, if_pos j1]
        · rw [if_neg j1, Tr.put_n, if_neg k0]
          by_cases k1 : k % 2 = 0
          · rw [if_pos k1, if_pos k1, Tr.put_n, if_neg j0, if_neg j1]
          · rw [if_neg k1, if_neg k1, Tr.put_n, if_neg j0, if_neg j1, Tr.put_comm l _ _ x y (by omega)]
/-- The first of two new variables, then the other one. -/
theorem two_ok (hm : Mem w0 w σ s) {T T' : TypeId} {z z' : Value} {cs cs' : List Vx} (hcs : ofAs z.cells.toList = some cs) (hcs' : ofAs z'.cells.toList = some cs') {w1 : World} (hg : Gr (w.alloc (.cells z.cells T)) w1) :
    ∃ σ', Ext σ σ' ∧ Mem w0 (w1.alloc (.cells z'.cells T')) σ' ((s.add (.blk T cs)).add (.blk T' cs')) ∧ (Vx.ptr s.nx 0).val σ' = some (.pointer (some ⟨w.heap.size, 0, none⟩)) ∧ (Vx.ptr (s.nx + 1) 0).val σ' = some (.pointer (some ⟨w1.heap.size, 0, none⟩)) := by
  have h1 := (hm.alloc (.cells z.cells T) (c := 0) (ent_alloc (ofAs_vals _ hcs))).gr hg
  have h2 := h1.alloc (.cells z'.cells T') (c := 0) (ent_alloc (ofAs_vals _ hcs'))
  exact ⟨_, hm.ext.trans h1.ext, h2, val_mono h1.ext _ _ (ptr_val setP_self), ptr_val setP_self⟩
theorem two_ok' (hm : Mem w0 w σ s) {T T' : TypeId} {z z' : Value} {cs cs' : List Vx} (hcs : ofAs z.cells.toList = some cs) (hcs' : ofAs z'.cells.toList = some cs') {w1 : World} (hg : Gr (w.alloc (.cells z'.cells T')) w1) :
    ∃ σ', Ext σ σ' ∧ Mem w0 (w1.alloc (.cells z.cells T)) σ' ((s.add (.blk T cs)).add (.blk T' cs')) ∧ (Vx.ptr s.nx 0).val σ' = some (.pointer (some ⟨w1.heap.size, 0, none⟩)) ∧ (Vx.ptr (s.nx + 1) 0).val σ' = some (.pointer (some ⟨w.heap.size, 0, none⟩)) := by
  have f1 := hm.fr s.nx (Nat.le_refl _)
  have f2 := hm.fr (s.nx + 1) (by omega)
  have h1 := (hm.toMemB.alloc (b := s.nx + 1) f2.1 (.cells z'.cells T') (c := 0) (ent_alloc (ofAs_vals _ hcs'))).gr hg
  have e1 : setP σ (s.nx + 1) ⟨w.heap.size, 0, 0⟩ s.nx = none := by unfold setP; rw [if_neg (by omega)]; exact f1.1
  have h2 := h1.alloc (b := s.nx) e1 (.cells z.cells T) (c := 0) (ent_alloc (ofAs_vals _ hcs))
  have x1 : Ext σ (setP σ (s.nx + 1) ⟨w.heap.size, 0, 0⟩) := setP_ext f2.1
  have x2 := setP_ext (k := ⟨w1.heap.size, 0, 0⟩) e1
  refine ⟨_, x1.trans x2, ⟨h2.congr fun b e hb => ?_, fun b hb => ?_⟩, ptr_val setP_self, val_mono x2 _ _ (ptr_val setP_self)⟩
  · simp only [Sgm.add] at hb
    rw [Tr.put_comm _ _ _ _ _ (by omega)] at hb
    exact hb
  · simp only [Sgm.add] at hb ⊢
    have h3 := hm.fr b (by omega)
    refine ⟨?_, ?_⟩
    · unfold setP; rw [if_neg (by omega), if_neg (by omega)]; exact h3.1
    · rw [Tr.get_ne _ _ _ _ (by omega), Tr.get_ne _ _ _ _ (by omega)]; exact h3.2
theorem only_ready (hX : DwOk X) {listed : Array Bool} {lm j k : Nat} (hL : Lm X.ds.length listed lm) (c : none_ready j lm X.ds 0 = true) (hk : k ∈ Region.ready .any X.ops listed) : k = j := by
  have h1 := (ready_mask hX.hds hL).1 hk
  unfold readyM at h1
  rw [List.mem_filter, List.mem_range, Bool.and_eq_true, Bool.not_eq_true', nbeq] at h1
  by_cases e : k = j
  · exact e
  · have := none_ready_spec X.ds 0 c k (Nat.zero_le _) (by omega) h1.2.1 e
    rw [Nat.sub_zero] at this
    exact absurd h1.2.2 this
theorem drw_ok (hX : DwOk X) (hc : SndC X.P call) (hQ : ∀ c a w, ¬ Q (.panic c) a w) : ∀ (n lm : Nat) (F : Ph) (ρ : Ev) (s : Sgm), drw call X n lm F ρ s = some (ρ', s') → RdOk F → SubM F.m s → ∀ (σF σ : Pl0) (w : World) (ρc : Env) (listed : Array Bool) (a : Act), Ext σF σ → EnvR σ ρ ρc → Mem w0 w σ s → Dc F σF w → Holds X.N a ρc → Closed X.ops listed → Lm X.ds.length listed lm →
    (∀ σ' w' ρc' a', Ext σ σ' → EnvR σ' ρ' ρc' → Mem w0 w' σ' s' → Holds X.N a' ρc' → Q .normal a' w') → wpAnyP X.P X.ops Q (Dc F σF) (phL X F) n listed a w := by
  intro n
  induction n using Nat.strongRecOn with
  | _ n ih =>
  intro lm F ρ s h hrd hsub σF σ w ρc listed a hx hρ hm hD ha hcl hL hk
  have hml := hX.hml
  cases n with
  | zero =>
    rw [drw] at h
    replace h := bif_t h
    obtain ⟨c1, h⟩ := h
    obtain rfl := beq_t c1
    cases h
    refine ⟨List.eq_nil_iff_forall_not_mem.2 fun j hj => ?_, hk σ w ρc a (Ext.refl σ) hρ hm ha⟩
    have h1 := (ready_mask hX.hds hL).1 hj
    unfold readyM at h1
    rw [List.mem_filter, List.mem_range, Bool.and_eq_true, Bool.not_eq_true', full_bit hX] at h1
    have := h1.2.1
    simp only [decide_eq_false_iff_not] at this
    exact this h1.1
  | succ n =>
  rw [drw] at h
  generalize hrs : readyM X.ds lm = rs at h
  split at h
  · cases h
  rename_i rs2 _
  have hrdy : ∀ j, j ∈ Region.ready .any X.ops listed ↔ j ∈ rs := fun j => by rw [ready_mask hX.hds hL, hrs]
  have hlt : ∀ j ∈ rs, j < X.ds.length ∧ lm.testBit j = false := fun j hj => by
    rw [← hrs] at hj
    unfold readyM at hj
    rw [List.mem_filter, List.mem_range, Bool.and_eq_true, Bool.not_eq_true'] at hj
    exact ⟨hj.1, hj.2.1⟩
  split at h
  · rename_i i mm d r hq
    split at h
    rotate_left
    · cases h
    rename_i ρ1 hp
    obtain ⟨hi, o, ho, rfl, hcase⟩ := firstQ_ok hq
    have hir := (hrdy i).2 hi
    have hin := (hlt i hi).1
    have cont : ∀ v, r.val σ = some v → ∀ w', Gr w w' → wpAnyP X.P X.ops Q (Dc F σF) (phL X F) n (listed.setIfInBounds i true) (a.put o.dst v) w' := fun v hv w' hg => by
      obtain ⟨p1, p2⟩ := putx_ok hp hρ hv
      exact ih n (Nat.lt_succ_self n) _ F ρ1 s h hrd hsub σF σ w' _ _ _ hx p1 (hm.gr hg) (hD.gr hg) (p2 a ha) (closed_set hcl hir) (hL.set hin) hk
    rcases hcase with ⟨hv, hpd⟩ | ⟨hv, hpd⟩
    · obtain ⟨v, v1, v2⟩ := qv_ok (N := X.N) (Dm := fun _ => True) (w := w) hv hρ trivial (fun _ _ b e hb => by cases hb)
      refine wpAnyP_first (W := fun j i => (X.ms.getD j 0).testBit i = true) (D1 := fun _ => True) (fun listed hc j i h hp => anc_spec hX.hds hX.hms listed hc (j + 1) j i (by omega) h hp) (fun _ _ h hg => h.gr hg) (fun _ _ _ _ => trivial) hQ ho (Region.noSelect_spec hX.hsel) n listed a w hcl (fun j oj hj hne hun => ?_) hir trivial (v2 a ha) (cont v v1)
      obtain ⟨u1, u2⟩ := (hL.un (j := j)).1 hun
      have := pend_spec X.ms 0 hpd j (Nat.zero_le _) (by omega) u2 hne
      rw [Nat.sub_zero] at this
      rcases this with h1 | h1
      · exact .inl h1
      · exact .inr ⟨h1.2 oj hj, fun _ _ _ _ => trivial⟩
    · obtain ⟨v, v1, v2⟩ := qv_ok (N := X.N) (Dm := Dc F σF) hv hρ hD (fun w' hw' b e hb => (hw' b e hb).ext hx)
      refine wpAnyP_first (W := fun j i => (X.ms.getD j 0).testBit i = true) (D1 := Dc F σF) (fun listed hc j i h hp => anc_spec hX.hds hX.hms listed hc (j + 1) j i (by omega) h hp) (fun _ _ h hg => h.gr hg) (fun _ _ h hg => h.gr hg) hQ ho (Region.noSelect_spec hX.hsel) n listed a w hcl (fun j oj hj hne hun => ?_) hir hD (v2 a ha) (cont v v1)
      obtain ⟨u1, u2⟩ := (hL.un (j := j)).1 hun
      have := pend_spec X.ms 0 hpd j (Nat.zero_le _) (by omega) u2 hne
      rw [Nat.sub_zero] at this
      rcases this with h1 | h1
      · exact .inl h1
      · exact .inr ⟨h1.2 oj hj, fun _ _ hh => hh (phL_mem.2 ⟨u1, h1.1⟩)⟩
  · split at h
    · rename_i i _ _
      split at h
      rotate_left
      · cases h
      rename_i o ho
      split at h
      rotate_left
      · cases h
      rename_i ρ1 s1 hst
      have hir := (hrdy i).2 (List.mem_singleton.2 rfl)
      have hin := (hlt i (List.mem_singleton.2 rfl)).1
      refine ⟨fun h0 => (by rw [h0] at hir; cases hir), fun j hj => ?_⟩
      obtain rfl := List.mem_singleton.1 ((hrdy j).1 hj)
      unfold wpOp
      simp only [ho]
      have key : ∀ K : Act → World → Prop, (∀ σ' w' ρc' a', Ext σ σ' → EnvR σ' ρ1 ρc' → Mem w0 w' σ' s1 → Holds X.N a' ρc' → K a' w') → if Region.wanted o (yielded X.ops a.tmps) then o.wp X.P a w K Q ∨ (o.asks X.P a w ∧ LetsOut Q) else K (a.put o.dst undef) w := fun K hK => by
        have := step_wp (Q := Q) hc hst hρ hm ha hK
        split
        · rename_i hw; rw [if_pos hw] at this; exact .inl this
        · rename_i hw; rw [if_neg hw] at this; exact this
      refine key _ fun σ' w' ρc' a' x' hρ' hm' ha' => ?_
      cases hb : F.phm.testBit j with
      | true =>
        rw [hb, cond_true] at h
        obtain ⟨c1, h⟩ := bif_t h
        have hsub' : SubM F.m s1 := kept_sub hst c1 hrd hsub fun b hb => (hm.fr b hb).2
        have hD' : Dc F σF w' := fun b e hb => (hm'.ent b e (hsub' b e hb)).back (hD b e hb) (hx.trans x')
        refine ⟨fun _ _ => hD', fun w'' hg => ?_⟩
        exact ih n (Nat.lt_succ_self n) _ F ρ1 s1 h hrd hsub' σF σ' w'' _ _ _ (hx.trans x') hρ' (hm'.gr hg) (hD'.gr hg) ha' (closed_set hcl hir) (hL.set hin) fun σ2 w2 ρ2 a2 y => hk σ2 w2 ρ2 a2 (x'.trans y)
      | false =>
        rw [hb, cond_false] at h
        obtain ⟨c1, h⟩ := bif_t h
        refine ⟨fun hmem => ?_, fun w'' hg => ?_⟩
        · rw [(phL_mem.1 hmem).2] at hb; cases hb
        · have hm2 := hm'.gr hg
          have hL2 := hL.set hin
          have := ih n (Nat.lt_succ_self n) _ _ ρ1 s1 h (mkPh_rd X _) (mkPh_sub X _) σ' σ' w'' ρc' (listed.setIfInBounds j true) a' (Ext.refl σ') hρ' hm2 (fun b e hb => hm2.ent b e (mkPh_sub X _ b e hb)) ha' (closed_set hcl hir) hL2 fun σ2 w2 ρ2 a2 y => hk σ2 w2 ρ2 a2 (x'.trans y)
          refine wpAnyP_re n _ a' w'' (fun k hun hmem => ?_) this
          obtain ⟨u1, u2⟩ := (hL2.un (j := k)).1 hun
          have hb2 := (phL_mem.1 hmem).2
          have := and_sub c1 hb2
          rw [u2] at this; cases this
    · rename_i i j _ _
      split at h
      · cases h
      rename_i n
      obtain ⟨_, h⟩ := bif_t h
      split at h
      rotate_left
      · cases h
      rename_i ρ1 s1 h2
      unfold twoA at h2
      split at h2
      rotate_left
      · cases h2
      rename_i d T ty ps af hoi
      split at h2
      rotate_left
      · cases h2
      rename_i d' T' ty' ps' af' hoj
      obtain ⟨c1, h2⟩ := bif_t h2
      simp only [Bool.and_eq_true, Bool.not_eq_true'] at c1
      obtain ⟨⟨⟨⟨⟨⟨⟨c1, c2⟩, c3⟩, c4⟩, c5⟩, c6⟩, c7⟩, c8⟩ := c1
      have c3 : d ≠ d' := fun e => by rw [e] at c3; simp at c3
      have c4 : i ≠ j := fun e => by rw [e] at c4; simp at c4
      split at h2
      rotate_left
      · cases h2
      rename_i r1 sa ha1
      split at h2
      rotate_left
      · cases h2
      rename_i r2 sb hb1
      cases h2
      simp only [hv] at ha1 hb1
      split at ha1
      rotate_left
      · cases ha1
      rename_i z hz
      split at ha1
      rotate_left
      · cases ha1
      rename_i cs hcs
      cases ha1
      split at hb1
      rotate_left
      · cases hb1
      rename_i z' hz'
      split at hb1
      rotate_left
      · cases hb1
      rename_i cs' hcs'
      cases hb1
      have hmi : i ∈ [i, j] := List.mem_cons_self
      have hmj : j ∈ [i, j] := List.mem_cons_of_mem i List.mem_cons_self
      have hii := hlt i hmi
      have hjj := hlt j hmj
      have hir := (hrdy i).2 hmi
      have hjr := (hrdy j).2 hmj
      have x0 : ∀ w' o, Dc F σF w' → Dc F σF (w'.alloc o) := fun w' o hd => hd.gr ((St.refl w').grow rfl rfl rfl (by simp) fun k hk => heap_alloc_old w' _ hk)
      refine ⟨fun h0 => (by rw [h0] at hir; cases hir), fun k hk' => ?_⟩
      rcases List.mem_cons.1 ((hrdy k).1 hk') with rfl | hk2
      · have hL1 := hL.set hii.1
        have hcl1 := closed_set hcl hir
        unfold wpOp
        simp only [hoi]
        rw [if_pos (by simp [Region.wanted])]
        left
        unfold Oper.wp
        rw [run_alloc hz a, Oper.upon_value]
        refine ⟨fun _ hd => x0 _ _ hd, fun w1 hg1 => ⟨fun h0 => ?_, fun k2 hk2 => ?_⟩⟩
        · have := ready_mono hjr (Ne.symm c4)
          rw [h0] at this; cases this
        · obtain rfl := only_ready hX hL1 c7 hk2
          unfold wpOp
          simp only [hoj]
          rw [if_pos (by simp [Region.wanted])]
          left
          unfold Oper.wp
          rw [run_alloc hz', Oper.upon_value]
          refine ⟨fun _ hd => x0 _ _ hd, fun w4 hg4 => ?_⟩
          obtain ⟨σ2, y1, y2, y3, y4⟩ := two_ok hm (T := T) (T' := T') hcs hcs' hg1
          exact ih n (by omega) _ F _ _ h hrd ((hsub.add (fun b hb => (hm.fr b hb).2) _).add (fun b hb => by
            have := (hm.fr b (by simp only [Sgm.add] at hb; omega)).2
            simp only [Sgm.add] at hb ⊢
            rw [Tr.get_ne _ _ _ _ (by omega)]; exact this) _) σF σ2 w4 _ _ _ (hx.trans y1) (((hρ.ext y1).put y3).put y4) (y2.gr hg4) ((x0 _ _ ((x0 _ _ hD).gr hg1)).gr hg4) ((ha.put c1 _).put c2 _) (closed_set hcl1 (ready_mono hjr (Ne.symm c4))) (hL1.set hjj.1) fun σ3 w3 ρ3 a3 y => hk σ3 w3 ρ3 a3 (y1.trans y)
      · obtain rfl := List.mem_singleton.1 hk2
        have hL1 := hL.set hjj.1
        have hcl1 := closed_set hcl hjr
        unfold wpOp
        simp only [hoj]
        rw [if_pos (by simp [Region.wanted])]
        left
        unfold Oper.wp
        rw [run_alloc hz' a, Oper.upon_value]
        refine ⟨fun _ hd => x0 _ _ hd, fun w1 hg1 => ⟨fun h0 => ?_, fun k2 hk2 => ?_⟩⟩
        · have := ready_mono hir c4
          rw [h0] at this; cases this
        · obtain rfl := only_ready hX hL1 c8 hk2
          unfold wpOp
          simp only [hoi]
          rw [if_pos (by simp [Region.wanted])]
          left
          unfold Oper.wp
          rw [run_alloc hz, Oper.upon_value]
          refine ⟨fun _ hd => x0 _ _ hd, fun w4 hg4 => ?_⟩
          obtain ⟨σ2, y1, y2, y3, y4⟩ := two_ok' hm (T := T) (T' := T') hcs hcs' hg1
          have hlm : lm ||| 1 <<< k ||| 1 <<< k2 = lm ||| 1 <<< k2 ||| 1 <<< k := by rw [Nat.or_assoc, Nat.or_comm (1 <<< k), ← Nat.or_assoc]
          have hL2 := hL1.set hii.1
          rw [hlm] at hL2
          have hρ2 := ((hρ.ext y1).put (d := d') y4).put (d := d) y3
          rw [← Tr.put_comm _ _ _ _ _ c3] at hρ2
          exact ih n (by omega) _ F _ _ h hrd ((hsub.add (fun b hb => (hm.fr b hb).2) _).add (fun b hb => by
            have := (hm.fr b (by simp only [Sgm.add] at hb; omega)).2
            simp only [Sgm.add] at hb ⊢
            rw [Tr.get_ne _ _ _ _ (by omega)]; exact this) _) σF σ2 w4 _ _ _ (hx.trans y1) hρ2 (y2.gr hg4) ((x0 _ _ ((x0 _ _ hD).gr hg1)).gr hg4) ((ha.put c2 _).put c1 _) (closed_set hcl1 (ready_mono hir c4)) hL2 fun σ3 w3 ρ3 a3 y => hk σ3 w3 ρ3 a3 (y1.trans y)
    · cases h
end
end Go.Hy.Ix
