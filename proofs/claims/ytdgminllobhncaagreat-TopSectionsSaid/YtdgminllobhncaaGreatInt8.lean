/-
  The interpreter is sound, eighth: code and calls. A closed run that it computes is what the program does, in any world.
-/
import Derived.Test.YtdgminllobhncaaGreatInt7
namespace Go.Hy.Ix
set_option linter.unusedVariables false
set_option linter.unusedSimpArgs false
set_option maxHeartbeats 2000000
set_option maxRecDepth 10000
open Go.RowKit Go.ChangeShapes

section
variable {P : Program} {N : Nat} {ρ ρ' : Ev} {ρc : Env} {s s' : Sgm} {σ : Pl0} {w w0 : World} {call : CallX} {ops : Array Oper} {K : Kont} {id mode : Nat}
theorem Mem.drew (h : Mem w0 w σ s) : Mem w0 { w with drawn := w.drawn + 1 } σ s := h.gr (St.drew (St.refl w))
theorem reg_ok (hc : SndC P call) (h : listx call P N ops ops.toList ρ s = some (ρ', s')) (hρ : EnvR σ ρ ρc) (hm : Mem w0 w σ s)
    (hk : ∀ σ' w' ρc', Ext σ σ' → EnvR σ' ρ' ρc' → Mem w0 w' σ' s' → K .normal ρc' w') : Rn P N (.region id ops false) ρc w K := by
  unfold Rn
  intro a ha
  refine wp_region_list (list_ok hc ops.toList h hρ hm ha fun σ' w' ρc' a' x e m g => ?_)
  exact ⟨ρc', g, hk σ' w' ρc' x e m⟩
theorem drx_ok (hc : SndC P call) (h : drx call (mkDw P N ops mode) ρ s = some (ρ', s')) (hp : NoPanic K) (hρ : EnvR σ ρ ρc) (hm : Mem w0 w σ s)
    (hk : ∀ σ' w' ρc', Ext σ σ' → EnvR σ' ρ' ρc' → Mem w0 w' σ' s' → K .normal ρc' w') : Rn P N (.region id ops true) ρc w K := by
  unfold drx at h
  obtain ⟨c1, h⟩ := bif_t h
  unfold okDw at c1
  simp only [Bool.and_eq_true] at c1
  obtain ⟨⟨⟨c1, c2⟩, c3⟩, c4⟩ := c1
  have hX : DwOk (mkDw P N ops mode) := ⟨rfl, rfl, c1, beq_t c2, c4⟩
  unfold Rn
  intro a ha
  have hQ : ∀ c a w, ¬ lift N K (.panic c) a w := fun c a w ⟨ρ', _, hh⟩ => by
    unfold NoPanic at hp
    exact hp c ρ' w hh
  have hcl : Closed ops (Array.replicate ops.size false) := fun j o _ hj => by
    rcases Nat.lt_or_ge j ops.size with h' | h' <;> simp [h'] at hj
  have hL : Lm (mkDw P N ops mode).ds.length (Array.replicate ops.size false) 0 := ⟨by simp [mkDw], fun j => by
    rcases Nat.lt_or_ge j ops.size with h' | h' <;> simp [h']⟩
  have hm1 := hm.drew
  have key := drw_ok (X := mkDw P N ops mode) hX hc hQ ops.size 0 _ ρ s h (mkPh_rd _ _) (mkPh_sub _ _) σ σ _ ρc _ a (Ext.refl σ) hρ hm1 (fun b e hb => hm1.ent b e (mkPh_sub _ _ b e hb)) ha hcl hL fun σ' w' ρc' a' x e m g => ⟨ρc', g, hk σ' w' ρc' x e m⟩
  exact wp_region_any c3 (wpAny_of_P _ _ _ _ key)

theorem argE_ok : ∀ {args : List Vx} {vs : List Value} (i : Nat), vals σ args = some vs → EnvR σ (argE i args) (argEnv i vs)
  | [], vs, i, h => fun t r ht => by rw [argE, Tr.get_full] at ht; cases ht
  | r :: args, vs, i, h => by
    simp only [vals] at h
    cases h1 : r.val σ with
    | none => rw [h1] at h; cases h
    | some v =>
      rw [h1] at h
      simp only at h
      cases h2 : vals σ args with
      | none => rw [h2] at h; cases h
      | some us =>
        rw [h2] at h
        cases h
        exact (argE_ok (i + 1) h2).put h1
theorem rvx_ok {x : ResultVar} {r : Vx} (h : rvx P s ρ x = some r) (hρ : EnvR σ ρ ρc) (hm : Mem w0 w σ s) : ∃ v, r.val σ = some v ∧ ∀ a, Holds N a ρc → (rvSem a.tmps x).run P w = .ok v w := by
  cases x with
  | tmp t =>
    obtain ⟨v, v1, v2⟩ := hρ t r h
    exact ⟨v, v1, fun a ha => (RV.tmp v2).run ha⟩
  | cell t T =>
    simp only [rvx] at h
    split at h
    · rename_i b q hb
      split at h
      · rename_i e he
        obtain ⟨u, u1, u2⟩ := hρ t _ hb
        obtain ⟨k, k1, rfl⟩ := val_ptr u1
        obtain ⟨k', v, l1, l2, l3⟩ := ldx_ok h (hm.ent b e he)
        rw [k1] at l1; cases l1
        exact ⟨v, l2, fun a ha => (RV.cell u2 l3).run ha⟩
      · cases h
    · cases h
theorem rvxs_ok : ∀ {l : List ResultVar} {rs : List Vx}, rvxs P s ρ l = some rs → EnvR σ ρ ρc → Mem w0 w σ s → ∃ vs, vals σ rs = some vs ∧ ∀ a, Holds N a ρc → (l.mapM (rvSem a.tmps)).run P w = .ok vs w
  | [], rs, h, hρ, hm => by cases h; exact ⟨[], rfl, fun a ha => rfl⟩
  | x :: l, rs, h, hρ, hm => by
    simp only [rvxs] at h
    cases h1 : rvx P s ρ x with
    | none => rw [h1] at h; cases h
    | some r =>
      rw [h1] at h
      simp only at h
      cases h2 : rvxs P s ρ l with
      | none => rw [h2] at h; cases h
      | some us =>
        rw [h2] at h
        cases h
        obtain ⟨v, v1, v2⟩ := rvx_ok (N := N) h1 hρ hm
        obtain ⟨vs, s1, s2⟩ := rvxs_ok h2 hρ hm
        refine ⟨v :: vs, by simp only [vals, v1, s1], fun a ha => ?_⟩
        simp only [List.mapM_cons, Sem.run_bind, v2 a ha, s2 a ha, Result.andThen_ok, Sem.run_pure]
theorem retx_ok {fn : Func} {rs : List Vx} (h : rvxs P s ρ fn.results.toList = some rs) (hρ : EnvR σ ρ ρc) (hm : Mem w0 w σ s) : ∃ v, (retx rs).val σ = some v ∧ ∀ a, Holds N a ρc → (results fn a.tmps).run P w = .ok v w := by
  obtain ⟨vs, s1, s2⟩ := rvxs_ok (N := N) h hρ hm
  refine ⟨if h : vs.toArray.size = 1 then vs.toArray[0] else .tuple vs.toArray, ?_, fun a ha => ?_⟩
  · have hl := vals_len s1
    unfold retx
    split
    · rename_i r
      have h1 : vs.toArray.size = 1 := by simpa using hl
      rw [dif_pos h1]
      obtain ⟨v, v1, v2⟩ := vals_get s1 (i := 0) rfl
      rw [v2]
      have : vs.toArray[0]? = some v := by simpa using v1
      rw [Array.getElem?_eq_getElem (by omega)] at this
      exact this.symm
    · rename_i hne
      have h1 : ¬ vs.toArray.size = 1 := fun e => by
        have h2 : rs.length = 1 := by rw [← hl]; simpa using e
        obtain ⟨r, rfl⟩ := List.length_eq_one_iff.1 h2
        exact hne r rfl
      rw [dif_neg h1]
      simp only [Vx.val, s1]
  · rw [results_eq, ← Array.toArray_toList (xs := fn.results), List.mapM_toArray]
    show ((fn.results.toList.mapM (rvSem a.tmps) >>= fun x => pure x.toArray) >>= fun vs => pure (if h : vs.size = 1 then vs[0] else .tuple vs)).run P w = _
    rw [Sem.run_bind, Sem.run_bind, s2 a ha]
    rfl

/-- What the interpreter computes of a piece of code is so. -/
def SndE (P : Program) (run : Nat → Code → Ev → Sgm → Option (Exit × Ev × Sgm)) : Prop := ∀ N c ρ s e ρ' s', run N c ρ s = some (e, ρ', s') → ∀ w0 w σ ρc (K : Kont), NoPanic K → EnvR σ ρ ρc → Mem w0 w σ s →
  (∀ σ' w' ρc', Ext σ σ' → EnvR σ' ρ' ρc' → Mem w0 w' σ' s' → K e ρc' w') → Rn P N c ρc w K
theorem enter_ok {run : Nat → Code → Ev → Sgm → Option (Exit × Ev × Sgm)} (hr : SndE P run) : SndC P (enterx P run) := by
  intro f args s r s' h
  unfold enterx at h
  split at h
  · cases h
  · rename_i fn hf
    split at h
    · cases h
    · rename_i c hb
      obtain ⟨c1, h⟩ := bif_t h
      simp only [Bool.and_eq_true, Bool.not_eq_true'] at c1
      split at h
      · rename_i e ρ1 s1 hrun
        obtain ⟨c2, h⟩ := bif_t h
        split at h
        · rename_i rs hrs
          cases h
          refine ⟨fun as w => (CFn.of hf (by rw [hb]; rfl) c1.2).h as w, fun σ w0 w vs hm hv => ?_⟩
          have hl : Nat.ble vs.length fn.ntmps = true := by rw [vals_len hv]; exact c1.1
          refine calls_enter hf hb rfl hl rfl (hr _ _ _ _ _ _ _ hrun w0 w σ _ _ np_ret (argE_ok 0 hv) hm fun σ' w' ρc' x e1 m => ?_)
          obtain ⟨v, v1, v2⟩ := retx_ok (N := fn.ntmps) hrs e1 m
          unfold kRet
          refine ⟨?_, v, v2, σ', v, x, v1, rfl, m⟩
          cases e <;> first | exact .inl rfl | exact .inr rfl | cases c2
        · cases h
      · cases h
theorem ks_o {y : Code} {e : Exit} (he : e ≠ .normal) {w : World} {ρ : Env} (h : K e ρ w) : kSeq P N y K e ρ w := by
  unfold kSeq
  cases e <;> first | exact absurd rfl he | exact h
theorem kb_o {e : Exit} (he : ∀ i, e ≠ .exit i) {w : World} {ρ : Env} (h : K e ρ w) : kBlk id K e ρ w := by
  unfold kBlk
  cases e <;> first | exact absurd rfl (he _) | exact h
theorem kr_o {c : Code} {n : Nat} {e : Exit} (he : e ≠ .normal) {w : World} {ρ : Env} (h : K e ρ w) : kRnd P N c n K e ρ w := by
  unfold kRnd
  cases e <;> first | exact absurd rfl he | exact h
theorem ex_ok (P : Program) : ∀ n, SndE P (ex P n) ∧ ∀ N c ρ s e ρ' s', ex P n N (.loop c) ρ s = some (e, ρ', s') → ∀ w0 w σ ρc (K : Kont), NoPanic K → EnvR σ ρ ρc → Mem w0 w σ s →
    (∀ σ' w' ρc', Ext σ σ' → EnvR σ' ρ' ρc' → Mem w0 w' σ' s' → K e ρc' w') → Rnds P N c K n ρc w := by
  intro n
  induction n with
  | zero => exact ⟨fun N c ρ s e ρ' s' h => (by cases h), fun N c ρ s e ρ' s' h => (by cases h)⟩
  | succ n ih =>
    obtain ⟨ih, ihl⟩ := ih
    have hc : SndC P (enterx P (ex P n)) := enter_ok ih
    have hloop : ∀ N c ρ s e ρ' s', ex P (n + 1) N (.loop c) ρ s = some (e, ρ', s') → ∀ w0 w σ ρc (K : Kont), NoPanic K → EnvR σ ρ ρc → Mem w0 w σ s →
        (∀ σ' w' ρc', Ext σ σ' → EnvR σ' ρ' ρc' → Mem w0 w' σ' s' → K e ρc' w') → Rnds P N c K (n + 1) ρc w := by
      intro N c ρ s e ρ' s' h w0 w σ ρc K hp hρ hm hk
      rw [ex] at h
      refine rnds_succ ?_
      split at h
      · rename_i ρ1 s1 h1
        exact ih _ _ _ _ _ _ _ h1 w0 w σ ρc _ (np_rnd hp) hρ hm fun σ1 w1 ρc1 x1 e1 m1 => kr_n (ihl _ _ _ _ _ _ _ h w0 w1 σ1 ρc1 K hp e1 m1 fun σ2 w2 ρc2 x2 => hk σ2 w2 ρc2 (x1.trans x2))
      · rename_i hne
        refine ih _ _ _ _ _ _ _ h w0 w σ ρc _ (np_rnd hp) hρ hm fun σ1 w1 ρc1 x1 e1 m1 => kr_o ?_ (hk σ1 w1 ρc1 x1 e1 m1)
        rintro rfl
        exact hne _ _ h
    refine ⟨?_, hloop⟩
    intro N c ρ s e ρ' s' h w0 w σ ρc K hp hρ hm hk
    have h0 := h
    rw [ex.eq_def] at h
    dsimp only at h
    split at h
    · cases h; exact rn_skip (hk σ w ρc (Ext.refl σ) hρ hm)
    · cases h; exact rn_ret (hk σ w ρc (Ext.refl σ) hρ hm)
    · cases h; exact rn_exit (hk σ w ρc (Ext.refl σ) hρ hm)
    · refine rn_seq ?_
      split at h
      · rename_i ρ1 s1 h1
        exact ih _ _ _ _ _ _ _ h1 w0 w σ ρc _ (np_seq hp) hρ hm fun σ1 w1 ρc1 x1 e1 m1 => ks_n (ih _ _ _ _ _ _ _ h w0 w1 σ1 ρc1 K hp e1 m1 fun σ2 w2 ρc2 x2 => hk σ2 w2 ρc2 (x1.trans x2))
      · rename_i hne
        refine ih _ _ _ _ _ _ _ h w0 w σ ρc _ (np_seq hp) hρ hm fun σ1 w1 ρc1 x1 e1 m1 => ks_o ?_ (hk σ1 w1 ρc1 x1 e1 m1)
        rintro rfl
        exact hne _ _ h
    · split at h
      · rename_i b hb
        obtain ⟨v, v1, v2⟩ := evx_ok hρ hb
        obtain rfl := val_bool v1
        cases b with
        | true => exact rn_cond_t v2 (ih _ _ _ _ _ _ _ h w0 w σ ρc K hp hρ hm hk)
        | false => exact rn_cond_f v2 (ih _ _ _ _ _ _ _ h w0 w σ ρc K hp hρ hm hk)
      · cases h
    · refine rn_block ?_
      split at h
      · rename_i i ρ1 s1 h1
        cases hb : Nat.beq i _ with
        | true =>
          rw [hb] at h
          cases h
          obtain rfl := beq_t hb
          exact ih _ _ _ _ _ _ _ h1 w0 w σ ρc _ (np_blk hp) hρ hm fun σ1 w1 ρc1 x1 e1 m1 => kb_hit (hk σ1 w1 ρc1 x1 e1 m1)
        | false =>
          rw [hb] at h
          cases h
          exact ih _ _ _ _ _ _ _ h1 w0 w σ ρc _ (np_blk hp) hρ hm fun σ1 w1 ρc1 x1 e1 m1 => kb_miss hb (hk σ1 w1 ρc1 x1 e1 m1)
      · rename_i hne
        refine ih _ _ _ _ _ _ _ h w0 w σ ρc _ (np_blk hp) hρ hm fun σ1 w1 ρc1 x1 e1 m1 => kb_o ?_ (hk σ1 w1 ρc1 x1 e1 m1)
        rintro i rfl
        exact hne _ _ _ h
    · exact rn_rounds (n + 1) (hloop _ _ _ _ _ _ _ h0 w0 w σ ρc K hp hρ hm hk)
    · split at h
      · rename_i ρ1 s1 h1
        cases h
        exact reg_ok hc h1 hρ hm hk
      · cases h
    · split at h
      · rename_i ρ1 s1 h1
        cases h
        exact drx_ok hc h1 hp hρ hm hk
      · split at h
        · rename_i ρ1 s1 h1
          cases h
          exact drx_ok hc h1 hp hρ hm hk
        · split at h
          · rename_i ρ1 s1 h1
            cases h
            exact drx_ok hc h1 hp hρ hm hk
          · cases h
    · cases h
/-- A closed run. -/
theorem runx_ok {n : Nat} {f : FuncId} {r : Vx} {v : Value} (h : runx P n f = some r) (hv : ∀ σ, r.val σ = some v) (w : World) : Gives P f [] w v := by
  unfold runx at h
  split at h
  · rename_i q s1 h1
    cases h
    obtain ⟨_, c2⟩ := enter_ok (ex_ok P n).1 _ _ _ _ _ h1
    unfold Gives
    refine (c2 _ w w [] (Mem.nil w) rfl).mono fun e w' ⟨σ', v', _, e2, e3, m⟩ => ?_
    rw [hv σ'] at e2
    cases e2
    exact ⟨e3, m.st⟩
  · cases h
end
end Go.Hy.Ix
