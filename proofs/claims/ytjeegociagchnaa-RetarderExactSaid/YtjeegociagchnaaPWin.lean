/-
  What the reference's window of a retarder answers.
-/
import Derived.Test.YtjeegociagchnaaPTgt
namespace Go.Hy
set_option linter.unusedVariables false
set_option linter.unusedSimpArgs false
set_option maxHeartbeats 2000000
set_option maxRecDepth 10000
open Go.Hy.Iv

abbrev BdOk (b : Band) : Prop := 0 ≤ b.Lo ∧ b.Lo ≤ b.Hi ∧ b.Hi ≤ 20000
theorem bsq {v : Int} (h : 0 ≤ v ∧ v ≤ 20000) : 0 ≤ v * v ∧ v * v ≤ 400000000 := by
  have := sq_bd (v := v) (by omega)
  have := sq_le (a := v) (b := 20000) h.1 h.2
  omega
theorem rBand_m {b : Band} : r21_Valid b = some (decide (BdOk b)) := by
  refine Ok.eq (?_ : Ok _ _)
  unfold r21_Valid
  exact ok_if (fun h1 => ok_if (fun h2 => ok_some (decide_eq_decide.2 ⟨fun h => ⟨h1, h2, h⟩, fun h => h.2.2⟩)) (fun h2 => ok_some (decide_eq_false (fun h => h2 h.2.1)).symm)) (fun h1 => ok_some (decide_eq_false (fun h => h1 h.1)).symm)
theorem rEno_m {q : Passage} {b : Band} (hb : BdOk b) : r21_enough q b = some (decide (Eno q b.Lo)) := by
  have := bsq (v := b.Lo) (by omega)
  refine Ok.eq (?_ : Ok _ _)
  unfold r21_enough
  refine ok_nb (fun h1 => ok_nb (fun h2 => ok_some ?_) (fun h2 => ok_some (decide_eq_false (fun h => by rw [h.2.1] at h2; cases h2)).symm)) (fun h1 => ok_some (decide_eq_false (fun h => by rw [h.1] at h1; cases h1)).symm)
  rw [w64_eq (by omega)]
  exact decide_eq_decide.2 ⟨fun h => ⟨h1, h2, h⟩, fun h => h.2.2⟩
theorem rGen_m {q : Passage} {b : Band} (hb : BdOk b) : r21_gentle q b = some (decide (Gen q b.Hi)) := by
  have := bsq (v := b.Hi) (by omega)
  refine Ok.eq (?_ : Ok _ _)
  unfold r21_gentle
  refine ok_b (fun h1 => ok_some (decide_eq_true (.inl h1)).symm) (fun h1 => ok_some ?_)
  rw [w64_eq (by omega)]
  exact decide_eq_decide.2 ⟨fun h => .inr h, fun h => h.resolve_left (by rw [h1]; simp)⟩
theorem rWith_m {m : Motion} {k v : Int} (hk : 0 ≤ k ∧ k < m.Targets.length) (hl : m.Targets.length ≤ 1000000000) : r21_With m k v = some (setT m k.toNat v) := by
  refine Ok.eq (?_ : Ok _ _)
  unfold r21_With
  refine ok_ck (by simpa using hl) (ok_vl fun y hy => ?_)
  rw [List.nil_append] at hy
  rw [hy]
  exact ok_ix hk.1 hk.2 fun x _ => ok_vl fun z hz => ok_some (by rw [hz]; rfl)
theorem rLast_m {ps : List Piece} {m : Motion} (hp : PsOk ps) (hm : MotOk ps m) : r21_last ps m = some (lastP (psAll ps m)) := by
  refine Ok.eq (?_ : Ok _ _)
  unfold r21_last
  refine ok_bde rPass_e ?_
  rw [psOut_eq hp hm]
  dsimp only
  have hl := psAll_len (ps := ps) (m := m)
  have hpl := hp.len
  have hla := last_at (ps := ps) (m := m)
  rw [hl, w64_eq (by omega)]
  exact ok_ixe (by omega) (by rw [← hla]; congr 1; omega) (ok_some rfl)
/-- The least number from which on a condition holds. -/
structure IsLst (P : Int → Prop) (n : Int) : Prop where
  r : 0 ≤ n ∧ n ≤ 20001
  i : ∀ v, 0 ≤ v → v ≤ 20000 → (P v ↔ n ≤ v)
theorem IsLst.one {P : Int → Prop} {n m : Int} (h : IsLst P n) (k : IsLst P m) : n = m := by
  have h1 := h.r
  have k1 := k.r
  rcases Int.lt_trichotomy n m with q | q | q
  · have := (k.i n h1.1 (by omega)).1 ((h.i n h1.1 (by omega)).2 (Int.le_refl _)); omega
  · exact q
  · have := (h.i m k1.1 (by omega)).1 ((k.i m k1.1 (by omega)).2 (Int.le_refl _)); omega
/-- The end of a search. -/
theorem IsLst.of {P : Int → Prop} {lo hi : Int} (h : lo = hi) (h0 : 0 ≤ lo ∧ lo ≤ 20001) (h1 : ∀ v, 0 ≤ v → v < lo → ¬ P v) (h2 : ∀ v, hi ≤ v → v ≤ 20000 → P v) : IsLst P lo :=
  ⟨h0, fun v v0 v1 => ⟨fun hp => by
    rcases Int.lt_or_le v lo with q | q
    · exact absurd hp (h1 v v0 q)
    · exact q, fun hp => h2 v (by omega) v1⟩⟩
abbrev LstE (ps : List Piece) (m : Motion) (k : Nat) (b : Band) (lo hi : Int) : Prop :=
  IsLst (fun v => Eno (lastP (psAll ps (setT m k v))) b.Lo) lo ∧ IsLst (fun v => ¬ Gen (lastP (psAll ps (setT m k v))) b.Hi) hi
/-- What a window is. -/
structure WinE (ps : List Piece) (m : Motion) (k : Int) (b : Band) (r : Interval × Int) : Prop where
  w1 : ¬ BdOk b → r = (⟨0, 0⟩, 1)
  w2 : BdOk b → ¬ (0 ≤ k ∧ k < m.Targets.length) → r = (⟨0, 0⟩, 2)
  w3 : BdOk b → (0 ≤ k ∧ k < m.Targets.length) → (psOut ps (setT m k.toNat 0)).2 ≠ 0 → r = (⟨0, 0⟩, (psOut ps (setT m k.toNat 0)).2)
  w4 : BdOk b → (0 ≤ k ∧ k < m.Targets.length) → (psOut ps (setT m k.toNat 0)).2 = 0 → ∃ lo hi, LstE ps m k.toNat b lo hi ∧ r = if hi ≤ lo then (⟨0, 0⟩, 15) else (⟨lo, hi - 1⟩, 0)
theorem WinE.one {ps : List Piece} {m : Motion} {k : Int} {b : Band} {r s : Interval × Int} (h : WinE ps m k b r) (g : WinE ps m k b s) : r = s := by
  by_cases hb : BdOk b
  · by_cases hk : 0 ≤ k ∧ k < m.Targets.length
    · by_cases he : (psOut ps (setT m k.toNat 0)).2 = 0
      · obtain ⟨lo, hi, ⟨h1, h2⟩, e1⟩ := h.w4 hb hk he
        obtain ⟨lo', hi', ⟨g1, g2⟩, e2⟩ := g.w4 hb hk he
        rw [e1, e2, h1.one g1, h2.one g2]
      · rw [h.w3 hb hk he, g.w3 hb hk he]
    · rw [h.w2 hb hk, g.w2 hb hk]
  · rw [h.w1 hb, g.w1 hb]
/-- From the motion with one target to that with others. -/
theorem mot_set {ps : List Piece} {m : Motion} {k : Nat} {u v : Int} (h : MotOk ps (setT m k u)) (hv : Tg v) : MotOk ps (setT m k v) := by
  have := setT_ok (k := k) h hv
  unfold setT at this
  dsimp only at this
  rw [List.set_set] at this
  exact this
theorem set_slo {ps : List Piece} {m : Motion} {k : Nat} {u v : Int} (hp : PsOk ps) (h : MotOk ps (setT m k 0)) (hu : 0 ≤ u ∧ u ≤ v) (hv : v ≤ 20000) : SloP (lastP (psAll ps (setT m k u))) (lastP (psAll ps (setT m k v))) := by
  have := last_slo (k := k) hp h hu hv
  have e : ∀ w, setT (setT m k 0) k w = setT m k w := fun w => by unfold setT; dsimp only; rw [List.set_set]
  rw [e, e] at this
  exact this
theorem rWindow_m {ps : List Piece} {m : Motion} {k : Int} {b : Band} (hl : m.Targets.length ≤ 1000000000) : Ok (r21_Window ps m k b) (WinE ps m k b) := by
  unfold r21_Window
  refine ok_bde rBand_m (ok_nb (fun h => ok_some ?_) (fun h => ?_))
  · have := of_decide_eq_false h
    exact ⟨fun _ => rfl, fun q => absurd q this, fun q => absurd q this, fun q => absurd q this⟩
  have hb := of_decide_eq_true h
  have out : ¬ (0 ≤ k ∧ k < m.Targets.length) → Ok (some ((Interval.mk 0 0), (2 : Int))) (WinE ps m k b) := fun q => ok_some ⟨fun g => absurd hb g, fun _ _ => rfl, fun _ g => absurd g q, fun _ g => absurd g q⟩
  refine ok_if (fun q => out (by omega)) (fun q1 => ok_if (fun q => out (by omega)) (fun q2 => ?_))
  have hk : 0 ≤ k ∧ k < m.Targets.length := by omega
  refine ok_bde (rWith_m hk hl) (ok_bde rPass_e ?_)
  have eta : ∀ v, (Motion.mk (setT m k.toNat v).Speed m.Class (setT m k.toNat v).Error (setT m k.toNat v).Targets) = setT m k.toNat v := fun v => rfl
  rw [eta]
  refine ok_if (fun q => ok_some ⟨fun g => absurd hb g, fun _ g => absurd hk g, fun _ _ _ => rfl, fun _ _ g => absurd g q⟩) (fun q => ?_)
  have q := Decidable.not_not.1 q
  obtain ⟨hp, hm, _⟩ := psOut_ok q
  have mono : ∀ {u v : Int}, 0 ≤ u → u ≤ v → v ≤ 20000 → SloP (lastP (psAll ps (setT m k.toNat u))) (lastP (psAll ps (setT m k.toNat v))) := fun h0 h1 h2 => set_slo hp hm ⟨h0, h1⟩ h2
  refine ok_jp (fun lo => IsLst (fun v => Eno (lastP (psAll ps (setT m k.toNat v))) b.Lo) lo) (fun lo hlo => ?_) (fun kk hkk => ?_)
  · refine ok_jp (fun hi => IsLst (fun v => ¬ Gen (lastP (psAll ps (setT m k.toNat v))) b.Hi) hi) (fun hi hhi => ?_) (fun kk hkk => ?_)
    · have := hlo.r
      have := hhi.r
      have fin : ∀ r, (r = if hi ≤ lo then ((⟨0, 0⟩ : Interval), (15 : Int)) else (⟨lo, hi - 1⟩, 0)) → WinE ps m k b r := fun r hr => ⟨fun g => absurd hb g, fun _ g => absurd hk g, fun _ _ g => absurd q g, fun _ _ _ => ⟨lo, hi, ⟨hlo, hhi⟩, hr⟩⟩
      refine ok_if (fun h => ok_some (fin _ (by rw [if_pos h]))) (fun h => ok_some (fin _ ?_))
      rw [if_neg h, w64_eq (by omega)]
    · refine ok_lp (fun (z : Int × Int) => (0 ≤ z.2 ∧ z.2 ≤ z.1 ∧ z.1 ≤ 20001) ∧ (∀ v, 0 ≤ v → v < z.2 → ¬ ¬ Gen (lastP (psAll ps (setT m k.toNat v))) b.Hi) ∧ (∀ v, z.1 ≤ v → v ≤ 20000 → ¬ Gen (lastP (psAll ps (setT m k.toNat v))) b.Hi)) (fun z => (z.1 - z.2).toNat) ⟨by decide, fun v h0 h1 => by dsimp only at h1; omega, fun v h0 h1 => by dsimp only at h0; omega⟩ (by simp only [big_eq]; decide) ?_
      rintro ⟨hi, lo⟩ next ⟨⟨r0, r1, r2⟩, i1, i2⟩ hn
      dsimp only at r0 r1 r2 i1 i2 ⊢
      refine ok_if (fun h => ?_) (fun h => hkk _ (IsLst.of (by omega) (by omega) i1 i2))
      rw [w64_eq (n := lo + hi) (by omega), Int.tdiv_eq_ediv_of_nonneg (by omega), w64_eq (by omega)]
      refine ok_vl fun x hx => ok_bde (rWith_m hk hl) ?_
      rw [eta]
      refine ok_bde (rLast_m hp (mot_set hm (by omega))) (ok_bde (rGen_m hb) (ok_if (fun g => ?_) (fun g => ?_)))
      · rw [w64_eq (by omega)]
        exact hn _ ⟨by dsimp only; omega, fun v v0 v1 hh => hh (g.dn (mono v0 (by dsimp only at v1; omega) (by omega))), i2⟩ (by dsimp only; omega)
      · exact hn _ ⟨by dsimp only; omega, i1, fun v v0 v1 hh => g (hh.dn (mono (by omega) v0 v1))⟩ (by dsimp only; omega)
  · refine ok_lp (fun (z : Int × Int) => (0 ≤ z.1 ∧ z.1 ≤ z.2 ∧ z.2 ≤ 20001) ∧ (∀ v, 0 ≤ v → v < z.1 → ¬ Eno (lastP (psAll ps (setT m k.toNat v))) b.Lo) ∧ (∀ v, z.2 ≤ v → v ≤ 20000 → Eno (lastP (psAll ps (setT m k.toNat v))) b.Lo)) (fun z => (z.2 - z.1).toNat) ⟨by decide, fun v h0 h1 => by dsimp only at h1; omega, fun v h0 h1 => by dsimp only at h0; omega⟩ (by simp only [big_eq]; decide) ?_
    rintro ⟨lo, hi⟩ next ⟨⟨r0, r1, r2⟩, i1, i2⟩ hn
    dsimp only at r0 r1 r2 i1 i2 ⊢
    refine ok_if (fun h => ?_) (fun h => hkk _ (IsLst.of (lo := lo) (hi := hi) (by omega) (by omega) i1 i2))
    rw [w64_eq (n := lo + hi) (by omega), Int.tdiv_eq_ediv_of_nonneg (by omega), w64_eq (by omega)]
    refine ok_vl fun x hx => ok_bde (rWith_m hk hl) ?_
    rw [eta]
    refine ok_bde (rLast_m hp (mot_set hm (by omega))) (ok_bde (rEno_m hb) (ok_if (fun g => ?_) (fun g => ?_)))
    · exact hn _ ⟨by dsimp only; omega, i1, fun v v0 v1 => g.up (mono (by omega) v0 v1)⟩ (by dsimp only; omega)
    · rw [w64_eq (by omega)]
      exact hn _ ⟨by dsimp only; omega, fun v v0 v1 hh => g (hh.up (mono v0 (by dsimp only at v1; omega) (by omega))), i2⟩ (by dsimp only; omega)
/-! ### The band -/
theorem Band_ok {k : HumpgenMaker} (h : Mk k 900000000000000) : Ok (yardgen_Band k) fun r => (-1 ≤ r.1.Lo ∧ r.1.Lo ≤ 20000 ∧ 0 ≤ r.1.Hi ∧ r.1.Hi ≤ 20001) ∧ k.fn ≤ r.2 ∧ r.2 ≤ k.fn + 5 := by
  have c0 := h.c0
  have c1 := h.c1
  have mk : ∀ c', k.fn ≤ c' → c' ≤ k.fn + 100000 → Mk (HumpgenMaker.mk k.fl c') CM0 := fun c' h1 h2 => h.to h1 (by unfold CM0; omega)
  unfold yardgen_Band
  refine ok_bd (Pick_ok (h.up (by decide)) (by simp)) fun v ⟨mv, ev⟩ => ?_
  refine ok_bd (Pick_ok (mk v.2 (by omega) (by omega)) (by simp)) fun u ⟨mu, eu⟩ => ?_
  dsimp only at eu
  refine ok_bd (Next_ok (mk u.2 (by omega) (by omega)) (by omega)) fun n ⟨mn, en⟩ => ?_
  dsimp only at en
  simp only [List.mem_cons, List.not_mem_nil, or_false] at mv mu
  refine ok_if (fun hn => ?_) (fun hn => ok_some ⟨?_, by dsimp only; omega, by dsimp only; omega⟩)
  · refine ok_bd (Pick_ok (mk n.2 (by omega) (by omega)) (by simp)) fun x ⟨mx, ex⟩ => ?_
    dsimp only at ex
    refine ok_bd (Pick_ok (mk x.2 (by omega) (by omega)) (by simp)) fun y ⟨my, ey⟩ => ok_some ⟨?_, ?_, ?_⟩
    · simp only [List.mem_cons, List.not_mem_nil, or_false] at mx my
      dsimp only
      omega
    · dsimp only at ey ⊢; omega
    · dsimp only at ey ⊢; omega
  · dsimp only
    rw [w64_eq (by omega)]
    omega
end Go.Hy
