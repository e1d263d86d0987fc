/-
  What the functions of package retarder answer, and those of the reference.
-/
import Derived.Test.YtjeegociagchnaaPWin
import Derived.Test.YtjeegociagchnaaPExP
namespace Go.Hy
set_option linter.unusedVariables false
set_option linter.unusedSimpArgs false
set_option maxHeartbeats 2000000
set_option maxRecDepth 10000
open Go.Hy.Iv

theorem pBand_m {b : Band} : retarder_Valid b = some (decide (BdOk b)) := rBand_m
theorem pLast_m {ps : List Piece} {m : Motion} : retarder_last ps m = some (if (psOut ps m).2 ≠ 0 then (⟨⟨0, 0⟩, ⟨0, 0⟩, false, false⟩, (psOut ps m).2) else (lastP (psAll ps m), 0)) := by
  refine Ok.eq (?_ : Ok _ _)
  unfold retarder_last
  refine ok_bde Pass_e (ok_if (fun h => ok_some (by rw [if_pos h])) (fun h => ?_))
  rw [if_neg h]
  obtain ⟨hp, hm, e⟩ := psOut_ok (Decidable.not_not.1 h)
  rw [e]
  dsimp only
  have hl := psAll_len (ps := ps) (m := m)
  have hpl := hp.len
  have hla := last_at (ps := ps) (m := m)
  rw [hl, w64_eq (by omega)]
  exact ok_ixe (by omega) (by rw [← hla]; congr 1; omega) (ok_some rfl)
theorem pEno_m {q : Passage} {v : Int} (hv : 0 ≤ v ∧ v ≤ 20000) : retarder_enough q v = some (decide (Eno q v)) := by
  have := bsq hv
  refine Ok.eq (?_ : Ok _ _)
  unfold retarder_enough
  refine ok_nb (fun h1 => ok_nb (fun h2 => ok_some ?_) (fun h2 => ok_some (decide_eq_false (fun h => by rw [h.2.1] at h2; cases h2)).symm)) (fun h1 => ok_some (decide_eq_false (fun h => by rw [h.1] at h1; cases h1)).symm)
  rw [w64_eq (by omega)]
  exact decide_eq_decide.2 ⟨fun h => ⟨h1, h2, h⟩, fun h => h.2.2⟩
/-- What a band is met by. -/
def mtE (ps : List Piece) (m : Motion) (b : Band) : Bool × Int :=
  if ¬ BdOk b then (false, 1) else if (psOut ps m).2 ≠ 0 then (false, (psOut ps m).2) else (decide (Eno (lastP (psAll ps m)) b.Lo ∧ Gen (lastP (psAll ps m)) b.Hi), 0)
theorem pMeets_m {ps : List Piece} {m : Motion} {b : Band} : retarder_Meets ps m b = some (mtE ps m b) := by
  refine Ok.eq (?_ : Ok _ _)
  unfold retarder_Meets mtE
  refine ok_bde pBand_m (ok_nb (fun h => ok_some (by rw [if_pos (of_decide_eq_false h)])) (fun h => ?_))
  have hb := of_decide_eq_true h
  rw [if_neg (fun q => q hb)]
  refine ok_bde pLast_m ?_
  by_cases he : (psOut ps m).2 = 0
  · rw [if_neg (fun q => q he), if_neg (fun q => q he)]
    generalize lastP (psAll ps m) = q
    refine ok_if0 (fun h => h rfl) (ok_bde (pEno_m (by omega)) (ok_if (fun g => ok_some ?_) (fun g => ok_some ?_)))
    · have := bsq (v := b.Hi) (by omega)
      rw [w64_eq (by omega)]
      congr 1
      exact decide_eq_decide.2 ⟨fun h => ⟨g, .inr h⟩, fun h => h.2.resolve_left (by rw [g.2.1]; simp)⟩
    · rw [decide_eq_false (fun h => g h.1)]
  · rw [if_pos he, if_pos he]
    exact ok_if1 he (ok_some rfl)
theorem rMeets_m {ps : List Piece} {m : Motion} {b : Band} : r21_Meets ps m b = some (mtE ps m b) := by
  refine Ok.eq (?_ : Ok _ _)
  unfold r21_Meets mtE
  refine ok_bde rBand_m (ok_nb (fun h => ok_some (by rw [if_pos (of_decide_eq_false h)])) (fun h => ?_))
  have hb := of_decide_eq_true h
  rw [if_neg (fun q => q hb)]
  refine ok_bde rPass_e (ok_if (fun h => ok_some (by rw [if_pos h])) (fun h => ?_))
  rw [if_neg h]
  obtain ⟨hp, hm, e⟩ := psOut_ok (Decidable.not_not.1 h)
  rw [e]
  dsimp only
  have hl := psAll_len (ps := ps) (m := m)
  have hpl := hp.len
  have hla := last_at (ps := ps) (m := m)
  have hla2 : (psAll ps m)[((ps.length : Int) + 1 - 1).toNat]? = some (lastP (psAll ps m)) := by rw [← hla]; congr 1; omega
  rw [hl, w64_eq (by omega)]
  rw [show ((ps.length + 1 : Nat) : Int) - 1 = (ps.length : Int) + 1 - 1 from by omega]
  generalize lastP (psAll ps m) = q at *
  refine ok_ixe (by omega) hla2 (ok_bde (rEno_m hb) (ok_if (fun g => ok_ixe (by omega) hla2 (ok_bde (rGen_m hb) (ok_some ?_))) (fun g => ok_some ?_)))
  · congr 1
    exact decide_eq_decide.2 ⟨fun h => ⟨g, h⟩, fun h => h.2⟩
  · rw [decide_eq_false (fun h => g h.1)]
/-- The least number from which on a condition holds, found by halving. -/
theorem least_m {q : Int → List Int → Option (Bool × List Int)} {P : Int → Prop} {S : List Int → Prop} {l : List Int} (h0 : S l) (hq : ∀ v l, 0 ≤ v → v ≤ 20000 → S l → Ok (q v l) fun r => S r.2 ∧ (r.1 = true ↔ P v))
    (mono : ∀ u v, 0 ≤ u → u ≤ v → v ≤ 20000 → P u → P v) : Ok (retarder_least q l) fun r => S r.2 ∧ IsLst P r.1 := by
  unfold retarder_least
  refine ok_lp (fun (z : Int × Int × List Int) => S z.2.2 ∧ (0 ≤ z.1 ∧ z.1 ≤ z.2.1 ∧ z.2.1 ≤ 20001) ∧ (∀ v, 0 ≤ v → v < z.1 → ¬ P v) ∧ (∀ v, z.2.1 ≤ v → v ≤ 20000 → P v)) (fun z => (z.2.1 - z.1).toNat) ⟨h0, by dsimp only; omega, fun v h0 h1 => by dsimp only at h1; omega, fun v h0 h1 => by dsimp only at h0; omega⟩ (by simp only [big_eq]; decide) ?_
  rintro ⟨lo, hi, l⟩ next ⟨hs, ⟨r0, r1, r2⟩, i1, i2⟩ hn
  dsimp only at hs r0 r1 r2 i1 i2 ⊢
  refine ok_if (fun h => ?_) (fun h => ok_some ⟨hs, IsLst.of (lo := lo) (hi := hi) (by omega) (by omega) i1 i2⟩)
  rw [w64_eq (n := lo + hi) (by omega), Int.tdiv_eq_ediv_of_nonneg (by omega), w64_eq (by omega)]
  refine ok_vl fun x hx => ok_bd (hq x l (by omega) (by omega) hs) fun r ⟨hr, hr2⟩ => ok_b (fun g => ?_) (fun g => ?_)
  · exact hn _ ⟨hr, by dsimp only; omega, i1, fun v v0 v1 => mono x v (by omega) v0 v1 (hr2.1 g)⟩ (by dsimp only; omega)
  · rw [w64_eq (by omega)]
    refine hn _ ⟨hr, by dsimp only; omega, fun v v0 v1 hh => ?_, i2⟩ (by dsimp only; omega)
    dsimp only at v1
    rw [hr2.2 (mono v x v0 (by omega) (by omega) hh)] at g
    cases g
theorem pWindow_m {ps : List Piece} {m : Motion} {k : Int} {b : Band} (hl : m.Targets.length ≤ 1000000000) : Ok (retarder_Window ps m k b) (WinE ps m k b) := by
  unfold retarder_Window
  refine ok_bde pBand_m (ok_nb (fun h => ok_some ?_) (fun h => ?_))
  · have := of_decide_eq_false h
    exact ⟨fun _ => rfl, fun q => absurd q this, fun q => absurd q this, fun q => absurd q this⟩
  have hb := of_decide_eq_true h
  have out : ¬ (0 ≤ k ∧ k < m.Targets.length) → Ok (some ((Interval.mk 0 0), (2 : Int))) (WinE ps m k b) := fun q => ok_some ⟨fun g => absurd hb g, fun _ _ => rfl, fun _ g => absurd g q, fun _ g => absurd g q⟩
  refine ok_if (fun q => out (by omega)) (fun q1 => ok_if (fun q => out (by omega)) (fun q2 => ?_))
  have hk : 0 ≤ k ∧ k < m.Targets.length := by omega
  refine ok_ck (by simpa using hl) (ok_vl fun y hy => ?_)
  rw [List.nil_append] at hy
  subst hy
  have hS : ∀ v (l : List Int), (l.length = m.Targets.length ∧ ∀ w, l.set k.toNat w = m.Targets.set k.toNat w) → Ok (retarder_Window_1 v ⟨m.Speed, m.Class, m.Error, l⟩ k ps) fun r => r = (if (psOut ps (setT m k.toNat v)).2 ≠ 0 then (⟨⟨0, 0⟩, ⟨0, 0⟩, false, false⟩, (psOut ps (setT m k.toNat v)).2, m.Targets.set k.toNat v) else (lastP (psAll ps (setT m k.toNat v)), 0, m.Targets.set k.toNat v)) := by
    intro v l ⟨hl1, hl2⟩
    unfold retarder_Window_1
    dsimp only
    refine ok_ix hk.1 (by omega) fun _ _ => ok_vl fun y hy => ?_
    rw [hl2 v] at hy
    subst hy
    refine ok_bde pLast_m (ok_some ?_)
    have e : (Motion.mk m.Speed m.Class m.Error (m.Targets.set k.toNat v)) = setT m k.toNat v := rfl
    rw [e]
    by_cases he : (psOut ps (setT m k.toNat v)).2 = 0
    · rw [if_neg (fun q => q he), if_neg (fun q => q he)]
    · rw [if_pos he, if_pos he]
  have hset : ∀ v, ((m.Targets.set k.toNat v).length = m.Targets.length ∧ ∀ w, (m.Targets.set k.toNat v).set k.toNat w = m.Targets.set k.toNat w) := fun v => ⟨by simp, fun w => by rw [List.set_set]⟩
  refine ok_bd (hS 0 m.Targets ⟨rfl, fun _ => rfl⟩) fun r hr => ?_
  by_cases q : (psOut ps (setT m k.toNat 0)).2 = 0
  rotate_left
  · rw [if_pos q] at hr
    subst hr
    exact ok_if1 q (ok_some ⟨fun g => absurd hb g, fun _ g => absurd hk g, fun _ _ _ => rfl, fun _ _ g => absurd g q⟩)
  rw [if_neg (fun h => h q)] at hr
  subst hr
  refine ok_if0 (fun h => h rfl) ?_
  obtain ⟨hp, hm, _⟩ := psOut_ok q
  have mono : ∀ {u v : Int}, 0 ≤ u → u ≤ v → v ≤ 20000 → SloP (lastP (psAll ps (setT m k.toNat u))) (lastP (psAll ps (setT m k.toNat v))) := fun h0 h1 h2 => set_slo hp hm ⟨h0, h1⟩ h2
  have ok0 : ∀ v, 0 ≤ v → v ≤ 20000 → (psOut ps (setT m k.toNat v)).2 = 0 := fun v v0 v1 => by rw [psOut_eq hp (mot_set hm (by omega))]
  have w1 : ∀ v l, 0 ≤ v → v ≤ 20000 → (l.length = m.Targets.length ∧ ∀ w, l.set k.toNat w = m.Targets.set k.toNat w) → retarder_Window_1 v ⟨m.Speed, m.Class, m.Error, l⟩ k ps = some (lastP (psAll ps (setT m k.toNat v)), 0, m.Targets.set k.toNat v) := fun v l v0 v1 hl => by
    have := (hS v l hl).eq
    rw [if_neg (fun h => h (ok0 v v0 v1))] at this
    exact this
  refine ok_bd (least_m (S := fun l => l.length = m.Targets.length ∧ ∀ w, l.set k.toNat w = m.Targets.set k.toNat w) (P := fun v => Eno (lastP (psAll ps (setT m k.toNat v))) b.Lo) (hset 0) (fun v l v0 v1 hl => ?_) (fun u v u0 uv v1 hu => hu.up (mono u0 uv v1))) fun r ⟨hr, hlo⟩ => ?_
  · unfold retarder_Window_2
    refine ok_bde (w1 v l v0 v1 hl) (ok_bde (pEno_m (by omega)) (ok_some ⟨hset v, ?_⟩))
    exact decide_eq_true_iff
  obtain ⟨lo, l1⟩ := r
  dsimp only at hr hlo ⊢
  refine ok_bd (least_m (S := fun l => l.length = m.Targets.length ∧ ∀ w, l.set k.toNat w = m.Targets.set k.toNat w) (P := fun v => ¬ Gen (lastP (psAll ps (setT m k.toNat v))) b.Hi) hr (fun v l v0 v1 hl => ?_) (fun u v u0 uv v1 hu hh => hu (hh.dn (mono u0 uv v1)))) fun r ⟨_, hhi⟩ => ?_
  · unfold retarder_Window_3
    have := bsq (v := b.Hi) (by omega)
    refine ok_bde (w1 v l v0 v1 hl) ?_
    rw [w64_eq (by omega)]
    refine ok_nb (fun g => ok_some ⟨hset v, ?_⟩) (fun g => ok_some ⟨hset v, ?_⟩)
    · dsimp only at g ⊢
      rw [decide_eq_true_iff]
      exact ⟨fun h1 h2 => h2.elim (fun h3 => by rw [h3] at g; cases g) (fun h3 => by omega), fun h1 => Decidable.byContradiction fun h2 => h1 (.inr (by omega))⟩
    · exact ⟨fun h => (by cases h), fun h => absurd (Or.inl g) h⟩
  obtain ⟨hi, l2⟩ := r
  dsimp only at hhi ⊢
  have := hlo.r
  have := hhi.r
  rw [w64_eq (n := hi - 1) (by omega)]
  have fin : ∀ r, (r = if hi ≤ lo then ((⟨0, 0⟩ : Interval), (15 : Int)) else (⟨lo, hi - 1⟩, 0)) → WinE ps m k b r := fun r hr => ⟨fun g => absurd hb g, fun _ g => absurd hk g, fun _ _ g => absurd q g, fun _ _ _ => ⟨lo, hi, ⟨hlo, hhi⟩, hr⟩⟩
  exact ok_if (fun h => ok_some (fin _ (by rw [if_pos (by omega)]))) (fun h => ok_some (fin _ (by rw [if_neg (by omega)])))
theorem pChoose_m {ps : List Piece} {m : Motion} {b : Band} (hl : m.Targets.length ≤ 1000000000) : Ok (retarder_Choose ps m b) fun r => ∃ x, WinE ps m ((m.Targets.length : Int) - 1) b x ∧ r = (x.1.Hi, x.2) := by
  unfold retarder_Choose
  refine ok_vl fun x hx => ?_
  rw [w64_eq (by omega)] at hx
  subst hx
  exact ok_bd (pWindow_m hl) fun r hr => ok_some ⟨r, hr, rfl⟩
theorem rChoose_m {ps : List Piece} {m : Motion} {b : Band} (hl : m.Targets.length ≤ 1000000000) : Ok (r21_Choose ps m b) fun r => ∃ x, WinE ps m ((m.Targets.length : Int) - 1) b x ∧ r = (x.1.Hi, x.2) := by
  unfold r21_Choose
  refine ok_vl fun x hx => ?_
  rw [w64_eq (by omega)] at hx
  subst hx
  exact ok_bd (rWindow_m hl) fun r hr => ok_some ⟨r, hr, rfl⟩
theorem sane21 : law21_sane = some true := by kernel_rfl
theorem exact21_m {ps : List Piece} {m : Motion} {k : Int} {b : Band} (hl : m.Targets.length ≤ 1000000000) : law21_exact ps m k b = some true := by
  refine Ok.eq (?_ : Ok _ _)
  unfold law21_exact
  refine ok_bde pMeets_m (ok_bde rMeets_m (ok_bd (pWindow_m hl) fun x hx => ok_bd (rWindow_m hl) fun y hy => ok_bd (pChoose_m hl) fun u ⟨u1, hu, eu⟩ => ok_bd (rChoose_m hl) fun v ⟨v1, hv, ev⟩ => ?_))
  obtain rfl := hx.one hy
  obtain rfl := hu.one hv
  subst eu ev
  refine ok_bde pBand_m (ok_bde rBand_m (ok_b (fun _ => ok_b (fun _ => ok_if1 rfl (ok_if1 ⟨rfl, rfl⟩ (ok_if1 rfl (ok_if1 rfl (ok_some (decide_eq_true rfl)))))) (fun h => ?_)) (fun h => ?_)))
  · simp at h
  · simp at h
theorem RetExact_ok {t : List Int} {qs : List Piece} {qm : Motion} {qk : Int} {qb : Band} (ht : t.length ≤ 9223372036854775807) : law21_RetarderExact t qs qm qk qb = some true := by
  refine Ok.eq (?_ : Ok _ _)
  unfold law21_RetarderExact
  refine ok_bde (gen_New_ok t) ?_
  have mk : ∀ c1, 0 ≤ c1 → c1 ≤ 1000000 → Mk (HumpgenMaker.mk t c1) 900000000000000 := fun c' h1 h2 => ⟨h1, by dsimp only; omega, ht⟩
  refine ok_jp (fun _ => True) (fun _ _ => ?_) (fun kk hk => ?_)
  · exact ok_if (fun _ => ok_bde sane21 (ok_some rfl)) (fun _ => ok_if (fun _ => ok_bde sane21 (ok_some rfl)) (fun _ => ok_if (fun _ => ok_bde sane21 (ok_some rfl)) (fun _ => ok_bde (exact21_m (by omega)) (ok_bde sane21 (ok_some rfl)))))
  refine ok_lp (fun (z : Int × Int) => 0 ≤ z.2 ∧ 0 ≤ z.1 ∧ z.1 ≤ 1000 * z.2) (fun z => (3 - z.2).toNat) ⟨Int.le_refl 0, Int.le_refl 0, by dsimp only; omega⟩ (by simp only [big_eq]; omega) ?_
  rintro ⟨c, i⟩ next ⟨i0, c0, c1⟩ hn
  dsimp only at i0 c0 c1 ⊢
  refine ok_if (fun hi => ?_) (fun _ => hk _ trivial)
  refine ok_bd (Pieces_ok (n := 6) (mk c c0 (by omega)) (by omega)) fun v ⟨⟨⟨n0, n1⟩, hp⟩, _, c2, c3⟩ => ?_
  obtain ⟨ps, cp⟩ := v
  dsimp only at n0 n1 hp c2 c3 ⊢
  refine ok_bd (Motion_ok ((mk cp (by omega) (by omega)).up (by decide)) (fun p h => (hp p h).c) (by omega)) fun v ⟨hm, _, _, _, _, c4, c5⟩ => ?_
  obtain ⟨m, cm⟩ := v
  dsimp only at hm c4 c5 ⊢
  have htm := hm.tgs
  have hnr := nret_le ps
  have up : ∀ c', c ≤ c' → c' ≤ c + 900 → Mk (HumpgenMaker.mk t c') CM0 := fun c' h1 h2 => (mk c' (by omega) (by omega)).up (by decide)
  refine ok_vl fun x hx => ?_
  rw [w64_eq (by omega)] at hx
  refine ok_bd (Next_ok (up cm (by omega) (by omega)) (by omega)) fun n ⟨hn1, hn2⟩ => ?_
  dsimp only at hn2
  refine ok_jp (fun (z : Int × Int × Int) => c ≤ z.1 ∧ z.1 ≤ c + 500) (fun z hz => ?_) (fun k2 hk2 => ?_)
  · refine ok_bd (Band_ok (mk z.1 (by omega) (by omega))) fun b ⟨_, b1, b2⟩ => ?_
    dsimp only at b1 b2
    refine ok_bde (exact21_m (by dsimp only; omega)) (ok_nb (fun h => by cases h) fun _ => ok_bde (exact21_m (by dsimp only; omega)) (ok_nb (fun h => by cases h) fun _ => ?_))
    rw [w64_eq (by omega)]
    exact hn _ ⟨by dsimp only; omega, by dsimp only; omega, by dsimp only; omega⟩ (by dsimp only; omega)
  refine ok_if (fun h2 => ?_) (fun h2 => hk2 _ ⟨by dsimp only; omega, by dsimp only; omega⟩)
  refine ok_bd (Pick_ok (up n.2 (by omega) (by omega)) (by simp)) fun u1 ⟨_, d1⟩ => ?_
  dsimp only at d1
  refine ok_bd (Pick_ok (up u1.2 (by omega) (by omega)) (by simp)) fun u2 ⟨_, d2⟩ => ?_
  dsimp only at d2
  exact hk2 _ ⟨by dsimp only; omega, by dsimp only; omega⟩
end Go.Hy
