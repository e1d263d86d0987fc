/-
  The statement that the ends are attained.
-/
import Derived.Test.YtbbcpffbdadnoaaPIvMo
namespace Go.Hy
set_option linter.unusedVariables false
set_option linter.unusedSimpArgs false
set_option maxHeartbeats 2000000
set_option maxRecDepth 10000
open Go.Hy.Iv

/-- All pairs that were seen have set their flags. -/
def Seen (S : Int → Int → Prop) (aL aH bL bH cL cH : Int) (f1 f2 f3 f4 f5 f6 : Bool) : Prop :=
  ∀ n m, S n m → (n + m = aL → f1 = true) ∧ (n - m = bL → f2 = true) ∧ (n * m = cL → f3 = true) ∧ (n + m = aH → f4 = true) ∧ (n - m = bH → f5 = true) ∧ (n * m = cH → f6 = true)
theorem ILeast_ok {t : List Int} (ht : t.length ≤ 9223372036854775807) : law01_IntervalLeast t = some true := by
  refine Ok.eq (?_ : Ok _ _)
  unfold law01_IntervalLeast
  refine ok_bde (gen_New_ok t) ?_
  have mk : ∀ c', 0 ≤ c' → c' ≤ 1000 → Mk (HumpgenMaker.mk t c') 900000000000000 := fun c' h1 h2 => ⟨h1, by dsimp only; omega, ht⟩
  refine ok_bd (MValid_ok (mk 0 (by decide) (by decide))) fun x ⟨hx, ex⟩ => ?_
  dsimp only at ex
  refine ok_bd (MValid_ok (mk x.2 (by omega) (by omega))) fun y ⟨hy, ey⟩ => ?_
  obtain ⟨x, cx⟩ := x
  obtain ⟨y, cy⟩ := y
  dsimp only at *
  have s1 : addM x.Lo x.Hi y.Lo y.Hi = (x.Lo + y.Lo, x.Hi + y.Hi, 0) := by unfold addM resM; rw [if_pos (by omega), if_pos (by omega)]
  have s2 : subM x.Lo x.Hi y.Lo y.Hi = (x.Lo - y.Hi, x.Hi - y.Lo, 0) := by unfold subM resM; rw [if_pos (by omega), if_pos (by omega)]
  obtain ⟨s3, _⟩ := mulM_eq (a := x.Lo) (b := x.Hi) (c := y.Lo) (d := y.Hi) (by omega) (by omega)
  refine ok_bde (Add_m x y) (ok_bde (Sub_m x y) (ok_bde (Mul_m x y) ?_))
  rw [s1, s2]
  have h3 : (mulM x.Lo x.Hi y.Lo y.Hi).2.2 = 0 := by rw [s3]
  have hlo : ∃ n m, (n = x.Lo ∨ n = x.Hi) ∧ (m = y.Lo ∨ m = y.Hi) ∧ n * m = (mulM x.Lo x.Hi y.Lo y.Hi).1 := by
    rw [s3]
    dsimp only
    have : ∀ p q r s : Int, min (min (min p q) r) s = p ∨ min (min (min p q) r) s = q ∨ min (min (min p q) r) s = r ∨ min (min (min p q) r) s = s := fun p q r s => by omega
    rcases this (x.Lo * y.Lo) (x.Lo * y.Hi) (x.Hi * y.Lo) (x.Hi * y.Hi) with h | h | h | h
    · exact ⟨x.Lo, y.Lo, .inl rfl, .inl rfl, h.symm⟩
    · exact ⟨x.Lo, y.Hi, .inl rfl, .inr rfl, h.symm⟩
    · exact ⟨x.Hi, y.Lo, .inr rfl, .inl rfl, h.symm⟩
    · exact ⟨x.Hi, y.Hi, .inr rfl, .inr rfl, h.symm⟩
  have hhi : ∃ n m, (n = x.Lo ∨ n = x.Hi) ∧ (m = y.Lo ∨ m = y.Hi) ∧ n * m = (mulM x.Lo x.Hi y.Lo y.Hi).2.1 := by
    rw [s3]
    dsimp only
    have : ∀ p q r s : Int, max (max (max p q) r) s = p ∨ max (max (max p q) r) s = q ∨ max (max (max p q) r) s = r ∨ max (max (max p q) r) s = s := fun p q r s => by omega
    rcases this (x.Lo * y.Lo) (x.Lo * y.Hi) (x.Hi * y.Lo) (x.Hi * y.Hi) with h | h | h | h
    · exact ⟨x.Lo, y.Lo, .inl rfl, .inl rfl, h.symm⟩
    · exact ⟨x.Lo, y.Hi, .inl rfl, .inr rfl, h.symm⟩
    · exact ⟨x.Hi, y.Lo, .inr rfl, .inl rfl, h.symm⟩
    · exact ⟨x.Hi, y.Hi, .inr rfl, .inr rfl, h.symm⟩
  clear s3
  generalize mulM x.Lo x.Hi y.Lo y.Hi = c at *
  obtain ⟨cl, ch, ce⟩ := c
  dsimp only at h3 hlo hhi ⊢
  refine ok_if0 (by decide) (ok_if0 (by decide) (ok_if0 (by omega) ?_))
  refine ok_jp (fun z => z = (true, true, true, true, true, true)) (fun z hz => ?_) (fun k hk => ?_)
  · subst hz
    exact ok_bde sane01 (ok_some rfl)
  refine ok_lp (fun (z : Bool × Bool × Bool × Bool × Bool × Bool × Int) => (x.Lo ≤ z.2.2.2.2.2.2 ∧ z.2.2.2.2.2.2 ≤ x.Hi + 1) ∧ Seen (fun n m => x.Lo ≤ n ∧ n < z.2.2.2.2.2.2 ∧ y.Lo ≤ m ∧ m ≤ y.Hi) (x.Lo + y.Lo) (x.Hi + y.Hi) (x.Lo - y.Hi) (x.Hi - y.Lo) cl ch z.1 z.2.1 z.2.2.1 z.2.2.2.1 z.2.2.2.2.1 z.2.2.2.2.2.1)
    (fun z => (x.Hi + 1 - z.2.2.2.2.2.2).toNat) ⟨by dsimp only; omega, fun n m h => by dsimp only at h; omega⟩ (by simp only [big_eq]; omega) ?_
  rintro ⟨f1, f2, f3, f4, f5, f6, n⟩ next ⟨hn, hs⟩ hnext
  dsimp only at hn hs ⊢
  refine ok_if (fun hle => ?_) (fun hgt => ?_)
  rotate_left
  · have en : n = x.Hi + 1 := by omega
    subst en
    have all : ∀ n m, (x.Lo ≤ n ∧ n ≤ x.Hi) → (y.Lo ≤ m ∧ m ≤ y.Hi) → (n + m = x.Lo + y.Lo → f1 = true) ∧ (n - m = x.Lo - y.Hi → f2 = true) ∧ (n * m = cl → f3 = true) ∧ (n + m = x.Hi + y.Hi → f4 = true) ∧ (n - m = x.Hi - y.Lo → f5 = true) ∧ (n * m = ch → f6 = true) := fun n m h1 h2 => hs n m ⟨by omega, by omega, by omega, by omega⟩
    obtain ⟨n1, m1, a1, a2, a3⟩ := hlo
    obtain ⟨n2, m2, b1, b2, b3⟩ := hhi
    have e1 := (all x.Lo y.Lo (by omega) (by omega)).1 rfl
    have e2 := (all x.Lo y.Hi (by omega) (by omega)).2.1 rfl
    have e3 := (all n1 m1 (by omega) (by omega)).2.2.1 a3
    have e4 := (all x.Hi y.Hi (by omega) (by omega)).2.2.2.1 rfl
    have e5 := (all x.Hi y.Lo (by omega) (by omega)).2.2.2.2.1 rfl
    have e6 := (all n2 m2 (by omega) (by omega)).2.2.2.2.2 b3
    exact hk _ (by rw [e1, e2, e3, e4, e5, e6])
  refine ok_lp (fun (z : Bool × Bool × Bool × Bool × Bool × Bool × Int) => (y.Lo ≤ z.2.2.2.2.2.2 ∧ z.2.2.2.2.2.2 ≤ y.Hi + 1) ∧ Seen (fun n' m => (x.Lo ≤ n' ∧ n' < n ∧ y.Lo ≤ m ∧ m ≤ y.Hi) ∨ (n' = n ∧ y.Lo ≤ m ∧ m < z.2.2.2.2.2.2)) (x.Lo + y.Lo) (x.Hi + y.Hi) (x.Lo - y.Hi) (x.Hi - y.Lo) cl ch z.1 z.2.1 z.2.2.1 z.2.2.2.1 z.2.2.2.2.1 z.2.2.2.2.2.1)
    (fun z => (y.Hi + 1 - z.2.2.2.2.2.2).toNat) ⟨by dsimp only; omega, fun n' m h => by
      dsimp only at h ⊢
      exact hs n' m (by omega)⟩ (by simp only [big_eq]; omega) ?_
  clear hs
  rintro ⟨g1, g2, g3, g4, g5, g6, m⟩ next2 ⟨hm, hs⟩ hnext2
  dsimp only at hm hs ⊢
  refine ok_if (fun hle2 => ?_) (fun hgt2 => ?_)
  rotate_left
  · rw [w64_eq (by omega : -9223372036854775808 ≤ n + 1 ∧ n + 1 ≤ 9223372036854775807)]
    refine hnext _ ⟨by dsimp only; omega, fun n' m' h => ?_⟩ (by dsimp only; omega)
    dsimp only at h ⊢
    exact hs n' m' (by omega)
  have hp := mul_sm (x := n) (y := m) (p := 100) (q := 100) (by omega) (by omega)
  rw [w64_eq (by omega : -9223372036854775808 ≤ n + m ∧ n + m ≤ 9223372036854775807), w64_eq (by omega : -9223372036854775808 ≤ n - m ∧ n - m ≤ 9223372036854775807), w64_eq (by omega : -9223372036854775808 ≤ n * m ∧ n * m ≤ 9223372036854775807), w64_eq (by omega : -9223372036854775808 ≤ m + 1 ∧ m + 1 ≤ 9223372036854775807)]
  -- what the round leaves
  have fin : ∀ p1 p2 p3 p4 p5 p6 : Bool, ((g1 = true ∨ n + m = x.Lo + y.Lo) → p1 = true) → ((g2 = true ∨ n - m = x.Lo - y.Hi) → p2 = true) → ((g3 = true ∨ n * m = cl) → p3 = true) → ((g4 = true ∨ n + m = x.Hi + y.Hi) → p4 = true) → ((g5 = true ∨ n - m = x.Hi - y.Lo) → p5 = true) → ((g6 = true ∨ n * m = ch) → p6 = true) →
      Ok (next2 (p1, p2, p3, p4, p5, p6, m + 1)) (fun b => b = true) := by
    intro p1 p2 p3 p4 p5 p6 h1 h2 h3 h4 h5 h6
    refine hnext2 _ ⟨by dsimp only; omega, fun n' m' h => ?_⟩ (by dsimp only; omega)
    dsimp only at h ⊢
    by_cases e : n' = n ∧ m' = m
    · obtain ⟨rfl, rfl⟩ := e
      exact ⟨fun q => h1 (.inr q), fun q => h2 (.inr q), fun q => h3 (.inr q), fun q => h4 (.inr q), fun q => h5 (.inr q), fun q => h6 (.inr q)⟩
    · obtain ⟨q1, q2, q3, q4, q5, q6⟩ := hs n' m' (by omega)
      exact ⟨fun q => h1 (.inl (q1 q)), fun q => h2 (.inl (q2 q)), fun q => h3 (.inl (q3 q)), fun q => h4 (.inl (q4 q)), fun q => h5 (.inl (q5 q)), fun q => h6 (.inl (q6 q))⟩
  refine ok_jp (fun p => ((g1 = true ∨ n + m = x.Lo + y.Lo) → p.1 = true) ∧ ((g4 = true ∨ n + m = x.Hi + y.Hi) → p.2 = true)) (fun p hp1 => ?_) (fun k2 hk2 => ?_)
  · refine ok_jp (fun q => ((g2 = true ∨ n - m = x.Lo - y.Hi) → q.1 = true) ∧ ((g5 = true ∨ n - m = x.Hi - y.Lo) → q.2 = true)) (fun q hq => ?_) (fun k3 hk3 => ?_)
    · refine ok_b (fun e3 => ok_b (fun e6 => fin _ _ _ _ _ _ hp1.1 hq.1 (fun _ => rfl) hp1.2 hq.2 (fun _ => rfl)) (fun e6 => ok_vl fun v hv => fin _ _ _ _ _ _ hp1.1 hq.1 (fun _ => rfl) hp1.2 hq.2 ?_)) (fun e3 => ok_vl fun v hv => ok_b (fun e6 => fin _ _ _ _ _ _ hp1.1 hq.1 ?_ hp1.2 hq.2 (fun _ => rfl)) (fun e6 => ok_vl fun v2 hv2 => fin _ _ _ _ _ _ hp1.1 hq.1 ?_ hp1.2 hq.2 ?_))
      · rintro (h | h)
        · rw [e6] at h; cases h
        · exact decide_eq_true (by omega)
      · rintro (h | h)
        · rw [e3] at h; cases h
        · exact decide_eq_true (by omega)
      · rintro (h | h)
        · rw [e3] at h; cases h
        · exact decide_eq_true (by omega)
      · rintro (h | h)
        · rw [e6] at h; cases h
        · exact decide_eq_true (by omega)
    · refine ok_b (fun e3 => ok_b (fun e6 => hk3 _ ⟨fun _ => rfl, fun _ => rfl⟩) (fun e6 => ok_vl fun v hv => hk3 _ ⟨fun _ => rfl, ?_⟩)) (fun e3 => ok_vl fun v hv => ok_b (fun e6 => hk3 _ ⟨?_, fun _ => rfl⟩) (fun e6 => ok_vl fun v2 hv2 => hk3 _ ⟨?_, ?_⟩))
      · rintro (h | h)
        · rw [e6] at h; cases h
        · exact decide_eq_true (by omega)
      · rintro (h | h)
        · rw [e3] at h; cases h
        · exact decide_eq_true (by omega)
      · rintro (h | h)
        · rw [e3] at h; cases h
        · exact decide_eq_true (by omega)
      · rintro (h | h)
        · rw [e6] at h; cases h
        · exact decide_eq_true (by omega)
  · refine ok_b (fun e3 => ok_b (fun e6 => hk2 _ ⟨fun _ => rfl, fun _ => rfl⟩) (fun e6 => ok_vl fun v hv => hk2 _ ⟨fun _ => rfl, ?_⟩)) (fun e3 => ok_vl fun v hv => ok_b (fun e6 => hk2 _ ⟨?_, fun _ => rfl⟩) (fun e6 => ok_vl fun v2 hv2 => hk2 _ ⟨?_, ?_⟩))
    · rintro (h | h)
      · rw [e6] at h; cases h
      · exact decide_eq_true (by omega)
    · rintro (h | h)
      · rw [e3] at h; cases h
      · exact decide_eq_true (by omega)
    · rintro (h | h)
      · rw [e3] at h; cases h
      · exact decide_eq_true (by omega)
    · rintro (h | h)
      · rw [e6] at h; cases h
      · exact decide_eq_true (by omega)
end Go.Hy
