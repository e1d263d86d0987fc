/-
  The program's passages and runs are those of the reference, whatever the path, the motion and the run: the errors too.
-/
import Derived.Test.YtdabnfhkojapjaaPCon0
namespace Go.Hy
set_option linter.unusedVariables false
set_option linter.unusedSimpArgs false
set_option maxHeartbeats 2000000
set_option maxRecDepth 10000
open Go.Hy.Iv

/-! ### Scans -/
abbrev AllT {α : Type} (f : α → Bool) (l : List α) (z : Int) : Prop := 0 ≤ z ∧ (l.take z.toNat).all f = true
theorem AllT.zero {α : Type} {f : α → Bool} {l : List α} : AllT f l 0 := ⟨Int.le_refl 0, by simp⟩
theorem AllT.step {α : Type} {f : α → Bool} {l : List α} {z : Int} {a : α} (h : AllT f l z) (ha : l[z.toNat]? = some a) (hf : f a = true) : AllT f l (z + 1) := by
  obtain ⟨h0, h1⟩ := h
  have e : (z + 1).toNat = z.toNat + 1 := by omega
  refine ⟨by omega, ?_⟩
  rw [e, take_at ha, List.all_append, h1]
  simp [hf]
theorem AllT.done {α : Type} {f : α → Bool} {l : List α} {z : Int} (h : AllT f l z) (hz : ¬ z < (l.length : Int)) : l.all f = true := by
  have := h.2
  rwa [List.take_of_length_le (by omega)] at this
theorem all_no {α : Type} {f : α → Bool} {l : List α} {i : Nat} {a : α} (ha : l[i]? = some a) (hf : f a = false) : ¬ l.all f = true := fun h => by
  rw [List.all_eq_true] at h
  have := h a (memat ha)
  rw [hf] at this
  cases this

/-! ### Paths -/
def pB (p : Piece) : Bool := decide ((0 ≤ p.Element ∧ p.Element ≤ 127) ∧ (1 ≤ p.Length ∧ p.Length ≤ 1000000) ∧ (-10000 ≤ p.Grade ∧ p.Grade ≤ 10000) ∧ (0 ≤ p.Curve ∧ p.Curve ≤ 5000) ∧ (0 ≤ p.Power ∧ p.Power ≤ 1000000000))
theorem pB_ok {p : Piece} (h : pB p = true) : PieceOk p := by
  obtain ⟨a, b, c, d, e⟩ := of_decide_eq_true h
  exact ⟨a, b, c, d, e⟩
def vE (ps : List Piece) : Int := if 1 ≤ ps.length ∧ ps.length ≤ 128 then (if ps.all pB = true then 0 else 1) else 3
theorem vE_ok {ps : List Piece} (h : vE ps = 0) : PsOk ps := by
  unfold vE at h
  split at h
  · rename_i hl
    split at h
    · rename_i ha
      rw [List.all_eq_true] at ha
      exact ⟨hl, fun p hp => pB_ok (ha p hp)⟩
    · cases h
  · cases h
theorem PValid_e {ps : List Piece} : runoff_Valid ps = some (vE ps) := by
  refine Ok.eq (?_ : Ok _ _)
  unfold runoff_Valid
  have long : ¬ (1 ≤ ps.length ∧ ps.length ≤ 128) → (3 : Int) = vE ps := fun h => by unfold vE; rw [if_neg h]
  refine ok_if (fun h => ok_some (long (by omega))) (fun h1 => ok_if (fun h => ok_some (long (by omega))) (fun h2 => ?_))
  have hl : 1 ≤ ps.length ∧ ps.length ≤ 128 := by omega
  refine ok_lp (fun (z : Int) => AllT pB ps z) (fun z => ((ps.length : Int) - z).toNat) AllT.zero (by simp only [big_eq]; omega) ?_
  intro z next hz hn
  refine ok_if (fun h => ok_ix hz.1 h fun a ha => ?_) (fun h => ok_some (by unfold vE; rw [if_pos hl, if_pos (hz.done h)]))
  have bad : pB a = false → (1 : Int) = vE ps := fun h => by unfold vE; rw [if_pos hl, if_neg (all_no ha h)]
  refine ok_nd (in_m _ _ _) (fun h => ok_some (bad (decide_eq_false (by omega)))) fun q1 => ok_nd (in_m _ _ _) (fun h => ok_some (bad (decide_eq_false (by omega)))) fun q2 => ok_nd (in_m _ _ _) (fun h => ok_some (bad (decide_eq_false (by omega)))) fun q3 =>
    ok_nd (in_m _ _ _) (fun h => ok_some (bad (decide_eq_false (by omega)))) fun q4 => ok_nd (in_m _ _ _) (fun h => ok_some (bad (decide_eq_false (by omega)))) fun q5 => ?_
  have z0 := hz.1
  rw [w64_eq (by omega)]
  exact hn _ (hz.step ha (decide_eq_true ⟨q1, q2, q3, q4, q5⟩)) (by omega)
theorem r20Valid_e {ps : List Piece} : r20_Valid ps = some (vE ps) := by
  refine Ok.eq (?_ : Ok _ _)
  unfold r20_Valid
  have long : ¬ (1 ≤ ps.length ∧ ps.length ≤ 128) → (3 : Int) = vE ps := fun h => by unfold vE; rw [if_neg h]
  refine ok_if (fun h => ok_some (long (by omega))) (fun h1 => ok_if (fun h => ok_some (long (by omega))) (fun h2 => ?_))
  have hl : 1 ≤ ps.length ∧ ps.length ≤ 128 := by omega
  refine ok_lp (fun (z : Int) => AllT pB ps z) (fun z => ((ps.length : Int) - z).toNat) AllT.zero (by simp only [big_eq]; omega) ?_
  intro z next hz hn
  refine ok_if (fun h => ok_ix hz.1 h fun a ha => ?_) (fun h => ok_some (by unfold vE; rw [if_pos hl, if_pos (hz.done h)]))
  have bad : pB a = false → Ok (some (1 : Int)) (· = vE ps) := fun h => ok_some (by unfold vE; rw [if_pos hl, if_neg (all_no ha h)])
  refine ok_if (fun h => bad (decide_eq_false (by omega))) fun q1 => ok_if (fun h => bad (decide_eq_false (by omega))) fun q2 => ok_if (fun h => bad (decide_eq_false (by omega))) fun q3 => ok_if (fun h => bad (decide_eq_false (by omega))) fun q4 => ok_if (fun h => bad (decide_eq_false (by omega))) fun q5 =>
    ok_if (fun h => bad (decide_eq_false (by omega))) fun q6 => ok_if (fun h => bad (decide_eq_false (by omega))) fun q7 => ok_if (fun h => bad (decide_eq_false (by omega))) fun q8 => ok_if (fun h => bad (decide_eq_false (by omega))) fun q9 => ok_if (fun h => bad (decide_eq_false (by omega))) fun q10 => ?_
  have z0 := hz.1
  rw [w64_eq (by omega)]
  exact hn _ (hz.step ha (decide_eq_true (by omega))) (by omega)

/-! ### Motions -/
def tB (t : Int) : Bool := decide (-1 ≤ t ∧ t ≤ 20000)
theorem targets_e {ts : List Int} (hl : ts.length ≤ 1000000000) : runoff_targets ts = some (ts.all tB) := by
  refine Ok.eq (?_ : Ok _ _)
  unfold runoff_targets
  refine ok_lp (fun (z : Int) => AllT tB ts z) (fun z => ((ts.length : Int) - z).toNat) AllT.zero (by simp only [big_eq]; omega) ?_
  intro z next hz hn
  refine ok_if (fun h => ok_ix hz.1 h fun a ha => ?_) (fun h => ok_some (hz.done h).symm)
  refine ok_nd (in_m _ _ _) (fun h => ok_some (Bool.eq_false_iff.2 (all_no ha (decide_eq_false h))).symm) fun q => ?_
  have z0 := hz.1
  rw [w64_eq (by omega)]
  exact hn _ (hz.step ha (decide_eq_true q)) (by omega)
theorem rtargets_e {ts : List Int} (hl : ts.length ≤ 1000000000) : r20_targets ts = some (ts.all tB) := by
  refine Ok.eq (?_ : Ok _ _)
  unfold r20_targets
  refine ok_lp (fun (z : Int) => AllT tB ts z) (fun z => ((ts.length : Int) - z).toNat) AllT.zero (by simp only [big_eq]; omega) ?_
  intro z next hz hn
  refine ok_if (fun h => ok_ix hz.1 h fun a ha => ?_) (fun h => ok_some (hz.done h).symm)
  have z0 := hz.1
  refine ok_if (fun h => ok_some (Bool.eq_false_iff.2 (all_no ha (decide_eq_false (by omega)))).symm) fun q => ok_ixe z0 ha (ok_if (fun h => ok_some (Bool.eq_false_iff.2 (all_no ha (decide_eq_false (by omega)))).symm) fun q2 => ?_)
  rw [w64_eq (by omega)]
  exact hn _ (hz.step ha (decide_eq_true (by omega))) (by omega)
def cB (c : Interval) : Bool := decide (Ivd c.Lo c.Hi)
def dB (c : Interval) : Bool := decide (-5000 ≤ c.Lo ∧ c.Hi ≤ 10000)
abbrev MA (ps : List Piece) (m : Motion) : Prop := Ivd m.Speed.Lo m.Speed.Hi ∧ m.Class.length = ps.length ∧ m.Targets.length = nret ps ∧ m.Class.all cB = true
abbrev MB (m : Motion) : Prop := m.Class.all dB = true ∧ (0 ≤ m.Speed.Lo ∧ m.Speed.Hi ≤ 20000 ∧ 0 ≤ m.Error ∧ m.Error ≤ 1000) ∧ m.Targets.all tB = true
def mE (ps : List Piece) (m : Motion) : Int := if MA ps m then (if MB m then 0 else 2) else 1
theorem mE_ok {ps : List Piece} {m : Motion} (h : mE ps m = 0) : MotOk ps m := by
  unfold mE at h
  split at h
  · rename_i ha
    split at h
    · rename_i hb
      obtain ⟨a1, a2, a3, a4⟩ := ha
      obtain ⟨b1, b2, b3⟩ := hb
      rw [List.all_eq_true] at a4 b1 b3
      refine ⟨by omega, a2, fun c hc => ?_, by omega, a3, fun t ht => of_decide_eq_true (b3 t ht)⟩
      have q1 := of_decide_eq_true (a4 c hc)
      have q2 := of_decide_eq_true (b1 c hc)
      exact ⟨q2.1, q1.1, q2.2⟩
    · cases h
  · cases h
theorem mE1 {ps : List Piece} {m : Motion} (h : ¬ MA ps m) : Ok (some (1 : Int)) (· = mE ps m) := ok_some (by unfold mE; rw [if_neg h])
theorem mE2 {ps : List Piece} {m : Motion} (ha : MA ps m) (h : ¬ MB m) : Ok (some (2 : Int)) (· = mE ps m) := ok_some (by unfold mE; rw [if_pos ha, if_neg h])
theorem check_e {ps : List Piece} {m : Motion} : runoff_check ps m = some (if vE ps ≠ 0 then vE ps else mE ps m) := by
  refine Ok.eq (?_ : Ok _ _)
  unfold runoff_check
  refine ok_bde PValid_e (ok_if (fun h => ok_some (by rw [if_pos h])) (fun h => ?_))
  have hp := vE_ok (Decidable.not_not.1 h)
  rw [if_neg h]
  have hl := hp.len
  have hnr := nret_le ps
  refine ok_nd (Valid_m _) (fun h => mE1 fun hh => h hh.1) fun a1 => ok_if (fun h => mE1 fun hh => h (by omega)) fun a2 => ok_bde (retarders_m (by omega)) (ok_if (fun h => mE1 fun hh => h (by omega)) fun a3 => ?_)
  refine ok_jp (fun _ => m.Class.all cB = true) (fun _ a4 => ?_) (fun k hk => ?_)
  rotate_left
  · refine ok_lp (fun (z : Int) => AllT cB m.Class z) (fun z => ((m.Class.length : Int) - z).toNat) AllT.zero (by simp only [big_eq]; omega) ?_
    intro z next hz hn
    refine ok_if (fun h => ok_ix hz.1 h fun a ha => ?_) (fun h => hk _ (hz.done h))
    refine ok_nd (Valid_m _) (fun h => mE1 fun hh => all_no ha (decide_eq_false h) hh.2.2.2) fun q => ?_
    have z0 := hz.1
    rw [w64_eq (by omega)]
    exact hn _ (hz.step ha (decide_eq_true q)) (by omega)
  have hA : MA ps m := ⟨a1, by omega, by omega, a4⟩
  refine ok_jp (fun _ => m.Class.all dB = true) (fun _ b1 => ?_) (fun k hk => ?_)
  rotate_left
  · refine ok_lp (fun (z : Int) => AllT dB m.Class z) (fun z => ((m.Class.length : Int) - z).toNat) AllT.zero (by simp only [big_eq]; omega) ?_
    intro z next hz hn
    refine ok_if (fun h => ok_ix hz.1 h fun a ha => ?_) (fun h => hk _ (hz.done h))
    have z0 := hz.1
    refine ok_if (fun h => mE2 hA fun hh => all_no ha (decide_eq_false (by omega)) hh.1) fun q => ok_if (fun h => mE2 hA fun hh => all_no ha (decide_eq_false (by omega)) hh.1) fun q2 => ?_
    rw [w64_eq (by omega)]
    exact hn _ (hz.step ha (decide_eq_true (by omega))) (by omega)
  refine ok_if (fun h => mE2 hA fun hh => by omega) fun b2 => ok_if (fun h => mE2 hA fun hh => by omega) fun b3 => ok_nd (in_m _ _ _) (fun h => mE2 hA fun hh => by omega) fun b4 => ok_bde (targets_e (by omega)) (ok_nb (fun h => mE2 hA fun hh => ?_) fun b5 => ok_some ?_)
  · rw [hh.2.2] at h; cases h
  · unfold mE; rw [if_pos hA, if_pos ⟨b1, by omega, b5⟩]
theorem rMotion_e {ps : List Piece} {m : Motion} (hl : ps.length ≤ 128) : r20_Motion ps m = some (mE ps m) := by
  refine Ok.eq (?_ : Ok _ _)
  unfold r20_Motion
  have hnr := nret_le ps
  refine ok_nd (rValid_m _) (fun h => mE1 fun hh => h hh.1) fun a1 => ok_if (fun h => mE1 fun hh => h (by omega)) fun a2 => ok_bde (Retarders_m (by omega)) (ok_if (fun h => mE1 fun hh => h (by omega)) fun a3 => ?_)
  refine ok_jp (fun _ => m.Class.all cB = true) (fun _ a4 => ?_) (fun k hk => ?_)
  rotate_left
  · refine ok_lp (fun (z : Int) => AllT cB m.Class z) (fun z => ((m.Class.length : Int) - z).toNat) AllT.zero (by simp only [big_eq]; omega) ?_
    intro z next hz hn
    refine ok_if (fun h => ok_ix hz.1 h fun a ha => ?_) (fun h => hk _ (hz.done h))
    refine ok_nd (rValid_m _) (fun h => mE1 fun hh => all_no ha (decide_eq_false h) hh.2.2.2) fun q => ?_
    have z0 := hz.1
    rw [w64_eq (by omega)]
    exact hn _ (hz.step ha (decide_eq_true q)) (by omega)
  have hA : MA ps m := ⟨a1, by omega, by omega, a4⟩
  refine ok_jp (fun (z : Bool) => z = true ↔ ((0 ≤ m.Speed.Lo ∧ m.Speed.Hi ≤ 20000 ∧ 0 ≤ m.Error ∧ m.Error ≤ 1000) ∧ m.Targets.all tB = true)) (fun z hz => ?_) (fun k hk => ?_)
  rotate_left
  · have no : ¬ (0 ≤ m.Speed.Lo ∧ m.Speed.Hi ≤ 20000 ∧ 0 ≤ m.Error ∧ m.Error ≤ 1000) → Ok (k false) (· = mE ps m) := fun h => hk _ ⟨fun h => (by cases h), fun hh => absurd hh.1 h⟩
    refine ok_if (fun q1 => ok_if (fun q2 => ok_if (fun q3 => ok_if (fun q4 => ok_bde (rtargets_e (by omega)) (hk _ ⟨fun h => ⟨⟨q1, q2, q3, q4⟩, h⟩, fun h => h.2⟩)) (fun h => no (by omega))) (fun h => no (by omega))) (fun h => no (by omega))) (fun h => no (by omega))
  refine ok_lp (fun (y : Bool × Int) => 0 ≤ y.2 ∧ (y.1 = true ↔ z = true ∧ (m.Class.take y.2.toNat).all dB = true)) (fun y => ((m.Class.length : Int) - y.2).toNat) ⟨Int.le_refl 0, by simp⟩ (by simp only [big_eq]; omega) ?_
  rintro ⟨b, i⟩ next ⟨i0, hb⟩ hn
  dsimp only at i0 hb ⊢
  refine ok_if (fun hi => ?_) (fun hi => ?_)
  rotate_left
  · rw [List.take_of_length_le (by omega), hz] at hb
    refine ok_nb (fun h => mE2 hA fun hh => ?_) (fun h => ok_some ?_)
    · rw [hb.2 ⟨hh.2, hh.1⟩] at h; cases h
    · obtain ⟨h1, h2⟩ := hb.1 h
      unfold mE
      rw [if_pos hA, if_pos ⟨h2, h1⟩]
  rw [w64_eq (by omega)]
  have hii : i.toNat < m.Class.length := by omega
  have ha := List.getElem?_eq_getElem hii
  generalize m.Class[i.toNat] = a at ha
  have ei : (i + 1).toNat = i.toNat + 1 := by omega
  have nx : ∀ c : Bool, (c = true ↔ b = true ∧ dB a = true) → Ok (next (c, i + 1)) (· = mE ps m) := fun c hc => hn _ ⟨by dsimp only; omega, by
    dsimp only
    rw [hc, hb, ei, take_at ha, List.all_append]
    simp [and_assoc]⟩ (by dsimp only; omega)
  refine ok_b (fun h => ok_ixe i0 ha (ok_if (fun h1 => ok_ixe i0 ha (nx _ ?_)) (fun h1 => nx _ ?_))) (fun h => nx _ ?_)
  · unfold dB; simp only [decide_eq_true_eq, h, true_and]; omega
  · unfold dB; simp only [decide_eq_true_eq, h, true_and]; exact ⟨fun h => (by cases h), fun hh => absurd hh.1 h1⟩
  · simp [h]
/-! ### Runs -/
def wB (w : Int) : Bool := decide (-5000 ≤ w ∧ w ≤ 10000)
abbrev RA (ps : List Piece) (r : Run) : Prop := r.Resist.length = ps.length ∧ r.Targets.length = nret ps
abbrev RB (r : Run) : Prop := r.Resist.all wB = true ∧ (0 ≤ r.Speed ∧ r.Speed ≤ 20000) ∧ r.Targets.all tB = true
def rE (ps : List Piece) (r : Run) : Int := if RA ps r then (if RB r then 0 else 2) else 1
theorem rE_ok {ps : List Piece} {r : Run} (ha : RA ps r) (hb : RB r) : RunOk ps r := by
  obtain ⟨b1, b2, b3⟩ := hb
  rw [List.all_eq_true] at b1 b3
  exact ⟨ha.1, ha.2, b2, fun w hw => of_decide_eq_true (b1 w hw), fun t ht => of_decide_eq_true (b3 t ht)⟩
def ptOut (ps : List Piece) (r : Run) : List Moment × Int × Int := if vE ps ≠ 0 then ([], 0, vE ps) else if rE ps r ≠ 0 then ([], 0, rE ps r) else (ptAll ps r, ptStop ps r, 0)
theorem ptOut0 {ps : List Piece} {r : Run} (h : vE ps ≠ 0) : ptOut ps r = ([], 0, vE ps) := by unfold ptOut; rw [if_pos h]
theorem ptOut1 {ps : List Piece} {r : Run} (h : vE ps = 0) (ha : ¬ RA ps r) : ptOut ps r = ([], 0, 1) := by
  have e : rE ps r = 1 := by unfold rE; rw [if_neg ha]
  unfold ptOut; rw [if_neg (by simp [h]), e, if_pos (by decide)]
theorem ptOut2 {ps : List Piece} {r : Run} (h : vE ps = 0) (ha : RA ps r) (hb : ¬ RB r) : ptOut ps r = ([], 0, 2) := by
  have e : rE ps r = 2 := by unfold rE; rw [if_pos ha, if_neg hb]
  unfold ptOut; rw [if_neg (by simp [h]), e, if_pos (by decide)]
theorem ptOut3 {ps : List Piece} {r : Run} (h : vE ps = 0) (ha : RA ps r) (hb : RB r) : ptOut ps r = (ptAll ps r, ptStop ps r, 0) := by
  have e : rE ps r = 0 := by unfold rE; rw [if_pos ha, if_pos hb]
  unfold ptOut; rw [if_neg (by simp [h]), e, if_neg (by decide)]
end Go.Hy
