/-
  Paths and runs: what the smaller functions answer.
-/
import Derived.Test.YtdgminllobhncaaGreatPRun
namespace Go.Hy
set_option linter.unusedVariables false
set_option linter.unusedSimpArgs false
set_option maxHeartbeats 2000000
set_option maxRecDepth 10000
open Go.Hy.Iv

structure PsOk (ps : List Piece) : Prop where
  len : 1 ≤ ps.length ∧ ps.length ≤ 128
  ok : ∀ p ∈ ps, PieceOk p
structure RunOk (ps : List Piece) (r : Run) : Prop where
  res : r.Resist.length = ps.length
  tgs : r.Targets.length = nret ps
  sp : 0 ≤ r.Speed ∧ r.Speed ≤ 20000
  w : ∀ v ∈ r.Resist, Wr v
  t : ∀ v ∈ r.Targets, Tg v
def pt0 (r : Run) : Moment := ⟨0, r.Speed * r.Speed⟩
def ptAll (ps : List Piece) (r : Run) : List Moment := pt0 r :: ptRun ps r.Resist r.Targets (pt0 r)
def ptStop (ps : List Piece) (r : Run) : Int := if (ptRun ps r.Resist r.Targets (pt0 r)).length = ps.length then -1 else ((ptRun ps r.Resist r.Targets (pt0 r)).length : Int)

theorem memat {α : Type} {l : List α} {i : Nat} {a : α} (h : l[i]? = some a) : a ∈ l := List.mem_of_getElem? h
theorem drop_at {α : Type} {l : List α} {i : Nat} {a : α} (h : l[i]? = some a) : l.drop i = a :: l.drop (i + 1) := by
  have hk := (List.getElem?_eq_some_iff.1 h).1
  rw [List.drop_eq_getElem_cons hk, (List.getElem?_eq_some_iff.1 h).2]
theorem in_m (a b c : Int) : runoff_in a b c = some (decide (b ≤ a ∧ a ≤ c)) := by
  refine Ok.eq (?_ : Ok _ _)
  unfold runoff_in
  exact ok_if (fun h => ok_some (dd (by omega))) (fun h => ok_some (df (by omega)))
theorem PValid_ok {ps : List Piece} (hp : PsOk ps) : runoff_Valid ps = some 0 := by
  refine Ok.eq (?_ : Ok _ _)
  unfold runoff_Valid
  have hl := hp.len
  refine ok_if0 (by omega) (ok_if0 (by omega) ?_)
  refine ok_lp (fun (z : Int) => 0 ≤ z) (fun z => ((ps.length : Int) - z).toNat) (Int.le_refl 0) (by simp only [big_eq]; omega) ?_
  intro z next z0 hn
  refine ok_if (fun h => ok_ix z0 h fun a ha => ?_) (fun _ => ok_some rfl)
  obtain ⟨e, l, g, c, p⟩ := hp.ok a (memat ha)
  refine ok_nd (in_m _ _ _) (fun h => absurd e h) fun _ => ok_nd (in_m _ _ _) (fun h => absurd l h) fun _ => ok_nd (in_m _ _ _) (fun h => absurd g h) fun _ =>
    ok_nd (in_m _ _ _) (fun h => absurd c h) fun _ => ok_nd (in_m _ _ _) (fun h => absurd p h) fun _ => ?_
  rw [w64_eq (by omega)]
  exact hn _ (by omega) (by omega)
theorem PValid_long {ps : List Piece} (h : 128 < ps.length) : runoff_Valid ps = some 3 := by
  refine Ok.eq (?_ : Ok _ _)
  unfold runoff_Valid
  exact ok_if0 (by omega) (ok_if1 (by omega) (ok_some rfl))
theorem nret_le (ps : List Piece) : nret ps ≤ ps.length := by
  induction ps with
  | nil => exact Nat.le_refl _
  | cons p ps ih => simp only [nret, List.length_cons]; split <;> omega
theorem retarders_m {ps : List Piece} (hl : ps.length ≤ 1000000000) : runoff_retarders ps = some (nret ps : Int) := by
  refine Ok.eq (?_ : Ok _ _)
  unfold runoff_retarders
  refine ok_lp (fun (z : Int × Int) => 0 ≤ z.2 ∧ 0 ≤ z.1 ∧ z.1 + nret (ps.drop z.2.toNat) = nret ps) (fun z => ((ps.length : Int) - z.2).toNat) ⟨by dsimp only; omega, by dsimp only; omega, by dsimp only; simp⟩ (by simp only [big_eq]; omega) ?_
  rintro ⟨n, i⟩ next ⟨i0, n0, hi⟩ hn
  dsimp only at i0 n0 hi ⊢
  have hle := nret_le ps
  refine ok_if (fun h => ok_ix i0 h fun a ha => ?_) (fun h => ok_some ?_)
  · rw [drop_at ha] at hi
    simp only [nret] at hi
    have e : (i + 1).toNat = i.toNat + 1 := by omega
    rw [w64_eq (n := n + 1) (by omega), w64_eq (n := i + 1) (by omega)]
    refine ok_if (fun hpw => hn _ ⟨by dsimp only; omega, by dsimp only; omega, ?_⟩ (by dsimp only; omega)) (fun hpw => hn _ ⟨by dsimp only; omega, by dsimp only; omega, ?_⟩ (by dsimp only; omega))
    · rw [if_pos hpw] at hi; dsimp only; rw [e]; omega
    · rw [if_neg hpw] at hi; dsimp only; rw [e]; omega
  · have : ps.drop i.toNat = [] := List.drop_eq_nil_of_le (by omega)
    rw [this] at hi
    simpa [nret] using hi
theorem Retarders_m {ps : List Piece} (hl : ps.length ≤ 1000000000) : r20_Retarders ps = some (nret ps : Int) := retarders_m hl
theorem targets_m {ts : List Int} (hl : ts.length ≤ 1000000000) (h : ∀ t ∈ ts, Tg t) : runoff_targets ts = some true := by
  refine Ok.eq (?_ : Ok _ _)
  unfold runoff_targets
  refine ok_lp (fun (z : Int) => 0 ≤ z) (fun z => ((ts.length : Int) - z).toNat) (Int.le_refl 0) (by simp only [big_eq]; omega) ?_
  intro z next z0 hn
  refine ok_if (fun hz => ok_ix z0 hz fun a ha => ?_) (fun _ => ok_some rfl)
  refine ok_nd (in_m _ _ _) (fun hh => absurd (h a (memat ha)) hh) fun _ => ?_
  rw [w64_eq (by omega)]
  exact hn _ (by omega) (by omega)
theorem gain_m {p : Piece} {w : Int} (hp : PieceOk p) (hw : Wr w) : runoff_gain p w = some (gd p w, gu p w) := by
  refine Ok.eq (?_ : Ok _ _)
  have hb := gn_bd hp hw
  have h1 := gd_bd hp hw
  have h2 := gu_bd hp hw
  unfold runoff_gain
  have := hp.g
  rw [w64_eq (n := p.Grade - w) (by omega), w64_eq (by omega)]
  refine ok_vl fun x hx => ?_
  have hx2 : x * p.Length = gn p w := by rw [hx]; rfl
  rw [hx2, w64_eq (by omega)]
  have e1 : dnm (gn p w) 100000 = gd p w := dnm_pos (by omega) (by decide)
  have e2 : upm (gn p w) 100000 = gu p w := upm_pos (by omega) (by decide)
  refine ok_bde (Floor_m (by omega)) (ok_bde (Ceil_m (by omega)) (ok_some ?_))
  unfold floorM ceilM
  have c0 : ¬ ((100000 : Int) = 0) := by decide
  have c1 : Inr (gd p w) := by omega
  have c2 : Inr (gu p w) := by omega
  rw [e1, e2, if_neg c0, if_neg c0, if_pos c1, if_pos c2]
theorem roots_m {n : Int} (h0 : 0 ≤ n) (h1 : n ≤ 1000000000000) : runoff_roots n = some (isq n, isu n) := by
  refine Ok.eq (?_ : Ok _ _)
  unfold runoff_roots
  refine ok_bde (Root_m _) (ok_some ?_)
  unfold rootM
  dsimp only
  rw [if_neg (by omega), if_neg (by omega)]
theorem isu_le {n : Int} (h0 : 0 ≤ n) (h1 : n ≤ 1000000000000) : 0 ≤ isq n ∧ isq n ≤ 1000000 ∧ 0 ≤ isu n ∧ isu n ≤ 1000001 := by
  have h2 := isq_le h0 h1
  have h3 := isu_spec h0
  have h4 := (isq_spec h0).1
  omega
theorem ptRun_none {p : Piece} {ps : List Piece} {ws ts : List Int} {x : Moment} (h : ptStep p (ws.headD 0) (tgOf p ts) x = none) : ptRun (p :: ps) ws ts x = [] := by simp only [ptRun, h]
theorem ptRun_some {p : Piece} {ps : List Piece} {ws ts : List Int} {x y : Moment} (h : ptStep p (ws.headD 0) (tgOf p ts) x = some y) : ptRun (p :: ps) ws ts x = y :: ptRun ps ws.tail (tsOf p ts) y := by simp only [ptRun, h]
end Go.Hy
