/-
  Runs down from the hump as plain functions on lists, and what the program's functions answer in their terms.
-/
import Derived.Test.YtdgminllobhncaaGreatPPath
import Derived.Test.YtdgminllobhncaaGreatPIv0
namespace Go.Hy
set_option linter.unusedVariables false
set_option linter.unusedSimpArgs false
set_option maxHeartbeats 2000000
set_option maxRecDepth 10000
open Go.Hy.Iv

/-! ### Quotients -/
def dn (x d : Int) : Int := x / d
def up (x d : Int) : Int := -((-x) / d)
theorem dn_mono' {x y d : Int} (hd : 0 < d) (h : x ≤ y) : dn x d ≤ dn y d := Int.ediv_le_ediv hd h
theorem up_mono' {x y d : Int} (hd : 0 < d) (h : x ≤ y) : up x d ≤ up y d := by
  unfold up
  have := Int.ediv_le_ediv hd (show -y ≤ -x by omega)
  omega
theorem dn_le {x d : Int} (hd : 0 < d) : dn x d ≤ up x d := by
  unfold dn up
  have := neg_ediv (x := x) hd
  omega
/-- Quotients rounded up by a greater divisor are smaller. -/
theorem up_anti {x d e : Int} (hx : 0 ≤ x) (hd : 0 < d) (h : d ≤ e) : up x e ≤ up x d := by
  unfold up
  have h1 : (-x) / d ≤ (-x) / e := by
    have h2 := Int.ediv_mul_le (-x) (b := d) (by omega)
    have h3 : (-x) / d ≤ 0 := by
      rcases Int.lt_or_le 0 ((-x) / d) with hh | hh
      · have : 0 < (-x) / d * d := Int.mul_pos hh hd
        omega
      · exact hh
    refine (Int.le_ediv_iff_mul_le (by omega)).2 ?_
    have h4 : (-x) / d * e ≤ (-x) / d * d := by
      have := Int.mul_le_mul_of_nonneg_left h (show 0 ≤ -((-x) / d) by omega)
      simp only [Int.neg_mul] at this
      omega
    omega
  omega
theorem up_nn {x d : Int} (hx : 0 ≤ x) (hd : 0 < d) : 0 ≤ up x d ∧ up x d ≤ x := by
  have h1 := up_anti (x := x) (d := 1) (e := d) hx (by decide) (by omega)
  have h2 : up x 1 = x := by unfold up; simp
  refine ⟨?_, by omega⟩
  unfold up
  have : (-x) / d ≤ 0 := by
    have h2 := Int.ediv_mul_le (-x) (b := d) (by omega)
    rcases Int.lt_or_le 0 ((-x) / d) with hh | hh
    · have : 0 < (-x) / d * d := Int.mul_pos hh hd
      omega
    · exact hh
  omega
/-- As the program writes it. -/
theorem up_eq {x d : Int} (hx : 0 ≤ x) (hd : 0 < d) : up x d = (x + d - 1) / d := by
  unfold up
  have h1 := neg_ediv (x := x) hd
  have h2 := Int.mul_ediv_add_emod x d
  have h3 := Int.emod_nonneg x (b := d) (by omega)
  have h4 := Int.emod_lt_of_pos x hd
  by_cases h : x % d = 0
  · have e : x + d - 1 = (d - 1) + d * (x / d) := by omega
    have z := Int.ediv_eq_zero_of_lt (a := d - 1) (b := d) (by omega) (by omega)
    rw [e, Int.add_mul_ediv_left _ _ (by omega), z, h1.1 h]
    omega
  · have e : x + d - 1 = (x % d - 1) + d * (x / d + 1) := by rw [Int.mul_add]; omega
    have z := Int.ediv_eq_zero_of_lt (a := x % d - 1) (b := d) (by omega) (by omega)
    rw [e, Int.add_mul_ediv_left _ _ (by omega), z, h1.2.1 h]
    omega
theorem isq_mono {a b : Int} (ha : 0 ≤ a) (h : a ≤ b) : isq a ≤ isq b := by
  obtain ⟨g0, g1, g2⟩ := isq_spec ha
  obtain ⟨k0, k1, k2⟩ := isq_spec (n := b) (by omega)
  rcases Int.lt_or_le (isq b) (isq a) with hh | hh
  · have := sq_le (a := isq b + 1) (b := isq a) (by omega) (by omega); omega
  · exact hh
theorem isq_isu {a : Int} (ha : 0 ≤ a) : isq a ≤ isu a ∧ isu a ≤ isq a + 1 := by unfold isu; split <;> omega
theorem isu_mono {a b : Int} (ha : 0 ≤ a) (h : a ≤ b) : isu a ≤ isu b := by
  obtain ⟨g0, g1, g2⟩ := isq_spec ha
  obtain ⟨k0, k1, k2⟩ := isq_spec (n := b) (by omega)
  have hm := isq_mono ha h
  unfold isu
  split <;> split <;> try omega
  rename_i h1 h2
  have hb : isq b * isq b = b := by omega
  rcases Int.lt_or_le (isq a) (isq b) with hh | hh
  · omega
  · have : isq a = isq b := by omega
    rw [this] at h1
    omega

/-! ### What a piece adds -/
def gn (p : Piece) (w : Int) : Int := 19620 * (p.Grade - w) * p.Length
def gd (p : Piece) (w : Int) : Int := dn (gn p w) 100000
def gu (p : Piece) (w : Int) : Int := up (gn p w) 100000
abbrev Wr (w : Int) : Prop := -5000 ≤ w ∧ w ≤ 10000
theorem gn_bd {p : Piece} {w : Int} (hp : PieceOk p) (hw : Wr w) : -392400000000000 ≤ gn p w ∧ gn p w ≤ 392400000000000 := by
  have h1 := hp.g
  have h2 := hp.l
  have h : (gn p w).natAbs ≤ 392400000 * 1000000 := by
    unfold gn
    rw [Int.natAbs_mul]
    exact Nat.mul_le_mul (by omega) (by omega)
  omega
theorem gn_anti {p : Piece} {w v : Int} (hp : PieceOk p) (h : w ≤ v) : gn p v ≤ gn p w := by
  have h2 := hp.l
  unfold gn
  exact Int.mul_le_mul_of_nonneg_right (by omega) (by omega)
theorem gd_bd {p : Piece} {w : Int} (hp : PieceOk p) (hw : Wr w) : -3924000000 ≤ gd p w ∧ gd p w ≤ 3924000000 := by
  have := gn_bd hp hw
  unfold gd dn
  omega
theorem gu_bd {p : Piece} {w : Int} (hp : PieceOk p) (hw : Wr w) : -3924000000 ≤ gu p w ∧ gu p w ≤ 3924000000 := by
  have := gn_bd hp hw
  unfold gu up
  omega
theorem gd_le {p : Piece} {w : Int} : gd p w ≤ gu p w := dn_le (by decide)

/-! ### One run -/
/-- The energy behind a retarder. -/
def bk (p : Piece) (tg E : Int) : Int := if 0 < p.Power ∧ 0 ≤ tg then max (min E (tg * tg)) (E - p.Power) else E
def ptStep (p : Piece) (w tg : Int) (x : Moment) : Option Moment :=
  if x.Energy + gd p w < 0 then none
  else if isq x.Energy + isq (x.Energy + gd p w) = 0 then none
  else some ⟨min 1000000000 (x.Time + up (2000 * p.Length) (isq x.Energy + isq (x.Energy + gd p w))), bk p tg (x.Energy + gd p w)⟩
/-- The target of a piece, and those that are left. -/
def tgOf (p : Piece) (ts : List Int) : Int := if 0 < p.Power then ts.headD 0 else -1
def tsOf (p : Piece) (ts : List Int) : List Int := if 0 < p.Power then ts.tail else ts
def ptRun : List Piece → List Int → List Int → Moment → List Moment
  | [], _, _, _ => []
  | p :: ps, ws, ts, x => match ptStep p (ws.headD 0) (tgOf p ts) x with
    | none => []
    | some y => y :: ptRun ps ws.tail (tsOf p ts) y
/-- How many retarders. -/
def nret : List Piece → Nat
  | [] => 0
  | p :: ps => (if 0 < p.Power then 1 else 0) + nret ps
abbrev Tg (v : Int) : Prop := -1 ≤ v ∧ v ≤ 20000
/-- What a moment is bounded by in front of a piece. -/
structure MomOk (x : Moment) (i : Nat) : Prop where
  e0 : 0 ≤ x.Energy
  e1 : x.Energy ≤ 400000000 + 3924000000 * i
  t0 : 0 ≤ x.Time
  t1 : x.Time ≤ 1000000000
theorem sq_bd {v : Int} (h : -1 ≤ v ∧ v ≤ 21000) : 0 ≤ v * v ∧ v * v ≤ 441000000 := by
  rcases Int.lt_or_le v 0 with hh | hh
  · obtain rfl : v = -1 := by omega
    decide
  · exact ⟨Int.mul_nonneg hh hh, sq_le (b := 21000) hh h.2⟩
theorem bk_bd {p : Piece} {tg E : Int} (hE : 0 ≤ E) : 0 ≤ bk p tg E ∧ bk p tg E ≤ E ∨ ¬ PieceOk p := by
  by_cases hp : PieceOk p
  · left
    have := hp.p
    unfold bk
    split
    · have h2 : 0 ≤ tg * tg := Int.mul_nonneg (by omega) (by omega)
      omega
    · omega
  · exact .inr hp
theorem ptStep_ok {p : Piece} {w tg : Int} {x y : Moment} {i : Nat} (hp : PieceOk p) (hw : Wr w) (hx : MomOk x i) (h : ptStep p w tg x = some y) : MomOk y (i + 1) := by
  unfold ptStep at h
  split at h
  · cases h
  split at h
  · cases h
  rename_i h1 h2
  obtain ⟨e0, e1, t0, t1⟩ := hx
  have hg := gd_bd hp hw
  have hb := (bk_bd (p := p) (tg := tg) (E := x.Energy + gd p w) (by omega)).resolve_right (fun h => h hp)
  have q1 := (isq_spec e0).1
  have q2 := (isq_spec (n := x.Energy + gd p w) (by omega)).1
  have hu := up_nn (x := 2000 * p.Length) (d := isq x.Energy + isq (x.Energy + gd p w)) (by have := hp.l; omega) (by omega)
  simp only [Option.some.injEq] at h
  subst h
  exact ⟨hb.1, by dsimp only; omega, by dsimp only; omega, by dsimp only; omega⟩
end Go.Hy
