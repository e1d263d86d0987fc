/-
  The way of the reference.
-/
import Derived.Test.YtbojnnefpapamaaPWay0
import Derived.Test.YtbojnnefpapamaaPLay
namespace Go.Hy
set_option linter.unusedVariables false
set_option linter.unusedSimpArgs false
set_option maxHeartbeats 2000000
set_option maxRecDepth 10000
theorem Way_m {l : List Element} (h : VL l) : ∀ (n : Nat) (i : Int), i < n → i < l.length → r10_Way_n (n + 1) l i = some (way l i) := by
  intro n
  induction n with
  | zero =>
    intro i h1 h2
    refine Ok.eq (?_ : Ok _ _)
    unfold r10_Way_n
    exact ok_if1 (by omega) (ok_some (way_neg (by omega)).symm)
  | succ n ih =>
    intro i h1 h2
    refine Ok.eq (?_ : Ok _ _)
    unfold r10_Way_n
    refine ok_if (fun h0 => ok_some (way_neg h0).symm) (fun h0 => ok_ix (by omega) h2 fun x hx => ?_)
    have hp := h.par hx
    have hl := way_len h (i.toNat + 1) x.Parent (by omega)
    have hlen := h.len
    refine ok_bde (ih x.Parent (by omega) (by omega)) (ok_ck (by simp only [List.length_cons, List.length_nil]; omega) (ok_vl fun y hy => ok_some ?_))
    rw [hy, way_at h (by omega) hx]
theorem way_m {l : List Element} (h : VL l) {i : Int} (hi : i < l.length) : r10_Way l i = some (way l i) := by
  have hlen := h.len
  unfold r10_Way
  exact Way_m h 18446744073709551615 i (by omega) hi
end Go.Hy
