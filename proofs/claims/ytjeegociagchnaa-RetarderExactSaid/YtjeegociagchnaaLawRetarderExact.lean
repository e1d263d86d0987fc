/-
  RetarderExact: whatever the arguments, the law's function returns true, and leaves what there was as it was. No condition.
-/
import Derived.Test.YtjeegociagchnaaRows
import Derived.Test.YtjeegociagchnaaW0
import Derived.Test.YtjeegociagchnaaW1
import Derived.Test.YtjeegociagchnaaW2
import Derived.Test.YtjeegociagchnaaW3
import Derived.Test.YtjeegociagchnaaPRetL
import Derived.Test.YtjeegociagchnaaOpn
import Derived.ProofKit
import Derived.OpenShut
import Derived.Carry
namespace Go.Proofs.Ytjeegociagchnaa.retarderExact
set_option linter.unusedVariables false
open Go.ChangeShapes Go.WideShapes Go.ChangeAt Go.RowKit Go.Hy
section
variable {H : Type} {enc : TypeId × Value → H} {w : World} {base : Nat} {spare : Nat → Bool} {held : Bool}
theorem list5 {α : Type} {l : List α} (h : l.length = 5) : ∃ c0 c1 c2 c3 c4, l = [c0, c1, c2, c3, c4] := by
  match l, h with
  | [c0, c1, c2, c3, c4], _ => exact ⟨c0, c1, c2, c3, c4, rfl⟩
theorem og_30 {fuel : Nat} {cs : List Value} {x : DataW H × List MemPlace} (h : DataW.trod enc Try.prog w base spare held fuel 30 cs = some x) : ∃ (a : Piece), cs = Piece.enc a ∧ True := by
  obtain ⟨xs, n, _, _, hl, hlen, hf⟩ := DataW.trod_struct Try.underlying30 h
  have hl' : cs.length = 5 := hl.trans (by kernel_rfl)
  obtain ⟨c0, c1, c2, c3, c4, rfl⟩ := list5 hl'
  obtain ⟨y0, y1, y2, y3, y4, rfl⟩ := list5 hlen
  have k0 : Try.prog.cellsOf 3 = 1 := by kernel_rfl
  have h0 : DataW.trod enc Try.prog w base spare held n 3 (([c0, c1, c2, c3, c4].drop 0).take (Try.prog.cellsOf 3)) = some y0 := by
    have h := hf 0 _ rfl
    exact h
  rw [k0] at h0
  have g0 : DataW.trod enc Try.prog w base spare held n 3 [c0] = some y0 := h0
  obtain ⟨b0, e0, _⟩ := og_int Try.underlying3 g0
  simp only [List.cons.injEq, and_true] at e0
  have k1 : Try.prog.cellsOf 3 = 1 := by kernel_rfl
  have h1 : DataW.trod enc Try.prog w base spare held n 3 (([c0, c1, c2, c3, c4].drop 1).take (Try.prog.cellsOf 3)) = some y1 := by
    have h := hf 1 _ rfl
    exact h
  rw [k1] at h1
  have g1 : DataW.trod enc Try.prog w base spare held n 3 [c1] = some y1 := h1
  obtain ⟨b1, e1, _⟩ := og_int Try.underlying3 g1
  simp only [List.cons.injEq, and_true] at e1
  have k2 : Try.prog.cellsOf 3 = 1 := by kernel_rfl
  have h2 : DataW.trod enc Try.prog w base spare held n 3 (([c0, c1, c2, c3, c4].drop 2).take (Try.prog.cellsOf 3)) = some y2 := by
    have h := hf 2 _ rfl
    exact h
  rw [k2] at h2
  have g2 : DataW.trod enc Try.prog w base spare held n 3 [c2] = some y2 := h2
  obtain ⟨b2, e2, _⟩ := og_int Try.underlying3 g2
  simp only [List.cons.injEq, and_true] at e2
  have k3 : Try.prog.cellsOf 3 = 1 := by kernel_rfl
  have h3 : DataW.trod enc Try.prog w base spare held n 3 (([c0, c1, c2, c3, c4].drop 3).take (Try.prog.cellsOf 3)) = some y3 := by
    have h := hf 3 _ rfl
    exact h
  rw [k3] at h3
  have g3 : DataW.trod enc Try.prog w base spare held n 3 [c3] = some y3 := h3
  obtain ⟨b3, e3, _⟩ := og_int Try.underlying3 g3
  simp only [List.cons.injEq, and_true] at e3
  have k4 : Try.prog.cellsOf 3 = 1 := by kernel_rfl
  have h4 : DataW.trod enc Try.prog w base spare held n 3 (([c0, c1, c2, c3, c4].drop 4).take (Try.prog.cellsOf 3)) = some y4 := by
    have h := hf 4 _ rfl
    exact h
  rw [k4] at h4
  have g4 : DataW.trod enc Try.prog w base spare held n 3 [c4] = some y4 := h4
  obtain ⟨b4, e4, _⟩ := og_int Try.underlying3 g4
  simp only [List.cons.injEq, and_true] at e4
  simp only [e0, e1, e2, e3, e4]
  exact ⟨⟨b0, b1, b2, b3, b4⟩, by simp [Piece.enc], trivial⟩
theorem list2 {α : Type} {l : List α} (h : l.length = 2) : ∃ c0 c1, l = [c0, c1] := by
  match l, h with
  | [c0, c1], _ => exact ⟨c0, c1, rfl⟩
theorem og_41 {fuel : Nat} {cs : List Value} {x : DataW H × List MemPlace} (h : DataW.trod enc Try.prog w base spare held fuel 41 cs = some x) : ∃ (a : Interval), cs = Interval.enc a ∧ True := by
  obtain ⟨xs, n, _, _, hl, hlen, hf⟩ := DataW.trod_struct Try.underlying41 h
  have hl' : cs.length = 2 := hl.trans (by kernel_rfl)
  obtain ⟨c0, c1, rfl⟩ := list2 hl'
  obtain ⟨y0, y1, rfl⟩ := list2 hlen
  have k0 : Try.prog.cellsOf 3 = 1 := by kernel_rfl
  have h0 : DataW.trod enc Try.prog w base spare held n 3 (([c0, c1].drop 0).take (Try.prog.cellsOf 3)) = some y0 := by
    have h := hf 0 _ rfl
    exact h
  rw [k0] at h0
  have g0 : DataW.trod enc Try.prog w base spare held n 3 [c0] = some y0 := h0
  obtain ⟨b0, e0, _⟩ := og_int Try.underlying3 g0
  simp only [List.cons.injEq, and_true] at e0
  have k1 : Try.prog.cellsOf 3 = 1 := by kernel_rfl
  have h1 : DataW.trod enc Try.prog w base spare held n 3 (([c0, c1].drop 1).take (Try.prog.cellsOf 3)) = some y1 := by
    have h := hf 1 _ rfl
    exact h
  rw [k1] at h1
  have g1 : DataW.trod enc Try.prog w base spare held n 3 [c1] = some y1 := h1
  obtain ⟨b1, e1, _⟩ := og_int Try.underlying3 g1
  simp only [List.cons.injEq, and_true] at e1
  simp only [e0, e1]
  exact ⟨⟨b0, b1⟩, by simp [Interval.enc], trivial⟩
theorem list4 {α : Type} {l : List α} (h : l.length = 4) : ∃ c0 c1 c2 c3, l = [c0, c1, c2, c3] := by
  match l, h with
  | [c0, c1, c2, c3], _ => exact ⟨c0, c1, c2, c3, rfl⟩
theorem og_44 {fuel : Nat} {cs : List Value} {x : DataW H × List MemPlace} (h : DataW.trod enc Try.prog w base spare held fuel 44 cs = some x) : ∃ (a : Motion) (ha_Class : Hd) (ha_Targets : Hd), cs = [.int .i64 a.Speed.Lo, .int .i64 a.Speed.Hi, ha_Class.v, .int .i64 a.Error, ha_Targets.v] ∧ Sl w ha_Class Interval.enc a.Class ∧ Sl w ha_Targets encI a.Targets := by
  obtain ⟨xs, n, _, _, hl, hlen, hf⟩ := DataW.trod_struct Try.underlying44 h
  have hl' : cs.length = 5 := hl.trans (by kernel_rfl)
  obtain ⟨c0, c1, c2, c3, c4, rfl⟩ := list5 hl'
  obtain ⟨y0, y1, y2, y3, rfl⟩ := list4 hlen
  have k0 : Try.prog.cellsOf 41 = 2 := by kernel_rfl
  have h0 : DataW.trod enc Try.prog w base spare held n 41 (([c0, c1, c2, c3, c4].drop 0).take (Try.prog.cellsOf 41)) = some y0 := by
    have h := hf 0 _ rfl
    exact h
  rw [k0] at h0
  have g0 : DataW.trod enc Try.prog w base spare held n 41 [c0, c1] = some y0 := h0
  obtain ⟨b0, e0, r0⟩ := og_41 g0
  simp only [Interval.enc, List.cons.injEq, and_true] at e0
  have k1 : Try.prog.cellsOf 42 = 1 := by kernel_rfl
  have h1 : DataW.trod enc Try.prog w base spare held n 42 (([c0, c1, c2, c3, c4].drop 2).take (Try.prog.cellsOf 42)) = some y1 := by
    have h := hf 1 _ rfl
    exact h
  rw [k1] at h1
  have g1 : DataW.trod enc Try.prog w base spare held n 42 [c2] = some y1 := h1
  obtain ⟨d1, b1, e1, r1, _⟩ := og_row (en := Interval.enc) Try.underlying42 (by kernel_rfl) (fun _ _ _ hh => og_41 hh) g1
  simp only [List.cons.injEq, and_true] at e1
  have k2 : Try.prog.cellsOf 3 = 1 := by kernel_rfl
  have h2 : DataW.trod enc Try.prog w base spare held n 3 (([c0, c1, c2, c3, c4].drop 3).take (Try.prog.cellsOf 3)) = some y2 := by
    have h := hf 2 _ rfl
    exact h
  rw [k2] at h2
  have g2 : DataW.trod enc Try.prog w base spare held n 3 [c3] = some y2 := h2
  obtain ⟨b2, e2, _⟩ := og_int Try.underlying3 g2
  simp only [List.cons.injEq, and_true] at e2
  have k3 : Try.prog.cellsOf 22 = 1 := by kernel_rfl
  have h3 : DataW.trod enc Try.prog w base spare held n 22 (([c0, c1, c2, c3, c4].drop 4).take (Try.prog.cellsOf 22)) = some y3 := by
    have h := hf 3 _ rfl
    exact h
  rw [k3] at h3
  have g3 : DataW.trod enc Try.prog w base spare held n 22 [c4] = some y3 := h3
  obtain ⟨d3, b3, e3, r3, _⟩ := og_row (en := encI) Try.underlying22 (by kernel_rfl) (fun _ _ _ hh => og_int Try.underlying3 hh) g3
  simp only [List.cons.injEq, and_true] at e3
  simp only [e0, e1, e2, e3]
  exact ⟨⟨b0, b1, b2, b3⟩, d1, d3, rfl, r1, r3⟩
end

theorem own : ownKnob Try.prog.godebug = none := by kernel_rfl
theorem laidOut : laidOutB Try.prog = true := by kernel_rfl
set_option maxRecDepth 100000 in
theorem lifted (os : Os) (started : os.Started) (H : Type) (enc : TypeId × Value → H) :
    ReturnsInHanded {} Try.checked os 10 .any (Rows.retarderExactSpec.pre6 enc Try.prog Try.f10 Rows.retarderExactRow.domain false) (Rows.retarderExactSpec.post enc Try.prog Try.f10 false true false false) := by
  refine returnsInHanded_of_change (C := Try.checked) own started (by kernel_rfl) Try.func10
    (ChangeSpec.witness6 (enc := enc) (C := Try.checked) false ⟨#[], #[.slice none 0 0, .slice none 0 0, .agg #[.int .i64 0, .int .i64 0, .slice none 0 0, .int .i64 0, .slice none 0 0], .int .i64 0, .agg #[.int .i64 0, .int .i64 0]], []⟩ 8 (by kernel_rfl) (by kernel_rfl) (by kernel_rfl) (by kernel_rfl)) ?_
  intro W base args ds gs before hval0 hW hcnd _
  have hval : ∀ (j : Nat) t v, Try.f10.params[j]? = some t → args[j]? = some v → Value.okWide Try.prog W .any base t v := hval0
  have hW' := hW
  obtain ⟨p, q, hA0, hV, rfl, hfz, hnd⟩ := hW
  have hA : DataW.TrodAll enc Try.prog W 0 (fun _ => true) true Try.f10.params.toList args.toList ds p := hA0
  rw [Try.params10] at hA hval
  obtain ⟨v0, vs0, d0, ds0, p0, q0, hargs, rfl, rfl, h0, r0⟩ := trodAll_cons hA
  obtain ⟨v1, vs1, d1, ds1, p1, q1, rfl, rfl, rfl, h1, r1⟩ := trodAll_cons r0
  obtain ⟨v2, vs2, d2, ds2, p2, q2, rfl, rfl, rfl, h2, r2⟩ := trodAll_cons r1
  obtain ⟨v3, vs3, d3, ds3, p3, q3, rfl, rfl, rfl, h3, r3⟩ := trodAll_cons r2
  obtain ⟨v4, vs4, d4, ds4, p4, q4, rfl, rfl, rfl, h4, r4⟩ := trodAll_cons r3
  obtain ⟨rfl, rfl, rfl⟩ := trodAll_nil r4
  obtain rfl : args = #[v0, v1, v2, v3, v4] := by cases args; simp_all
  obtain ⟨rfl, rfl⟩ := trodVars_none hV
  have k0 := h0
  have lt0 : ∀ x ∈ p0, x.block < W.heap.size := by obtain ⟨m, hm⟩ := k0; exact DataW.trod_lt m _ _ _ hm
  have k1 := h1
  have lt1 : ∀ x ∈ p1, x.block < W.heap.size := by obtain ⟨m, hm⟩ := k1; exact DataW.trod_lt m _ _ _ hm
  have k2 := h2
  have lt2 : ∀ x ∈ p2, x.block < W.heap.size := by obtain ⟨m, hm⟩ := k2; exact DataW.trod_lt m _ _ _ hm
  have k3 := h3
  have lt3 : ∀ x ∈ p3, x.block < W.heap.size := by obtain ⟨m, hm⟩ := k3; exact DataW.trod_lt m _ _ _ hm
  have k4 := h4
  have lt4 : ∀ x ∈ p4, x.block < W.heap.size := by obtain ⟨m, hm⟩ := k4; exact DataW.trod_lt m _ _ _ hm
  obtain ⟨H0, l0, rfl, R0, B0⟩ := open_L Try.underlying22 Try.underlying3 (by kernel_rfl) (hval 0 22 v0 rfl rfl) h0
  obtain ⟨fu1, hf1⟩ := h1
  obtain ⟨H1, l1, hc1, R1, B1⟩ := og_row (en := Piece.enc) Try.underlying25 (by kernel_rfl) (fun _ _ _ hh => og_30 hh) hf1
  obtain rfl := row_of Try.underlying25 (hval 1 25 v1 rfl rfl) hc1
  obtain ⟨fu2, hf2⟩ := h2
  obtain ⟨s2, hs2_Class, hs2_Targets, hc2, Rs2_Class, Rs2_Targets⟩ := og_44 hf2
  obtain rfl := agg_of Try.underlying44 (hval 2 44 v2 rfl rfl) hc2
  obtain ⟨a3, rfl, I3⟩ := open_I Try.underlying3 (hval 3 3 v3 rfl rfl) h3
  obtain ⟨x4, y4, rfl, I4, J4⟩ := open_V Try.underlying66 (by kernel_rfl) (by kernel_rfl) Try.underlying3 Try.underlying3 (hval 4 66 v4 rfl rfl) h4
  clear hA0 hval0
  have hc := law21_RetarderExact_c (a2 := s2) (a4 := Band.mk x4 y4) (RetExact_ok (qk := a3) (Sl_len R0)) R0 R1 Rs2_Class Rs2_Targets
  try unfold Gives at hc
  refine hc.mono fun e W' hh => ?_
  obtain ⟨rfl, hg⟩ := hh
  have bel := hg.below
  exact ⟨_, rfl, _, _, _, [], _, [], hW', trodAll_mk1 (shut_bool Try.underlying4 _), (trodAll_cons_mk (Below.trod laidOut (by kernel_rfl) (of_decide_eq_true (by kernel_rfl)) k0 bel lt0) (trodAll_cons_mk (Below.trod laidOut (by kernel_rfl) (of_decide_eq_true (by kernel_rfl)) k1 bel lt1) (trodAll_cons_mk (Below.trod laidOut (by kernel_rfl) (of_decide_eq_true (by kernel_rfl)) k2 bel lt2) (trodAll_cons_mk (Below.trod laidOut (by kernel_rfl) (of_decide_eq_true (by kernel_rfl)) k3 bel lt3) (trodAll_cons_mk (Below.trod laidOut (by kernel_rfl) (of_decide_eq_true (by kernel_rfl)) k4 bel lt4) trodAll_mk0))))), rfl, bel.frame _, fun h => by cases h⟩

theorem over : Rows.retarderExactRow.holds Try.pinned (OpenSpec.ofChange Rows.retarderExactSpec) :=
  OpenClaim.holds_of_wide 10 Try.f10 rfl rfl rfl rfl rfl rfl rfl ⟨rfl, rfl, rfl, rfl, rfl⟩ rfl rfl rfl rfl rfl (by kernel_rfl) Try.func10 (by kernel_rfl)
    (of_decide_eq_true (by kernel_rfl)) (by unfold Func.isWrapper; first | (rw [if_pos (by decide +kernel)]; kernel_rfl) | (rw [if_neg (by decide +kernel)]; exact ⟨rfl, rfl⟩))
    (fun os started H enc _ => lifted os started H enc)

/-- THE STATEMENT -/
theorem proved : Rows.RetarderExactSaid :=
  over
#print axioms proved
end Go.Proofs.Ytjeegociagchnaa.retarderExact
