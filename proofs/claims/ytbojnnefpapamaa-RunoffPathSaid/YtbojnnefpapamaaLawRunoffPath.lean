/-
  RunoffPath: whatever the arguments, the law's function returns true, and leaves what there was as it was. No condition.
-/
import Derived.Test.YtbojnnefpapamaaRows
import Derived.Test.YtbojnnefpapamaaW0
import Derived.Test.YtbojnnefpapamaaW1
import Derived.Test.YtbojnnefpapamaaW2
import Derived.Test.YtbojnnefpapamaaW3
import Derived.Test.YtbojnnefpapamaaPRPath
import Derived.Test.YtbojnnefpapamaaOpn
import Derived.ProofKit
import Derived.OpenShut
import Derived.Carry
namespace Go.Proofs.Ytbojnnefpapamaa.runoffPath
set_option linter.unusedVariables false
open Go.ChangeShapes Go.WideShapes Go.ChangeAt Go.RowKit Go.Hy
section
variable {H : Type} {enc : TypeId × Value → H} {w : World} {base : Nat} {spare : Nat → Bool} {held : Bool}
theorem list8 {α : Type} {l : List α} (h : l.length = 8) : ∃ c0 c1 c2 c3 c4 c5 c6 c7, l = [c0, c1, c2, c3, c4, c5, c6, c7] := by
  match l, h with
  | [c0, c1, c2, c3, c4, c5, c6, c7], _ => exact ⟨c0, c1, c2, c3, c4, c5, c6, c7, rfl⟩
theorem og_87 {fuel : Nat} {cs : List Value} {x : DataW H × List MemPlace} (h : DataW.trod enc Try.prog w base spare held fuel 87 cs = some x) : ∃ (a : Element), cs = Element.enc a ∧ a.Name.size ≤ 9223372036854775807 := by
  obtain ⟨xs, n, _, _, hl, hlen, hf⟩ := DataW.trod_struct Try.underlying87 h
  have hl' : cs.length = 8 := hl.trans (by kernel_rfl)
  obtain ⟨c0, c1, c2, c3, c4, c5, c6, c7, rfl⟩ := list8 hl'
  obtain ⟨y0, y1, y2, y3, y4, y5, y6, y7, rfl⟩ := list8 hlen
  have k0 : Try.prog.cellsOf 3 = 1 := by kernel_rfl
  have h0 : DataW.trod enc Try.prog w base spare held n 3 (([c0, c1, c2, c3, c4, c5, c6, c7].drop 0).take (Try.prog.cellsOf 3)) = some y0 := by
    have h := hf 0 _ rfl
    exact h
  rw [k0] at h0
  have g0 : DataW.trod enc Try.prog w base spare held n 3 [c0] = some y0 := h0
  obtain ⟨b0, e0, _⟩ := og_int Try.underlying3 g0
  simp only [List.cons.injEq, and_true] at e0
  have k1 : Try.prog.cellsOf 9 = 1 := by kernel_rfl
  have h1 : DataW.trod enc Try.prog w base spare held n 9 (([c0, c1, c2, c3, c4, c5, c6, c7].drop 1).take (Try.prog.cellsOf 9)) = some y1 := by
    have h := hf 1 _ rfl
    exact h
  rw [k1] at h1
  have g1 : DataW.trod enc Try.prog w base spare held n 9 [c1] = some y1 := h1
  obtain ⟨b1, e1, z1⟩ := og_strB Try.underlying9 g1
  simp only [List.cons.injEq, and_true] at e1
  have k2 : Try.prog.cellsOf 3 = 1 := by kernel_rfl
  have h2 : DataW.trod enc Try.prog w base spare held n 3 (([c0, c1, c2, c3, c4, c5, c6, c7].drop 2).take (Try.prog.cellsOf 3)) = some y2 := by
    have h := hf 2 _ rfl
    exact h
  rw [k2] at h2
  have g2 : DataW.trod enc Try.prog w base spare held n 3 [c2] = some y2 := h2
  obtain ⟨b2, e2, _⟩ := og_int Try.underlying3 g2
  simp only [List.cons.injEq, and_true] at e2
  have k3 : Try.prog.cellsOf 3 = 1 := by kernel_rfl
  have h3 : DataW.trod enc Try.prog w base spare held n 3 (([c0, c1, c2, c3, c4, c5, c6, c7].drop 3).take (Try.prog.cellsOf 3)) = some y3 := by
    have h := hf 3 _ rfl
    exact h
  rw [k3] at h3
  have g3 : DataW.trod enc Try.prog w base spare held n 3 [c3] = some y3 := h3
  obtain ⟨b3, e3, _⟩ := og_int Try.underlying3 g3
  simp only [List.cons.injEq, and_true] at e3
  have k4 : Try.prog.cellsOf 3 = 1 := by kernel_rfl
  have h4 : DataW.trod enc Try.prog w base spare held n 3 (([c0, c1, c2, c3, c4, c5, c6, c7].drop 4).take (Try.prog.cellsOf 3)) = some y4 := by
    have h := hf 4 _ rfl
    exact h
  rw [k4] at h4
  have g4 : DataW.trod enc Try.prog w base spare held n 3 [c4] = some y4 := h4
  obtain ⟨b4, e4, _⟩ := og_int Try.underlying3 g4
  simp only [List.cons.injEq, and_true] at e4
  have k5 : Try.prog.cellsOf 3 = 1 := by kernel_rfl
  have h5 : DataW.trod enc Try.prog w base spare held n 3 (([c0, c1, c2, c3, c4, c5, c6, c7].drop 5).take (Try.prog.cellsOf 3)) = some y5 := by
    have h := hf 5 _ rfl
    exact h
  rw [k5] at h5
  have g5 : DataW.trod enc Try.prog w base spare held n 3 [c5] = some y5 := h5
  obtain ⟨b5, e5, _⟩ := og_int Try.underlying3 g5
  simp only [List.cons.injEq, and_true] at e5
  have k6 : Try.prog.cellsOf 3 = 1 := by kernel_rfl
  have h6 : DataW.trod enc Try.prog w base spare held n 3 (([c0, c1, c2, c3, c4, c5, c6, c7].drop 6).take (Try.prog.cellsOf 3)) = some y6 := by
    have h := hf 6 _ rfl
    exact h
  rw [k6] at h6
  have g6 : DataW.trod enc Try.prog w base spare held n 3 [c6] = some y6 := h6
  obtain ⟨b6, e6, _⟩ := og_int Try.underlying3 g6
  simp only [List.cons.injEq, and_true] at e6
  have k7 : Try.prog.cellsOf 3 = 1 := by kernel_rfl
  have h7 : DataW.trod enc Try.prog w base spare held n 3 (([c0, c1, c2, c3, c4, c5, c6, c7].drop 7).take (Try.prog.cellsOf 3)) = some y7 := by
    have h := hf 7 _ rfl
    exact h
  rw [k7] at h7
  have g7 : DataW.trod enc Try.prog w base spare held n 3 [c7] = some y7 := h7
  obtain ⟨b7, e7, _⟩ := og_int Try.underlying3 g7
  simp only [List.cons.injEq, and_true] at e7
  simp only [e0, e1, e2, e3, e4, e5, e6, e7]
  exact ⟨⟨b0, b1, b2, b3, b4, b5, b6, b7⟩, by simp [Element.enc], z1⟩
end

theorem own : ownKnob Try.prog.godebug = none := by kernel_rfl
theorem laidOut : laidOutB Try.prog = true := by kernel_rfl
set_option maxRecDepth 100000 in
theorem lifted (os : Os) (started : os.Started) (H : Type) (enc : TypeId × Value → H) :
    ReturnsInHanded {} Try.checked os 11 .any (Rows.runoffPathSpec.pre6 enc Try.prog Try.f11 Rows.runoffPathRow.domain false) (Rows.runoffPathSpec.post enc Try.prog Try.f11 false true false false) := by
  refine returnsInHanded_of_change (C := Try.checked) own started (by kernel_rfl) Try.func11
    (ChangeSpec.witness6 (enc := enc) (C := Try.checked) false ⟨#[], #[.slice none 0 0, .slice none 0 0, .int .i64 0], []⟩ 8 (by kernel_rfl) (by kernel_rfl) (by kernel_rfl) (by kernel_rfl)) ?_
  intro W base args ds gs before hval0 hW hcnd _
  have hval : ∀ (j : Nat) t v, Try.f11.params[j]? = some t → args[j]? = some v → Value.okWide Try.prog W .any base t v := hval0
  have hW' := hW
  obtain ⟨p, q, hA0, hV, rfl, hfz, hnd⟩ := hW
  have hA : DataW.TrodAll enc Try.prog W 0 (fun _ => true) true Try.f11.params.toList args.toList ds p := hA0
  rw [Try.params11] at hA hval
  obtain ⟨v0, vs0, d0, ds0, p0, q0, hargs, rfl, rfl, h0, r0⟩ := trodAll_cons hA
  obtain ⟨v1, vs1, d1, ds1, p1, q1, rfl, rfl, rfl, h1, r1⟩ := trodAll_cons r0
  obtain ⟨v2, vs2, d2, ds2, p2, q2, rfl, rfl, rfl, h2, r2⟩ := trodAll_cons r1
  obtain ⟨rfl, rfl, rfl⟩ := trodAll_nil r2
  obtain rfl : args = #[v0, v1, v2] := by cases args; simp_all
  obtain ⟨rfl, rfl⟩ := trodVars_none hV
  have k0 := h0
  have lt0 : ∀ x ∈ p0, x.block < W.heap.size := by obtain ⟨m, hm⟩ := k0; exact DataW.trod_lt m _ _ _ hm
  have k1 := h1
  have lt1 : ∀ x ∈ p1, x.block < W.heap.size := by obtain ⟨m, hm⟩ := k1; exact DataW.trod_lt m _ _ _ hm
  have k2 := h2
  have lt2 : ∀ x ∈ p2, x.block < W.heap.size := by obtain ⟨m, hm⟩ := k2; exact DataW.trod_lt m _ _ _ hm
  obtain ⟨H0, l0, rfl, R0, B0⟩ := open_L Try.underlying26 Try.underlying3 (by kernel_rfl) (hval 0 26 v0 rfl rfl) h0
  obtain ⟨fu1, hf1⟩ := h1
  obtain ⟨H1, l1, hc1, R1, B1⟩ := og_row (en := Element.enc) Try.underlying64 (by kernel_rfl) (fun _ _ _ hh => og_87 hh) hf1
  obtain rfl := row_of Try.underlying64 (hval 1 64 v1 rfl rfl) hc1
  obtain ⟨a2, rfl, I2⟩ := open_I Try.underlying3 (hval 2 3 v2 rfl rfl) h2
  clear hA0 hval0
  have hc := law20_RunoffPath_c (w := W) (RPath_ok (a := a2) (Sl_len R0) B1) R0 R1
  try unfold Gives at hc
  refine hc.mono fun e W' hh => ?_
  obtain ⟨rfl, hg⟩ := hh
  have bel := hg.below
  exact ⟨_, rfl, _, _, _, [], _, [], hW', trodAll_mk1 (shut_bool Try.underlying4 _), (trodAll_cons_mk (Below.trod laidOut (by kernel_rfl) (of_decide_eq_true (by kernel_rfl)) k0 bel lt0) (trodAll_cons_mk (Below.trod laidOut (by kernel_rfl) (of_decide_eq_true (by kernel_rfl)) k1 bel lt1) (trodAll_cons_mk (Below.trod laidOut (by kernel_rfl) (of_decide_eq_true (by kernel_rfl)) k2 bel lt2) trodAll_mk0))), rfl, bel.frame _, fun h => by cases h⟩

theorem over : Rows.runoffPathRow.holds Try.pinned (OpenSpec.ofChange Rows.runoffPathSpec) :=
  OpenClaim.holds_of_wide 11 Try.f11 rfl rfl rfl rfl rfl rfl rfl ⟨rfl, rfl, rfl, rfl, rfl⟩ rfl rfl rfl rfl rfl (by kernel_rfl) Try.func11 (by kernel_rfl)
    (of_decide_eq_true (by kernel_rfl)) (by unfold Func.isWrapper; first | (rw [if_pos (by decide +kernel)]; kernel_rfl) | (rw [if_neg (by decide +kernel)]; exact ⟨rfl, rfl⟩))
    (fun os started H enc _ => lifted os started H enc)

/-- THE STATEMENT -/
theorem proved : Rows.RunoffPathSaid :=
  over
#print axioms proved
end Go.Proofs.Ytbojnnefpapamaa.runoffPath
