/-
  BowlExact: whatever the arguments, the law's function returns true, and leaves what there was as it was. No condition.
-/
import Derived.Test.YtdabnfhkojapjaaRows
import Derived.Test.YtdabnfhkojapjaaW0
import Derived.Test.YtdabnfhkojapjaaW1
import Derived.Test.YtdabnfhkojapjaaW2
import Derived.Test.YtdabnfhkojapjaaW3
import Derived.Test.YtdabnfhkojapjaaW4
import Derived.Test.YtdabnfhkojapjaaPBowlE
import Derived.Test.YtdabnfhkojapjaaOpn
import Derived.ProofKit
import Derived.OpenShut
import Derived.Carry
namespace Go.Proofs.Ytdabnfhkojapjaa.bowlExact
set_option linter.unusedVariables false
open Go.ChangeShapes Go.WideShapes Go.ChangeAt Go.RowKit Go.Hy
section
variable {H : Type} {enc : TypeId × Value → H} {w : World} {base : Nat} {spare : Nat → Bool} {held : Bool}
theorem list3 {α : Type} {l : List α} (h : l.length = 3) : ∃ c0 c1 c2, l = [c0, c1, c2] := by
  match l, h with
  | [c0, c1, c2], _ => exact ⟨c0, c1, c2, rfl⟩
theorem og_24 {fuel : Nat} {cs : List Value} {x : DataW H × List MemPlace} (h : DataW.trod enc Try.prog w base spare held fuel 24 cs = some x) : ∃ (a : Stand) (ha_Wagons : Hd) (ha_Lengths : Hd), cs = [.int .i64 a.Room, ha_Wagons.v, ha_Lengths.v] ∧ Sl w ha_Wagons encI a.Wagons ∧ Sl w ha_Lengths encI a.Lengths := by
  obtain ⟨xs, n, _, _, hl, hlen, hf⟩ := DataW.trod_struct Try.underlying24 h
  have hl' : cs.length = 3 := hl.trans (by kernel_rfl)
  obtain ⟨c0, c1, c2, rfl⟩ := list3 hl'
  obtain ⟨y0, y1, y2, rfl⟩ := list3 hlen
  have k0 : Try.prog.cellsOf 3 = 1 := by kernel_rfl
  have h0 : DataW.trod enc Try.prog w base spare held n 3 (([c0, c1, c2].drop 0).take (Try.prog.cellsOf 3)) = some y0 := by
    have h := hf 0 _ rfl
    exact h
  rw [k0] at h0
  have g0 : DataW.trod enc Try.prog w base spare held n 3 [c0] = some y0 := h0
  obtain ⟨b0, e0, _⟩ := og_int Try.underlying3 g0
  simp only [List.cons.injEq, and_true] at e0
  have k1 : Try.prog.cellsOf 22 = 1 := by kernel_rfl
  have h1 : DataW.trod enc Try.prog w base spare held n 22 (([c0, c1, c2].drop 1).take (Try.prog.cellsOf 22)) = some y1 := by
    have h := hf 1 _ rfl
    exact h
  rw [k1] at h1
  have g1 : DataW.trod enc Try.prog w base spare held n 22 [c1] = some y1 := h1
  obtain ⟨d1, b1, e1, r1, _⟩ := og_row (en := encI) Try.underlying22 (by kernel_rfl) (fun _ _ _ hh => og_int Try.underlying3 hh) g1
  simp only [List.cons.injEq, and_true] at e1
  have k2 : Try.prog.cellsOf 22 = 1 := by kernel_rfl
  have h2 : DataW.trod enc Try.prog w base spare held n 22 (([c0, c1, c2].drop 2).take (Try.prog.cellsOf 22)) = some y2 := by
    have h := hf 2 _ rfl
    exact h
  rw [k2] at h2
  have g2 : DataW.trod enc Try.prog w base spare held n 22 [c2] = some y2 := h2
  obtain ⟨d2, b2, e2, r2, _⟩ := og_row (en := encI) Try.underlying22 (by kernel_rfl) (fun _ _ _ hh => og_int Try.underlying3 hh) g2
  simp only [List.cons.injEq, and_true] at e2
  simp only [e0, e1, e2]
  exact ⟨⟨b0, b1, b2⟩, d1, d2, rfl, r1, r2⟩
end

theorem own : ownKnob Try.prog.godebug = none := by kernel_rfl
theorem laidOut : laidOutB Try.prog = true := by kernel_rfl
set_option maxRecDepth 100000 in
theorem lifted (os : Os) (started : os.Started) (H : Type) (enc : TypeId × Value → H) :
    ReturnsInHanded {} Try.checked os 3 .any (Rows.bowlExactSpec.pre6 enc Try.prog Try.f3 Rows.bowlExactRow.domain false) (Rows.bowlExactSpec.post enc Try.prog Try.f3 false true false false) := by
  refine returnsInHanded_of_change_sized (C := Try.checked) own started (by kernel_rfl) Try.func3
    (ChangeSpec.witness6 (enc := enc) (C := Try.checked) false ⟨#[], #[.slice none 0 0, .agg #[.int .i64 0, .slice none 0 0, .slice none 0 0], .slice none 0 0, .slice none 0 0, .int .i64 0], []⟩ 8 (by kernel_rfl) (by kernel_rfl) (by kernel_rfl) (by kernel_rfl)) ?_
  intro W base args ds gs before hval0 hW hcnd hsz0 _
  have hsz : (DataW.weightsEach Try.prog (Try.f3.params.toList ++ Rows.bowlExactSpec.plain.varTypes Try.prog) (ds ++ gs)).all (· ≤ reachBytes) = true := hsz0
  have hval : ∀ (j : Nat) t v, Try.f3.params[j]? = some t → args[j]? = some v → Value.okWide Try.prog W .any base t v := hval0
  have hW' := hW
  obtain ⟨p, q, hA0, hV, rfl, hfz, hnd⟩ := hW
  have hA : DataW.TrodAll enc Try.prog W 0 (fun _ => true) true Try.f3.params.toList args.toList ds p := hA0
  rw [Try.params3] at hA hval hsz
  obtain ⟨v0, vs0, d0, ds0, p0, q0, hargs, rfl, rfl, h0, r0⟩ := trodAll_cons hA
  obtain ⟨v1, vs1, d1, ds1, p1, q1, rfl, rfl, rfl, h1, r1⟩ := trodAll_cons r0
  obtain ⟨v2, vs2, d2, ds2, p2, q2, rfl, rfl, rfl, h2, r2⟩ := trodAll_cons r1
  obtain ⟨v3, vs3, d3, ds3, p3, q3, rfl, rfl, rfl, h3, r3⟩ := trodAll_cons r2
  obtain ⟨v4, vs4, d4, ds4, p4, q4, rfl, rfl, rfl, h4, r4⟩ := trodAll_cons r3
  obtain ⟨rfl, rfl, rfl⟩ := trodAll_nil r4
  obtain rfl : args = #[v0, v1, v2, v3, v4] := by cases args; simp_all
  obtain ⟨rfl, rfl⟩ := trodVars_none hV
  have k0 := h0
  have lt0 : ∀ x ∈ p0, x.block < W.heap.size := by obtain ⟨m, hm⟩ := k0; exact DataW.trod_lt m _ _ _ hm
  have k1 := h1
  have lt1 : ∀ x ∈ p1, x.block < W.heap.size := by obtain ⟨m, hm⟩ := k1; exact DataW.trod_lt m _ _ _ hm
  have k2 := h2
  have lt2 : ∀ x ∈ p2, x.block < W.heap.size := by obtain ⟨m, hm⟩ := k2; exact DataW.trod_lt m _ _ _ hm
  have k3 := h3
  have lt3 : ∀ x ∈ p3, x.block < W.heap.size := by obtain ⟨m, hm⟩ := k3; exact DataW.trod_lt m _ _ _ hm
  have k4 := h4
  have lt4 : ∀ x ∈ p4, x.block < W.heap.size := by obtain ⟨m, hm⟩ := k4; exact DataW.trod_lt m _ _ _ hm
  obtain ⟨H0, l0, rfl, R0, B0⟩ := open_L Try.underlying22 Try.underlying3 (by kernel_rfl) (hval 0 22 v0 rfl rfl) h0
  obtain ⟨fu1, hf1⟩ := h1
  obtain ⟨s1, hs1_Wagons, hs1_Lengths, hc1, Rs1_Wagons, Rs1_Lengths⟩ := og_24 hf1
  obtain rfl := agg_of Try.underlying24 (hval 1 24 v1 rfl rfl) hc1
  obtain ⟨H2, l2, rfl, R2, B2⟩ := open_L Try.underlying22 Try.underlying3 (by kernel_rfl) (hval 2 22 v2 rfl rfl) h2
  obtain ⟨H3, l3, rfl, R3, B3⟩ := open_L Try.underlying22 Try.underlying3 (by kernel_rfl) (hval 3 22 v3 rfl rfl) h3
  obtain ⟨a4, rfl, I4⟩ := open_I Try.underlying3 (hval 4 3 v4 rfl rfl) h4
  have Z2 := row_reach hsz R2 Try.underlying22 (b := Try.prog.bytesOf 3 - 1) (by kernel_rfl) (j := 2) (by kernel_rfl) (by rfl) k2
  clear hA0 hval0
  have hc := law32_BowlExact_c (a1 := s1) (BowlExact_ok (Sl_len R0) (by omega) (Sl_len R3) (Sl_len Rs1_Lengths) I4) R0 Rs1_Wagons Rs1_Lengths R2 R3
  try unfold Gives at hc
  refine hc.mono fun e W' hh => ?_
  obtain ⟨rfl, hg⟩ := hh
  have bel := hg.below
  exact ⟨_, rfl, _, _, _, [], _, [], hW', trodAll_mk1 (shut_bool Try.underlying4 _), (trodAll_cons_mk (Below.trod laidOut (by kernel_rfl) (of_decide_eq_true (by kernel_rfl)) k0 bel lt0) (trodAll_cons_mk (Below.trod laidOut (by kernel_rfl) (of_decide_eq_true (by kernel_rfl)) k1 bel lt1) (trodAll_cons_mk (Below.trod laidOut (by kernel_rfl) (of_decide_eq_true (by kernel_rfl)) k2 bel lt2) (trodAll_cons_mk (Below.trod laidOut (by kernel_rfl) (of_decide_eq_true (by kernel_rfl)) k3 bel lt3) (trodAll_cons_mk (Below.trod laidOut (by kernel_rfl) (of_decide_eq_true (by kernel_rfl)) k4 bel lt4) trodAll_mk0))))), rfl, bel.frame _, fun h => by cases h⟩

theorem over : Rows.bowlExactRow.holds Try.pinned (OpenSpec.ofChange Rows.bowlExactSpec) :=
  OpenClaim.holds_of_wide 3 Try.f3 rfl rfl rfl rfl rfl rfl rfl ⟨rfl, rfl, rfl, rfl, rfl⟩ rfl rfl rfl rfl rfl (by kernel_rfl) Try.func3 (by kernel_rfl)
    (of_decide_eq_true (by kernel_rfl)) (by unfold Func.isWrapper; first | (rw [if_pos (by decide +kernel)]; kernel_rfl) | (rw [if_neg (by decide +kernel)]; exact ⟨rfl, rfl⟩))
    (fun os started H enc _ => lifted os started H enc)

/-- THE STATEMENT -/
theorem proved : Rows.BowlExactSaid :=
  over
#print axioms proved
end Go.Proofs.Ytdabnfhkojapjaa.bowlExact
