/-
  HumpExact: whatever the arguments, the law's function returns true, and leaves what there was as it was. No condition.
-/
import Derived.Test.YtdgminllobhncaaGreatRows
import Derived.Test.YtdgminllobhncaaGreatK6
import Derived.ProofKit
import Derived.OpenShut
import Derived.Carry
namespace Go.Proofs.YtdgminllobhncaaGreat.humpExact
set_option linter.unusedVariables false
open Go.ChangeShapes Go.WideShapes Go.ChangeAt Go.RowKit Go.Hy
section
variable {H : Type} {enc : TypeId × Value → H} {w : World} {base : Nat} {spare : Nat → Bool} {held : Bool}
theorem list8 {α : Type} {l : List α} (h : l.length = 8) : ∃ c0 c1 c2 c3 c4 c5 c6 c7, l = [c0, c1, c2, c3, c4, c5, c6, c7] := by
  match l, h with
  | [c0, c1, c2, c3, c4, c5, c6, c7], _ => exact ⟨c0, c1, c2, c3, c4, c5, c6, c7, rfl⟩
theorem og_102 {fuel : Nat} {cs : List Value} {x : DataW H × List MemPlace} (h : DataW.trod enc Tryz.prog w base spare held fuel 102 cs = some x) : ∃ (a : Element), cs = Element.enc a ∧ a.Name.size ≤ 9223372036854775807 := by
  obtain ⟨xs, n, _, _, hl, hlen, hf⟩ := DataW.trod_struct Tryz.underlying102 h
  have hl' : cs.length = 8 := hl.trans (by kernel_rfl)
  obtain ⟨c0, c1, c2, c3, c4, c5, c6, c7, rfl⟩ := list8 hl'
  obtain ⟨y0, y1, y2, y3, y4, y5, y6, y7, rfl⟩ := list8 hlen
  have k0 : Tryz.prog.cellsOf 3 = 1 := by kernel_rfl
  have h0 : DataW.trod enc Tryz.prog w base spare held n 3 (([c0, c1, c2, c3, c4, c5, c6, c7].drop 0).take (Tryz.prog.cellsOf 3)) = some y0 := by
    have h := hf 0 _ rfl
    exact h
  rw [k0] at h0
  have g0 : DataW.trod enc Tryz.prog w base spare held n 3 [c0] = some y0 := h0
  obtain ⟨b0, e0, _⟩ := ZcD Tryz.underlying3 g0
  simp only [List.cons.injEq, and_true] at e0
  have k1 : Tryz.prog.cellsOf 9 = 1 := by kernel_rfl
  have h1 : DataW.trod enc Tryz.prog w base spare held n 9 (([c0, c1, c2, c3, c4, c5, c6, c7].drop 1).take (Tryz.prog.cellsOf 9)) = some y1 := by
    have h := hf 1 _ rfl
    exact h
  rw [k1] at h1
  have g1 : DataW.trod enc Tryz.prog w base spare held n 9 [c1] = some y1 := h1
  obtain ⟨b1, e1, z1⟩ := og_strB Tryz.underlying9 g1
  simp only [List.cons.injEq, and_true] at e1
  have k2 : Tryz.prog.cellsOf 3 = 1 := by kernel_rfl
  have h2 : DataW.trod enc Tryz.prog w base spare held n 3 (([c0, c1, c2, c3, c4, c5, c6, c7].drop 2).take (Tryz.prog.cellsOf 3)) = some y2 := by
    have h := hf 2 _ rfl
    exact h
  rw [k2] at h2
  have g2 : DataW.trod enc Tryz.prog w base spare held n 3 [c2] = some y2 := h2
  obtain ⟨b2, e2, _⟩ := ZcD Tryz.underlying3 g2
  simp only [List.cons.injEq, and_true] at e2
  have k3 : Tryz.prog.cellsOf 3 = 1 := by kernel_rfl
  have h3 : DataW.trod enc Tryz.prog w base spare held n 3 (([c0, c1, c2, c3, c4, c5, c6, c7].drop 3).take (Tryz.prog.cellsOf 3)) = some y3 := by
    have h := hf 3 _ rfl
    exact h
  rw [k3] at h3
  have g3 : DataW.trod enc Tryz.prog w base spare held n 3 [c3] = some y3 := h3
  obtain ⟨b3, e3, _⟩ := ZcD Tryz.underlying3 g3
  simp only [List.cons.injEq, and_true] at e3
  have k4 : Tryz.prog.cellsOf 3 = 1 := by kernel_rfl
  have h4 : DataW.trod enc Tryz.prog w base spare held n 3 (([c0, c1, c2, c3, c4, c5, c6, c7].drop 4).take (Tryz.prog.cellsOf 3)) = some y4 := by
    have h := hf 4 _ rfl
    exact h
  rw [k4] at h4
  have g4 : DataW.trod enc Tryz.prog w base spare held n 3 [c4] = some y4 := h4
  obtain ⟨b4, e4, _⟩ := ZcD Tryz.underlying3 g4
  simp only [List.cons.injEq, and_true] at e4
  have k5 : Tryz.prog.cellsOf 3 = 1 := by kernel_rfl
  have h5 : DataW.trod enc Tryz.prog w base spare held n 3 (([c0, c1, c2, c3, c4, c5, c6, c7].drop 5).take (Tryz.prog.cellsOf 3)) = some y5 := by
    have h := hf 5 _ rfl
    exact h
  rw [k5] at h5
  have g5 : DataW.trod enc Tryz.prog w base spare held n 3 [c5] = some y5 := h5
  obtain ⟨b5, e5, _⟩ := ZcD Tryz.underlying3 g5
  simp only [List.cons.injEq, and_true] at e5
  have k6 : Tryz.prog.cellsOf 3 = 1 := by kernel_rfl
  have h6 : DataW.trod enc Tryz.prog w base spare held n 3 (([c0, c1, c2, c3, c4, c5, c6, c7].drop 6).take (Tryz.prog.cellsOf 3)) = some y6 := by
    have h := hf 6 _ rfl
    exact h
  rw [k6] at h6
  have g6 : DataW.trod enc Tryz.prog w base spare held n 3 [c6] = some y6 := h6
  obtain ⟨b6, e6, _⟩ := ZcD Tryz.underlying3 g6
  simp only [List.cons.injEq, and_true] at e6
  have k7 : Tryz.prog.cellsOf 3 = 1 := by kernel_rfl
  have h7 : DataW.trod enc Tryz.prog w base spare held n 3 (([c0, c1, c2, c3, c4, c5, c6, c7].drop 7).take (Tryz.prog.cellsOf 3)) = some y7 := by
    have h := hf 7 _ rfl
    exact h
  rw [k7] at h7
  have g7 : DataW.trod enc Tryz.prog w base spare held n 3 [c7] = some y7 := h7
  obtain ⟨b7, e7, _⟩ := ZcD Tryz.underlying3 g7
  simp only [List.cons.injEq, and_true] at e7
  simp only [e0, e1, e2, e3, e4, e5, e6, e7]
  exact ⟨⟨b0, b1, b2, b3, b4, b5, b6, b7⟩, by simp [Element.enc], z1⟩
theorem list2 {α : Type} {l : List α} (h : l.length = 2) : ∃ c0 c1, l = [c0, c1] := by
  match l, h with
  | [c0, c1], _ => exact ⟨c0, c1, rfl⟩
theorem og_119 {fuel : Nat} {cs : List Value} {x : DataW H × List MemPlace} (h : DataW.trod enc Tryz.prog w base spare held fuel 119 cs = some x) : ∃ (a : Throw), cs = Throw.enc a ∧ True := by
  obtain ⟨xs, n, _, _, hl, hlen, hf⟩ := DataW.trod_struct Tryz.underlying119 h
  have hl' : cs.length = 2 := hl.trans (by kernel_rfl)
  obtain ⟨c0, c1, rfl⟩ := list2 hl'
  obtain ⟨y0, y1, rfl⟩ := list2 hlen
  have k0 : Tryz.prog.cellsOf 3 = 1 := by kernel_rfl
  have h0 : DataW.trod enc Tryz.prog w base spare held n 3 (([c0, c1].drop 0).take (Tryz.prog.cellsOf 3)) = some y0 := by
    have h := hf 0 _ rfl
    exact h
  rw [k0] at h0
  have g0 : DataW.trod enc Tryz.prog w base spare held n 3 [c0] = some y0 := h0
  obtain ⟨b0, e0, _⟩ := ZcD Tryz.underlying3 g0
  simp only [List.cons.injEq, and_true] at e0
  have k1 : Tryz.prog.cellsOf 3 = 1 := by kernel_rfl
  have h1 : DataW.trod enc Tryz.prog w base spare held n 3 (([c0, c1].drop 1).take (Tryz.prog.cellsOf 3)) = some y1 := by
    have h := hf 1 _ rfl
    exact h
  rw [k1] at h1
  have g1 : DataW.trod enc Tryz.prog w base spare held n 3 [c1] = some y1 := h1
  obtain ⟨b1, e1, _⟩ := ZcD Tryz.underlying3 g1
  simp only [List.cons.injEq, and_true] at e1
  simp only [e0, e1]
  exact ⟨⟨b0, b1⟩, by simp [Throw.enc], trivial⟩
theorem list4 {α : Type} {l : List α} (h : l.length = 4) : ∃ c0 c1 c2 c3, l = [c0, c1, c2, c3] := by
  match l, h with
  | [c0, c1, c2, c3], _ => exact ⟨c0, c1, c2, c3, rfl⟩
theorem og_132 {fuel : Nat} {cs : List Value} {x : DataW H × List MemPlace} (h : DataW.trod enc Tryz.prog w base spare held fuel 132 cs = some x) : ∃ (a : Command), cs = Command.enc a ∧ True := by
  obtain ⟨xs, n, _, _, hl, hlen, hf⟩ := DataW.trod_struct Tryz.underlying132 h
  have hl' : cs.length = 4 := hl.trans (by kernel_rfl)
  obtain ⟨c0, c1, c2, c3, rfl⟩ := list4 hl'
  obtain ⟨y0, y1, y2, y3, rfl⟩ := list4 hlen
  have k0 : Tryz.prog.cellsOf 3 = 1 := by kernel_rfl
  have h0 : DataW.trod enc Tryz.prog w base spare held n 3 (([c0, c1, c2, c3].drop 0).take (Tryz.prog.cellsOf 3)) = some y0 := by
    have h := hf 0 _ rfl
    exact h
  rw [k0] at h0
  have g0 : DataW.trod enc Tryz.prog w base spare held n 3 [c0] = some y0 := h0
  obtain ⟨b0, e0, _⟩ := ZcD Tryz.underlying3 g0
  simp only [List.cons.injEq, and_true] at e0
  have k1 : Tryz.prog.cellsOf 3 = 1 := by kernel_rfl
  have h1 : DataW.trod enc Tryz.prog w base spare held n 3 (([c0, c1, c2, c3].drop 1).take (Tryz.prog.cellsOf 3)) = some y1 := by
    have h := hf 1 _ rfl
    exact h
  rw [k1] at h1
  have g1 : DataW.trod enc Tryz.prog w base spare held n 3 [c1] = some y1 := h1
  obtain ⟨b1, e1, _⟩ := ZcD Tryz.underlying3 g1
  simp only [List.cons.injEq, and_true] at e1
  have k2 : Tryz.prog.cellsOf 3 = 1 := by kernel_rfl
  have h2 : DataW.trod enc Tryz.prog w base spare held n 3 (([c0, c1, c2, c3].drop 2).take (Tryz.prog.cellsOf 3)) = some y2 := by
    have h := hf 2 _ rfl
    exact h
  rw [k2] at h2
  have g2 : DataW.trod enc Tryz.prog w base spare held n 3 [c2] = some y2 := h2
  obtain ⟨b2, e2, _⟩ := ZcD Tryz.underlying3 g2
  simp only [List.cons.injEq, and_true] at e2
  have k3 : Tryz.prog.cellsOf 3 = 1 := by kernel_rfl
  have h3 : DataW.trod enc Tryz.prog w base spare held n 3 (([c0, c1, c2, c3].drop 3).take (Tryz.prog.cellsOf 3)) = some y3 := by
    have h := hf 3 _ rfl
    exact h
  rw [k3] at h3
  have g3 : DataW.trod enc Tryz.prog w base spare held n 3 [c3] = some y3 := h3
  obtain ⟨b3, e3, _⟩ := ZcD Tryz.underlying3 g3
  simp only [List.cons.injEq, and_true] at e3
  simp only [e0, e1, e2, e3]
  exact ⟨⟨b0, b1, b2, b3⟩, by simp [Command.enc], trivial⟩
theorem list6 {α : Type} {l : List α} (h : l.length = 6) : ∃ c0 c1 c2 c3 c4 c5, l = [c0, c1, c2, c3, c4, c5] := by
  match l, h with
  | [c0, c1, c2, c3, c4, c5], _ => exact ⟨c0, c1, c2, c3, c4, c5, rfl⟩
theorem og_104 {fuel : Nat} {cs : List Value} {x : DataW H × List MemPlace} (h : DataW.trod enc Tryz.prog w base spare held fuel 104 cs = some x) : ∃ (a : Rolling) (ha_Resist : Hd) (ha_Targets : Hd), cs = [.int .i64 a.Release, .int .i64 a.Length, .int .i64 a.Track, .int .i64 a.Speed, ha_Resist.v, ha_Targets.v] ∧ Sl w ha_Resist encI a.Resist ∧ Sl w ha_Targets encI a.Targets := by
  obtain ⟨xs, n, _, _, hl, hlen, hf⟩ := DataW.trod_struct Tryz.underlying104 h
  have hl' : cs.length = 6 := hl.trans (by kernel_rfl)
  obtain ⟨c0, c1, c2, c3, c4, c5, rfl⟩ := list6 hl'
  obtain ⟨y0, y1, y2, y3, y4, y5, rfl⟩ := list6 hlen
  have k0 : Tryz.prog.cellsOf 3 = 1 := by kernel_rfl
  have h0 : DataW.trod enc Tryz.prog w base spare held n 3 (([c0, c1, c2, c3, c4, c5].drop 0).take (Tryz.prog.cellsOf 3)) = some y0 := by
    have h := hf 0 _ rfl
    exact h
  rw [k0] at h0
  have g0 : DataW.trod enc Tryz.prog w base spare held n 3 [c0] = some y0 := h0
  obtain ⟨b0, e0, _⟩ := ZcD Tryz.underlying3 g0
  simp only [List.cons.injEq, and_true] at e0
  have k1 : Tryz.prog.cellsOf 3 = 1 := by kernel_rfl
  have h1 : DataW.trod enc Tryz.prog w base spare held n 3 (([c0, c1, c2, c3, c4, c5].drop 1).take (Tryz.prog.cellsOf 3)) = some y1 := by
    have h := hf 1 _ rfl
    exact h
  rw [k1] at h1
  have g1 : DataW.trod enc Tryz.prog w base spare held n 3 [c1] = some y1 := h1
  obtain ⟨b1, e1, _⟩ := ZcD Tryz.underlying3 g1
  simp only [List.cons.injEq, and_true] at e1
  have k2 : Tryz.prog.cellsOf 3 = 1 := by kernel_rfl
  have h2 : DataW.trod enc Tryz.prog w base spare held n 3 (([c0, c1, c2, c3, c4, c5].drop 2).take (Tryz.prog.cellsOf 3)) = some y2 := by
    have h := hf 2 _ rfl
    exact h
  rw [k2] at h2
  have g2 : DataW.trod enc Tryz.prog w base spare held n 3 [c2] = some y2 := h2
  obtain ⟨b2, e2, _⟩ := ZcD Tryz.underlying3 g2
  simp only [List.cons.injEq, and_true] at e2
  have k3 : Tryz.prog.cellsOf 3 = 1 := by kernel_rfl
  have h3 : DataW.trod enc Tryz.prog w base spare held n 3 (([c0, c1, c2, c3, c4, c5].drop 3).take (Tryz.prog.cellsOf 3)) = some y3 := by
    have h := hf 3 _ rfl
    exact h
  rw [k3] at h3
  have g3 : DataW.trod enc Tryz.prog w base spare held n 3 [c3] = some y3 := h3
  obtain ⟨b3, e3, _⟩ := ZcD Tryz.underlying3 g3
  simp only [List.cons.injEq, and_true] at e3
  have k4 : Tryz.prog.cellsOf 22 = 1 := by kernel_rfl
  have h4 : DataW.trod enc Tryz.prog w base spare held n 22 (([c0, c1, c2, c3, c4, c5].drop 4).take (Tryz.prog.cellsOf 22)) = some y4 := by
    have h := hf 4 _ rfl
    exact h
  rw [k4] at h4
  have g4 : DataW.trod enc Tryz.prog w base spare held n 22 [c4] = some y4 := h4
  obtain ⟨d4, b4, e4, r4, _⟩ := ZgR (en := encI) Tryz.underlying22 (by kernel_rfl) (fun _ _ _ hh => ZcD Tryz.underlying3 hh) g4
  simp only [List.cons.injEq, and_true] at e4
  have k5 : Tryz.prog.cellsOf 22 = 1 := by kernel_rfl
  have h5 : DataW.trod enc Tryz.prog w base spare held n 22 (([c0, c1, c2, c3, c4, c5].drop 5).take (Tryz.prog.cellsOf 22)) = some y5 := by
    have h := hf 5 _ rfl
    exact h
  rw [k5] at h5
  have g5 : DataW.trod enc Tryz.prog w base spare held n 22 [c5] = some y5 := h5
  obtain ⟨d5, b5, e5, r5, _⟩ := ZgR (en := encI) Tryz.underlying22 (by kernel_rfl) (fun _ _ _ hh => ZcD Tryz.underlying3 hh) g5
  simp only [List.cons.injEq, and_true] at e5
  simp only [e0, e1, e2, e3, e4, e5]
  exact ⟨⟨b0, b1, b2, b3, b4, b5⟩, d4, d5, rfl, r4, r5⟩
theorem ogq_104 {fuel : Nat} {cs : List Value} {x : DataW H × List MemPlace} (h : DataW.trod enc Tryz.prog w base spare held fuel 104 cs = some x) : ∃ p : Rolling × (Hd × Hd), cs = (Nt.enc (α := Rolling) (η := (Hd × Hd))) p ∧ rdN w p := by
  obtain ⟨a, ha_Resist, ha_Targets, e, r0, r1⟩ := og_104 h
  refine ⟨(a, (ha_Resist, ha_Targets)), e, fun r hr => ?_⟩
  simp only [Nt.parts, List.mem_cons, List.not_mem_nil, or_false] at hr
  rcases hr with rfl | rfl
  · exact Sl.rdw 3 r0
  · exact Sl.rdw 3 r1
theorem list5 {α : Type} {l : List α} (h : l.length = 5) : ∃ c0 c1 c2 c3 c4, l = [c0, c1, c2, c3, c4] := by
  match l, h with
  | [c0, c1, c2, c3, c4], _ => exact ⟨c0, c1, c2, c3, c4, rfl⟩
theorem og_56 {fuel : Nat} {cs : List Value} {x : DataW H × List MemPlace} (h : DataW.trod enc Tryz.prog w base spare held fuel 56 cs = some x) : ∃ (a : Scene) (ha_Elements : Hd) (ha_Start : Hd) (ha_Commands : Hd) (ha_Cuts : Hd) (qa_Cuts : List (Rolling × (Hd × Hd))), cs = [ha_Elements.v, .int .i64 a.Throw, ha_Start.v, ha_Commands.v, ha_Cuts.v] ∧ Sl w ha_Elements Element.enc a.Elements ∧ (∀ x ∈ a.Elements, x.Name.size ≤ 9223372036854775807) ∧ Sl w ha_Start Throw.enc a.Start ∧ Sl w ha_Commands Command.enc a.Commands ∧ qa_Cuts.map (·.1) = a.Cuts ∧ Sl w ha_Cuts (Nt.enc (α := Rolling) (η := (Hd × Hd))) qa_Cuts ∧ (∀ p ∈ qa_Cuts, rdN w p) := by
  obtain ⟨xs, n, _, _, hl, hlen, hf⟩ := DataW.trod_struct Tryz.underlying56 h
  have hl' : cs.length = 5 := hl.trans (by kernel_rfl)
  obtain ⟨c0, c1, c2, c3, c4, rfl⟩ := list5 hl'
  obtain ⟨y0, y1, y2, y3, y4, rfl⟩ := list5 hlen
  have k0 : Tryz.prog.cellsOf 51 = 1 := by kernel_rfl
  have h0 : DataW.trod enc Tryz.prog w base spare held n 51 (([c0, c1, c2, c3, c4].drop 0).take (Tryz.prog.cellsOf 51)) = some y0 := by
    have h := hf 0 _ rfl
    exact h
  rw [k0] at h0
  have g0 : DataW.trod enc Tryz.prog w base spare held n 51 [c0] = some y0 := h0
  obtain ⟨d0, b0, e0, r0, u0⟩ := ZgR (en := Element.enc) Tryz.underlying51 (by kernel_rfl) (fun _ _ _ hh => og_102 hh) g0
  simp only [List.cons.injEq, and_true] at e0
  have k1 : Tryz.prog.cellsOf 3 = 1 := by kernel_rfl
  have h1 : DataW.trod enc Tryz.prog w base spare held n 3 (([c0, c1, c2, c3, c4].drop 1).take (Tryz.prog.cellsOf 3)) = some y1 := by
    have h := hf 1 _ rfl
    exact h
  rw [k1] at h1
  have g1 : DataW.trod enc Tryz.prog w base spare held n 3 [c1] = some y1 := h1
  obtain ⟨b1, e1, _⟩ := ZcD Tryz.underlying3 g1
  simp only [List.cons.injEq, and_true] at e1
  have k2 : Tryz.prog.cellsOf 52 = 1 := by kernel_rfl
  have h2 : DataW.trod enc Tryz.prog w base spare held n 52 (([c0, c1, c2, c3, c4].drop 2).take (Tryz.prog.cellsOf 52)) = some y2 := by
    have h := hf 2 _ rfl
    exact h
  rw [k2] at h2
  have g2 : DataW.trod enc Tryz.prog w base spare held n 52 [c2] = some y2 := h2
  obtain ⟨d2, b2, e2, r2, _⟩ := ZgR (en := Throw.enc) Tryz.underlying52 (by kernel_rfl) (fun _ _ _ hh => og_119 hh) g2
  simp only [List.cons.injEq, and_true] at e2
  have k3 : Tryz.prog.cellsOf 53 = 1 := by kernel_rfl
  have h3 : DataW.trod enc Tryz.prog w base spare held n 53 (([c0, c1, c2, c3, c4].drop 3).take (Tryz.prog.cellsOf 53)) = some y3 := by
    have h := hf 3 _ rfl
    exact h
  rw [k3] at h3
  have g3 : DataW.trod enc Tryz.prog w base spare held n 53 [c3] = some y3 := h3
  obtain ⟨d3, b3, e3, r3, _⟩ := ZgR (en := Command.enc) Tryz.underlying53 (by kernel_rfl) (fun _ _ _ hh => og_132 hh) g3
  simp only [List.cons.injEq, and_true] at e3
  have k4 : Tryz.prog.cellsOf 54 = 1 := by kernel_rfl
  have h4 : DataW.trod enc Tryz.prog w base spare held n 54 (([c0, c1, c2, c3, c4].drop 4).take (Tryz.prog.cellsOf 54)) = some y4 := by
    have h := hf 4 _ rfl
    exact h
  rw [k4] at h4
  have g4 : DataW.trod enc Tryz.prog w base spare held n 54 [c4] = some y4 := h4
  obtain ⟨d4, m4, e4, r4, u4⟩ := ZgR (en := (Nt.enc (α := Rolling) (η := (Hd × Hd)))) Tryz.underlying54 (by kernel_rfl) (fun _ _ _ hh => ogq_104 hh) g4
  have b4 : ∃ b, m4.map (·.1) = b := ⟨_, rfl⟩
  obtain ⟨b4, t4⟩ := b4
  simp only [List.cons.injEq, and_true] at e4
  simp only [e0, e1, e2, e3, e4]
  exact ⟨⟨b0, b1, b2, b3, b4⟩, d0, d2, d3, d4, m4, rfl, r0, u0, r2, r3, t4, r4, u4⟩
end

theorem own : ownKnob Tryz.prog.godebug = none := by kernel_rfl
theorem laidOut : laidOutB Tryz.prog = true := by kernel_rfl
set_option maxRecDepth 100000 in
theorem lifted (os : Os) (started : os.Started) (H : Type) (enc : TypeId × Value → H) :
    ReturnsInHanded {} Tryz.checked os 4 .any (Rows.humpExactSpec.pre6 enc Tryz.prog Tryz.f4 Rows.humpExactRow.domain false) (Rows.humpExactSpec.post enc Tryz.prog Tryz.f4 false true false false) := by
  refine returnsInHanded_of_change (C := Tryz.checked) own started (by kernel_rfl) Tryz.func4
    (ChangeSpec.witness6 (enc := enc) (C := Tryz.checked) false ⟨#[], #[.slice none 0 0, .agg #[.slice none 0 0, .int .i64 0, .slice none 0 0, .slice none 0 0, .slice none 0 0]], []⟩ 8 (by kernel_rfl) (by kernel_rfl) (by kernel_rfl) (by kernel_rfl)) ?_
  intro W base args ds gs before hval0 hW hcnd _
  have hval : ∀ (j : Nat) t v, Tryz.f4.params[j]? = some t → args[j]? = some v → Value.okWide Tryz.prog W .any base t v := hval0
  have hW' := hW
  obtain ⟨p, q, hA0, hV, rfl, hfz, hnd⟩ := hW
  have hA : DataW.TrodAll enc Tryz.prog W 0 (fun _ => true) true Tryz.f4.params.toList args.toList ds p := hA0
  rw [Tryz.params4] at hA hval
  obtain ⟨v0, vs0, d0, ds0, p0, q0, hargs, rfl, rfl, h0, r0⟩ := trodAll_cons hA
  obtain ⟨v1, vs1, d1, ds1, p1, q1, rfl, rfl, rfl, h1, r1⟩ := trodAll_cons r0
  obtain ⟨rfl, rfl, rfl⟩ := trodAll_nil r1
  obtain rfl : args = #[v0, v1] := by cases args; simp_all
  obtain ⟨rfl, rfl⟩ := trodVars_none hV
  have k0 := h0
  have lt0 : ∀ x ∈ p0, x.block < W.heap.size := by obtain ⟨m, hm⟩ := k0; exact DataW.trod_lt m _ _ _ hm
  have k1 := h1
  have lt1 : ∀ x ∈ p1, x.block < W.heap.size := by obtain ⟨m, hm⟩ := k1; exact DataW.trod_lt m _ _ _ hm
  obtain ⟨H0, l0, rfl, R0, B0⟩ := open_L Tryz.underlying22 Tryz.underlying3 (by kernel_rfl) (hval 0 22 v0 rfl rfl) h0
  obtain ⟨fu1, hf1⟩ := h1
  obtain ⟨s1, hs1_Elements, hs1_Start, hs1_Commands, hs1_Cuts, qs1_Cuts, hc1, Rs1_Elements, Ns1_Elements, Rs1_Start, Rs1_Commands, es1_Cuts, Rs1_Cuts, Ds1_Cuts⟩ := og_56 hf1
  obtain rfl := agg_of Tryz.underlying56 (hval 1 56 v1 rfl rfl) hc1
  clear hA0 hval0
  have hc := Zfe (Zko (a1 := s1) (Sl_len R0) ⟨Ns1_Elements, Sl_len Rs1_Start⟩) R0 Rs1_Elements Rs1_Start Rs1_Commands es1_Cuts Rs1_Cuts Ds1_Cuts
  try unfold Gives at hc
  refine hc.mono fun e W' hh => ?_
  obtain ⟨rfl, hg⟩ := hh
  have bel := hg.below
  exact ⟨_, rfl, _, _, _, [], _, [], hW', trodAll_mk1 (shut_bool Tryz.underlying4 _), (trodAll_cons_mk (Below.trod laidOut (by kernel_rfl) (of_decide_eq_true (by kernel_rfl)) k0 bel lt0) (trodAll_cons_mk (Below.trod laidOut (by kernel_rfl) (of_decide_eq_true (by kernel_rfl)) k1 bel lt1) trodAll_mk0)), rfl, bel.frame _, fun h => by cases h⟩

theorem over : Rows.humpExactRow.holds Tryz.pinned (OpenSpec.ofChange Rows.humpExactSpec) :=
  OpenClaim.holds_of_wide 4 Tryz.f4 rfl rfl rfl rfl rfl rfl rfl ⟨rfl, rfl, rfl, rfl, rfl⟩ rfl rfl rfl rfl rfl (by kernel_rfl) Tryz.func4 (by kernel_rfl)
    (of_decide_eq_true (by kernel_rfl)) (by unfold Func.isWrapper; first | (rw [if_pos (by decide +kernel)]; kernel_rfl) | (rw [if_neg (by decide +kernel)]; exact ⟨rfl, rfl⟩))
    (fun os started H enc _ => lifted os started H enc)

/-- THE STATEMENT -/
theorem proved : Rows.HumpExactSaid :=
  over
#print axioms proved
end Go.Proofs.YtdgminllobhncaaGreat.humpExact
