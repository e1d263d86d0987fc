/-
  No cell of these rows narrows 'for every input' (looked for: loops, veiled, ifaces, maps, wideKeys, modest, calm, conditions, laid).
  DERIVED. THE GIVEN ROWS OF THIS SEAT. 10 by the template 'for every input the law returns true; each argument reads behind the call as it read before'; 0 by the template 'total and deterministic' (their statements: YtjeegociagchnaaTotals.lean).
  GIVEN WITH THE SEED: the statements are not yours to turn. If you find one false, say at which input.
  Laid BY PROGRAM, IN A SANDBOX (cutbox-rows.mjs): the forced cells as the released guide's own fill.sh prints them over the translation 547a864932c2f12d… (all of the seat's roots in one cut). By AI agents, Wed Nov 11 2026. No macro, syntax, notation, axiom, sorry.
-/
import Derived.Test.YtjeegociagchnaaChecked
import GoSem.Claim
import GoSem.ClaimJoined
import GoSem.ClaimMapViews
import Derived.JoinedTies
import Derived.KernelRfl
namespace Go.Proofs.Ytjeegociagchnaa
/- THE CELL 'sum', in the pinned program and in every row, IS THE sha256 OF THE DUMP (.gsa) THAT YtjeegociagchnaaProg.lean LOADS. Nothing in Lean hashes anything: it is a label: what it is worth is what the hold of that sum in a sandbox is worth. -/
noncomputable def Try.pinned : Pinned := { name := "ytjeegociagchnaa", sum := "547a864932c2f12d193da3271c4f09ea99f5b8197905666280734ad552ab9c84", checked := Try.checked }
namespace Rows
def none {H : Type} : Left H := { results := [], args := [] }

/-- 'humpyardlaw22.OccupancyClears': WHATEVER THE INPUT: true; the input reads as it did. -/
def occupancyClearsSpec : ChangeSpec := { name := "occupancyClears", fn := fun _ => fun
  | [d1, d2, d3] => { results := [.lit (.bool true)], args := [d1, d2, d3] }
  | _ => none }
def occupancyClearsRow : OpenClaim := { program := "ytjeegociagchnaa", sum := "547a864932c2f12d193da3271c4f09ea99f5b8197905666280734ad552ab9c84", func := "humpyard/humpyardlaw22.OccupancyClears", spec := "occupancyClears", apart := false }
def OccupancyClearsSaid : Prop := occupancyClearsRow.holds Try.pinned (OpenSpec.ofChange occupancyClearsSpec)

/-- ITS FALSE NEIGHBOUR: 'it returns false'. Refute it at one input. -/
def occupancyClearsWrong : ChangeSpec := { name := "occupancyClears", fn := fun _ => fun
  | [d1, d2, d3] => { results := [.lit (.bool false)], args := [d1, d2, d3] }
  | _ => none }
def OccupancyClearsWrongFalsely : Prop := occupancyClearsRow.holds Try.pinned (OpenSpec.ofChange occupancyClearsWrong)

/-- 'humpyardlaw22.OccupancyApproaches': WHATEVER THE INPUT: true; the input reads as it did. -/
def occupancyApproachesSpec : ChangeSpec := { name := "occupancyApproaches", fn := fun _ => fun
  | [d1, d2] => { results := [.lit (.bool true)], args := [d1, d2] }
  | _ => none }
def occupancyApproachesRow : OpenClaim := { program := "ytjeegociagchnaa", sum := "547a864932c2f12d193da3271c4f09ea99f5b8197905666280734ad552ab9c84", func := "humpyard/humpyardlaw22.OccupancyApproaches", spec := "occupancyApproaches", recurses := true, apart := false }
def OccupancyApproachesSaid : Prop := occupancyApproachesRow.holds Try.pinned (OpenSpec.ofChange occupancyApproachesSpec)

/-- ITS FALSE NEIGHBOUR: 'it returns false'. Refute it at one input. -/
def occupancyApproachesWrong : ChangeSpec := { name := "occupancyApproaches", fn := fun _ => fun
  | [d1, d2] => { results := [.lit (.bool false)], args := [d1, d2] }
  | _ => none }
def OccupancyApproachesWrongFalsely : Prop := occupancyApproachesRow.holds Try.pinned (OpenSpec.ofChange occupancyApproachesWrong)

/-- 'humpyardlaw22.OccupancyGrows': WHATEVER THE INPUT: true; the input reads as it did. -/
def occupancyGrowsSpec : ChangeSpec := { name := "occupancyGrows", fn := fun _ => fun
  | [d1, d2, d3] => { results := [.lit (.bool true)], args := [d1, d2, d3] }
  | _ => none }
def occupancyGrowsRow : OpenClaim := { program := "ytjeegociagchnaa", sum := "547a864932c2f12d193da3271c4f09ea99f5b8197905666280734ad552ab9c84", func := "humpyard/humpyardlaw22.OccupancyGrows", spec := "occupancyGrows", recurses := true, apart := false }
def OccupancyGrowsSaid : Prop := occupancyGrowsRow.holds Try.pinned (OpenSpec.ofChange occupancyGrowsSpec)

/-- ITS FALSE NEIGHBOUR: 'it returns false'. Refute it at one input. -/
def occupancyGrowsWrong : ChangeSpec := { name := "occupancyGrows", fn := fun _ => fun
  | [d1, d2, d3] => { results := [.lit (.bool false)], args := [d1, d2, d3] }
  | _ => none }
def OccupancyGrowsWrongFalsely : Prop := occupancyGrowsRow.holds Try.pinned (OpenSpec.ofChange occupancyGrowsWrong)

/-- 'humpyardlaw22.OccupancyExact': WHATEVER THE INPUT: true; the input reads as it did. -/
def occupancyExactSpec : ChangeSpec := { name := "occupancyExact", fn := fun _ => fun
  | [d1, d2, d3, d4, d5] => { results := [.lit (.bool true)], args := [d1, d2, d3, d4, d5] }
  | _ => none }
def occupancyExactRow : OpenClaim := { program := "ytjeegociagchnaa", sum := "547a864932c2f12d193da3271c4f09ea99f5b8197905666280734ad552ab9c84", func := "humpyard/humpyardlaw22.OccupancyExact", spec := "occupancyExact", recurses := true, apart := false }
def OccupancyExactSaid : Prop := occupancyExactRow.holds Try.pinned (OpenSpec.ofChange occupancyExactSpec)

/-- ITS FALSE NEIGHBOUR: 'it returns false'. Refute it at one input. -/
def occupancyExactWrong : ChangeSpec := { name := "occupancyExact", fn := fun _ => fun
  | [d1, d2, d3, d4, d5] => { results := [.lit (.bool false)], args := [d1, d2, d3, d4, d5] }
  | _ => none }
def OccupancyExactWrongFalsely : Prop := occupancyExactRow.holds Try.pinned (OpenSpec.ofChange occupancyExactWrong)

/-- 'humpyardlaw22.OccupancyContains': WHATEVER THE INPUT: true; the input reads as it did. -/
def occupancyContainsSpec : ChangeSpec := { name := "occupancyContains", fn := fun _ => fun
  | [d1, d2] => { results := [.lit (.bool true)], args := [d1, d2] }
  | _ => none }
def occupancyContainsRow : OpenClaim := { program := "ytjeegociagchnaa", sum := "547a864932c2f12d193da3271c4f09ea99f5b8197905666280734ad552ab9c84", func := "humpyard/humpyardlaw22.OccupancyContains", spec := "occupancyContains", recurses := true, apart := false }
def OccupancyContainsSaid : Prop := occupancyContainsRow.holds Try.pinned (OpenSpec.ofChange occupancyContainsSpec)

/-- ITS FALSE NEIGHBOUR: 'it returns false'. Refute it at one input. -/
def occupancyContainsWrong : ChangeSpec := { name := "occupancyContains", fn := fun _ => fun
  | [d1, d2] => { results := [.lit (.bool false)], args := [d1, d2] }
  | _ => none }
def OccupancyContainsWrongFalsely : Prop := occupancyContainsRow.holds Try.pinned (OpenSpec.ofChange occupancyContainsWrong)

/-- 'humpyardlaw21.RetarderRuns': WHATEVER THE INPUT: true; the input reads as it did. -/
def retarderRunsSpec : ChangeSpec := { name := "retarderRuns", fn := fun _ => fun
  | [d1, d2] => { results := [.lit (.bool true)], args := [d1, d2] }
  | _ => none }
def retarderRunsRow : OpenClaim := { program := "ytjeegociagchnaa", sum := "547a864932c2f12d193da3271c4f09ea99f5b8197905666280734ad552ab9c84", func := "humpyard/humpyardlaw21.RetarderRuns", spec := "retarderRuns", unfollowed := true, recurses := true, apart := false }
def RetarderRunsSaid : Prop := retarderRunsRow.holds Try.pinned (OpenSpec.ofChange retarderRunsSpec)

/-- ITS FALSE NEIGHBOUR: 'it returns false'. Refute it at one input. -/
def retarderRunsWrong : ChangeSpec := { name := "retarderRuns", fn := fun _ => fun
  | [d1, d2] => { results := [.lit (.bool false)], args := [d1, d2] }
  | _ => none }
def RetarderRunsWrongFalsely : Prop := retarderRunsRow.holds Try.pinned (OpenSpec.ofChange retarderRunsWrong)

/-- 'humpyardlaw21.RetarderWidens': WHATEVER THE INPUT: true; the input reads as it did. -/
def retarderWidensSpec : ChangeSpec := { name := "retarderWidens", fn := fun _ => fun
  | [d1, d2, d3] => { results := [.lit (.bool true)], args := [d1, d2, d3] }
  | _ => none }
def retarderWidensRow : OpenClaim := { program := "ytjeegociagchnaa", sum := "547a864932c2f12d193da3271c4f09ea99f5b8197905666280734ad552ab9c84", func := "humpyard/humpyardlaw21.RetarderWidens", spec := "retarderWidens", unfollowed := true, recurses := true, apart := false }
def RetarderWidensSaid : Prop := retarderWidensRow.holds Try.pinned (OpenSpec.ofChange retarderWidensSpec)

/-- ITS FALSE NEIGHBOUR: 'it returns false'. Refute it at one input. -/
def retarderWidensWrong : ChangeSpec := { name := "retarderWidens", fn := fun _ => fun
  | [d1, d2, d3] => { results := [.lit (.bool false)], args := [d1, d2, d3] }
  | _ => none }
def RetarderWidensWrongFalsely : Prop := retarderWidensRow.holds Try.pinned (OpenSpec.ofChange retarderWidensWrong)

/-- 'humpyardlaw21.RetarderExact': WHATEVER THE INPUT: true; the input reads as it did. -/
def retarderExactSpec : ChangeSpec := { name := "retarderExact", fn := fun _ => fun
  | [d1, d2, d3, d4, d5] => { results := [.lit (.bool true)], args := [d1, d2, d3, d4, d5] }
  | _ => none }
def retarderExactRow : OpenClaim := { program := "ytjeegociagchnaa", sum := "547a864932c2f12d193da3271c4f09ea99f5b8197905666280734ad552ab9c84", func := "humpyard/humpyardlaw21.RetarderExact", spec := "retarderExact", unfollowed := true, recurses := true, apart := false }
def RetarderExactSaid : Prop := retarderExactRow.holds Try.pinned (OpenSpec.ofChange retarderExactSpec)

/-- ITS FALSE NEIGHBOUR: 'it returns false'. Refute it at one input. -/
def retarderExactWrong : ChangeSpec := { name := "retarderExact", fn := fun _ => fun
  | [d1, d2, d3, d4, d5] => { results := [.lit (.bool false)], args := [d1, d2, d3, d4, d5] }
  | _ => none }
def RetarderExactWrongFalsely : Prop := retarderExactRow.holds Try.pinned (OpenSpec.ofChange retarderExactWrong)

/-- 'humpyardlaw21.RetarderInside': WHATEVER THE INPUT: true; the input reads as it did. -/
def retarderInsideSpec : ChangeSpec := { name := "retarderInside", fn := fun _ => fun
  | [d1, d2] => { results := [.lit (.bool true)], args := [d1, d2] }
  | _ => none }
def retarderInsideRow : OpenClaim := { program := "ytjeegociagchnaa", sum := "547a864932c2f12d193da3271c4f09ea99f5b8197905666280734ad552ab9c84", func := "humpyard/humpyardlaw21.RetarderInside", spec := "retarderInside", unfollowed := true, recurses := true, apart := false }
def RetarderInsideSaid : Prop := retarderInsideRow.holds Try.pinned (OpenSpec.ofChange retarderInsideSpec)

/-- ITS FALSE NEIGHBOUR: 'it returns false'. Refute it at one input. -/
def retarderInsideWrong : ChangeSpec := { name := "retarderInside", fn := fun _ => fun
  | [d1, d2] => { results := [.lit (.bool false)], args := [d1, d2] }
  | _ => none }
def RetarderInsideWrongFalsely : Prop := retarderInsideRow.holds Try.pinned (OpenSpec.ofChange retarderInsideWrong)

/-- 'humpyardlaw21.RetarderChooses': WHATEVER THE INPUT: true; the input reads as it did. -/
def retarderChoosesSpec : ChangeSpec := { name := "retarderChooses", fn := fun _ => fun
  | [d1, d2] => { results := [.lit (.bool true)], args := [d1, d2] }
  | _ => none }
def retarderChoosesRow : OpenClaim := { program := "ytjeegociagchnaa", sum := "547a864932c2f12d193da3271c4f09ea99f5b8197905666280734ad552ab9c84", func := "humpyard/humpyardlaw21.RetarderChooses", spec := "retarderChooses", unfollowed := true, recurses := true, apart := false }
def RetarderChoosesSaid : Prop := retarderChoosesRow.holds Try.pinned (OpenSpec.ofChange retarderChoosesSpec)

/-- ITS FALSE NEIGHBOUR: 'it returns false'. Refute it at one input. -/
def retarderChoosesWrong : ChangeSpec := { name := "retarderChooses", fn := fun _ => fun
  | [d1, d2] => { results := [.lit (.bool false)], args := [d1, d2] }
  | _ => none }
def RetarderChoosesWrongFalsely : Prop := retarderChoosesRow.holds Try.pinned (OpenSpec.ofChange retarderChoosesWrong)

/- THE SECOND FORM. 'bulk': how many values and letters a reading holds, each counted each time it is reached (what is shared counts as often as it is met; a slice's spare places count too). A statement '..UptoSaid' is the law's where the arguments, and the package variables that the reading takes, are together of bulk at most 1048576: NARROWER than '..Said'. Prove '..Said' where nothing that the law and all that it calls make is longer than what came in: it says more and counts as full. Else prove '..UptoSaid'. A law counts once. -/
mutual
def uptoBulk {H : Type} : DataW H → Nat
  | .lit (.string bytes) => bytes.length + 1
  | .lit _ => 1
  | .nil => 1
  | .ptr d => uptoBulk d + 1
  | .slice elems spare => uptoBulkAll elems + uptoBulkAll spare + 1
  | .agg parts => uptoBulkAll parts + 1
  | .iface _ d => uptoBulk d + 1
  | .map entries => uptoBulkEntries entries + 1
  | .held _ => 1
def uptoBulkAll {H : Type} : List (DataW H) → Nat
  | [] => 0
  | d :: r => uptoBulk d + uptoBulkAll r
def uptoBulkEntries {H : Type} : List (Lit × DataW H) → Nat
  | [] => 0
  | x :: r => uptoBulkEntry x + uptoBulkEntries r
def uptoBulkEntry {H : Type} : Lit × DataW H → Nat
  | (.string bytes, d) => bytes.length + uptoBulk d + 1
  | (_, d) => uptoBulk d + 1
 end
def uptoSmall : (H : Type) → List (DataW H) → Bool := fun _ ds => decide (uptoBulkAll ds ≤ 1048576)
def OpenSpec.upto (s : _root_.Go.ChangeSpec) : _root_.Go.OpenSpec := { _root_.Go.OpenSpec.ofChange s with cond := some uptoSmall }

/-- 'humpyardlaw22.OccupancyClears', WHERE WHAT IT READS IS OF BULK AT MOST 1048576: true; the input reads as it did. -/
def occupancyClearsUptoRow : OpenClaim := { program := "ytjeegociagchnaa", sum := "547a864932c2f12d193da3271c4f09ea99f5b8197905666280734ad552ab9c84", func := "humpyard/humpyardlaw22.OccupancyClears", spec := "occupancyClears", apart := false, narrowed := true }
def OccupancyClearsUptoSaid : Prop := occupancyClearsUptoRow.holds Try.pinned (OpenSpec.upto occupancyClearsSpec)

/-- 'humpyardlaw22.OccupancyApproaches', WHERE WHAT IT READS IS OF BULK AT MOST 1048576: true; the input reads as it did. -/
def occupancyApproachesUptoRow : OpenClaim := { program := "ytjeegociagchnaa", sum := "547a864932c2f12d193da3271c4f09ea99f5b8197905666280734ad552ab9c84", func := "humpyard/humpyardlaw22.OccupancyApproaches", spec := "occupancyApproaches", recurses := true, apart := false, narrowed := true }
def OccupancyApproachesUptoSaid : Prop := occupancyApproachesUptoRow.holds Try.pinned (OpenSpec.upto occupancyApproachesSpec)

/-- 'humpyardlaw22.OccupancyGrows', WHERE WHAT IT READS IS OF BULK AT MOST 1048576: true; the input reads as it did. -/
def occupancyGrowsUptoRow : OpenClaim := { program := "ytjeegociagchnaa", sum := "547a864932c2f12d193da3271c4f09ea99f5b8197905666280734ad552ab9c84", func := "humpyard/humpyardlaw22.OccupancyGrows", spec := "occupancyGrows", recurses := true, apart := false, narrowed := true }
def OccupancyGrowsUptoSaid : Prop := occupancyGrowsUptoRow.holds Try.pinned (OpenSpec.upto occupancyGrowsSpec)

/-- 'humpyardlaw22.OccupancyExact', WHERE WHAT IT READS IS OF BULK AT MOST 1048576: true; the input reads as it did. -/
def occupancyExactUptoRow : OpenClaim := { program := "ytjeegociagchnaa", sum := "547a864932c2f12d193da3271c4f09ea99f5b8197905666280734ad552ab9c84", func := "humpyard/humpyardlaw22.OccupancyExact", spec := "occupancyExact", recurses := true, apart := false, narrowed := true }
def OccupancyExactUptoSaid : Prop := occupancyExactUptoRow.holds Try.pinned (OpenSpec.upto occupancyExactSpec)

/-- 'humpyardlaw22.OccupancyContains', WHERE WHAT IT READS IS OF BULK AT MOST 1048576: true; the input reads as it did. -/
def occupancyContainsUptoRow : OpenClaim := { program := "ytjeegociagchnaa", sum := "547a864932c2f12d193da3271c4f09ea99f5b8197905666280734ad552ab9c84", func := "humpyard/humpyardlaw22.OccupancyContains", spec := "occupancyContains", recurses := true, apart := false, narrowed := true }
def OccupancyContainsUptoSaid : Prop := occupancyContainsUptoRow.holds Try.pinned (OpenSpec.upto occupancyContainsSpec)

/-- 'humpyardlaw21.RetarderRuns', WHERE WHAT IT READS IS OF BULK AT MOST 1048576: true; the input reads as it did. -/
def retarderRunsUptoRow : OpenClaim := { program := "ytjeegociagchnaa", sum := "547a864932c2f12d193da3271c4f09ea99f5b8197905666280734ad552ab9c84", func := "humpyard/humpyardlaw21.RetarderRuns", spec := "retarderRuns", unfollowed := true, recurses := true, apart := false, narrowed := true }
def RetarderRunsUptoSaid : Prop := retarderRunsUptoRow.holds Try.pinned (OpenSpec.upto retarderRunsSpec)

/-- 'humpyardlaw21.RetarderWidens', WHERE WHAT IT READS IS OF BULK AT MOST 1048576: true; the input reads as it did. -/
def retarderWidensUptoRow : OpenClaim := { program := "ytjeegociagchnaa", sum := "547a864932c2f12d193da3271c4f09ea99f5b8197905666280734ad552ab9c84", func := "humpyard/humpyardlaw21.RetarderWidens", spec := "retarderWidens", unfollowed := true, recurses := true, apart := false, narrowed := true }
def RetarderWidensUptoSaid : Prop := retarderWidensUptoRow.holds Try.pinned (OpenSpec.upto retarderWidensSpec)

/-- 'humpyardlaw21.RetarderExact', WHERE WHAT IT READS IS OF BULK AT MOST 1048576: true; the input reads as it did. -/
def retarderExactUptoRow : OpenClaim := { program := "ytjeegociagchnaa", sum := "547a864932c2f12d193da3271c4f09ea99f5b8197905666280734ad552ab9c84", func := "humpyard/humpyardlaw21.RetarderExact", spec := "retarderExact", unfollowed := true, recurses := true, apart := false, narrowed := true }
def RetarderExactUptoSaid : Prop := retarderExactUptoRow.holds Try.pinned (OpenSpec.upto retarderExactSpec)

/-- 'humpyardlaw21.RetarderInside', WHERE WHAT IT READS IS OF BULK AT MOST 1048576: true; the input reads as it did. -/
def retarderInsideUptoRow : OpenClaim := { program := "ytjeegociagchnaa", sum := "547a864932c2f12d193da3271c4f09ea99f5b8197905666280734ad552ab9c84", func := "humpyard/humpyardlaw21.RetarderInside", spec := "retarderInside", unfollowed := true, recurses := true, apart := false, narrowed := true }
def RetarderInsideUptoSaid : Prop := retarderInsideUptoRow.holds Try.pinned (OpenSpec.upto retarderInsideSpec)

/-- 'humpyardlaw21.RetarderChooses', WHERE WHAT IT READS IS OF BULK AT MOST 1048576: true; the input reads as it did. -/
def retarderChoosesUptoRow : OpenClaim := { program := "ytjeegociagchnaa", sum := "547a864932c2f12d193da3271c4f09ea99f5b8197905666280734ad552ab9c84", func := "humpyard/humpyardlaw21.RetarderChooses", spec := "retarderChooses", unfollowed := true, recurses := true, apart := false, narrowed := true }
def RetarderChoosesUptoSaid : Prop := retarderChoosesUptoRow.holds Try.pinned (OpenSpec.upto retarderChoosesSpec)

end Rows
end Go.Proofs.Ytjeegociagchnaa
