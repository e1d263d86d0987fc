/-
  No cell of these rows narrows 'for every input' (looked for: loops, veiled, ifaces, maps, wideKeys, modest, calm, conditions, laid).
  DERIVED. THE GIVEN ROWS OF THIS SEAT. 11 by the template 'for every input the law returns true; each argument reads behind the call as it read before'; 0 by the template 'total and deterministic' (their statements: YtncgacgkeonfnaaTotals.lean).
  GIVEN WITH THE SEED: the statements are not yours to turn. If you find one false, say at which input.
  Laid BY PROGRAM, IN A SANDBOX (cutbox-rows.mjs): the forced cells as the released guide's own fill.sh prints them over the translation dbd1ed6c5115fb6c… (all of the seat's roots in one cut). By AI agents, Wed Nov 11 2026. No macro, syntax, notation, axiom, sorry.
-/
import Derived.Test.YtncgacgkeonfnaaChecked
import GoSem.Claim
import GoSem.ClaimJoined
import GoSem.ClaimMapViews
import Derived.JoinedTies
import Derived.KernelRfl
namespace Go.Proofs.Ytncgacgkeonfnaa
/- THE CELL 'sum', in the pinned program and in every row, IS THE sha256 OF THE DUMP (.gsa) THAT YtncgacgkeonfnaaProg.lean LOADS. Nothing in Lean hashes anything: it is a label: what it is worth is what the hold of that sum in a sandbox is worth. -/
noncomputable def Try.pinned : Pinned := { name := "ytncgacgkeonfnaa", sum := "dbd1ed6c5115fb6c9a46188f7c4775d2aae87933333b07e98bbbb6cf88725fd9", checked := Try.checked }
namespace Rows
def none {H : Type} : Left H := { results := [], args := [] }

/-- 'humpyardlaw10.TreePaths': WHATEVER THE INPUT: true; the input reads as it did. -/
def treePathsSpec : ChangeSpec := { name := "treePaths", fn := fun _ => fun
  | [d] => { results := [.lit (.bool true)], args := [d] }
  | _ => none }
def treePathsRow : OpenClaim := { program := "ytncgacgkeonfnaa", sum := "dbd1ed6c5115fb6c9a46188f7c4775d2aae87933333b07e98bbbb6cf88725fd9", func := "humpyard/humpyardlaw10.TreePaths", spec := "treePaths", recurses := true, plainKeys := false, apart := false }
def TreePathsSaid : Prop := treePathsRow.holds Try.pinned (OpenSpec.ofChange treePathsSpec)

/-- ITS FALSE NEIGHBOUR: 'it returns false'. Refute it at one input. -/
def treePathsWrong : ChangeSpec := { name := "treePaths", fn := fun _ => fun
  | [d] => { results := [.lit (.bool false)], args := [d] }
  | _ => none }
def TreePathsWrongFalsely : Prop := treePathsRow.holds Try.pinned (OpenSpec.ofChange treePathsWrong)

/-- 'humpyardlaw10.TreeExact': WHATEVER THE INPUT: true; the input reads as it did. -/
def treeExactSpec : ChangeSpec := { name := "treeExact", fn := fun _ => fun
  | [d1, d2, d3, d4] => { results := [.lit (.bool true)], args := [d1, d2, d3, d4] }
  | _ => none }
def treeExactRow : OpenClaim := { program := "ytncgacgkeonfnaa", sum := "dbd1ed6c5115fb6c9a46188f7c4775d2aae87933333b07e98bbbb6cf88725fd9", func := "humpyard/humpyardlaw10.TreeExact", spec := "treeExact", recurses := true, plainKeys := false, apart := false }
def TreeExactSaid : Prop := treeExactRow.holds Try.pinned (OpenSpec.ofChange treeExactSpec)

/-- ITS FALSE NEIGHBOUR: 'it returns false'. Refute it at one input. -/
def treeExactWrong : ChangeSpec := { name := "treeExact", fn := fun _ => fun
  | [d1, d2, d3, d4] => { results := [.lit (.bool false)], args := [d1, d2, d3, d4] }
  | _ => none }
def TreeExactWrongFalsely : Prop := treeExactRow.holds Try.pinned (OpenSpec.ofChange treeExactWrong)

/-- 'humpyardlaw10.TreeCommon': WHATEVER THE INPUT: true; the input reads as it did. -/
def treeCommonSpec : ChangeSpec := { name := "treeCommon", fn := fun _ => fun
  | [d] => { results := [.lit (.bool true)], args := [d] }
  | _ => none }
def treeCommonRow : OpenClaim := { program := "ytncgacgkeonfnaa", sum := "dbd1ed6c5115fb6c9a46188f7c4775d2aae87933333b07e98bbbb6cf88725fd9", func := "humpyard/humpyardlaw10.TreeCommon", spec := "treeCommon", recurses := true, plainKeys := false, apart := false }
def TreeCommonSaid : Prop := treeCommonRow.holds Try.pinned (OpenSpec.ofChange treeCommonSpec)

/-- ITS FALSE NEIGHBOUR: 'it returns false'. Refute it at one input. -/
def treeCommonWrong : ChangeSpec := { name := "treeCommon", fn := fun _ => fun
  | [d] => { results := [.lit (.bool false)], args := [d] }
  | _ => none }
def TreeCommonWrongFalsely : Prop := treeCommonRow.holds Try.pinned (OpenSpec.ofChange treeCommonWrong)

/-- 'humpyardlaw10.TreeBeyond': WHATEVER THE INPUT: true; the input reads as it did. -/
def treeBeyondSpec : ChangeSpec := { name := "treeBeyond", fn := fun _ => fun
  | [d] => { results := [.lit (.bool true)], args := [d] }
  | _ => none }
def treeBeyondRow : OpenClaim := { program := "ytncgacgkeonfnaa", sum := "dbd1ed6c5115fb6c9a46188f7c4775d2aae87933333b07e98bbbb6cf88725fd9", func := "humpyard/humpyardlaw10.TreeBeyond", spec := "treeBeyond", recurses := true, plainKeys := false, apart := false }
def TreeBeyondSaid : Prop := treeBeyondRow.holds Try.pinned (OpenSpec.ofChange treeBeyondSpec)

/-- ITS FALSE NEIGHBOUR: 'it returns false'. Refute it at one input. -/
def treeBeyondWrong : ChangeSpec := { name := "treeBeyond", fn := fun _ => fun
  | [d] => { results := [.lit (.bool false)], args := [d] }
  | _ => none }
def TreeBeyondWrongFalsely : Prop := treeBeyondRow.holds Try.pinned (OpenSpec.ofChange treeBeyondWrong)

/-- 'humpyardlaw10.TreeLeads': WHATEVER THE INPUT: true; the input reads as it did. -/
def treeLeadsSpec : ChangeSpec := { name := "treeLeads", fn := fun _ => fun
  | [d] => { results := [.lit (.bool true)], args := [d] }
  | _ => none }
def treeLeadsRow : OpenClaim := { program := "ytncgacgkeonfnaa", sum := "dbd1ed6c5115fb6c9a46188f7c4775d2aae87933333b07e98bbbb6cf88725fd9", func := "humpyard/humpyardlaw10.TreeLeads", spec := "treeLeads", recurses := true, plainKeys := false, apart := false }
def TreeLeadsSaid : Prop := treeLeadsRow.holds Try.pinned (OpenSpec.ofChange treeLeadsSpec)

/-- ITS FALSE NEIGHBOUR: 'it returns false'. Refute it at one input. -/
def treeLeadsWrong : ChangeSpec := { name := "treeLeads", fn := fun _ => fun
  | [d] => { results := [.lit (.bool false)], args := [d] }
  | _ => none }
def TreeLeadsWrongFalsely : Prop := treeLeadsRow.holds Try.pinned (OpenSpec.ofChange treeLeadsWrong)

/-- 'humpyardlaw19.ResistanceLimits': WHATEVER THE INPUT: true; the input reads as it did. -/
def resistanceLimitsSpec : ChangeSpec := { name := "resistanceLimits", fn := fun _ => fun
  | [d1, d2] => { results := [.lit (.bool true)], args := [d1, d2] }
  | _ => none }
def resistanceLimitsRow : OpenClaim := { program := "ytncgacgkeonfnaa", sum := "dbd1ed6c5115fb6c9a46188f7c4775d2aae87933333b07e98bbbb6cf88725fd9", func := "humpyard/humpyardlaw19.ResistanceLimits", spec := "resistanceLimits", unfollowed := true, recurses := true, plainKeys := false, apart := false }
def ResistanceLimitsSaid : Prop := resistanceLimitsRow.holds Try.pinned (OpenSpec.ofChange resistanceLimitsSpec)

/-- ITS FALSE NEIGHBOUR: 'it returns false'. Refute it at one input. -/
def resistanceLimitsWrong : ChangeSpec := { name := "resistanceLimits", fn := fun _ => fun
  | [d1, d2] => { results := [.lit (.bool false)], args := [d1, d2] }
  | _ => none }
def ResistanceLimitsWrongFalsely : Prop := resistanceLimitsRow.holds Try.pinned (OpenSpec.ofChange resistanceLimitsWrong)

/-- 'humpyardlaw19.ResistanceExact': WHATEVER THE INPUT: true; the input reads as it did. -/
def resistanceExactSpec : ChangeSpec := { name := "resistanceExact", fn := fun _ => fun
  | [d1, d2, d3, d4, d5] => { results := [.lit (.bool true)], args := [d1, d2, d3, d4, d5] }
  | _ => none }
def resistanceExactRow : OpenClaim := { program := "ytncgacgkeonfnaa", sum := "dbd1ed6c5115fb6c9a46188f7c4775d2aae87933333b07e98bbbb6cf88725fd9", func := "humpyard/humpyardlaw19.ResistanceExact", spec := "resistanceExact", unfollowed := true, recurses := true, plainKeys := false, apart := false }
def ResistanceExactSaid : Prop := resistanceExactRow.holds Try.pinned (OpenSpec.ofChange resistanceExactSpec)

/-- ITS FALSE NEIGHBOUR: 'it returns false'. Refute it at one input. -/
def resistanceExactWrong : ChangeSpec := { name := "resistanceExact", fn := fun _ => fun
  | [d1, d2, d3, d4, d5] => { results := [.lit (.bool false)], args := [d1, d2, d3, d4, d5] }
  | _ => none }
def ResistanceExactWrongFalsely : Prop := resistanceExactRow.holds Try.pinned (OpenSpec.ofChange resistanceExactWrong)

/-- 'humpyardlaw19.ResistanceWider': WHATEVER THE INPUT: true; the input reads as it did. -/
def resistanceWiderSpec : ChangeSpec := { name := "resistanceWider", fn := fun _ => fun
  | [d] => { results := [.lit (.bool true)], args := [d] }
  | _ => none }
def resistanceWiderRow : OpenClaim := { program := "ytncgacgkeonfnaa", sum := "dbd1ed6c5115fb6c9a46188f7c4775d2aae87933333b07e98bbbb6cf88725fd9", func := "humpyard/humpyardlaw19.ResistanceWider", spec := "resistanceWider", unfollowed := true, recurses := true, plainKeys := false, apart := false }
def ResistanceWiderSaid : Prop := resistanceWiderRow.holds Try.pinned (OpenSpec.ofChange resistanceWiderSpec)

/-- ITS FALSE NEIGHBOUR: 'it returns false'. Refute it at one input. -/
def resistanceWiderWrong : ChangeSpec := { name := "resistanceWider", fn := fun _ => fun
  | [d] => { results := [.lit (.bool false)], args := [d] }
  | _ => none }
def ResistanceWiderWrongFalsely : Prop := resistanceWiderRow.holds Try.pinned (OpenSpec.ofChange resistanceWiderWrong)

/-- 'humpyardlaw19.ResistanceSamples': WHATEVER THE INPUT: true; the input reads as it did. -/
def resistanceSamplesSpec : ChangeSpec := { name := "resistanceSamples", fn := fun _ => fun
  | [d] => { results := [.lit (.bool true)], args := [d] }
  | _ => none }
def resistanceSamplesRow : OpenClaim := { program := "ytncgacgkeonfnaa", sum := "dbd1ed6c5115fb6c9a46188f7c4775d2aae87933333b07e98bbbb6cf88725fd9", func := "humpyard/humpyardlaw19.ResistanceSamples", spec := "resistanceSamples", unfollowed := true, recurses := true, plainKeys := false, apart := false }
def ResistanceSamplesSaid : Prop := resistanceSamplesRow.holds Try.pinned (OpenSpec.ofChange resistanceSamplesSpec)

/-- ITS FALSE NEIGHBOUR: 'it returns false'. Refute it at one input. -/
def resistanceSamplesWrong : ChangeSpec := { name := "resistanceSamples", fn := fun _ => fun
  | [d] => { results := [.lit (.bool false)], args := [d] }
  | _ => none }
def ResistanceSamplesWrongFalsely : Prop := resistanceSamplesRow.holds Try.pinned (OpenSpec.ofChange resistanceSamplesWrong)

/-- 'humpyardlaw19.ResistanceBetween': WHATEVER THE INPUT: true; the input reads as it did. -/
def resistanceBetweenSpec : ChangeSpec := { name := "resistanceBetween", fn := fun _ => fun
  | [d1, d2] => { results := [.lit (.bool true)], args := [d1, d2] }
  | _ => none }
def resistanceBetweenRow : OpenClaim := { program := "ytncgacgkeonfnaa", sum := "dbd1ed6c5115fb6c9a46188f7c4775d2aae87933333b07e98bbbb6cf88725fd9", func := "humpyard/humpyardlaw19.ResistanceBetween", spec := "resistanceBetween", unfollowed := true, recurses := true, plainKeys := false, apart := false }
def ResistanceBetweenSaid : Prop := resistanceBetweenRow.holds Try.pinned (OpenSpec.ofChange resistanceBetweenSpec)

/-- ITS FALSE NEIGHBOUR: 'it returns false'. Refute it at one input. -/
def resistanceBetweenWrong : ChangeSpec := { name := "resistanceBetween", fn := fun _ => fun
  | [d1, d2] => { results := [.lit (.bool false)], args := [d1, d2] }
  | _ => none }
def ResistanceBetweenWrongFalsely : Prop := resistanceBetweenRow.holds Try.pinned (OpenSpec.ofChange resistanceBetweenWrong)

/-- 'humpyardlaw19.ResistanceSpreads': WHATEVER THE INPUT: true; the input reads as it did. -/
def resistanceSpreadsSpec : ChangeSpec := { name := "resistanceSpreads", fn := fun _ => fun
  | [d1, d2, d3, d4] => { results := [.lit (.bool true)], args := [d1, d2, d3, d4] }
  | _ => none }
def resistanceSpreadsRow : OpenClaim := { program := "ytncgacgkeonfnaa", sum := "dbd1ed6c5115fb6c9a46188f7c4775d2aae87933333b07e98bbbb6cf88725fd9", func := "humpyard/humpyardlaw19.ResistanceSpreads", spec := "resistanceSpreads", unfollowed := true, recurses := true, plainKeys := false, apart := false }
def ResistanceSpreadsSaid : Prop := resistanceSpreadsRow.holds Try.pinned (OpenSpec.ofChange resistanceSpreadsSpec)

/-- ITS FALSE NEIGHBOUR: 'it returns false'. Refute it at one input. -/
def resistanceSpreadsWrong : ChangeSpec := { name := "resistanceSpreads", fn := fun _ => fun
  | [d1, d2, d3, d4] => { results := [.lit (.bool false)], args := [d1, d2, d3, d4] }
  | _ => none }
def ResistanceSpreadsWrongFalsely : Prop := resistanceSpreadsRow.holds Try.pinned (OpenSpec.ofChange resistanceSpreadsWrong)

/- THE SECOND FORM. 'bulk': how many values and letters a reading holds, each counted each time it is reached (what is shared counts as often as it is met; a slice's spare places count too). A statement '..UptoSaid' is the law's where the arguments, and the package variables that the reading takes, are together of bulk at most 1048576: NARROWER than '..Said'. Prove '..Said' where nothing that the law and all that it calls make is longer than what came in: it says more and counts as full. Else prove '..UptoSaid'. A law counts once. -/
mutual
def uptoBulk {H : Type} : DataW H → Nat
  | .lit (.string bytes) => bytes.length + 1
  | .lit _ => 1
  | .nil => 1
  | .ptr d => uptoBulk d + 1
  | .slice elems spare => uptoBulkAll elems + uptoBulkAll spare + 1
  | .agg parts => uptoBulkAll parts + 1
  | .iface _ d => uptoBulk d + 1
  | .map entries => uptoBulkEntries entries + 1
  | .held _ => 1
def uptoBulkAll {H : Type} : List (DataW H) → Nat
  | [] => 0
  | d :: r => uptoBulk d + uptoBulkAll r
def uptoBulkEntries {H : Type} : List (Lit × DataW H) → Nat
  | [] => 0
  | x :: r => uptoBulkEntry x + uptoBulkEntries r
def uptoBulkEntry {H : Type} : Lit × DataW H → Nat
  | (.string bytes, d) => bytes.length + uptoBulk d + 1
  | (_, d) => uptoBulk d + 1
 end
def uptoSmall : (H : Type) → List (DataW H) → Bool := fun _ ds => decide (uptoBulkAll ds ≤ 1048576)
def OpenSpec.upto (s : _root_.Go.ChangeSpec) : _root_.Go.OpenSpec := { _root_.Go.OpenSpec.ofChange s with cond := some uptoSmall }

/-- 'humpyardlaw10.TreePaths', WHERE WHAT IT READS IS OF BULK AT MOST 1048576: true; the input reads as it did. -/
def treePathsUptoRow : OpenClaim := { program := "ytncgacgkeonfnaa", sum := "dbd1ed6c5115fb6c9a46188f7c4775d2aae87933333b07e98bbbb6cf88725fd9", func := "humpyard/humpyardlaw10.TreePaths", spec := "treePaths", recurses := true, plainKeys := false, apart := false, narrowed := true }
def TreePathsUptoSaid : Prop := treePathsUptoRow.holds Try.pinned (OpenSpec.upto treePathsSpec)

/-- 'humpyardlaw10.TreeExact', WHERE WHAT IT READS IS OF BULK AT MOST 1048576: true; the input reads as it did. -/
def treeExactUptoRow : OpenClaim := { program := "ytncgacgkeonfnaa", sum := "dbd1ed6c5115fb6c9a46188f7c4775d2aae87933333b07e98bbbb6cf88725fd9", func := "humpyard/humpyardlaw10.TreeExact", spec := "treeExact", recurses := true, plainKeys := false, apart := false, narrowed := true }
def TreeExactUptoSaid : Prop := treeExactUptoRow.holds Try.pinned (OpenSpec.upto treeExactSpec)

/-- 'humpyardlaw10.TreeCommon', WHERE WHAT IT READS IS OF BULK AT MOST 1048576: true; the input reads as it did. -/
def treeCommonUptoRow : OpenClaim := { program := "ytncgacgkeonfnaa", sum := "dbd1ed6c5115fb6c9a46188f7c4775d2aae87933333b07e98bbbb6cf88725fd9", func := "humpyard/humpyardlaw10.TreeCommon", spec := "treeCommon", recurses := true, plainKeys := false, apart := false, narrowed := true }
def TreeCommonUptoSaid : Prop := treeCommonUptoRow.holds Try.pinned (OpenSpec.upto treeCommonSpec)

/-- 'humpyardlaw10.TreeBeyond', WHERE WHAT IT READS IS OF BULK AT MOST 1048576: true; the input reads as it did. -/
def treeBeyondUptoRow : OpenClaim := { program := "ytncgacgkeonfnaa", sum := "dbd1ed6c5115fb6c9a46188f7c4775d2aae87933333b07e98bbbb6cf88725fd9", func := "humpyard/humpyardlaw10.TreeBeyond", spec := "treeBeyond", recurses := true, plainKeys := false, apart := false, narrowed := true }
def TreeBeyondUptoSaid : Prop := treeBeyondUptoRow.holds Try.pinned (OpenSpec.upto treeBeyondSpec)

/-- 'humpyardlaw10.TreeLeads', WHERE WHAT IT READS IS OF BULK AT MOST 1048576: true; the input reads as it did. -/
def treeLeadsUptoRow : OpenClaim := { program := "ytncgacgkeonfnaa", sum := "dbd1ed6c5115fb6c9a46188f7c4775d2aae87933333b07e98bbbb6cf88725fd9", func := "humpyard/humpyardlaw10.TreeLeads", spec := "treeLeads", recurses := true, plainKeys := false, apart := false, narrowed := true }
def TreeLeadsUptoSaid : Prop := treeLeadsUptoRow.holds Try.pinned (OpenSpec.upto treeLeadsSpec)

/-- 'humpyardlaw19.ResistanceLimits', WHERE WHAT IT READS IS OF BULK AT MOST 1048576: true; the input reads as it did. -/
def resistanceLimitsUptoRow : OpenClaim := { program := "ytncgacgkeonfnaa", sum := "dbd1ed6c5115fb6c9a46188f7c4775d2aae87933333b07e98bbbb6cf88725fd9", func := "humpyard/humpyardlaw19.ResistanceLimits", spec := "resistanceLimits", unfollowed := true, recurses := true, plainKeys := false, apart := false, narrowed := true }
def ResistanceLimitsUptoSaid : Prop := resistanceLimitsUptoRow.holds Try.pinned (OpenSpec.upto resistanceLimitsSpec)

/-- 'humpyardlaw19.ResistanceExact', WHERE WHAT IT READS IS OF BULK AT MOST 1048576: true; the input reads as it did. -/
def resistanceExactUptoRow : OpenClaim := { program := "ytncgacgkeonfnaa", sum := "dbd1ed6c5115fb6c9a46188f7c4775d2aae87933333b07e98bbbb6cf88725fd9", func := "humpyard/humpyardlaw19.ResistanceExact", spec := "resistanceExact", unfollowed := true, recurses := true, plainKeys := false, apart := false, narrowed := true }
def ResistanceExactUptoSaid : Prop := resistanceExactUptoRow.holds Try.pinned (OpenSpec.upto resistanceExactSpec)

/-- 'humpyardlaw19.ResistanceWider', WHERE WHAT IT READS IS OF BULK AT MOST 1048576: true; the input reads as it did. -/
def resistanceWiderUptoRow : OpenClaim := { program := "ytncgacgkeonfnaa", sum := "dbd1ed6c5115fb6c9a46188f7c4775d2aae87933333b07e98bbbb6cf88725fd9", func := "humpyard/humpyardlaw19.ResistanceWider", spec := "resistanceWider", unfollowed := true, recurses := true, plainKeys := false, apart := false, narrowed := true }
def ResistanceWiderUptoSaid : Prop := resistanceWiderUptoRow.holds Try.pinned (OpenSpec.upto resistanceWiderSpec)

/-- 'humpyardlaw19.ResistanceSamples', WHERE WHAT IT READS IS OF BULK AT MOST 1048576: true; the input reads as it did. -/
def resistanceSamplesUptoRow : OpenClaim := { program := "ytncgacgkeonfnaa", sum := "dbd1ed6c5115fb6c9a46188f7c4775d2aae87933333b07e98bbbb6cf88725fd9", func := "humpyard/humpyardlaw19.ResistanceSamples", spec := "resistanceSamples", unfollowed := true, recurses := true, plainKeys := false, apart := false, narrowed := true }
def ResistanceSamplesUptoSaid : Prop := resistanceSamplesUptoRow.holds Try.pinned (OpenSpec.upto resistanceSamplesSpec)

/-- 'humpyardlaw19.ResistanceBetween', WHERE WHAT IT READS IS OF BULK AT MOST 1048576: true; the input reads as it did. -/
def resistanceBetweenUptoRow : OpenClaim := { program := "ytncgacgkeonfnaa", sum := "dbd1ed6c5115fb6c9a46188f7c4775d2aae87933333b07e98bbbb6cf88725fd9", func := "humpyard/humpyardlaw19.ResistanceBetween", spec := "resistanceBetween", unfollowed := true, recurses := true, plainKeys := false, apart := false, narrowed := true }
def ResistanceBetweenUptoSaid : Prop := resistanceBetweenUptoRow.holds Try.pinned (OpenSpec.upto resistanceBetweenSpec)

/-- 'humpyardlaw19.ResistanceSpreads', WHERE WHAT IT READS IS OF BULK AT MOST 1048576: true; the input reads as it did. -/
def resistanceSpreadsUptoRow : OpenClaim := { program := "ytncgacgkeonfnaa", sum := "dbd1ed6c5115fb6c9a46188f7c4775d2aae87933333b07e98bbbb6cf88725fd9", func := "humpyard/humpyardlaw19.ResistanceSpreads", spec := "resistanceSpreads", unfollowed := true, recurses := true, plainKeys := false, apart := false, narrowed := true }
def ResistanceSpreadsUptoSaid : Prop := resistanceSpreadsUptoRow.holds Try.pinned (OpenSpec.upto resistanceSpreadsSpec)

end Rows
end Go.Proofs.Ytncgacgkeonfnaa
