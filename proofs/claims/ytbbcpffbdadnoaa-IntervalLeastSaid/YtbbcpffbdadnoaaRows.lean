/-
  No cell of these rows narrows 'for every input' (looked for: loops, veiled, ifaces, maps, wideKeys, modest, calm, conditions, laid).
  DERIVED. THE GIVEN ROWS OF THIS SEAT. 7 by the template 'for every input the law returns true; each argument reads behind the call as it read before'; 0 by the template 'total and deterministic' (their statements: YtbbcpffbdadnoaaTotals.lean).
  GIVEN WITH THE SEED: the statements are not yours to turn. If you find one false, say at which input.
  Laid BY PROGRAM, IN A SANDBOX (cutbox-rows.mjs): the forced cells as the released guide's own fill.sh prints them over the translation 5db4dec35b3cffe4… (all of the seat's roots in one cut). By AI agents, Wed Nov 11 2026. No macro, syntax, notation, axiom, sorry.
-/
import Derived.Test.YtbbcpffbdadnoaaChecked
import GoSem.Claim
import GoSem.ClaimJoined
import GoSem.ClaimMapViews
import Derived.JoinedTies
import Derived.KernelRfl
namespace Go.Proofs.Ytbbcpffbdadnoaa
/- THE CELL 'sum', in the pinned program and in every row, IS THE sha256 OF THE DUMP (.gsa) THAT YtbbcpffbdadnoaaProg.lean LOADS. Nothing in Lean hashes anything: it is a label: what it is worth is what the hold of that sum in a sandbox is worth. -/
noncomputable def Try.pinned : Pinned := { name := "ytbbcpffbdadnoaa", sum := "5db4dec35b3cffe49dd462fa9bc9610ab055c3679b635322e5e7e0227af30d32", checked := Try.checked }
namespace Rows
def none {H : Type} : Left H := { results := [], args := [] }

/-- 'humpyardlaw01.IntervalDivides': WHATEVER THE INPUT: true; the input reads as it did. -/
def intervalDividesSpec : ChangeSpec := { name := "intervalDivides", fn := fun _ => fun
  | [d1, d2, d3] => { results := [.lit (.bool true)], args := [d1, d2, d3] }
  | _ => none }
def intervalDividesRow : OpenClaim := { program := "ytbbcpffbdadnoaa", sum := "5db4dec35b3cffe49dd462fa9bc9610ab055c3679b635322e5e7e0227af30d32", func := "humpyard/humpyardlaw01.IntervalDivides", spec := "intervalDivides", apart := false }
def IntervalDividesSaid : Prop := intervalDividesRow.holds Try.pinned (OpenSpec.ofChange intervalDividesSpec)

/-- ITS FALSE NEIGHBOUR: 'it returns false'. Refute it at one input. -/
def intervalDividesWrong : ChangeSpec := { name := "intervalDivides", fn := fun _ => fun
  | [d1, d2, d3] => { results := [.lit (.bool false)], args := [d1, d2, d3] }
  | _ => none }
def IntervalDividesWrongFalsely : Prop := intervalDividesRow.holds Try.pinned (OpenSpec.ofChange intervalDividesWrong)

/-- 'humpyardlaw01.IntervalRoots': WHATEVER THE INPUT: true; the input reads as it did. -/
def intervalRootsSpec : ChangeSpec := { name := "intervalRoots", fn := fun _ => fun
  | [d] => { results := [.lit (.bool true)], args := [d] }
  | _ => none }
def intervalRootsRow : OpenClaim := { program := "ytbbcpffbdadnoaa", sum := "5db4dec35b3cffe49dd462fa9bc9610ab055c3679b635322e5e7e0227af30d32", func := "humpyard/humpyardlaw01.IntervalRoots", spec := "intervalRoots", apart := false }
def IntervalRootsSaid : Prop := intervalRootsRow.holds Try.pinned (OpenSpec.ofChange intervalRootsSpec)

/-- ITS FALSE NEIGHBOUR: 'it returns false'. Refute it at one input. -/
def intervalRootsWrong : ChangeSpec := { name := "intervalRoots", fn := fun _ => fun
  | [d] => { results := [.lit (.bool false)], args := [d] }
  | _ => none }
def IntervalRootsWrongFalsely : Prop := intervalRootsRow.holds Try.pinned (OpenSpec.ofChange intervalRootsWrong)

/-- 'humpyardlaw01.IntervalLeast': WHATEVER THE INPUT: true; the input reads as it did. -/
def intervalLeastSpec : ChangeSpec := { name := "intervalLeast", fn := fun _ => fun
  | [d] => { results := [.lit (.bool true)], args := [d] }
  | _ => none }
def intervalLeastRow : OpenClaim := { program := "ytbbcpffbdadnoaa", sum := "5db4dec35b3cffe49dd462fa9bc9610ab055c3679b635322e5e7e0227af30d32", func := "humpyard/humpyardlaw01.IntervalLeast", spec := "intervalLeast", apart := false }
def IntervalLeastSaid : Prop := intervalLeastRow.holds Try.pinned (OpenSpec.ofChange intervalLeastSpec)

/-- ITS FALSE NEIGHBOUR: 'it returns false'. Refute it at one input. -/
def intervalLeastWrong : ChangeSpec := { name := "intervalLeast", fn := fun _ => fun
  | [d] => { results := [.lit (.bool false)], args := [d] }
  | _ => none }
def IntervalLeastWrongFalsely : Prop := intervalLeastRow.holds Try.pinned (OpenSpec.ofChange intervalLeastWrong)

/-- 'humpyardlaw01.IntervalContains': WHATEVER THE INPUT: true; the input reads as it did. -/
def intervalContainsSpec : ChangeSpec := { name := "intervalContains", fn := fun _ => fun
  | [d] => { results := [.lit (.bool true)], args := [d] }
  | _ => none }
def intervalContainsRow : OpenClaim := { program := "ytbbcpffbdadnoaa", sum := "5db4dec35b3cffe49dd462fa9bc9610ab055c3679b635322e5e7e0227af30d32", func := "humpyard/humpyardlaw01.IntervalContains", spec := "intervalContains", apart := false }
def IntervalContainsSaid : Prop := intervalContainsRow.holds Try.pinned (OpenSpec.ofChange intervalContainsSpec)

/-- ITS FALSE NEIGHBOUR: 'it returns false'. Refute it at one input. -/
def intervalContainsWrong : ChangeSpec := { name := "intervalContains", fn := fun _ => fun
  | [d] => { results := [.lit (.bool false)], args := [d] }
  | _ => none }
def IntervalContainsWrongFalsely : Prop := intervalContainsRow.holds Try.pinned (OpenSpec.ofChange intervalContainsWrong)

/-- 'humpyardlaw01.IntervalMonotone': WHATEVER THE INPUT: true; the input reads as it did. -/
def intervalMonotoneSpec : ChangeSpec := { name := "intervalMonotone", fn := fun _ => fun
  | [d] => { results := [.lit (.bool true)], args := [d] }
  | _ => none }
def intervalMonotoneRow : OpenClaim := { program := "ytbbcpffbdadnoaa", sum := "5db4dec35b3cffe49dd462fa9bc9610ab055c3679b635322e5e7e0227af30d32", func := "humpyard/humpyardlaw01.IntervalMonotone", spec := "intervalMonotone", apart := false }
def IntervalMonotoneSaid : Prop := intervalMonotoneRow.holds Try.pinned (OpenSpec.ofChange intervalMonotoneSpec)

/-- ITS FALSE NEIGHBOUR: 'it returns false'. Refute it at one input. -/
def intervalMonotoneWrong : ChangeSpec := { name := "intervalMonotone", fn := fun _ => fun
  | [d] => { results := [.lit (.bool false)], args := [d] }
  | _ => none }
def IntervalMonotoneWrongFalsely : Prop := intervalMonotoneRow.holds Try.pinned (OpenSpec.ofChange intervalMonotoneWrong)

/-- 'humpyardlaw01.IntervalSets': WHATEVER THE INPUT: true; the input reads as it did. -/
def intervalSetsSpec : ChangeSpec := { name := "intervalSets", fn := fun _ => fun
  | [d1, d2] => { results := [.lit (.bool true)], args := [d1, d2] }
  | _ => none }
def intervalSetsRow : OpenClaim := { program := "ytbbcpffbdadnoaa", sum := "5db4dec35b3cffe49dd462fa9bc9610ab055c3679b635322e5e7e0227af30d32", func := "humpyard/humpyardlaw01.IntervalSets", spec := "intervalSets", apart := false }
def IntervalSetsSaid : Prop := intervalSetsRow.holds Try.pinned (OpenSpec.ofChange intervalSetsSpec)

/-- ITS FALSE NEIGHBOUR: 'it returns false'. Refute it at one input. -/
def intervalSetsWrong : ChangeSpec := { name := "intervalSets", fn := fun _ => fun
  | [d1, d2] => { results := [.lit (.bool false)], args := [d1, d2] }
  | _ => none }
def IntervalSetsWrongFalsely : Prop := intervalSetsRow.holds Try.pinned (OpenSpec.ofChange intervalSetsWrong)

/-- 'humpyardlaw01.IntervalExact': WHATEVER THE INPUT: true; the input reads as it did. -/
def intervalExactSpec : ChangeSpec := { name := "intervalExact", fn := fun _ => fun
  | [d1, d2, d3, d4, d5] => { results := [.lit (.bool true)], args := [d1, d2, d3, d4, d5] }
  | _ => none }
def intervalExactRow : OpenClaim := { program := "ytbbcpffbdadnoaa", sum := "5db4dec35b3cffe49dd462fa9bc9610ab055c3679b635322e5e7e0227af30d32", func := "humpyard/humpyardlaw01.IntervalExact", spec := "intervalExact", apart := false }
def IntervalExactSaid : Prop := intervalExactRow.holds Try.pinned (OpenSpec.ofChange intervalExactSpec)

/-- ITS FALSE NEIGHBOUR: 'it returns false'. Refute it at one input. -/
def intervalExactWrong : ChangeSpec := { name := "intervalExact", fn := fun _ => fun
  | [d1, d2, d3, d4, d5] => { results := [.lit (.bool false)], args := [d1, d2, d3, d4, d5] }
  | _ => none }
def IntervalExactWrongFalsely : Prop := intervalExactRow.holds Try.pinned (OpenSpec.ofChange intervalExactWrong)

/- THE SECOND FORM. 'bulk': how many values and letters a reading holds, each counted each time it is reached (what is shared counts as often as it is met; a slice's spare places count too). A statement '..UptoSaid' is the law's where the arguments, and the package variables that the reading takes, are together of bulk at most 1048576: NARROWER than '..Said'. Prove '..Said' where nothing that the law and all that it calls make is longer than what came in: it says more and counts as full. Else prove '..UptoSaid'. A law counts once. -/
mutual
def uptoBulk {H : Type} : DataW H → Nat
  | .lit (.string bytes) => bytes.length + 1
  | .lit _ => 1
  | .nil => 1
  | .ptr d => uptoBulk d + 1
  | .slice elems spare => uptoBulkAll elems + uptoBulkAll spare + 1
  | .agg parts => uptoBulkAll parts + 1
  | .iface _ d => uptoBulk d + 1
  | .map entries => uptoBulkEntries entries + 1
  | .held _ => 1
def uptoBulkAll {H : Type} : List (DataW H) → Nat
  | [] => 0
  | d :: r => uptoBulk d + uptoBulkAll r
def uptoBulkEntries {H : Type} : List (Lit × DataW H) → Nat
  | [] => 0
  | x :: r => uptoBulkEntry x + uptoBulkEntries r
def uptoBulkEntry {H : Type} : Lit × DataW H → Nat
  | (.string bytes, d) => bytes.length + uptoBulk d + 1
  | (_, d) => uptoBulk d + 1
 end
def uptoSmall : (H : Type) → List (DataW H) → Bool := fun _ ds => decide (uptoBulkAll ds ≤ 1048576)
def OpenSpec.upto (s : _root_.Go.ChangeSpec) : _root_.Go.OpenSpec := { _root_.Go.OpenSpec.ofChange s with cond := some uptoSmall }

/-- 'humpyardlaw01.IntervalDivides', WHERE WHAT IT READS IS OF BULK AT MOST 1048576: true; the input reads as it did. -/
def intervalDividesUptoRow : OpenClaim := { program := "ytbbcpffbdadnoaa", sum := "5db4dec35b3cffe49dd462fa9bc9610ab055c3679b635322e5e7e0227af30d32", func := "humpyard/humpyardlaw01.IntervalDivides", spec := "intervalDivides", apart := false, narrowed := true }
def IntervalDividesUptoSaid : Prop := intervalDividesUptoRow.holds Try.pinned (OpenSpec.upto intervalDividesSpec)

/-- 'humpyardlaw01.IntervalRoots', WHERE WHAT IT READS IS OF BULK AT MOST 1048576: true; the input reads as it did. -/
def intervalRootsUptoRow : OpenClaim := { program := "ytbbcpffbdadnoaa", sum := "5db4dec35b3cffe49dd462fa9bc9610ab055c3679b635322e5e7e0227af30d32", func := "humpyard/humpyardlaw01.IntervalRoots", spec := "intervalRoots", apart := false, narrowed := true }
def IntervalRootsUptoSaid : Prop := intervalRootsUptoRow.holds Try.pinned (OpenSpec.upto intervalRootsSpec)

/-- 'humpyardlaw01.IntervalLeast', WHERE WHAT IT READS IS OF BULK AT MOST 1048576: true; the input reads as it did. -/
def intervalLeastUptoRow : OpenClaim := { program := "ytbbcpffbdadnoaa", sum := "5db4dec35b3cffe49dd462fa9bc9610ab055c3679b635322e5e7e0227af30d32", func := "humpyard/humpyardlaw01.IntervalLeast", spec := "intervalLeast", apart := false, narrowed := true }
def IntervalLeastUptoSaid : Prop := intervalLeastUptoRow.holds Try.pinned (OpenSpec.upto intervalLeastSpec)

/-- 'humpyardlaw01.IntervalContains', WHERE WHAT IT READS IS OF BULK AT MOST 1048576: true; the input reads as it did. -/
def intervalContainsUptoRow : OpenClaim := { program := "ytbbcpffbdadnoaa", sum := "5db4dec35b3cffe49dd462fa9bc9610ab055c3679b635322e5e7e0227af30d32", func := "humpyard/humpyardlaw01.IntervalContains", spec := "intervalContains", apart := false, narrowed := true }
def IntervalContainsUptoSaid : Prop := intervalContainsUptoRow.holds Try.pinned (OpenSpec.upto intervalContainsSpec)

/-- 'humpyardlaw01.IntervalMonotone', WHERE WHAT IT READS IS OF BULK AT MOST 1048576: true; the input reads as it did. -/
def intervalMonotoneUptoRow : OpenClaim := { program := "ytbbcpffbdadnoaa", sum := "5db4dec35b3cffe49dd462fa9bc9610ab055c3679b635322e5e7e0227af30d32", func := "humpyard/humpyardlaw01.IntervalMonotone", spec := "intervalMonotone", apart := false, narrowed := true }
def IntervalMonotoneUptoSaid : Prop := intervalMonotoneUptoRow.holds Try.pinned (OpenSpec.upto intervalMonotoneSpec)

/-- 'humpyardlaw01.IntervalSets', WHERE WHAT IT READS IS OF BULK AT MOST 1048576: true; the input reads as it did. -/
def intervalSetsUptoRow : OpenClaim := { program := "ytbbcpffbdadnoaa", sum := "5db4dec35b3cffe49dd462fa9bc9610ab055c3679b635322e5e7e0227af30d32", func := "humpyard/humpyardlaw01.IntervalSets", spec := "intervalSets", apart := false, narrowed := true }
def IntervalSetsUptoSaid : Prop := intervalSetsUptoRow.holds Try.pinned (OpenSpec.upto intervalSetsSpec)

/-- 'humpyardlaw01.IntervalExact', WHERE WHAT IT READS IS OF BULK AT MOST 1048576: true; the input reads as it did. -/
def intervalExactUptoRow : OpenClaim := { program := "ytbbcpffbdadnoaa", sum := "5db4dec35b3cffe49dd462fa9bc9610ab055c3679b635322e5e7e0227af30d32", func := "humpyard/humpyardlaw01.IntervalExact", spec := "intervalExact", apart := false, narrowed := true }
def IntervalExactUptoSaid : Prop := intervalExactUptoRow.holds Try.pinned (OpenSpec.upto intervalExactSpec)

end Rows
end Go.Proofs.Ytbbcpffbdadnoaa
