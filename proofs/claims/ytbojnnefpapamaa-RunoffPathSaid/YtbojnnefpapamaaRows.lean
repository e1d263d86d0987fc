/-
  No cell of these rows narrows 'for every input' (looked for: loops, veiled, ifaces, maps, wideKeys, modest, calm, conditions, laid).
  DERIVED. THE GIVEN ROWS OF THIS SEAT. 9 by the template 'for every input the law returns true; each argument reads behind the call as it read before'; 0 by the template 'total and deterministic' (their statements: YtbojnnefpapamaaTotals.lean).
  GIVEN WITH THE SEED: the statements are not yours to turn. If you find one false, say at which input.
  Laid BY PROGRAM, IN A SANDBOX (cutbox-rows.mjs): the forced cells as the released guide's own fill.sh prints them over the translation 19fe771879bf1b25… (all of the seat's roots in one cut). By AI agents, Wed Nov 11 2026. No macro, syntax, notation, axiom, sorry.
-/
import Derived.Test.YtbojnnefpapamaaChecked
import GoSem.Claim
import GoSem.ClaimJoined
import GoSem.ClaimMapViews
import Derived.JoinedTies
import Derived.KernelRfl
namespace Go.Proofs.Ytbojnnefpapamaa
/- THE CELL 'sum', in the pinned program and in every row, IS THE sha256 OF THE DUMP (.gsa) THAT YtbojnnefpapamaaProg.lean LOADS. Nothing in Lean hashes anything: it is a label: what it is worth is what the hold of that sum in a sandbox is worth. -/
noncomputable def Try.pinned : Pinned := { name := "ytbojnnefpapamaa", sum := "19fe771879bf1b255ffffd31aef1b39d64fbe1f26139b628d3986b7524b7046e", checked := Try.checked }
namespace Rows
def none {H : Type} : Left H := { results := [], args := [] }

/-- 'humpyardlaw20.RunoffLate': WHATEVER THE INPUT: true; the input reads as it did. -/
def runoffLateSpec : ChangeSpec := { name := "runoffLate", fn := fun _ => fun
  | [d] => { results := [.lit (.bool true)], args := [d] }
  | _ => none }
def runoffLateRow : OpenClaim := { program := "ytbojnnefpapamaa", sum := "19fe771879bf1b255ffffd31aef1b39d64fbe1f26139b628d3986b7524b7046e", func := "humpyard/humpyardlaw20.RunoffLate", spec := "runoffLate", plainKeys := false, apart := false }
def RunoffLateSaid : Prop := runoffLateRow.holds Try.pinned (OpenSpec.ofChange runoffLateSpec)

/-- ITS FALSE NEIGHBOUR: 'it returns false'. Refute it at one input. -/
def runoffLateWrong : ChangeSpec := { name := "runoffLate", fn := fun _ => fun
  | [d] => { results := [.lit (.bool false)], args := [d] }
  | _ => none }
def RunoffLateWrongFalsely : Prop := runoffLateRow.holds Try.pinned (OpenSpec.ofChange runoffLateWrong)

/-- 'humpyardlaw20.RunoffExact': WHATEVER THE INPUT: true; the input reads as it did. -/
def runoffExactSpec : ChangeSpec := { name := "runoffExact", fn := fun _ => fun
  | [d1, d2, d3, d4] => { results := [.lit (.bool true)], args := [d1, d2, d3, d4] }
  | _ => none }
def runoffExactRow : OpenClaim := { program := "ytbojnnefpapamaa", sum := "19fe771879bf1b255ffffd31aef1b39d64fbe1f26139b628d3986b7524b7046e", func := "humpyard/humpyardlaw20.RunoffExact", spec := "runoffExact", plainKeys := false, apart := false }
def RunoffExactSaid : Prop := runoffExactRow.holds Try.pinned (OpenSpec.ofChange runoffExactSpec)

/-- ITS FALSE NEIGHBOUR: 'it returns false'. Refute it at one input. -/
def runoffExactWrong : ChangeSpec := { name := "runoffExact", fn := fun _ => fun
  | [d1, d2, d3, d4] => { results := [.lit (.bool false)], args := [d1, d2, d3, d4] }
  | _ => none }
def RunoffExactWrongFalsely : Prop := runoffExactRow.holds Try.pinned (OpenSpec.ofChange runoffExactWrong)

/-- 'humpyardlaw20.RunoffParts': WHATEVER THE INPUT: true; the input reads as it did. -/
def runoffPartsSpec : ChangeSpec := { name := "runoffParts", fn := fun _ => fun
  | [d] => { results := [.lit (.bool true)], args := [d] }
  | _ => none }
def runoffPartsRow : OpenClaim := { program := "ytbojnnefpapamaa", sum := "19fe771879bf1b255ffffd31aef1b39d64fbe1f26139b628d3986b7524b7046e", func := "humpyard/humpyardlaw20.RunoffParts", spec := "runoffParts", plainKeys := false, apart := false }
def RunoffPartsSaid : Prop := runoffPartsRow.holds Try.pinned (OpenSpec.ofChange runoffPartsSpec)

/-- ITS FALSE NEIGHBOUR: 'it returns false'. Refute it at one input. -/
def runoffPartsWrong : ChangeSpec := { name := "runoffParts", fn := fun _ => fun
  | [d] => { results := [.lit (.bool false)], args := [d] }
  | _ => none }
def RunoffPartsWrongFalsely : Prop := runoffPartsRow.holds Try.pinned (OpenSpec.ofChange runoffPartsWrong)

/-- 'humpyardlaw20.RunoffBrakes': WHATEVER THE INPUT: true; the input reads as it did. -/
def runoffBrakesSpec : ChangeSpec := { name := "runoffBrakes", fn := fun _ => fun
  | [d] => { results := [.lit (.bool true)], args := [d] }
  | _ => none }
def runoffBrakesRow : OpenClaim := { program := "ytbojnnefpapamaa", sum := "19fe771879bf1b255ffffd31aef1b39d64fbe1f26139b628d3986b7524b7046e", func := "humpyard/humpyardlaw20.RunoffBrakes", spec := "runoffBrakes", plainKeys := false, apart := false }
def RunoffBrakesSaid : Prop := runoffBrakesRow.holds Try.pinned (OpenSpec.ofChange runoffBrakesSpec)

/-- ITS FALSE NEIGHBOUR: 'it returns false'. Refute it at one input. -/
def runoffBrakesWrong : ChangeSpec := { name := "runoffBrakes", fn := fun _ => fun
  | [d] => { results := [.lit (.bool false)], args := [d] }
  | _ => none }
def RunoffBrakesWrongFalsely : Prop := runoffBrakesRow.holds Try.pinned (OpenSpec.ofChange runoffBrakesWrong)

/-- 'humpyardlaw20.RunoffSlower': WHATEVER THE INPUT: true; the input reads as it did. -/
def runoffSlowerSpec : ChangeSpec := { name := "runoffSlower", fn := fun _ => fun
  | [d] => { results := [.lit (.bool true)], args := [d] }
  | _ => none }
def runoffSlowerRow : OpenClaim := { program := "ytbojnnefpapamaa", sum := "19fe771879bf1b255ffffd31aef1b39d64fbe1f26139b628d3986b7524b7046e", func := "humpyard/humpyardlaw20.RunoffSlower", spec := "runoffSlower", plainKeys := false, apart := false }
def RunoffSlowerSaid : Prop := runoffSlowerRow.holds Try.pinned (OpenSpec.ofChange runoffSlowerSpec)

/-- ITS FALSE NEIGHBOUR: 'it returns false'. Refute it at one input. -/
def runoffSlowerWrong : ChangeSpec := { name := "runoffSlower", fn := fun _ => fun
  | [d] => { results := [.lit (.bool false)], args := [d] }
  | _ => none }
def RunoffSlowerWrongFalsely : Prop := runoffSlowerRow.holds Try.pinned (OpenSpec.ofChange runoffSlowerWrong)

/-- 'humpyardlaw20.RunoffNested': WHATEVER THE INPUT: true; the input reads as it did. -/
def runoffNestedSpec : ChangeSpec := { name := "runoffNested", fn := fun _ => fun
  | [d] => { results := [.lit (.bool true)], args := [d] }
  | _ => none }
def runoffNestedRow : OpenClaim := { program := "ytbojnnefpapamaa", sum := "19fe771879bf1b255ffffd31aef1b39d64fbe1f26139b628d3986b7524b7046e", func := "humpyard/humpyardlaw20.RunoffNested", spec := "runoffNested", plainKeys := false, apart := false }
def RunoffNestedSaid : Prop := runoffNestedRow.holds Try.pinned (OpenSpec.ofChange runoffNestedSpec)

/-- ITS FALSE NEIGHBOUR: 'it returns false'. Refute it at one input. -/
def runoffNestedWrong : ChangeSpec := { name := "runoffNested", fn := fun _ => fun
  | [d] => { results := [.lit (.bool false)], args := [d] }
  | _ => none }
def RunoffNestedWrongFalsely : Prop := runoffNestedRow.holds Try.pinned (OpenSpec.ofChange runoffNestedWrong)

/-- 'humpyardlaw20.RunoffLimits': WHATEVER THE INPUT: true; the input reads as it did. -/
def runoffLimitsSpec : ChangeSpec := { name := "runoffLimits", fn := fun _ => fun
  | [d1, d2] => { results := [.lit (.bool true)], args := [d1, d2] }
  | _ => none }
def runoffLimitsRow : OpenClaim := { program := "ytbojnnefpapamaa", sum := "19fe771879bf1b255ffffd31aef1b39d64fbe1f26139b628d3986b7524b7046e", func := "humpyard/humpyardlaw20.RunoffLimits", spec := "runoffLimits", plainKeys := false, apart := false }
def RunoffLimitsSaid : Prop := runoffLimitsRow.holds Try.pinned (OpenSpec.ofChange runoffLimitsSpec)

/-- ITS FALSE NEIGHBOUR: 'it returns false'. Refute it at one input. -/
def runoffLimitsWrong : ChangeSpec := { name := "runoffLimits", fn := fun _ => fun
  | [d1, d2] => { results := [.lit (.bool false)], args := [d1, d2] }
  | _ => none }
def RunoffLimitsWrongFalsely : Prop := runoffLimitsRow.holds Try.pinned (OpenSpec.ofChange runoffLimitsWrong)

/-- 'humpyardlaw20.RunoffContains': WHATEVER THE INPUT: true; the input reads as it did. -/
def runoffContainsSpec : ChangeSpec := { name := "runoffContains", fn := fun _ => fun
  | [d] => { results := [.lit (.bool true)], args := [d] }
  | _ => none }
def runoffContainsRow : OpenClaim := { program := "ytbojnnefpapamaa", sum := "19fe771879bf1b255ffffd31aef1b39d64fbe1f26139b628d3986b7524b7046e", func := "humpyard/humpyardlaw20.RunoffContains", spec := "runoffContains", plainKeys := false, apart := false }
def RunoffContainsSaid : Prop := runoffContainsRow.holds Try.pinned (OpenSpec.ofChange runoffContainsSpec)

/-- ITS FALSE NEIGHBOUR: 'it returns false'. Refute it at one input. -/
def runoffContainsWrong : ChangeSpec := { name := "runoffContains", fn := fun _ => fun
  | [d] => { results := [.lit (.bool false)], args := [d] }
  | _ => none }
def RunoffContainsWrongFalsely : Prop := runoffContainsRow.holds Try.pinned (OpenSpec.ofChange runoffContainsWrong)

/-- 'humpyardlaw20.RunoffPath': WHATEVER THE INPUT: true; the input reads as it did. -/
def runoffPathSpec : ChangeSpec := { name := "runoffPath", fn := fun _ => fun
  | [d1, d2, d3] => { results := [.lit (.bool true)], args := [d1, d2, d3] }
  | _ => none }
def runoffPathRow : OpenClaim := { program := "ytbojnnefpapamaa", sum := "19fe771879bf1b255ffffd31aef1b39d64fbe1f26139b628d3986b7524b7046e", func := "humpyard/humpyardlaw20.RunoffPath", spec := "runoffPath", recurses := true, plainKeys := false, apart := false }
def RunoffPathSaid : Prop := runoffPathRow.holds Try.pinned (OpenSpec.ofChange runoffPathSpec)

/-- ITS FALSE NEIGHBOUR: 'it returns false'. Refute it at one input. -/
def runoffPathWrong : ChangeSpec := { name := "runoffPath", fn := fun _ => fun
  | [d1, d2, d3] => { results := [.lit (.bool false)], args := [d1, d2, d3] }
  | _ => none }
def RunoffPathWrongFalsely : Prop := runoffPathRow.holds Try.pinned (OpenSpec.ofChange runoffPathWrong)

/- THE SECOND FORM. 'bulk': how many values and letters a reading holds, each counted each time it is reached (what is shared counts as often as it is met; a slice's spare places count too). A statement '..UptoSaid' is the law's where the arguments, and the package variables that the reading takes, are together of bulk at most 1048576: NARROWER than '..Said'. Prove '..Said' where nothing that the law and all that it calls make is longer than what came in: it says more and counts as full. Else prove '..UptoSaid'. A law counts once. -/
mutual
def uptoBulk {H : Type} : DataW H → Nat
  | .lit (.string bytes) => bytes.length + 1
  | .lit _ => 1
  | .nil => 1
  | .ptr d => uptoBulk d + 1
  | .slice elems spare => uptoBulkAll elems + uptoBulkAll spare + 1
  | .agg parts => uptoBulkAll parts + 1
  | .iface _ d => uptoBulk d + 1
  | .map entries => uptoBulkEntries entries + 1
  | .held _ => 1
def uptoBulkAll {H : Type} : List (DataW H) → Nat
  | [] => 0
  | d :: r => uptoBulk d + uptoBulkAll r
def uptoBulkEntries {H : Type} : List (Lit × DataW H) → Nat
  | [] => 0
  | x :: r => uptoBulkEntry x + uptoBulkEntries r
def uptoBulkEntry {H : Type} : Lit × DataW H → Nat
  | (.string bytes, d) => bytes.length + uptoBulk d + 1
  | (_, d) => uptoBulk d + 1
 end
def uptoSmall : (H : Type) → List (DataW H) → Bool := fun _ ds => decide (uptoBulkAll ds ≤ 1048576)
def OpenSpec.upto (s : _root_.Go.ChangeSpec) : _root_.Go.OpenSpec := { _root_.Go.OpenSpec.ofChange s with cond := some uptoSmall }

/-- 'humpyardlaw20.RunoffLate', WHERE WHAT IT READS IS OF BULK AT MOST 1048576: true; the input reads as it did. -/
def runoffLateUptoRow : OpenClaim := { program := "ytbojnnefpapamaa", sum := "19fe771879bf1b255ffffd31aef1b39d64fbe1f26139b628d3986b7524b7046e", func := "humpyard/humpyardlaw20.RunoffLate", spec := "runoffLate", plainKeys := false, apart := false, narrowed := true }
def RunoffLateUptoSaid : Prop := runoffLateUptoRow.holds Try.pinned (OpenSpec.upto runoffLateSpec)

/-- 'humpyardlaw20.RunoffExact', WHERE WHAT IT READS IS OF BULK AT MOST 1048576: true; the input reads as it did. -/
def runoffExactUptoRow : OpenClaim := { program := "ytbojnnefpapamaa", sum := "19fe771879bf1b255ffffd31aef1b39d64fbe1f26139b628d3986b7524b7046e", func := "humpyard/humpyardlaw20.RunoffExact", spec := "runoffExact", plainKeys := false, apart := false, narrowed := true }
def RunoffExactUptoSaid : Prop := runoffExactUptoRow.holds Try.pinned (OpenSpec.upto runoffExactSpec)

/-- 'humpyardlaw20.RunoffParts', WHERE WHAT IT READS IS OF BULK AT MOST 1048576: true; the input reads as it did. -/
def runoffPartsUptoRow : OpenClaim := { program := "ytbojnnefpapamaa", sum := "19fe771879bf1b255ffffd31aef1b39d64fbe1f26139b628d3986b7524b7046e", func := "humpyard/humpyardlaw20.RunoffParts", spec := "runoffParts", plainKeys := false, apart := false, narrowed := true }
def RunoffPartsUptoSaid : Prop := runoffPartsUptoRow.holds Try.pinned (OpenSpec.upto runoffPartsSpec)

/-- 'humpyardlaw20.RunoffBrakes', WHERE WHAT IT READS IS OF BULK AT MOST 1048576: true; the input reads as it did. -/
def runoffBrakesUptoRow : OpenClaim := { program := "ytbojnnefpapamaa", sum := "19fe771879bf1b255ffffd31aef1b39d64fbe1f26139b628d3986b7524b7046e", func := "humpyard/humpyardlaw20.RunoffBrakes", spec := "runoffBrakes", plainKeys := false, apart := false, narrowed := true }
def RunoffBrakesUptoSaid : Prop := runoffBrakesUptoRow.holds Try.pinned (OpenSpec.upto runoffBrakesSpec)

/-- 'humpyardlaw20.RunoffSlower', WHERE WHAT IT READS IS OF BULK AT MOST 1048576: true; the input reads as it did. -/
def runoffSlowerUptoRow : OpenClaim := { program := "ytbojnnefpapamaa", sum := "19fe771879bf1b255ffffd31aef1b39d64fbe1f26139b628d3986b7524b7046e", func := "humpyard/humpyardlaw20.RunoffSlower", spec := "runoffSlower", plainKeys := false, apart := false, narrowed := true }
def RunoffSlowerUptoSaid : Prop := runoffSlowerUptoRow.holds Try.pinned (OpenSpec.upto runoffSlowerSpec)

/-- 'humpyardlaw20.RunoffNested', WHERE WHAT IT READS IS OF BULK AT MOST 1048576: true; the input reads as it did. -/
def runoffNestedUptoRow : OpenClaim := { program := "ytbojnnefpapamaa", sum := "19fe771879bf1b255ffffd31aef1b39d64fbe1f26139b628d3986b7524b7046e", func := "humpyard/humpyardlaw20.RunoffNested", spec := "runoffNested", plainKeys := false, apart := false, narrowed := true }
def RunoffNestedUptoSaid : Prop := runoffNestedUptoRow.holds Try.pinned (OpenSpec.upto runoffNestedSpec)

/-- 'humpyardlaw20.RunoffLimits', WHERE WHAT IT READS IS OF BULK AT MOST 1048576: true; the input reads as it did. -/
def runoffLimitsUptoRow : OpenClaim := { program := "ytbojnnefpapamaa", sum := "19fe771879bf1b255ffffd31aef1b39d64fbe1f26139b628d3986b7524b7046e", func := "humpyard/humpyardlaw20.RunoffLimits", spec := "runoffLimits", plainKeys := false, apart := false, narrowed := true }
def RunoffLimitsUptoSaid : Prop := runoffLimitsUptoRow.holds Try.pinned (OpenSpec.upto runoffLimitsSpec)

/-- 'humpyardlaw20.RunoffContains', WHERE WHAT IT READS IS OF BULK AT MOST 1048576: true; the input reads as it did. -/
def runoffContainsUptoRow : OpenClaim := { program := "ytbojnnefpapamaa", sum := "19fe771879bf1b255ffffd31aef1b39d64fbe1f26139b628d3986b7524b7046e", func := "humpyard/humpyardlaw20.RunoffContains", spec := "runoffContains", plainKeys := false, apart := false, narrowed := true }
def RunoffContainsUptoSaid : Prop := runoffContainsUptoRow.holds Try.pinned (OpenSpec.upto runoffContainsSpec)

/-- 'humpyardlaw20.RunoffPath', WHERE WHAT IT READS IS OF BULK AT MOST 1048576: true; the input reads as it did. -/
def runoffPathUptoRow : OpenClaim := { program := "ytbojnnefpapamaa", sum := "19fe771879bf1b255ffffd31aef1b39d64fbe1f26139b628d3986b7524b7046e", func := "humpyard/humpyardlaw20.RunoffPath", spec := "runoffPath", recurses := true, plainKeys := false, apart := false, narrowed := true }
def RunoffPathUptoSaid : Prop := runoffPathUptoRow.holds Try.pinned (OpenSpec.upto runoffPathSpec)

end Rows
end Go.Proofs.Ytbojnnefpapamaa
