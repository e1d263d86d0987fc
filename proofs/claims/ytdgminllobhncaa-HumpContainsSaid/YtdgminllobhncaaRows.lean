/-
  No cell of these rows narrows 'for every input' (looked for: loops, veiled, ifaces, maps, wideKeys, modest, calm, conditions, laid).
  DERIVED. THE GIVEN ROWS OF THIS SEAT. 5 by the template 'for every input the law returns true; each argument reads behind the call as it read before'; 0 by the template 'total and deterministic' (their statements: YtdgminllobhncaaTotals.lean).
  GIVEN WITH THE SEED: the statements are not yours to turn. If you find one false, say at which input.
  Laid BY PROGRAM, IN A SANDBOX (cutbox-rows.mjs): the forced cells as the released guide's own fill.sh prints them over the translation e08fe8dd0df81b79… (all of the seat's roots in one cut). By AI agents, Wed Nov 11 2026. No macro, syntax, notation, axiom, sorry.
-/
import Derived.Test.YtdgminllobhncaaChecked
import GoSem.Claim
import GoSem.ClaimJoined
import GoSem.ClaimMapViews
import Derived.JoinedTies
import Derived.KernelRfl
namespace Go.Proofs.Ytdgminllobhncaa
/- THE CELL 'sum', in the pinned program and in every row, IS THE sha256 OF THE DUMP (.gsa) THAT YtdgminllobhncaaProg.lean LOADS. Nothing in Lean hashes anything: it is a label: what it is worth is what the hold of that sum in a sandbox is worth. -/
noncomputable def Try.pinned : Pinned := { name := "ytdgminllobhncaa", sum := "e08fe8dd0df81b798d8954cea6e4803e43f78c50f06f3058105d319e2b6bb961", checked := Try.checked }
namespace Rows
def none {H : Type} : Left H := { results := [], args := [] }

/-- 'humpyardlaw30.HumpSafe': WHATEVER THE INPUT: true; the input reads as it did. -/
def humpSafeSpec : ChangeSpec := { name := "humpSafe", fn := fun _ => fun
  | [d] => { results := [.lit (.bool true)], args := [d] }
  | _ => none }
def humpSafeRow : OpenClaim := { program := "ytdgminllobhncaa", sum := "e08fe8dd0df81b798d8954cea6e4803e43f78c50f06f3058105d319e2b6bb961", func := "humpyard/humpyardlaw30.HumpSafe", spec := "humpSafe", recurses := true, plainKeys := false, apart := false }
def HumpSafeSaid : Prop := humpSafeRow.holds Try.pinned (OpenSpec.ofChange humpSafeSpec)

/-- ITS FALSE NEIGHBOUR: 'it returns false'. Refute it at one input. -/
def humpSafeWrong : ChangeSpec := { name := "humpSafe", fn := fun _ => fun
  | [d] => { results := [.lit (.bool false)], args := [d] }
  | _ => none }
def HumpSafeWrongFalsely : Prop := humpSafeRow.holds Try.pinned (OpenSpec.ofChange humpSafeWrong)

/-- 'humpyardlaw30.HumpContains': WHATEVER THE INPUT: true; the input reads as it did. -/
def humpContainsSpec : ChangeSpec := { name := "humpContains", fn := fun _ => fun
  | [d] => { results := [.lit (.bool true)], args := [d] }
  | _ => none }
def humpContainsRow : OpenClaim := { program := "ytdgminllobhncaa", sum := "e08fe8dd0df81b798d8954cea6e4803e43f78c50f06f3058105d319e2b6bb961", func := "humpyard/humpyardlaw30.HumpContains", spec := "humpContains", recurses := true, plainKeys := false, apart := false }
def HumpContainsSaid : Prop := humpContainsRow.holds Try.pinned (OpenSpec.ofChange humpContainsSpec)

/-- ITS FALSE NEIGHBOUR: 'it returns false'. Refute it at one input. -/
def humpContainsWrong : ChangeSpec := { name := "humpContains", fn := fun _ => fun
  | [d] => { results := [.lit (.bool false)], args := [d] }
  | _ => none }
def HumpContainsWrongFalsely : Prop := humpContainsRow.holds Try.pinned (OpenSpec.ofChange humpContainsWrong)

/-- 'humpyardlaw30.HumpBegins': WHATEVER THE INPUT: true; the input reads as it did. -/
def humpBeginsSpec : ChangeSpec := { name := "humpBegins", fn := fun _ => fun
  | [d1, d2] => { results := [.lit (.bool true)], args := [d1, d2] }
  | _ => none }
def humpBeginsRow : OpenClaim := { program := "ytdgminllobhncaa", sum := "e08fe8dd0df81b798d8954cea6e4803e43f78c50f06f3058105d319e2b6bb961", func := "humpyard/humpyardlaw30.HumpBegins", spec := "humpBegins", recurses := true, plainKeys := false, apart := false }
def HumpBeginsSaid : Prop := humpBeginsRow.holds Try.pinned (OpenSpec.ofChange humpBeginsSpec)

/-- ITS FALSE NEIGHBOUR: 'it returns false'. Refute it at one input. -/
def humpBeginsWrong : ChangeSpec := { name := "humpBegins", fn := fun _ => fun
  | [d1, d2] => { results := [.lit (.bool false)], args := [d1, d2] }
  | _ => none }
def HumpBeginsWrongFalsely : Prop := humpBeginsRow.holds Try.pinned (OpenSpec.ofChange humpBeginsWrong)

/-- 'humpyardlaw30.HumpReports': WHATEVER THE INPUT: true; the input reads as it did. -/
def humpReportsSpec : ChangeSpec := { name := "humpReports", fn := fun _ => fun
  | [d] => { results := [.lit (.bool true)], args := [d] }
  | _ => none }
def humpReportsRow : OpenClaim := { program := "ytdgminllobhncaa", sum := "e08fe8dd0df81b798d8954cea6e4803e43f78c50f06f3058105d319e2b6bb961", func := "humpyard/humpyardlaw30.HumpReports", spec := "humpReports", recurses := true, plainKeys := false, apart := false }
def HumpReportsSaid : Prop := humpReportsRow.holds Try.pinned (OpenSpec.ofChange humpReportsSpec)

/-- ITS FALSE NEIGHBOUR: 'it returns false'. Refute it at one input. -/
def humpReportsWrong : ChangeSpec := { name := "humpReports", fn := fun _ => fun
  | [d] => { results := [.lit (.bool false)], args := [d] }
  | _ => none }
def HumpReportsWrongFalsely : Prop := humpReportsRow.holds Try.pinned (OpenSpec.ofChange humpReportsWrong)

/-- 'humpyardlaw30.HumpFollows': WHATEVER THE INPUT: true; the input reads as it did. -/
def humpFollowsSpec : ChangeSpec := { name := "humpFollows", fn := fun _ => fun
  | [d] => { results := [.lit (.bool true)], args := [d] }
  | _ => none }
def humpFollowsRow : OpenClaim := { program := "ytdgminllobhncaa", sum := "e08fe8dd0df81b798d8954cea6e4803e43f78c50f06f3058105d319e2b6bb961", func := "humpyard/humpyardlaw30.HumpFollows", spec := "humpFollows", recurses := true, plainKeys := false, apart := false }
def HumpFollowsSaid : Prop := humpFollowsRow.holds Try.pinned (OpenSpec.ofChange humpFollowsSpec)

/-- ITS FALSE NEIGHBOUR: 'it returns false'. Refute it at one input. -/
def humpFollowsWrong : ChangeSpec := { name := "humpFollows", fn := fun _ => fun
  | [d] => { results := [.lit (.bool false)], args := [d] }
  | _ => none }
def HumpFollowsWrongFalsely : Prop := humpFollowsRow.holds Try.pinned (OpenSpec.ofChange humpFollowsWrong)

/- THE SECOND FORM. 'bulk': how many values and letters a reading holds, each counted each time it is reached (what is shared counts as often as it is met; a slice's spare places count too). A statement '..UptoSaid' is the law's where the arguments, and the package variables that the reading takes, are together of bulk at most 1048576: NARROWER than '..Said'. Prove '..Said' where nothing that the law and all that it calls make is longer than what came in: it says more and counts as full. Else prove '..UptoSaid'. A law counts once. -/
mutual
def uptoBulk {H : Type} : DataW H → Nat
  | .lit (.string bytes) => bytes.length + 1
  | .lit _ => 1
  | .nil => 1
  | .ptr d => uptoBulk d + 1
  | .slice elems spare => uptoBulkAll elems + uptoBulkAll spare + 1
  | .agg parts => uptoBulkAll parts + 1
  | .iface _ d => uptoBulk d + 1
  | .map entries => uptoBulkEntries entries + 1
  | .held _ => 1
def uptoBulkAll {H : Type} : List (DataW H) → Nat
  | [] => 0
  | d :: r => uptoBulk d + uptoBulkAll r
def uptoBulkEntries {H : Type} : List (Lit × DataW H) → Nat
  | [] => 0
  | x :: r => uptoBulkEntry x + uptoBulkEntries r
def uptoBulkEntry {H : Type} : Lit × DataW H → Nat
  | (.string bytes, d) => bytes.length + uptoBulk d + 1
  | (_, d) => uptoBulk d + 1
 end
def uptoSmall : (H : Type) → List (DataW H) → Bool := fun _ ds => decide (uptoBulkAll ds ≤ 1048576)
def OpenSpec.upto (s : _root_.Go.ChangeSpec) : _root_.Go.OpenSpec := { _root_.Go.OpenSpec.ofChange s with cond := some uptoSmall }

/-- 'humpyardlaw30.HumpSafe', WHERE WHAT IT READS IS OF BULK AT MOST 1048576: true; the input reads as it did. -/
def humpSafeUptoRow : OpenClaim := { program := "ytdgminllobhncaa", sum := "e08fe8dd0df81b798d8954cea6e4803e43f78c50f06f3058105d319e2b6bb961", func := "humpyard/humpyardlaw30.HumpSafe", spec := "humpSafe", recurses := true, plainKeys := false, apart := false, narrowed := true }
def HumpSafeUptoSaid : Prop := humpSafeUptoRow.holds Try.pinned (OpenSpec.upto humpSafeSpec)

/-- 'humpyardlaw30.HumpContains', WHERE WHAT IT READS IS OF BULK AT MOST 1048576: true; the input reads as it did. -/
def humpContainsUptoRow : OpenClaim := { program := "ytdgminllobhncaa", sum := "e08fe8dd0df81b798d8954cea6e4803e43f78c50f06f3058105d319e2b6bb961", func := "humpyard/humpyardlaw30.HumpContains", spec := "humpContains", recurses := true, plainKeys := false, apart := false, narrowed := true }
def HumpContainsUptoSaid : Prop := humpContainsUptoRow.holds Try.pinned (OpenSpec.upto humpContainsSpec)

/-- 'humpyardlaw30.HumpBegins', WHERE WHAT IT READS IS OF BULK AT MOST 1048576: true; the input reads as it did. -/
def humpBeginsUptoRow : OpenClaim := { program := "ytdgminllobhncaa", sum := "e08fe8dd0df81b798d8954cea6e4803e43f78c50f06f3058105d319e2b6bb961", func := "humpyard/humpyardlaw30.HumpBegins", spec := "humpBegins", recurses := true, plainKeys := false, apart := false, narrowed := true }
def HumpBeginsUptoSaid : Prop := humpBeginsUptoRow.holds Try.pinned (OpenSpec.upto humpBeginsSpec)

/-- 'humpyardlaw30.HumpReports', WHERE WHAT IT READS IS OF BULK AT MOST 1048576: true; the input reads as it did. -/
def humpReportsUptoRow : OpenClaim := { program := "ytdgminllobhncaa", sum := "e08fe8dd0df81b798d8954cea6e4803e43f78c50f06f3058105d319e2b6bb961", func := "humpyard/humpyardlaw30.HumpReports", spec := "humpReports", recurses := true, plainKeys := false, apart := false, narrowed := true }
def HumpReportsUptoSaid : Prop := humpReportsUptoRow.holds Try.pinned (OpenSpec.upto humpReportsSpec)

/-- 'humpyardlaw30.HumpFollows', WHERE WHAT IT READS IS OF BULK AT MOST 1048576: true; the input reads as it did. -/
def humpFollowsUptoRow : OpenClaim := { program := "ytdgminllobhncaa", sum := "e08fe8dd0df81b798d8954cea6e4803e43f78c50f06f3058105d319e2b6bb961", func := "humpyard/humpyardlaw30.HumpFollows", spec := "humpFollows", recurses := true, plainKeys := false, apart := false, narrowed := true }
def HumpFollowsUptoSaid : Prop := humpFollowsUptoRow.holds Try.pinned (OpenSpec.upto humpFollowsSpec)

end Rows
end Go.Proofs.Ytdgminllobhncaa
