/-
  No cell of these rows narrows 'for every input' (looked for: loops, veiled, ifaces, maps, wideKeys, modest, calm, conditions, laid).
  DERIVED. THE GIVEN ROWS OF THIS SEAT. 5 by the template 'for every input the law returns true; each argument reads behind the call as it read before'; 0 by the template 'total and deterministic' (their statements: YtdabnfhkojapjaaTotals.lean).
  GIVEN WITH THE SEED: the statements are not yours to turn. If you find one false, say at which input.
  Laid BY PROGRAM, IN A SANDBOX (cutbox-rows.mjs): the forced cells as the released guide's own fill.sh prints them over the translation c38918f2560d90d2… (all of the seat's roots in one cut). By AI agents, Wed Nov 11 2026. No macro, syntax, notation, axiom, sorry.
-/
import Derived.Test.YtdabnfhkojapjaaChecked
import GoSem.Claim
import GoSem.ClaimJoined
import GoSem.ClaimMapViews
import Derived.JoinedTies
import Derived.KernelRfl
namespace Go.Proofs.Ytdabnfhkojapjaa
/- THE CELL 'sum', in the pinned program and in every row, IS THE sha256 OF THE DUMP (.gsa) THAT YtdabnfhkojapjaaProg.lean LOADS. Nothing in Lean hashes anything: it is a label: what it is worth is what the hold of that sum in a sandbox is worth. -/
noncomputable def Try.pinned : Pinned := { name := "ytdabnfhkojapjaa", sum := "c38918f2560d90d27f5934bf09f7b00afe3650ed6c56e90b5e56c545b40958ca", checked := Try.checked }
namespace Rows
def none {H : Type} : Left H := { results := [], args := [] }

/-- 'humpyardlaw32.BowlExact': WHATEVER THE INPUT: true; the input reads as it did. -/
def bowlExactSpec : ChangeSpec := { name := "bowlExact", fn := fun _ => fun
  | [d1, d2, d3, d4, d5] => { results := [.lit (.bool true)], args := [d1, d2, d3, d4, d5] }
  | _ => none }
def bowlExactRow : OpenClaim := { program := "ytdabnfhkojapjaa", sum := "c38918f2560d90d27f5934bf09f7b00afe3650ed6c56e90b5e56c545b40958ca", func := "humpyard/humpyardlaw32.BowlExact", spec := "bowlExact", apart := false }
def BowlExactSaid : Prop := bowlExactRow.holds Try.pinned (OpenSpec.ofChange bowlExactSpec)

/-- ITS FALSE NEIGHBOUR: 'it returns false'. Refute it at one input. -/
def bowlExactWrong : ChangeSpec := { name := "bowlExact", fn := fun _ => fun
  | [d1, d2, d3, d4, d5] => { results := [.lit (.bool false)], args := [d1, d2, d3, d4, d5] }
  | _ => none }
def BowlExactWrongFalsely : Prop := bowlExactRow.holds Try.pinned (OpenSpec.ofChange bowlExactWrong)

/-- 'humpyardlaw32.BowlRestores': WHATEVER THE INPUT: true; the input reads as it did. -/
def bowlRestoresSpec : ChangeSpec := { name := "bowlRestores", fn := fun _ => fun
  | [d] => { results := [.lit (.bool true)], args := [d] }
  | _ => none }
def bowlRestoresRow : OpenClaim := { program := "ytdabnfhkojapjaa", sum := "c38918f2560d90d27f5934bf09f7b00afe3650ed6c56e90b5e56c545b40958ca", func := "humpyard/humpyardlaw32.BowlRestores", spec := "bowlRestores", apart := false }
def BowlRestoresSaid : Prop := bowlRestoresRow.holds Try.pinned (OpenSpec.ofChange bowlRestoresSpec)

/-- ITS FALSE NEIGHBOUR: 'it returns false'. Refute it at one input. -/
def bowlRestoresWrong : ChangeSpec := { name := "bowlRestores", fn := fun _ => fun
  | [d] => { results := [.lit (.bool false)], args := [d] }
  | _ => none }
def BowlRestoresWrongFalsely : Prop := bowlRestoresRow.holds Try.pinned (OpenSpec.ofChange bowlRestoresWrong)

/-- 'humpyardlaw32.BowlFouls': WHATEVER THE INPUT: true; the input reads as it did. -/
def bowlFoulsSpec : ChangeSpec := { name := "bowlFouls", fn := fun _ => fun
  | [d] => { results := [.lit (.bool true)], args := [d] }
  | _ => none }
def bowlFoulsRow : OpenClaim := { program := "ytdabnfhkojapjaa", sum := "c38918f2560d90d27f5934bf09f7b00afe3650ed6c56e90b5e56c545b40958ca", func := "humpyard/humpyardlaw32.BowlFouls", spec := "bowlFouls", apart := false }
def BowlFoulsSaid : Prop := bowlFoulsRow.holds Try.pinned (OpenSpec.ofChange bowlFoulsSpec)

/-- ITS FALSE NEIGHBOUR: 'it returns false'. Refute it at one input. -/
def bowlFoulsWrong : ChangeSpec := { name := "bowlFouls", fn := fun _ => fun
  | [d] => { results := [.lit (.bool false)], args := [d] }
  | _ => none }
def BowlFoulsWrongFalsely : Prop := bowlFoulsRow.holds Try.pinned (OpenSpec.ofChange bowlFoulsWrong)

/-- 'humpyardlaw32.BowlCouples': WHATEVER THE INPUT: true; the input reads as it did. -/
def bowlCouplesSpec : ChangeSpec := { name := "bowlCouples", fn := fun _ => fun
  | [d1, d2] => { results := [.lit (.bool true)], args := [d1, d2] }
  | _ => none }
def bowlCouplesRow : OpenClaim := { program := "ytdabnfhkojapjaa", sum := "c38918f2560d90d27f5934bf09f7b00afe3650ed6c56e90b5e56c545b40958ca", func := "humpyard/humpyardlaw32.BowlCouples", spec := "bowlCouples", apart := false }
def BowlCouplesSaid : Prop := bowlCouplesRow.holds Try.pinned (OpenSpec.ofChange bowlCouplesSpec)

/-- ITS FALSE NEIGHBOUR: 'it returns false'. Refute it at one input. -/
def bowlCouplesWrong : ChangeSpec := { name := "bowlCouples", fn := fun _ => fun
  | [d1, d2] => { results := [.lit (.bool false)], args := [d1, d2] }
  | _ => none }
def BowlCouplesWrongFalsely : Prop := bowlCouplesRow.holds Try.pinned (OpenSpec.ofChange bowlCouplesWrong)

/-- 'humpyardlaw32.BowlBands': WHATEVER THE INPUT: true; the input reads as it did. -/
def bowlBandsSpec : ChangeSpec := { name := "bowlBands", fn := fun _ => fun
  | [d1, d2, d3] => { results := [.lit (.bool true)], args := [d1, d2, d3] }
  | _ => none }
def bowlBandsRow : OpenClaim := { program := "ytdabnfhkojapjaa", sum := "c38918f2560d90d27f5934bf09f7b00afe3650ed6c56e90b5e56c545b40958ca", func := "humpyard/humpyardlaw32.BowlBands", spec := "bowlBands", apart := false }
def BowlBandsSaid : Prop := bowlBandsRow.holds Try.pinned (OpenSpec.ofChange bowlBandsSpec)

/-- ITS FALSE NEIGHBOUR: 'it returns false'. Refute it at one input. -/
def bowlBandsWrong : ChangeSpec := { name := "bowlBands", fn := fun _ => fun
  | [d1, d2, d3] => { results := [.lit (.bool false)], args := [d1, d2, d3] }
  | _ => none }
def BowlBandsWrongFalsely : Prop := bowlBandsRow.holds Try.pinned (OpenSpec.ofChange bowlBandsWrong)

/- THE SECOND FORM. 'bulk': how many values and letters a reading holds, each counted each time it is reached (what is shared counts as often as it is met; a slice's spare places count too). A statement '..UptoSaid' is the law's where the arguments, and the package variables that the reading takes, are together of bulk at most 1048576: NARROWER than '..Said'. Prove '..Said' where nothing that the law and all that it calls make is longer than what came in: it says more and counts as full. Else prove '..UptoSaid'. A law counts once. -/
mutual
def uptoBulk {H : Type} : DataW H → Nat
  | .lit (.string bytes) => bytes.length + 1
  | .lit _ => 1
  | .nil => 1
  | .ptr d => uptoBulk d + 1
  | .slice elems spare => uptoBulkAll elems + uptoBulkAll spare + 1
  | .agg parts => uptoBulkAll parts + 1
  | .iface _ d => uptoBulk d + 1
  | .map entries => uptoBulkEntries entries + 1
  | .held _ => 1
def uptoBulkAll {H : Type} : List (DataW H) → Nat
  | [] => 0
  | d :: r => uptoBulk d + uptoBulkAll r
def uptoBulkEntries {H : Type} : List (Lit × DataW H) → Nat
  | [] => 0
  | x :: r => uptoBulkEntry x + uptoBulkEntries r
def uptoBulkEntry {H : Type} : Lit × DataW H → Nat
  | (.string bytes, d) => bytes.length + uptoBulk d + 1
  | (_, d) => uptoBulk d + 1
 end
def uptoSmall : (H : Type) → List (DataW H) → Bool := fun _ ds => decide (uptoBulkAll ds ≤ 1048576)
def OpenSpec.upto (s : _root_.Go.ChangeSpec) : _root_.Go.OpenSpec := { _root_.Go.OpenSpec.ofChange s with cond := some uptoSmall }

/-- 'humpyardlaw32.BowlExact', WHERE WHAT IT READS IS OF BULK AT MOST 1048576: true; the input reads as it did. -/
def bowlExactUptoRow : OpenClaim := { program := "ytdabnfhkojapjaa", sum := "c38918f2560d90d27f5934bf09f7b00afe3650ed6c56e90b5e56c545b40958ca", func := "humpyard/humpyardlaw32.BowlExact", spec := "bowlExact", apart := false, narrowed := true }
def BowlExactUptoSaid : Prop := bowlExactUptoRow.holds Try.pinned (OpenSpec.upto bowlExactSpec)

/-- 'humpyardlaw32.BowlRestores', WHERE WHAT IT READS IS OF BULK AT MOST 1048576: true; the input reads as it did. -/
def bowlRestoresUptoRow : OpenClaim := { program := "ytdabnfhkojapjaa", sum := "c38918f2560d90d27f5934bf09f7b00afe3650ed6c56e90b5e56c545b40958ca", func := "humpyard/humpyardlaw32.BowlRestores", spec := "bowlRestores", apart := false, narrowed := true }
def BowlRestoresUptoSaid : Prop := bowlRestoresUptoRow.holds Try.pinned (OpenSpec.upto bowlRestoresSpec)

/-- 'humpyardlaw32.BowlFouls', WHERE WHAT IT READS IS OF BULK AT MOST 1048576: true; the input reads as it did. -/
def bowlFoulsUptoRow : OpenClaim := { program := "ytdabnfhkojapjaa", sum := "c38918f2560d90d27f5934bf09f7b00afe3650ed6c56e90b5e56c545b40958ca", func := "humpyard/humpyardlaw32.BowlFouls", spec := "bowlFouls", apart := false, narrowed := true }
def BowlFoulsUptoSaid : Prop := bowlFoulsUptoRow.holds Try.pinned (OpenSpec.upto bowlFoulsSpec)

/-- 'humpyardlaw32.BowlCouples', WHERE WHAT IT READS IS OF BULK AT MOST 1048576: true; the input reads as it did. -/
def bowlCouplesUptoRow : OpenClaim := { program := "ytdabnfhkojapjaa", sum := "c38918f2560d90d27f5934bf09f7b00afe3650ed6c56e90b5e56c545b40958ca", func := "humpyard/humpyardlaw32.BowlCouples", spec := "bowlCouples", apart := false, narrowed := true }
def BowlCouplesUptoSaid : Prop := bowlCouplesUptoRow.holds Try.pinned (OpenSpec.upto bowlCouplesSpec)

/-- 'humpyardlaw32.BowlBands', WHERE WHAT IT READS IS OF BULK AT MOST 1048576: true; the input reads as it did. -/
def bowlBandsUptoRow : OpenClaim := { program := "ytdabnfhkojapjaa", sum := "c38918f2560d90d27f5934bf09f7b00afe3650ed6c56e90b5e56c545b40958ca", func := "humpyard/humpyardlaw32.BowlBands", spec := "bowlBands", apart := false, narrowed := true }
def BowlBandsUptoSaid : Prop := bowlBandsUptoRow.holds Try.pinned (OpenSpec.upto bowlBandsSpec)

end Rows
end Go.Proofs.Ytdabnfhkojapjaa
