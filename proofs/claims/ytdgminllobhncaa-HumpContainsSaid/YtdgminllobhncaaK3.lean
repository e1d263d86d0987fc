/-
  What the proof leans on, part 3: plain rules, plain models of the functions, and what they give. No condition.
-/
import Derived.Test.YtdgminllobhncaaK2
import Derived.Test.YtdgminllobhncaaProg
namespace Go.Proofs.Ytdgminllobhncaa
open Go.Hy
instance : C1 Try.prog 3 := ⟨⟨_, Try.underlying3, trivial⟩⟩
instance : CN Try.prog 3 1 := ⟨by kernel_rfl⟩
instance : CZ Try.prog 3 (.int .i64 0) := ⟨by kernel_rfl⟩
instance : C1 Try.prog 4 := ⟨⟨_, Try.underlying4, trivial⟩⟩
instance : CN Try.prog 4 1 := ⟨by kernel_rfl⟩
instance : CZ Try.prog 4 (.bool false) := ⟨by kernel_rfl⟩
instance : C1 Try.prog 9 := ⟨⟨_, Try.underlying9, trivial⟩⟩
instance : CN Try.prog 9 1 := ⟨by kernel_rfl⟩
instance : CZ Try.prog 9 (.string ⟨#[]⟩) := ⟨by kernel_rfl⟩
instance : C1 Try.prog 22 := ⟨⟨_, Try.underlying22, trivial⟩⟩
instance : CN Try.prog 22 1 := ⟨by kernel_rfl⟩
instance : CZ Try.prog 22 (.slice none 0 0) := ⟨by kernel_rfl⟩
instance : C1 Try.prog 25 := ⟨⟨_, Try.underlying25, trivial⟩⟩
instance : CN Try.prog 25 1 := ⟨by kernel_rfl⟩
instance : CZ Try.prog 25 (.slice none 0 0) := ⟨by kernel_rfl⟩
instance : C1 Try.prog 26 := ⟨⟨_, Try.underlying26, trivial⟩⟩
instance : CN Try.prog 26 1 := ⟨by kernel_rfl⟩
instance : CZ Try.prog 26 (.slice none 0 0) := ⟨by kernel_rfl⟩
instance : C1 Try.prog 27 := ⟨⟨_, Try.underlying27, trivial⟩⟩
instance : CN Try.prog 27 1 := ⟨by kernel_rfl⟩
instance : CZ Try.prog 27 (.slice none 0 0) := ⟨by kernel_rfl⟩
instance : C1 Try.prog 28 := ⟨⟨_, Try.underlying28, trivial⟩⟩
instance : CN Try.prog 28 1 := ⟨by kernel_rfl⟩
instance : CZ Try.prog 28 (.slice none 0 0) := ⟨by kernel_rfl⟩
instance : CS Try.prog 30 5 := ⟨⟨_, Try.underlying30, trivial⟩, by kernel_rfl⟩
instance : CN Try.prog 30 5 := ⟨by kernel_rfl⟩
instance : CZ Try.prog 30 (.agg #[.slice none 0 0, .int .i64 0, .slice none 0 0, .slice none 0 0, .slice none 0 0]) := ⟨by kernel_rfl⟩
instance : C1 Try.prog 31 := ⟨⟨_, Try.underlying31, trivial⟩⟩
instance : CN Try.prog 31 1 := ⟨by kernel_rfl⟩
instance : CZ Try.prog 31 (.slice none 0 0) := ⟨by kernel_rfl⟩
instance : CS Try.prog 33 8 := ⟨⟨_, Try.underlying33, trivial⟩, by kernel_rfl⟩
instance : CN Try.prog 33 8 := ⟨by kernel_rfl⟩
instance : CZ Try.prog 33 (.agg #[.slice none 0 0, .int .i64 0, .slice none 0 0, .slice none 0 0, .slice none 0 0, .slice none 0 0, .slice none 0 0, .bool false]) := ⟨by kernel_rfl⟩
instance : C1 Try.prog 36 := ⟨⟨_, Try.underlying36, trivial⟩⟩
instance : CN Try.prog 36 1 := ⟨by kernel_rfl⟩
instance : CZ Try.prog 36 (.slice none 0 0) := ⟨by kernel_rfl⟩
instance : C1 Try.prog 37 := ⟨⟨_, Try.underlying37, trivial⟩⟩
instance : CN Try.prog 37 1 := ⟨by kernel_rfl⟩
instance : CZ Try.prog 37 (.slice none 0 0) := ⟨by kernel_rfl⟩
instance : C1 Try.prog 41 := ⟨⟨_, Try.underlying41, trivial⟩⟩
instance : CN Try.prog 41 1 := ⟨by kernel_rfl⟩
instance : CZ Try.prog 41 (.slice none 0 0) := ⟨by kernel_rfl⟩
instance : CS Try.prog 43 2 := ⟨⟨_, Try.underlying43, trivial⟩, by kernel_rfl⟩
instance : CN Try.prog 43 2 := ⟨by kernel_rfl⟩
instance : CZ Try.prog 43 (.agg #[.int .i64 0, .slice none 0 0]) := ⟨by kernel_rfl⟩
instance : CS Try.prog 45 6 := ⟨⟨_, Try.underlying45, trivial⟩, by kernel_rfl⟩
instance : CN Try.prog 45 6 := ⟨by kernel_rfl⟩
instance : CZ Try.prog 45 (.agg #[.int .i64 0, .int .i64 0, .int .i64 0, .int .i64 0, .slice none 0 0, .slice none 0 0]) := ⟨by kernel_rfl⟩
instance : CS Try.prog 47 4 := ⟨⟨_, Try.underlying47, trivial⟩, by kernel_rfl⟩
instance : CN Try.prog 47 4 := ⟨by kernel_rfl⟩
instance : CZ Try.prog 47 (.agg #[.int .i64 0, .int .i64 0, .int .i64 0, .int .i64 0]) := ⟨by kernel_rfl⟩
instance : CS Try.prog 53 4 := ⟨⟨_, Try.underlying53, trivial⟩, by kernel_rfl⟩
instance : CN Try.prog 53 4 := ⟨by kernel_rfl⟩
instance : CZ Try.prog 53 (.agg #[.int .i64 0, .int .i64 0, .int .i64 0, .int .i64 0]) := ⟨by kernel_rfl⟩
instance : CS Try.prog 56 5 := ⟨⟨_, Try.underlying56, trivial⟩, by kernel_rfl⟩
instance : CN Try.prog 56 5 := ⟨by kernel_rfl⟩
instance : CZ Try.prog 56 (.agg #[.int .i64 0, .int .i64 0, .int .i64 0, .int .i64 0, .int .i64 0]) := ⟨by kernel_rfl⟩
instance : CS Try.prog 62 8 := ⟨⟨_, Try.underlying62, trivial⟩, by kernel_rfl⟩
instance : CN Try.prog 62 8 := ⟨by kernel_rfl⟩
instance : CZ Try.prog 62 (.agg #[.int .i64 0, .string ⟨#[]⟩, .int .i64 0, .int .i64 0, .int .i64 0, .int .i64 0, .int .i64 0, .int .i64 0]) := ⟨by kernel_rfl⟩
instance : CS Try.prog 65 2 := ⟨⟨_, Try.underlying65, trivial⟩, by kernel_rfl⟩
instance : CN Try.prog 65 2 := ⟨by kernel_rfl⟩
instance : CZ Try.prog 65 (.agg #[.slice none 0 0, .int .i64 0]) := ⟨by kernel_rfl⟩
instance : C1 Try.prog 68 := ⟨⟨_, Try.underlying68, trivial⟩⟩
instance : CN Try.prog 68 1 := ⟨by kernel_rfl⟩
instance : CZ Try.prog 68 (.slice none 0 0) := ⟨by kernel_rfl⟩
instance : CS Try.prog 70 2 := ⟨⟨_, Try.underlying70, trivial⟩, by kernel_rfl⟩
instance : CN Try.prog 70 2 := ⟨by kernel_rfl⟩
instance : CZ Try.prog 70 (.agg #[.int .i64 0, .int .i64 0]) := ⟨by kernel_rfl⟩
instance : CS Try.prog 78 5 := ⟨⟨_, Try.underlying78, trivial⟩, by kernel_rfl⟩
instance : CN Try.prog 78 5 := ⟨by kernel_rfl⟩
instance : CZ Try.prog 78 (.agg #[.int .i64 0, .int .i64 0, .slice none 0 0, .int .i64 0, .slice none 0 0]) := ⟨by kernel_rfl⟩
instance : CS Try.prog 80 5 := ⟨⟨_, Try.underlying80, trivial⟩, by kernel_rfl⟩
instance : CN Try.prog 80 5 := ⟨by kernel_rfl⟩
instance : CZ Try.prog 80 (.agg #[.int .i64 0, .int .i64 0, .int .i64 0, .int .i64 0, .int .i64 0]) := ⟨by kernel_rfl⟩
instance : CS Try.prog 87 6 := ⟨⟨_, Try.underlying87, trivial⟩, by kernel_rfl⟩
instance : CN Try.prog 87 6 := ⟨by kernel_rfl⟩
instance : CZ Try.prog 87 (.agg #[.int .i64 0, .int .i64 0, .int .i64 0, .int .i64 0, .bool false, .bool false]) := ⟨by kernel_rfl⟩
instance : CS Try.prog 90 2 := ⟨⟨_, Try.underlying90, trivial⟩, by kernel_rfl⟩
instance : CN Try.prog 90 2 := ⟨by kernel_rfl⟩
instance : CZ Try.prog 90 (.agg #[.int .i64 0, .int .i64 0]) := ⟨by kernel_rfl⟩
instance : C1 Try.prog 97 := ⟨⟨_, Try.underlying97, trivial⟩⟩
instance : CN Try.prog 97 1 := ⟨by kernel_rfl⟩
instance : CZ Try.prog 97 (.map none) := ⟨by kernel_rfl⟩
instance : C1 Try.prog 98 := ⟨⟨_, Try.underlying98, trivial⟩⟩
instance : CN Try.prog 98 1 := ⟨by kernel_rfl⟩
instance : CZ Try.prog 98 (.map none) := ⟨by kernel_rfl⟩
instance : CS Try.prog 100 9 := ⟨⟨_, Try.underlying100, trivial⟩, by kernel_rfl⟩
instance : CN Try.prog 100 9 := ⟨by kernel_rfl⟩
instance : CZ Try.prog 100 (.agg #[.slice none 0 0, .int .i64 0, .slice none 0 0, .slice none 0 0, .slice none 0 0, .map none, .map none, .slice none 0 0, .slice none 0 0]) := ⟨by kernel_rfl⟩
instance : CS Try.prog 110 2 := ⟨⟨_, Try.underlying110, trivial⟩, by kernel_rfl⟩
instance : CN Try.prog 110 2 := ⟨by kernel_rfl⟩
instance : CZ Try.prog 110 (.agg #[.int .i64 0, .int .i64 0]) := ⟨by kernel_rfl⟩
instance : CS Try.prog 149 2 := ⟨⟨_, Try.underlying149, trivial⟩, by kernel_rfl⟩
instance : CN Try.prog 149 2 := ⟨by kernel_rfl⟩
instance : CZ Try.prog 149 (.agg #[.int .i64 0, .int .i64 0]) := ⟨by kernel_rfl⟩
instance : CS Try.prog 155 3 := ⟨⟨_, Try.underlying155, trivial⟩, by kernel_rfl⟩
instance : CN Try.prog 155 3 := ⟨by kernel_rfl⟩
instance : CZ Try.prog 155 (.agg #[.int .i64 0, .slice none 0 0, .slice none 0 0]) := ⟨by kernel_rfl⟩
instance : CS Try.prog 161 2 := ⟨⟨_, Try.underlying161, trivial⟩, by kernel_rfl⟩
instance : CN Try.prog 161 2 := ⟨by kernel_rfl⟩
instance : CZ Try.prog 161 (.agg #[.int .i64 0, .int .i64 0]) := ⟨by kernel_rfl⟩
instance : CF Try.prog 30 0 0 := ⟨_, _, Try.underlying30, rfl, rfl, 0, by kernel_rfl⟩
instance : CF Try.prog 30 1 1 := ⟨_, _, Try.underlying30, rfl, rfl, 0, by kernel_rfl⟩
instance : CF Try.prog 30 2 2 := ⟨_, _, Try.underlying30, rfl, rfl, 0, by kernel_rfl⟩
instance : CF Try.prog 30 3 3 := ⟨_, _, Try.underlying30, rfl, rfl, 0, by kernel_rfl⟩
instance : CF Try.prog 30 4 4 := ⟨_, _, Try.underlying30, rfl, rfl, 0, by kernel_rfl⟩
instance : CF Try.prog 33 0 0 := ⟨_, _, Try.underlying33, rfl, rfl, 4, by kernel_rfl⟩
instance : CF Try.prog 33 1 5 := ⟨_, _, Try.underlying33, rfl, rfl, 0, by kernel_rfl⟩
instance : CF Try.prog 33 2 6 := ⟨_, _, Try.underlying33, rfl, rfl, 0, by kernel_rfl⟩
instance : CF Try.prog 33 3 7 := ⟨_, _, Try.underlying33, rfl, rfl, 0, by kernel_rfl⟩
instance : CF Try.prog 43 0 0 := ⟨_, _, Try.underlying43, rfl, rfl, 0, by kernel_rfl⟩
instance : CF Try.prog 43 1 1 := ⟨_, _, Try.underlying43, rfl, rfl, 0, by kernel_rfl⟩
instance : CF Try.prog 45 0 0 := ⟨_, _, Try.underlying45, rfl, rfl, 0, by kernel_rfl⟩
instance : CF Try.prog 45 1 1 := ⟨_, _, Try.underlying45, rfl, rfl, 0, by kernel_rfl⟩
instance : CF Try.prog 45 2 2 := ⟨_, _, Try.underlying45, rfl, rfl, 0, by kernel_rfl⟩
instance : CF Try.prog 45 3 3 := ⟨_, _, Try.underlying45, rfl, rfl, 0, by kernel_rfl⟩
instance : CF Try.prog 45 4 4 := ⟨_, _, Try.underlying45, rfl, rfl, 0, by kernel_rfl⟩
instance : CF Try.prog 45 5 5 := ⟨_, _, Try.underlying45, rfl, rfl, 0, by kernel_rfl⟩
instance : CF Try.prog 47 0 0 := ⟨_, _, Try.underlying47, rfl, rfl, 0, by kernel_rfl⟩
instance : CF Try.prog 47 1 1 := ⟨_, _, Try.underlying47, rfl, rfl, 0, by kernel_rfl⟩
instance : CF Try.prog 47 2 2 := ⟨_, _, Try.underlying47, rfl, rfl, 0, by kernel_rfl⟩
instance : CF Try.prog 47 3 3 := ⟨_, _, Try.underlying47, rfl, rfl, 0, by kernel_rfl⟩
instance : CF Try.prog 53 0 0 := ⟨_, _, Try.underlying53, rfl, rfl, 0, by kernel_rfl⟩
instance : CF Try.prog 53 1 1 := ⟨_, _, Try.underlying53, rfl, rfl, 0, by kernel_rfl⟩
instance : CF Try.prog 53 2 2 := ⟨_, _, Try.underlying53, rfl, rfl, 0, by kernel_rfl⟩
instance : CF Try.prog 53 3 3 := ⟨_, _, Try.underlying53, rfl, rfl, 0, by kernel_rfl⟩
instance : CF Try.prog 56 0 0 := ⟨_, _, Try.underlying56, rfl, rfl, 0, by kernel_rfl⟩
instance : CF Try.prog 56 1 1 := ⟨_, _, Try.underlying56, rfl, rfl, 0, by kernel_rfl⟩
instance : CF Try.prog 56 2 2 := ⟨_, _, Try.underlying56, rfl, rfl, 0, by kernel_rfl⟩
instance : CF Try.prog 62 0 0 := ⟨_, _, Try.underlying62, rfl, rfl, 0, by kernel_rfl⟩
instance : CF Try.prog 62 1 1 := ⟨_, _, Try.underlying62, rfl, rfl, 0, by kernel_rfl⟩
instance : CF Try.prog 62 2 2 := ⟨_, _, Try.underlying62, rfl, rfl, 0, by kernel_rfl⟩
instance : CF Try.prog 62 3 3 := ⟨_, _, Try.underlying62, rfl, rfl, 0, by kernel_rfl⟩
instance : CF Try.prog 62 4 4 := ⟨_, _, Try.underlying62, rfl, rfl, 0, by kernel_rfl⟩
instance : CF Try.prog 62 5 5 := ⟨_, _, Try.underlying62, rfl, rfl, 0, by kernel_rfl⟩
instance : CF Try.prog 62 6 6 := ⟨_, _, Try.underlying62, rfl, rfl, 0, by kernel_rfl⟩
instance : CF Try.prog 62 7 7 := ⟨_, _, Try.underlying62, rfl, rfl, 0, by kernel_rfl⟩
instance : CF Try.prog 65 0 0 := ⟨_, _, Try.underlying65, rfl, rfl, 0, by kernel_rfl⟩
instance : CF Try.prog 65 1 1 := ⟨_, _, Try.underlying65, rfl, rfl, 0, by kernel_rfl⟩
instance : CF Try.prog 70 0 0 := ⟨_, _, Try.underlying70, rfl, rfl, 0, by kernel_rfl⟩
instance : CF Try.prog 70 1 1 := ⟨_, _, Try.underlying70, rfl, rfl, 0, by kernel_rfl⟩
instance : CF Try.prog 78 0 0 := ⟨_, _, Try.underlying78, rfl, rfl, 1, by kernel_rfl⟩
instance : CF Try.prog 78 1 2 := ⟨_, _, Try.underlying78, rfl, rfl, 0, by kernel_rfl⟩
instance : CF Try.prog 78 2 3 := ⟨_, _, Try.underlying78, rfl, rfl, 0, by kernel_rfl⟩
instance : CF Try.prog 78 3 4 := ⟨_, _, Try.underlying78, rfl, rfl, 0, by kernel_rfl⟩
instance : CF Try.prog 80 0 0 := ⟨_, _, Try.underlying80, rfl, rfl, 0, by kernel_rfl⟩
instance : CF Try.prog 80 1 1 := ⟨_, _, Try.underlying80, rfl, rfl, 0, by kernel_rfl⟩
instance : CF Try.prog 80 2 2 := ⟨_, _, Try.underlying80, rfl, rfl, 0, by kernel_rfl⟩
instance : CF Try.prog 80 3 3 := ⟨_, _, Try.underlying80, rfl, rfl, 0, by kernel_rfl⟩
instance : CF Try.prog 80 4 4 := ⟨_, _, Try.underlying80, rfl, rfl, 0, by kernel_rfl⟩
instance : CF Try.prog 87 0 0 := ⟨_, _, Try.underlying87, rfl, rfl, 1, by kernel_rfl⟩
instance : CF Try.prog 87 1 2 := ⟨_, _, Try.underlying87, rfl, rfl, 1, by kernel_rfl⟩
instance : CF Try.prog 87 2 4 := ⟨_, _, Try.underlying87, rfl, rfl, 0, by kernel_rfl⟩
instance : CF Try.prog 87 3 5 := ⟨_, _, Try.underlying87, rfl, rfl, 0, by kernel_rfl⟩
instance : CF Try.prog 90 0 0 := ⟨_, _, Try.underlying90, rfl, rfl, 0, by kernel_rfl⟩
instance : CF Try.prog 90 1 1 := ⟨_, _, Try.underlying90, rfl, rfl, 0, by kernel_rfl⟩
instance : CF Try.prog 100 0 0 := ⟨_, _, Try.underlying100, rfl, rfl, 4, by kernel_rfl⟩
instance : CF Try.prog 100 1 5 := ⟨_, _, Try.underlying100, rfl, rfl, 0, by kernel_rfl⟩
instance : CF Try.prog 100 2 6 := ⟨_, _, Try.underlying100, rfl, rfl, 0, by kernel_rfl⟩
instance : CF Try.prog 100 3 7 := ⟨_, _, Try.underlying100, rfl, rfl, 0, by kernel_rfl⟩
instance : CF Try.prog 100 4 8 := ⟨_, _, Try.underlying100, rfl, rfl, 0, by kernel_rfl⟩
instance : CF Try.prog 155 0 0 := ⟨_, _, Try.underlying155, rfl, rfl, 0, by kernel_rfl⟩
instance : CF Try.prog 155 1 1 := ⟨_, _, Try.underlying155, rfl, rfl, 0, by kernel_rfl⟩
instance : CF Try.prog 155 2 2 := ⟨_, _, Try.underlying155, rfl, rfl, 0, by kernel_rfl⟩
instance : CF Try.prog 161 0 0 := ⟨_, _, Try.underlying161, rfl, rfl, 0, by kernel_rfl⟩
instance : CF Try.prog 161 1 1 := ⟨_, _, Try.underlying161, rfl, rfl, 0, by kernel_rfl⟩
instance : CL Try.prog 22 3 1 8 (.int .i64 0) := CL.of Try.underlying22 (by kernel_rfl) rfl (by decide)
instance : CL Try.prog 25 62 8 72 (.agg #[.int .i64 0, .string ⟨#[]⟩, .int .i64 0, .int .i64 0, .int .i64 0, .int .i64 0, .int .i64 0, .int .i64 0]) := CL.of Try.underlying25 (by kernel_rfl) rfl (by decide)
instance : CL Try.prog 26 90 2 16 (.agg #[.int .i64 0, .int .i64 0]) := CL.of Try.underlying26 (by kernel_rfl) rfl (by decide)
instance : CL Try.prog 27 53 4 32 (.agg #[.int .i64 0, .int .i64 0, .int .i64 0, .int .i64 0]) := CL.of Try.underlying27 (by kernel_rfl) rfl (by decide)
instance : CL Try.prog 28 45 6 80 (.agg #[.int .i64 0, .int .i64 0, .int .i64 0, .int .i64 0, .slice none 0 0, .slice none 0 0]) := CL.of Try.underlying28 (by kernel_rfl) rfl (by decide)
instance : CL Try.prog 31 41 1 24 (.slice none 0 0) := CL.of Try.underlying31 (by kernel_rfl) rfl (by decide)
instance : CL Try.prog 36 43 2 32 (.agg #[.int .i64 0, .slice none 0 0]) := CL.of Try.underlying36 (by kernel_rfl) rfl (by decide)
instance : CL Try.prog 37 56 5 40 (.agg #[.int .i64 0, .int .i64 0, .int .i64 0, .int .i64 0, .int .i64 0]) := CL.of Try.underlying37 (by kernel_rfl) rfl (by decide)
instance : CL Try.prog 41 47 4 32 (.agg #[.int .i64 0, .int .i64 0, .int .i64 0, .int .i64 0]) := CL.of Try.underlying41 (by kernel_rfl) rfl (by decide)
instance : CL Try.prog 60 4 1 1 (.bool false) := CL.of Try.underlying60 (by kernel_rfl) rfl (by decide)
instance : CL Try.prog 68 70 2 16 (.agg #[.int .i64 0, .int .i64 0]) := CL.of Try.underlying68 (by kernel_rfl) rfl (by decide)
instance : CL Try.prog 73 80 5 40 (.agg #[.int .i64 0, .int .i64 0, .int .i64 0, .int .i64 0, .int .i64 0]) := CL.of Try.underlying73 (by kernel_rfl) rfl (by decide)
instance : CL Try.prog 81 87 6 40 (.agg #[.int .i64 0, .int .i64 0, .int .i64 0, .int .i64 0, .bool false, .bool false]) := CL.of Try.underlying81 (by kernel_rfl) rfl (by decide)
instance : CL Try.prog 111 110 2 16 (.agg #[.int .i64 0, .int .i64 0]) := CL.of Try.underlying111 (by kernel_rfl) rfl (by decide)
instance : CL Try.prog 132 161 2 16 (.agg #[.int .i64 0, .int .i64 0]) := CL.of Try.underlying132 (by kernel_rfl) rfl (by decide)
instance : CL Try.prog 139 5 1 1 (.int .u8 0) := CL.of Try.underlying139 (by kernel_rfl) rfl (by decide)
instance : CB Try.prog 30 [.slice none 0 0, .int .i64 0, .slice none 0 0, .slice none 0 0, .slice none 0 0] #[(0, 1), (1, 1), (2, 1), (3, 1), (4, 1)] := ⟨.agg #[.slice none 0 0, .int .i64 0, .slice none 0 0, .slice none 0 0, .slice none 0 0], _, by kernel_rfl, rfl, Try.underlying30, fun _ => by kernel_rfl⟩
instance : CB Try.prog 33 [.slice none 0 0, .int .i64 0, .slice none 0 0, .slice none 0 0, .slice none 0 0, .slice none 0 0, .slice none 0 0, .bool false] #[(0, 5), (5, 1), (6, 1), (7, 1)] := ⟨.agg #[.slice none 0 0, .int .i64 0, .slice none 0 0, .slice none 0 0, .slice none 0 0, .slice none 0 0, .slice none 0 0, .bool false], _, by kernel_rfl, rfl, Try.underlying33, fun _ => by kernel_rfl⟩
instance : CB Try.prog 43 [.int .i64 0, .slice none 0 0] #[(0, 1), (1, 1)] := ⟨.agg #[.int .i64 0, .slice none 0 0], _, by kernel_rfl, rfl, Try.underlying43, fun _ => by kernel_rfl⟩
instance : CB Try.prog 45 [.int .i64 0, .int .i64 0, .int .i64 0, .int .i64 0, .slice none 0 0, .slice none 0 0] #[(0, 1), (1, 1), (2, 1), (3, 1), (4, 1), (5, 1)] := ⟨.agg #[.int .i64 0, .int .i64 0, .int .i64 0, .int .i64 0, .slice none 0 0, .slice none 0 0], _, by kernel_rfl, rfl, Try.underlying45, fun _ => by kernel_rfl⟩
instance : CB Try.prog 47 [.int .i64 0, .int .i64 0, .int .i64 0, .int .i64 0] #[(0, 1), (1, 1), (2, 1), (3, 1)] := ⟨.agg #[.int .i64 0, .int .i64 0, .int .i64 0, .int .i64 0], _, by kernel_rfl, rfl, Try.underlying47, fun _ => by kernel_rfl⟩
instance : CB Try.prog 53 [.int .i64 0, .int .i64 0, .int .i64 0, .int .i64 0] #[(0, 1), (1, 1), (2, 1), (3, 1)] := ⟨.agg #[.int .i64 0, .int .i64 0, .int .i64 0, .int .i64 0], _, by kernel_rfl, rfl, Try.underlying53, fun _ => by kernel_rfl⟩
instance : CB Try.prog 56 [.int .i64 0, .int .i64 0, .int .i64 0, .int .i64 0, .int .i64 0] #[(0, 1), (1, 1), (2, 1), (3, 1), (4, 1)] := ⟨.agg #[.int .i64 0, .int .i64 0, .int .i64 0, .int .i64 0, .int .i64 0], _, by kernel_rfl, rfl, Try.underlying56, fun _ => by kernel_rfl⟩
instance : CB Try.prog 62 [.int .i64 0, .string ⟨#[]⟩, .int .i64 0, .int .i64 0, .int .i64 0, .int .i64 0, .int .i64 0, .int .i64 0] #[(0, 1), (1, 1), (2, 1), (3, 1), (4, 1), (5, 1), (6, 1), (7, 1)] := ⟨.agg #[.int .i64 0, .string ⟨#[]⟩, .int .i64 0, .int .i64 0, .int .i64 0, .int .i64 0, .int .i64 0, .int .i64 0], _, by kernel_rfl, rfl, Try.underlying62, fun _ => by kernel_rfl⟩
instance : CB Try.prog 65 [.slice none 0 0, .int .i64 0] #[(0, 1), (1, 1)] := ⟨.agg #[.slice none 0 0, .int .i64 0], _, by kernel_rfl, rfl, Try.underlying65, fun _ => by kernel_rfl⟩
instance : CB Try.prog 70 [.int .i64 0, .int .i64 0] #[(0, 1), (1, 1)] := ⟨.agg #[.int .i64 0, .int .i64 0], _, by kernel_rfl, rfl, Try.underlying70, fun _ => by kernel_rfl⟩
instance : CB Try.prog 78 [.int .i64 0, .int .i64 0, .slice none 0 0, .int .i64 0, .slice none 0 0] #[(0, 2), (2, 1), (3, 1), (4, 1)] := ⟨.agg #[.int .i64 0, .int .i64 0, .slice none 0 0, .int .i64 0, .slice none 0 0], _, by kernel_rfl, rfl, Try.underlying78, fun _ => by kernel_rfl⟩
instance : CB Try.prog 80 [.int .i64 0, .int .i64 0, .int .i64 0, .int .i64 0, .int .i64 0] #[(0, 1), (1, 1), (2, 1), (3, 1), (4, 1)] := ⟨.agg #[.int .i64 0, .int .i64 0, .int .i64 0, .int .i64 0, .int .i64 0], _, by kernel_rfl, rfl, Try.underlying80, fun _ => by kernel_rfl⟩
instance : CB Try.prog 87 [.int .i64 0, .int .i64 0, .int .i64 0, .int .i64 0, .bool false, .bool false] #[(0, 2), (2, 2), (4, 1), (5, 1)] := ⟨.agg #[.int .i64 0, .int .i64 0, .int .i64 0, .int .i64 0, .bool false, .bool false], _, by kernel_rfl, rfl, Try.underlying87, fun _ => by kernel_rfl⟩
instance : CB Try.prog 90 [.int .i64 0, .int .i64 0] #[(0, 1), (1, 1)] := ⟨.agg #[.int .i64 0, .int .i64 0], _, by kernel_rfl, rfl, Try.underlying90, fun _ => by kernel_rfl⟩
instance : CB Try.prog 100 [.slice none 0 0, .int .i64 0, .slice none 0 0, .slice none 0 0, .slice none 0 0, .map none, .map none, .slice none 0 0, .slice none 0 0] #[(0, 5), (5, 1), (6, 1), (7, 1), (8, 1)] := ⟨.agg #[.slice none 0 0, .int .i64 0, .slice none 0 0, .slice none 0 0, .slice none 0 0, .map none, .map none, .slice none 0 0, .slice none 0 0], _, by kernel_rfl, rfl, Try.underlying100, fun _ => by kernel_rfl⟩
instance : CA Try.prog 110 2 3 1 [.int .i64 0, .int .i64 0] := ⟨Try.underlying110, by kernel_rfl, .agg #[.int .i64 0, .int .i64 0], by kernel_rfl, rfl⟩
instance : CB Try.prog 149 [.int .i64 0, .int .i64 0] #[(0, 1), (1, 1)] := ⟨.agg #[.int .i64 0, .int .i64 0], _, by kernel_rfl, rfl, Try.underlying149, fun _ => by kernel_rfl⟩
instance : CB Try.prog 155 [.int .i64 0, .slice none 0 0, .slice none 0 0] #[(0, 1), (1, 1), (2, 1)] := ⟨.agg #[.int .i64 0, .slice none 0 0, .slice none 0 0], _, by kernel_rfl, rfl, Try.underlying155, fun _ => by kernel_rfl⟩
instance : CB Try.prog 161 [.int .i64 0, .int .i64 0] #[(0, 1), (1, 1)] := ⟨.agg #[.int .i64 0, .int .i64 0], _, by kernel_rfl, rfl, Try.underlying161, fun _ => by kernel_rfl⟩
instance : CFn Try.prog 8 := CFn.of Try.func8 rfl (by decide +kernel)
instance : CFn Try.prog 9 := CFn.of Try.func9 rfl (by decide +kernel)
instance : CFn Try.prog 10 := CFn.of Try.func10 rfl (by decide +kernel)
instance : CFn Try.prog 11 := CFn.of Try.func11 rfl (by decide +kernel)
instance : CFn Try.prog 12 := CFn.of Try.func12 rfl (by decide +kernel)
instance : CFn Try.prog 13 := CFn.of Try.func13 rfl (by decide +kernel)
instance : CFn Try.prog 14 := CFn.of Try.func14 rfl (by decide +kernel)
instance : CFn Try.prog 15 := CFn.of Try.func15 rfl (by decide +kernel)
instance : CFn Try.prog 16 := CFn.of Try.func16 rfl (by decide +kernel)
instance : CFn Try.prog 17 := CFn.of Try.func17 rfl (by decide +kernel)
instance : CFn Try.prog 18 := CFn.of Try.func18 rfl (by decide +kernel)
instance : CFn Try.prog 19 := CFn.of Try.func19 rfl (by decide +kernel)
instance : CFn Try.prog 20 := CFn.of Try.func20 rfl (by decide +kernel)
instance : CFn Try.prog 21 := CFn.of Try.func21 rfl (by decide +kernel)
instance : CFn Try.prog 22 := CFn.of Try.func22 rfl (by decide +kernel)
instance : CFn Try.prog 23 := CFn.of Try.func23 rfl (by decide +kernel)
instance : CFn Try.prog 24 := CFn.of Try.func24 rfl (by decide +kernel)
instance : CFn Try.prog 25 := CFn.of Try.func25 rfl (by decide +kernel)
instance : CFn Try.prog 26 := CFn.of Try.func26 rfl (by decide +kernel)
instance : CFn Try.prog 27 := CFn.of Try.func27 rfl (by decide +kernel)
instance : CFn Try.prog 28 := CFn.of Try.func28 rfl (by decide +kernel)
instance : CFn Try.prog 29 := CFn.of Try.func29 rfl (by decide +kernel)
instance : CFn Try.prog 30 := CFn.of Try.func30 rfl (by decide +kernel)
instance : CFn Try.prog 31 := CFn.of Try.func31 rfl (by decide +kernel)
instance : CFn Try.prog 32 := CFn.of Try.func32 rfl (by decide +kernel)
instance : CFn Try.prog 33 := CFn.of Try.func33 rfl (by decide +kernel)
instance : CFn Try.prog 34 := CFn.of Try.func34 rfl (by decide +kernel)
instance : CFn Try.prog 35 := CFn.of Try.func35 rfl (by decide +kernel)
instance : CFn Try.prog 36 := CFn.of Try.func36 rfl (by decide +kernel)
instance : CFn Try.prog 37 := CFn.of Try.func37 rfl (by decide +kernel)
instance : CFn Try.prog 38 := CFn.of Try.func38 rfl (by decide +kernel)
instance : CFn Try.prog 39 := CFn.of Try.func39 rfl (by decide +kernel)
instance : CFn Try.prog 40 := CFn.of Try.func40 rfl (by decide +kernel)
instance : CFn Try.prog 41 := CFn.of Try.func41 rfl (by decide +kernel)
instance : CFn Try.prog 42 := CFn.of Try.func42 rfl (by decide +kernel)
instance : CFn Try.prog 43 := CFn.of Try.func43 rfl (by decide +kernel)
instance : CFn Try.prog 44 := CFn.of Try.func44 rfl (by decide +kernel)
instance : CFn Try.prog 45 := CFn.of Try.func45 rfl (by decide +kernel)
instance : CFn Try.prog 46 := CFn.of Try.func46 rfl (by decide +kernel)
instance : CFn Try.prog 47 := CFn.of Try.func47 rfl (by decide +kernel)
instance : CFn Try.prog 48 := CFn.of Try.func48 rfl (by decide +kernel)
instance : CFn Try.prog 49 := CFn.of Try.func49 rfl (by decide +kernel)
instance : CFn Try.prog 50 := CFn.of Try.func50 rfl (by decide +kernel)
instance : CFn Try.prog 51 := CFn.of Try.func51 rfl (by decide +kernel)
instance : CFn Try.prog 52 := CFn.of Try.func52 rfl (by decide +kernel)
instance : CFn Try.prog 53 := CFn.of Try.func53 rfl (by decide +kernel)
instance : CFn Try.prog 54 := CFn.of Try.func54 rfl (by decide +kernel)
instance : CFn Try.prog 55 := CFn.of Try.func55 rfl (by decide +kernel)
instance : CFn Try.prog 56 := CFn.of Try.func56 rfl (by decide +kernel)
instance : CFn Try.prog 57 := CFn.of Try.func57 rfl (by decide +kernel)
instance : CFn Try.prog 58 := CFn.of Try.func58 rfl (by decide +kernel)
instance : CFn Try.prog 59 := CFn.of Try.func59 rfl (by decide +kernel)
instance : CFn Try.prog 60 := CFn.of Try.func60 rfl (by decide +kernel)
instance : CFn Try.prog 61 := CFn.of Try.func61 rfl (by decide +kernel)
instance : CFn Try.prog 62 := CFn.of Try.func62 rfl (by decide +kernel)
instance : CFn Try.prog 63 := CFn.of Try.func63 rfl (by decide +kernel)
instance : CFn Try.prog 64 := CFn.of Try.func64 rfl (by decide +kernel)
instance : CFn Try.prog 65 := CFn.of Try.func65 rfl (by decide +kernel)
instance : CFn Try.prog 66 := CFn.of Try.func66 rfl (by decide +kernel)
instance : CFn Try.prog 67 := CFn.of Try.func67 rfl (by decide +kernel)
instance : CFn Try.prog 68 := CFn.of Try.func68 rfl (by decide +kernel)
instance : CFn Try.prog 69 := CFn.of Try.func69 rfl (by decide +kernel)
instance : CFn Try.prog 70 := CFn.of Try.func70 rfl (by decide +kernel)
instance : CFn Try.prog 71 := CFn.of Try.func71 rfl (by decide +kernel)
instance : CFn Try.prog 72 := CFn.of Try.func72 rfl (by decide +kernel)
instance : CFn Try.prog 73 := CFn.of Try.func73 rfl (by decide +kernel)
instance : CFn Try.prog 74 := CFn.of Try.func74 rfl (by decide +kernel)
instance : CFn Try.prog 75 := CFn.of Try.func75 rfl (by decide +kernel)
instance : CFn Try.prog 76 := CFn.of Try.func76 rfl (by decide +kernel)
instance : CFn Try.prog 77 := CFn.of Try.func77 rfl (by decide +kernel)
instance : CFn Try.prog 78 := CFn.of Try.func78 rfl (by decide +kernel)
instance : CFn Try.prog 79 := CFn.of Try.func79 rfl (by decide +kernel)
instance : CFn Try.prog 80 := CFn.of Try.func80 rfl (by decide +kernel)
instance : CFn Try.prog 81 := CFn.of Try.func81 rfl (by decide +kernel)
instance : CFn Try.prog 82 := CFn.of Try.func82 rfl (by decide +kernel)
instance : CFn Try.prog 83 := CFn.of Try.func83 rfl (by decide +kernel)
instance : CFn Try.prog 84 := CFn.of Try.func84 rfl (by decide +kernel)
instance : CFn Try.prog 85 := CFn.of Try.func85 rfl (by decide +kernel)
instance : CFn Try.prog 86 := CFn.of Try.func86 rfl (by decide +kernel)
instance : CFn Try.prog 87 := CFn.of Try.func87 rfl (by decide +kernel)
instance : CFn Try.prog 88 := CFn.of Try.func88 rfl (by decide +kernel)
instance : CFn Try.prog 89 := CFn.of Try.func89 rfl (by decide +kernel)
instance : CFn Try.prog 90 := CFn.of Try.func90 rfl (by decide +kernel)
instance : CFn Try.prog 91 := CFn.of Try.func91 rfl (by decide +kernel)
instance : CFn Try.prog 92 := CFn.of Try.func92 rfl (by decide +kernel)
instance : CFn Try.prog 93 := CFn.of Try.func93 rfl (by decide +kernel)
instance : CFn Try.prog 94 := CFn.of Try.func94 rfl (by decide +kernel)
instance : CFn Try.prog 95 := CFn.of Try.func95 rfl (by decide +kernel)
instance : CFn Try.prog 96 := CFn.of Try.func96 rfl (by decide +kernel)
instance : CFn Try.prog 97 := CFn.of Try.func97 rfl (by decide +kernel)
instance : CFn Try.prog 98 := CFn.of Try.func98 rfl (by decide +kernel)
instance : CFn Try.prog 99 := CFn.of Try.func99 rfl (by decide +kernel)
instance : CFn Try.prog 100 := CFn.of Try.func100 rfl (by decide +kernel)
instance : CFn Try.prog 101 := CFn.of Try.func101 rfl (by decide +kernel)
instance : CFn Try.prog 102 := CFn.of Try.func102 rfl (by decide +kernel)
instance : CM Try.prog := ⟨by kernel_rfl⟩
instance : CKV Try.prog 97 (.int .i64 0) := ⟨_, _, Try.underlying97, Try.underlying3, by kernel_rfl⟩
instance : CKV Try.prog 98 (.slice none 0 0) := ⟨_, _, Try.underlying98, Try.underlying3, by kernel_rfl⟩
instance : CK Try.prog 127 kvI := CK.of Try.underlying127 Try.underlying3 (fun _ => rfl) (fun _ _ h => (Value.int.inj h).2) (by kernel_rfl)
instance : CK Try.prog 145 kvZ := CK.of Try.underlying145 Try.underlying9 (fun _ => trivial) (fun _ _ h => Value.string.inj h) (by kernel_rfl)
theorem qin56 (d : Nat) (a0 b0 : Int) (a1 b1 : Int) (a2 b2 : Int) (a3 b3 : Int) (a4 b4 : Int) (w : World) : (Op.equalIn (d + 3) 56 (.agg #[.int .i64 a0, .int .i64 a1, .int .i64 a2, .int .i64 a3, .int .i64 a4]) (.agg #[.int .i64 b0, .int .i64 b1, .int .i64 b2, .int .i64 b3, .int .i64 b4])).run Try.prog w = .ok (decide (a0 = b0 ∧ a1 = b1 ∧ a2 = b2 ∧ a3 = b3 ∧ a4 = b4)) w := by
  rw [run_equalIn_agg w (d + 2) 56 _ _ (by kernel_rfl) (by kernel_rfl)]
  rw [show Try.prog.fieldsOf 56 = #[{ name := "Kind", type := 3, offset := 0, embedded := false, tag := "", pkgPath := "", byteOffset := 0 }, { name := "Cut", type := 3, offset := 1, embedded := false, tag := "", pkgPath := "", byteOffset := 8 }, { name := "Other", type := 3, offset := 2, embedded := false, tag := "", pkgPath := "", byteOffset := 16 }, { name := "Element", type := 3, offset := 3, embedded := false, tag := "", pkgPath := "", byteOffset := 24 }, { name := "Time", type := 3, offset := 4, embedded := false, tag := "", pkgPath := "", byteOffset := 32 }] from by kernel_rfl]
  have p3 : ∀ cs off v w, cs[off]? = some v → (part 3 cs off).run Try.prog w = .ok v w := fun cs off v w h => by simp [part, Zdd, h]
  have q3 := fun d a b w => run_equalIn_int (P := Try.prog) w d 3 .i64 .i64 a b Try.underlying3
  simp [Op.eqFields, p3, q3]
  repeat (split <;> simp_all)
theorem yeq56 {N : Nat} {ρ : Env} {w : World} {d : Option Nat} {ty : TypeId} {ps : String} {af : Array Edge} {gd : Option (Nat × Bool)} {x y : Operand} {yt : TypeId} {a0 b0 : Int} {a1 b1 : Int} {a2 b2 : Int} {a3 b3 : Int} {a4 b4 : Int} (hx : evo ρ x = some (.agg #[.int .i64 a0, .int .i64 a1, .int .i64 a2, .int .i64 a3, .int .i64 a4])) (hy : evo ρ y = some (.agg #[.int .i64 b0, .int .i64 b1, .int .i64 b2, .int .i64 b3, .int .i64 b4])) : Yv Try.prog N ρ w ⟨d, .binOp .eql 56 x y yt, ty, ps, af, gd⟩ (.bool (decide (a0 = b0 ∧ a1 = b1 ∧ a2 = b2 ∧ a3 = b3 ∧ a4 = b4))) := yv_eqS (by kernel_rfl) (qin56 9997 a0 b0 a1 b1 a2 b2 a3 b3 a4 b4 w) hx hy
theorem qin62 (d : Nat) (a0 b0 : Int) (a1 b1 : ByteArray) (a2 b2 : Int) (a3 b3 : Int) (a4 b4 : Int) (a5 b5 : Int) (a6 b6 : Int) (a7 b7 : Int) (w : World) : (Op.equalIn (d + 3) 62 (.agg #[.int .i64 a0, .string a1, .int .i64 a2, .int .i64 a3, .int .i64 a4, .int .i64 a5, .int .i64 a6, .int .i64 a7]) (.agg #[.int .i64 b0, .string b1, .int .i64 b2, .int .i64 b3, .int .i64 b4, .int .i64 b5, .int .i64 b6, .int .i64 b7])).run Try.prog w = .ok (decide (a0 = b0 ∧ a1 = b1 ∧ a2 = b2 ∧ a3 = b3 ∧ a4 = b4 ∧ a5 = b5 ∧ a6 = b6 ∧ a7 = b7)) w := by
  rw [run_equalIn_agg w (d + 2) 62 _ _ (by kernel_rfl) (by kernel_rfl)]
  rw [show Try.prog.fieldsOf 62 = #[{ name := "Kind", type := 3, offset := 0, embedded := false, tag := "", pkgPath := "", byteOffset := 0 }, { name := "Name", type := 9, offset := 1, embedded := false, tag := "", pkgPath := "", byteOffset := 8 }, { name := "Parent", type := 3, offset := 2, embedded := false, tag := "", pkgPath := "", byteOffset := 24 }, { name := "Side", type := 3, offset := 3, embedded := false, tag := "", pkgPath := "", byteOffset := 32 }, { name := "Length", type := 3, offset := 4, embedded := false, tag := "", pkgPath := "", byteOffset := 40 }, { name := "Grade", type := 3, offset := 5, embedded := false, tag := "", pkgPath := "", byteOffset := 48 }, { name := "Curve", type := 3, offset := 6, embedded := false, tag := "", pkgPath := "", byteOffset := 56 }, { name := "Power", type := 3, offset := 7, embedded := false, tag := "", pkgPath := "", byteOffset := 64 }] from by kernel_rfl]
  have p3 : ∀ cs off v w, cs[off]? = some v → (part 3 cs off).run Try.prog w = .ok v w := fun cs off v w h => by simp [part, Zdd, h]
  have q3 := fun d a b w => run_equalIn_int (P := Try.prog) w d 3 .i64 .i64 a b Try.underlying3
  have p9 : ∀ cs off v w, cs[off]? = some v → (part 9 cs off).run Try.prog w = .ok v w := fun cs off v w h => by simp [part, Zdd, h]
  have q9 : ∀ (d : Nat) (a b : ByteArray) (w : World), (Op.equalIn (d + 1) 9 (.string a) (.string b)).run Try.prog w = .ok (decide (a = b)) w := fun d a b w => by rw [run_equalIn_string (P := Try.prog) w d 9 a b Try.underlying9]; rw [Zi3]
  simp [Op.eqFields, p3, q3, p9, q9]
  repeat (split <;> simp_all)
theorem yeq62 {N : Nat} {ρ : Env} {w : World} {d : Option Nat} {ty : TypeId} {ps : String} {af : Array Edge} {gd : Option (Nat × Bool)} {x y : Operand} {yt : TypeId} {a0 b0 : Int} {a1 b1 : ByteArray} {a2 b2 : Int} {a3 b3 : Int} {a4 b4 : Int} {a5 b5 : Int} {a6 b6 : Int} {a7 b7 : Int} (hx : evo ρ x = some (.agg #[.int .i64 a0, .string a1, .int .i64 a2, .int .i64 a3, .int .i64 a4, .int .i64 a5, .int .i64 a6, .int .i64 a7])) (hy : evo ρ y = some (.agg #[.int .i64 b0, .string b1, .int .i64 b2, .int .i64 b3, .int .i64 b4, .int .i64 b5, .int .i64 b6, .int .i64 b7])) : Yv Try.prog N ρ w ⟨d, .binOp .eql 62 x y yt, ty, ps, af, gd⟩ (.bool (decide (a0 = b0 ∧ a1 = b1 ∧ a2 = b2 ∧ a3 = b3 ∧ a4 = b4 ∧ a5 = b5 ∧ a6 = b6 ∧ a7 = b7))) := yv_eqS (by kernel_rfl) (qin62 9997 a0 b0 a1 b1 a2 b2 a3 b3 a4 b4 a5 b5 a6 b6 a7 b7 w) hx hy
theorem qin149 (d : Nat) (a0 b0 : Int) (a1 b1 : Int) (w : World) : (Op.equalIn (d + 3) 149 (.agg #[.int .i64 a0, .int .i64 a1]) (.agg #[.int .i64 b0, .int .i64 b1])).run Try.prog w = .ok (decide (a0 = b0 ∧ a1 = b1)) w := by
  rw [run_equalIn_agg w (d + 2) 149 _ _ (by kernel_rfl) (by kernel_rfl)]
  rw [show Try.prog.fieldsOf 149 = #[{ name := "parent", type := 3, offset := 0, embedded := false, tag := "", pkgPath := "humpyard/layout", byteOffset := 0 }, { name := "side", type := 3, offset := 1, embedded := false, tag := "", pkgPath := "humpyard/layout", byteOffset := 8 }] from by kernel_rfl]
  have p3 : ∀ cs off v w, cs[off]? = some v → (part 3 cs off).run Try.prog w = .ok v w := fun cs off v w h => by simp [part, Zdd, h]
  have q3 := fun d a b w => run_equalIn_int (P := Try.prog) w d 3 .i64 .i64 a b Try.underlying3
  simp [Op.eqFields, p3, q3]
  by_cases h0 : a0 = b0 <;> by_cases h1 : a1 = b1 <;> simp [h0, h1]
end Go.Proofs.Ytdgminllobhncaa
namespace Go.Hy
theorem e.{u} {α : Sort u} {a : α} : a = a := rfl
section
variable {β : Type} {P : Program} {N : Nat} {ρ : Env} {w0 : World} {K : Kont} {M L : List Res} {m : Option β} {r : β} {ops : Array Oper} {rest : List Oper} {d : Nat} {ty : TypeId} {ps : String} {af : Array Edge} {gd : Option (Nat × Bool)} {op : Op}
theorem jy {v : Value} (hy : ∀ {w : World}, Yv P N ρ w ⟨some d, op, ty, ps, af, gd⟩ v) (hg : want ops ρ gd = some true) (hd : Nat.blt d N = true) (hk : Jg P N w0 M L ops rest ((d, v) :: ρ) m r K) : Jg P N w0 M L ops (⟨some d, op, ty, ps, af, gd⟩ :: rest) ρ m r K := jg_y (fun _ _ => hy) hg hd hk
theorem gz1 (k0 : Nat) {v0 : Value} (q : [look ρ k0] = [some v0]) (h : Jk w0 M L .normal [(k0, v0)] m r K) : Jg P N w0 M L ops [] ρ m r K := Zb3 _ (by
  injection q with h0 q
  exact ⟨h0, trivial⟩) h
theorem gz2 (k0 k1 : Nat) {v0 v1 : Value} (q : [look ρ k0, look ρ k1] = [some v0, some v1]) (h : Jk w0 M L .normal [(k0, v0), (k1, v1)] m r K) : Jg P N w0 M L ops [] ρ m r K := Zb3 _ (by
  injection q with h0 q
  injection q with h1 q
  exact ⟨h0, h1, trivial⟩) h
theorem gz3 (k0 k1 k2 : Nat) {v0 v1 v2 : Value} (q : [look ρ k0, look ρ k1, look ρ k2] = [some v0, some v1, some v2]) (h : Jk w0 M L .normal [(k0, v0), (k1, v1), (k2, v2)] m r K) : Jg P N w0 M L ops [] ρ m r K := Zb3 _ (by
  injection q with h0 q
  injection q with h1 q
  injection q with h2 q
  exact ⟨h0, h1, h2, trivial⟩) h
theorem gz4 (k0 k1 k2 k3 : Nat) {v0 v1 v2 v3 : Value} (q : [look ρ k0, look ρ k1, look ρ k2, look ρ k3] = [some v0, some v1, some v2, some v3]) (h : Jk w0 M L .normal [(k0, v0), (k1, v1), (k2, v2), (k3, v3)] m r K) : Jg P N w0 M L ops [] ρ m r K := Zb3 _ (by
  injection q with h0 q
  injection q with h1 q
  injection q with h2 q
  injection q with h3 q
  exact ⟨h0, h1, h2, h3, trivial⟩) h
theorem gz5 (k0 k1 k2 k3 k4 : Nat) {v0 v1 v2 v3 v4 : Value} (q : [look ρ k0, look ρ k1, look ρ k2, look ρ k3, look ρ k4] = [some v0, some v1, some v2, some v3, some v4]) (h : Jk w0 M L .normal [(k0, v0), (k1, v1), (k2, v2), (k3, v3), (k4, v4)] m r K) : Jg P N w0 M L ops [] ρ m r K := Zb3 _ (by
  injection q with h0 q
  injection q with h1 q
  injection q with h2 q
  injection q with h3 q
  injection q with h4 q
  exact ⟨h0, h1, h2, h3, h4, trivial⟩) h
theorem gz6 (k0 k1 k2 k3 k4 k5 : Nat) {v0 v1 v2 v3 v4 v5 : Value} (q : [look ρ k0, look ρ k1, look ρ k2, look ρ k3, look ρ k4, look ρ k5] = [some v0, some v1, some v2, some v3, some v4, some v5]) (h : Jk w0 M L .normal [(k0, v0), (k1, v1), (k2, v2), (k3, v3), (k4, v4), (k5, v5)] m r K) : Jg P N w0 M L ops [] ρ m r K := Zb3 _ (by
  injection q with h0 q
  injection q with h1 q
  injection q with h2 q
  injection q with h3 q
  injection q with h4 q
  injection q with h5 q
  exact ⟨h0, h1, h2, h3, h4, h5, trivial⟩) h
theorem gz7 (k0 k1 k2 k3 k4 k5 k6 : Nat) {v0 v1 v2 v3 v4 v5 v6 : Value} (q : [look ρ k0, look ρ k1, look ρ k2, look ρ k3, look ρ k4, look ρ k5, look ρ k6] = [some v0, some v1, some v2, some v3, some v4, some v5, some v6]) (h : Jk w0 M L .normal [(k0, v0), (k1, v1), (k2, v2), (k3, v3), (k4, v4), (k5, v5), (k6, v6)] m r K) : Jg P N w0 M L ops [] ρ m r K := Zb3 _ (by
  injection q with h0 q
  injection q with h1 q
  injection q with h2 q
  injection q with h3 q
  injection q with h4 q
  injection q with h5 q
  injection q with h6 q
  exact ⟨h0, h1, h2, h3, h4, h5, h6, trivial⟩) h
theorem gz8 (k0 k1 k2 k3 k4 k5 k6 k7 : Nat) {v0 v1 v2 v3 v4 v5 v6 v7 : Value} (q : [look ρ k0, look ρ k1, look ρ k2, look ρ k3, look ρ k4, look ρ k5, look ρ k6, look ρ k7] = [some v0, some v1, some v2, some v3, some v4, some v5, some v6, some v7]) (h : Jk w0 M L .normal [(k0, v0), (k1, v1), (k2, v2), (k3, v3), (k4, v4), (k5, v5), (k6, v6), (k7, v7)] m r K) : Jg P N w0 M L ops [] ρ m r K := Zb3 _ (by
  injection q with h0 q
  injection q with h1 q
  injection q with h2 q
  injection q with h3 q
  injection q with h4 q
  injection q with h5 q
  injection q with h6 q
  injection q with h7 q
  exact ⟨h0, h1, h2, h3, h4, h5, h6, h7, trivial⟩) h
theorem gz9 (k0 k1 k2 k3 k4 k5 k6 k7 k8 : Nat) {v0 v1 v2 v3 v4 v5 v6 v7 v8 : Value} (q : [look ρ k0, look ρ k1, look ρ k2, look ρ k3, look ρ k4, look ρ k5, look ρ k6, look ρ k7, look ρ k8] = [some v0, some v1, some v2, some v3, some v4, some v5, some v6, some v7, some v8]) (h : Jk w0 M L .normal [(k0, v0), (k1, v1), (k2, v2), (k3, v3), (k4, v4), (k5, v5), (k6, v6), (k7, v7), (k8, v8)] m r K) : Jg P N w0 M L ops [] ρ m r K := Zb3 _ (by
  injection q with h0 q
  injection q with h1 q
  injection q with h2 q
  injection q with h3 q
  injection q with h4 q
  injection q with h5 q
  injection q with h6 q
  injection q with h7 q
  injection q with h8 q
  exact ⟨h0, h1, h2, h3, h4, h5, h6, h7, h8, trivial⟩) h
theorem gz10 (k0 k1 k2 k3 k4 k5 k6 k7 k8 k9 : Nat) {v0 v1 v2 v3 v4 v5 v6 v7 v8 v9 : Value} (q : [look ρ k0, look ρ k1, look ρ k2, look ρ k3, look ρ k4, look ρ k5, look ρ k6, look ρ k7, look ρ k8, look ρ k9] = [some v0, some v1, some v2, some v3, some v4, some v5, some v6, some v7, some v8, some v9]) (h : Jk w0 M L .normal [(k0, v0), (k1, v1), (k2, v2), (k3, v3), (k4, v4), (k5, v5), (k6, v6), (k7, v7), (k8, v8), (k9, v9)] m r K) : Jg P N w0 M L ops [] ρ m r K := Zb3 _ (by
  injection q with h0 q
  injection q with h1 q
  injection q with h2 q
  injection q with h3 q
  injection q with h4 q
  injection q with h5 q
  injection q with h6 q
  injection q with h7 q
  injection q with h8 q
  injection q with h9 q
  exact ⟨h0, h1, h2, h3, h4, h5, h6, h7, h8, h9, trivial⟩) h
theorem gz11 (k0 k1 k2 k3 k4 k5 k6 k7 k8 k9 k10 : Nat) {v0 v1 v2 v3 v4 v5 v6 v7 v8 v9 v10 : Value} (q : [look ρ k0, look ρ k1, look ρ k2, look ρ k3, look ρ k4, look ρ k5, look ρ k6, look ρ k7, look ρ k8, look ρ k9, look ρ k10] = [some v0, some v1, some v2, some v3, some v4, some v5, some v6, some v7, some v8, some v9, some v10]) (h : Jk w0 M L .normal [(k0, v0), (k1, v1), (k2, v2), (k3, v3), (k4, v4), (k5, v5), (k6, v6), (k7, v7), (k8, v8), (k9, v9), (k10, v10)] m r K) : Jg P N w0 M L ops [] ρ m r K := Zb3 _ (by
  injection q with h0 q
  injection q with h1 q
  injection q with h2 q
  injection q with h3 q
  injection q with h4 q
  injection q with h5 q
  injection q with h6 q
  injection q with h7 q
  injection q with h8 q
  injection q with h9 q
  injection q with h10 q
  exact ⟨h0, h1, h2, h3, h4, h5, h6, h7, h8, h9, h10, trivial⟩) h
theorem gz12 (k0 k1 k2 k3 k4 k5 k6 k7 k8 k9 k10 k11 : Nat) {v0 v1 v2 v3 v4 v5 v6 v7 v8 v9 v10 v11 : Value} (q : [look ρ k0, look ρ k1, look ρ k2, look ρ k3, look ρ k4, look ρ k5, look ρ k6, look ρ k7, look ρ k8, look ρ k9, look ρ k10, look ρ k11] = [some v0, some v1, some v2, some v3, some v4, some v5, some v6, some v7, some v8, some v9, some v10, some v11]) (h : Jk w0 M L .normal [(k0, v0), (k1, v1), (k2, v2), (k3, v3), (k4, v4), (k5, v5), (k6, v6), (k7, v7), (k8, v8), (k9, v9), (k10, v10), (k11, v11)] m r K) : Jg P N w0 M L ops [] ρ m r K := Zb3 _ (by
  injection q with h0 q
  injection q with h1 q
  injection q with h2 q
  injection q with h3 q
  injection q with h4 q
  injection q with h5 q
  injection q with h6 q
  injection q with h7 q
  injection q with h8 q
  injection q with h9 q
  injection q with h10 q
  injection q with h11 q
  exact ⟨h0, h1, h2, h3, h4, h5, h6, h7, h8, h9, h10, h11, trivial⟩) h
theorem gz13 (k0 k1 k2 k3 k4 k5 k6 k7 k8 k9 k10 k11 k12 : Nat) {v0 v1 v2 v3 v4 v5 v6 v7 v8 v9 v10 v11 v12 : Value} (q : [look ρ k0, look ρ k1, look ρ k2, look ρ k3, look ρ k4, look ρ k5, look ρ k6, look ρ k7, look ρ k8, look ρ k9, look ρ k10, look ρ k11, look ρ k12] = [some v0, some v1, some v2, some v3, some v4, some v5, some v6, some v7, some v8, some v9, some v10, some v11, some v12]) (h : Jk w0 M L .normal [(k0, v0), (k1, v1), (k2, v2), (k3, v3), (k4, v4), (k5, v5), (k6, v6), (k7, v7), (k8, v8), (k9, v9), (k10, v10), (k11, v11), (k12, v12)] m r K) : Jg P N w0 M L ops [] ρ m r K := Zb3 _ (by
  injection q with h0 q
  injection q with h1 q
  injection q with h2 q
  injection q with h3 q
  injection q with h4 q
  injection q with h5 q
  injection q with h6 q
  injection q with h7 q
  injection q with h8 q
  injection q with h9 q
  injection q with h10 q
  injection q with h11 q
  injection q with h12 q
  exact ⟨h0, h1, h2, h3, h4, h5, h6, h7, h8, h9, h10, h11, h12, trivial⟩) h
theorem gz14 (k0 k1 k2 k3 k4 k5 k6 k7 k8 k9 k10 k11 k12 k13 : Nat) {v0 v1 v2 v3 v4 v5 v6 v7 v8 v9 v10 v11 v12 v13 : Value} (q : [look ρ k0, look ρ k1, look ρ k2, look ρ k3, look ρ k4, look ρ k5, look ρ k6, look ρ k7, look ρ k8, look ρ k9, look ρ k10, look ρ k11, look ρ k12, look ρ k13] = [some v0, some v1, some v2, some v3, some v4, some v5, some v6, some v7, some v8, some v9, some v10, some v11, some v12, some v13]) (h : Jk w0 M L .normal [(k0, v0), (k1, v1), (k2, v2), (k3, v3), (k4, v4), (k5, v5), (k6, v6), (k7, v7), (k8, v8), (k9, v9), (k10, v10), (k11, v11), (k12, v12), (k13, v13)] m r K) : Jg P N w0 M L ops [] ρ m r K := Zb3 _ (by
  injection q with h0 q
  injection q with h1 q
  injection q with h2 q
  injection q with h3 q
  injection q with h4 q
  injection q with h5 q
  injection q with h6 q
  injection q with h7 q
  injection q with h8 q
  injection q with h9 q
  injection q with h10 q
  injection q with h11 q
  injection q with h12 q
  injection q with h13 q
  exact ⟨h0, h1, h2, h3, h4, h5, h6, h7, h8, h9, h10, h11, h12, h13, trivial⟩) h
theorem gz15 (k0 k1 k2 k3 k4 k5 k6 k7 k8 k9 k10 k11 k12 k13 k14 : Nat) {v0 v1 v2 v3 v4 v5 v6 v7 v8 v9 v10 v11 v12 v13 v14 : Value} (q : [look ρ k0, look ρ k1, look ρ k2, look ρ k3, look ρ k4, look ρ k5, look ρ k6, look ρ k7, look ρ k8, look ρ k9, look ρ k10, look ρ k11, look ρ k12, look ρ k13, look ρ k14] = [some v0, some v1, some v2, some v3, some v4, some v5, some v6, some v7, some v8, some v9, some v10, some v11, some v12, some v13, some v14]) (h : Jk w0 M L .normal [(k0, v0), (k1, v1), (k2, v2), (k3, v3), (k4, v4), (k5, v5), (k6, v6), (k7, v7), (k8, v8), (k9, v9), (k10, v10), (k11, v11), (k12, v12), (k13, v13), (k14, v14)] m r K) : Jg P N w0 M L ops [] ρ m r K := Zb3 _ (by
  injection q with h0 q
  injection q with h1 q
  injection q with h2 q
  injection q with h3 q
  injection q with h4 q
  injection q with h5 q
  injection q with h6 q
  injection q with h7 q
  injection q with h8 q
  injection q with h9 q
  injection q with h10 q
  injection q with h11 q
  injection q with h12 q
  injection q with h13 q
  injection q with h14 q
  exact ⟨h0, h1, h2, h3, h4, h5, h6, h7, h8, h9, h10, h11, h12, h13, h14, trivial⟩) h
theorem gz16 (k0 k1 k2 k3 k4 k5 k6 k7 k8 k9 k10 k11 k12 k13 k14 k15 : Nat) {v0 v1 v2 v3 v4 v5 v6 v7 v8 v9 v10 v11 v12 v13 v14 v15 : Value} (q : [look ρ k0, look ρ k1, look ρ k2, look ρ k3, look ρ k4, look ρ k5, look ρ k6, look ρ k7, look ρ k8, look ρ k9, look ρ k10, look ρ k11, look ρ k12, look ρ k13, look ρ k14, look ρ k15] = [some v0, some v1, some v2, some v3, some v4, some v5, some v6, some v7, some v8, some v9, some v10, some v11, some v12, some v13, some v14, some v15]) (h : Jk w0 M L .normal [(k0, v0), (k1, v1), (k2, v2), (k3, v3), (k4, v4), (k5, v5), (k6, v6), (k7, v7), (k8, v8), (k9, v9), (k10, v10), (k11, v11), (k12, v12), (k13, v13), (k14, v14), (k15, v15)] m r K) : Jg P N w0 M L ops [] ρ m r K := Zb3 _ (by
  injection q with h0 q
  injection q with h1 q
  injection q with h2 q
  injection q with h3 q
  injection q with h4 q
  injection q with h5 q
  injection q with h6 q
  injection q with h7 q
  injection q with h8 q
  injection q with h9 q
  injection q with h10 q
  injection q with h11 q
  injection q with h12 q
  injection q with h13 q
  injection q with h14 q
  injection q with h15 q
  exact ⟨h0, h1, h2, h3, h4, h5, h6, h7, h8, h9, h10, h11, h12, h13, h14, h15, trivial⟩) h
end
end Go.Hy
namespace Go.Proofs.Ytdgminllobhncaa
open Go.Hy
set_option linter.unusedVariables false
set_option linter.unusedSimpArgs false
set_option maxHeartbeats 2000000
set_option maxRecDepth 100000
instance : CK Try.prog 146 LayoutPlace.kv := CK.ofS Try.underlying146 Try.underlying149 (fun k e w => by cases k; kernel_rfl)
  (fun a b w => by
    unfold Op.equal
    rw [show Op.maxDepth = 9997 + 3 from rfl]
    unfold LayoutPlace.kv
    rw [qin149]
    congr 1
    exact decide_eq_decide.2 (by cases a; cases b; simp)) (by kernel_rfl)
theorem Zg4 {w : World} {a0 : (List Int)} {ha0 : Hd} {v : HumpgenMaker} (hm : Zft a0 = some v) (Rha0 : Sl w ha0 encI a0) : Calls Try.prog 8 ([ha0.v] : List Value).toArray w (fun e w' => ∃ g : Nat, e = .returned (.pointer (some ⟨g, 0, none⟩)) ∧ St w w' [] [(Res.blk g 65 [ha0.v, .int .i64 v.fn])]) := by
 refine ZbL (vs := [ha0.v]) (R := fun (v : HumpgenMaker) (e : Ending) (w' : World) => ∃ g : Nat, e = .returned (.pointer (some ⟨g, 0, none⟩)) ∧ St w w' [] [(Res.blk g 65 [ha0.v, .int .i64 v.fn])]) Try.func8 e Try.ntmps8 e e (St.refl w) hm ?_
 unfold Zft
 clear hm
 refine Zac (Zad 0 (Zah e e e (gz1 0 e (Zae (Zac (Zad 1 (Zaf e e e (jy (ZaY e (o2 e)) e e (ZbF e (l2 e) e e fun g1 => Zah e e e (gz1 2 e (Zae (Zao (Zal e (fun w hs => .tmp e) (fun w hs => ⟨g1, e, hs.sel (is := [0]) e e⟩))))))))))))))
theorem ZfV {w : World} {a0 : Int}  {v : ByteArray} (hm : ZdJ a0 = some v) : Gives Try.prog 41 [.int .i64 a0] w (.string v) := by
 refine ZaS (vs := [.int .i64 a0]) (U := fun (v : ByteArray) => .string v) Try.func41 e Try.ntmps41 e e hm ?_
 unfold ZdJ
 clear hm
 refine Zac (Zad 0 (Zah e e e (gz1 0 e (Zae (Zac (Zad 1 (Zaf e e e (jy (ZbX e e (by decide)) e e (ZcJ (fun w hs => Zdp e e (by decide)) e e fun x1 => jy (Zap e e) e e (ZcJ (fun w hs => Zhb Try.underlying3 Try.underlying5 e) e e fun x2 => Zaf e e e (jy (ZbX e e (by decide)) e e (ZcJ (fun w hs => Zdp e e (by decide)) e e fun x3 => jy (Zap e e) e e (ZcJ (fun w hs => Zhb Try.underlying3 Try.underlying5 e) e e fun x4 => ?_)))))))))))))
 refine Zaf e e e (jy (Zdp e e (by decide)) e e (jy (Zap e e) e e (ZcJ (fun w hs => Zhb Try.underlying3 Try.underlying5 e) e e fun x5 => Za2 (enc := (encK .u8)) [101, x2, x4, x5] e e e e e e e e fun hd6 => jg_y (fun w hs => yv_b2s Try.underlying139 Try.underlying5 Try.underlying9 e (hs.row 0 e)) e e (Zah e e e (gz1 2 e (Zae (Zao (Zal e (fun w hs => .tmp e) (fun w hs => ⟨e, hs.drop⟩)))))))))
theorem ZbB {w : World} {a0 : HumpgenMaker} {a1 : Int} {ha0_fl : Hd} {b0 : Nat} {v : (Int × Int)} (hm : Zbo a0 a1 = some v) (Hb : Blk w b0 65 [ha0_fl.v, .int .i64 a0.fn]) (Rha0_fl : Sl w ha0_fl encI a0.fl) (Oha0_fl : Offs ha0_fl [b0]) : Calls Try.prog 21 ([.pointer (some ⟨b0, 0, none⟩), .int .i64 a1] : List Value).toArray w (fun e w' => ∃ g : Unit, e = .returned (.int .i64 v.1) ∧ St w w' [.blk b0 65 [ha0_fl.v, .int .i64 v.2]] []) := by
 refine ZbL (vs := [.pointer (some ⟨b0, 0, none⟩), .int .i64 a1]) (R := fun (v : (Int × Int)) (e : Ending) (w' : World) => ∃ g : Unit, e = .returned (.int .i64 v.1) ∧ St w w' [.blk b0 65 [ha0_fl.v, .int .i64 v.2]] []) Try.func21 e Try.ntmps21 e e (ZiN Hb) hm ?_
 unfold Zbo
 clear hm
 refine Zac (Zad 0 (Zah e e e (gz2 0 1 e (Zae (Zac (Zad 1 (Zah e e e (gz3 0 1 5 e (Zae (Za6 (fun (s : Int) (g : Unit) => [(0, .pointer (some ⟨b0, 0, none⟩)), (1, .int .i64 a1), (5, .int .i64 s)]) (fun (s : Int) (g : Unit) => [(Res.blk b0 65 [ha0_fl.v, .int .i64 a0.fn])]) (fun (s : Int) (g : Unit) => []) ?_ ?_))))))))))
 rotate_left
 ·intro k3 H4
  refine Zac (Zad 2 (Zaf e e e (jy (Zbv e) e e (jy (Zab e) e e (jg_y (fun w hs => Zaj e (ld1B (hs.blkM (i := 0) e) e)) e e (jg_y (fun w hs => ZaT e (hs.argM Rha0_fl Oha0_fl)) e e (jy (Zbc e e) e e (gz4 0 1 5 11 e (Zae (Zan e ?_ ?_))))))))))
  rotate_left
  ·refine Zam (Zav H4 0 () [] ⟨e, e, e, trivial⟩ e e e)
  refine ZaV (L' := [_]) 3 [0] [0, 1, 2, 3, 4, 5, 6, 7, 8, 9, 10, 11, 12, 13, 14, 15, 16, 17, 18, 19, 20, 21, 22, 23, 24, 25, 26, 27, 28] 536870911 536870911 [0, 1, 2, 4, 0, 16, 32, 64, 0, 256, 512, 1024, 2048, 4224, 8200, 16384, 0, 65536, 131072, 262144, 0, 1048576, 2097152, 4194304, 8388608, 17301504, 33554432, 67141632, 268435455] [0, 1, 3, 7, 0, 16, 48, 112, 0, 256, 768, 1792, 3840, 8176, 16383, 32767, 0, 65536, 196608, 458752, 0, 1048576, 3145728, 7340032, 15728640, 33488896, 67043328, 134217727, 268435455] [(0, true), (1, true), (2, true), (3, true), (4, true), (5, true), (6, true), (7, true), (8, true), (9, true), (10, true), (11, true), (12, true), (13, true), (14, true), (15, true), (16, true), (17, true), (18, true), (19, true), (20, true), (21, true), (22, true), (23, true), (24, true), (25, true), (26, true), (27, true), (28, true)] e (Zay Zbn) (by kernel_rfl) (by kernel_rfl) (by kernel_rfl) (by kernel_rfl) (by kernel_rfl) (by kernel_rfl) (by kernel_rfl) (by kernel_rfl) (Zaz e e e e (jd_y e (fun w hs => Zbv e) e e (jd_y e (fun w hs => Zab e) e e (jd_y e (fun w hs => Zaj e (ld1B (hs.blk (i := 0) e) e)) e e (Zaz e e e e (jd_y e (fun w hs => Zbv e) e e (jd_y e (fun w hs => Zab e) e e (jd_y e (fun w hs => Zaj e (ld1B (hs.blk (i := 0) e) e)) e e (Zaz e e e e (jd_y e (fun w hs => Zbv e) e e (jd_y e (fun w hs => Zab e) e e (jd_y e (fun w hs => Zaj e (ld1B (hs.blk (i := 0) e) e)) e e (jd_y e (fun w hs => ZaT e (hs.argM Rha0_fl Oha0_fl)) e e (Zel fun h6 => Zfl e (fun w hs => Zdp e e (of_decide_eq_true h6)) e e fun x7 => Zbs fun x8 h9 => ?_))))))))))))))
  refine jd_y e (fun w hs => ZaD e e (hs.argM Rha0_fl Oha0_fl) h9) e e (jd_y e (fun w hs => ZaK e (hs.argM Rha0_fl Oha0_fl) h9.1 e) e e (Zaz e e e e (jd_y e (fun w hs => Zbv e) e e (jd_y e (fun w hs => Zab e) e e (jd_y e (fun w hs => Zaj e (ld1B (hs.blk (i := 0) e) e)) e e (Zaz e e e e (jd_y e (fun w hs => Zbv e) e e (jd_y e (fun w hs => Zab e) e e (jd_y e (fun w hs => Zaj e (ld1B (hs.blk (i := 0) e) e)) e e (jd_y e (fun w hs => ZaT e (hs.argM Rha0_fl Oha0_fl)) e e (Zel fun h10 => Zfl e (fun w hs => ZbX e e (of_decide_eq_true h10)) e e fun x11 => jd_y e (fun w hs => ZbE e e) e e (jd_y e (fun w hs => Zap e e) e e (Zb4 e e e e (Za9 [(0, _), (1, _), (5, _)] ⟨e, e, e, trivial⟩ ?_))))))))))))))
  exact Zav H4 (w64 (x8 + (w64 (x11 * 7919)))) () [] ⟨e, e, e, trivial⟩ e e e
 intro z1 q2
 refine Zac (Zad 4 (Zaf e e e (jy (Zbv e) e e (jy (Zab e) e e (jg_y (fun w hs => Zaj e (ld1B (hs.blkM (i := 0) e) e)) e e (jy (Zap e e) e e (jy (Zbv e) e e (jy (Zab e) e e (ZjB 0 e e e (l1 e) e e e e (l2 e) (r1 e) (gz2 1 5 e (Zae (Zac (Zad 5 (Zaf e e e (Zaf e e e (Zgf fun h5 => ?_))))))))))))))))
 refine jy (Zdp e e (of_decide_eq_true h5)) e e (Zah e e e (gz2 1 5 e (Zae (Zac (Zac (Zad 6 (Zaf e e e (jy (ZaB e e) e e (gz3 1 5 51 e (Zae (Zan e ?_ ?_)))))))))))
 rotate_left
 ·refine Zam (Zae (Zac (Zad 8 (Zaf e e e (Zah e e e (gz1 4 e (Zae (Zao (Zal e (fun w hs => .tmp e) (fun w hs => ⟨(), e, hs.sel (is := []) e e⟩))))))))))
 refine Zad 7 (Zaf e e e (Zaf e e e (jy (Zap e e) e e (Zah e e e (gz1 5 e (Zae (Zac (Zad 8 (Zaf e e e (Zah e e e (gz1 4 e (Zae (Zao (Zal e (fun w hs => .tmp e) (fun w hs => ⟨(), e, hs.sel (is := []) e e⟩)))))))))))))))
theorem Za7 {w : World} {a0 : HumpgenMaker} {a1 : (List Int)} {ha0_fl : Hd} {b0 : Nat} {ha1 : Hd} {v : (Int × Int)} (hm : Za3 a0 a1 = some v) (Hb : Blk w b0 65 [ha0_fl.v, .int .i64 a0.fn]) (Rha0_fl : Sl w ha0_fl encI a0.fl) (Oha0_fl : Offs ha0_fl [b0]) (Rha1 : Sl w ha1 encI a1) (Oha1 : Offs ha1 [b0]) : Calls Try.prog 20 ([.pointer (some ⟨b0, 0, none⟩), ha1.v] : List Value).toArray w (fun e w' => ∃ g : Unit, e = .returned (.int .i64 v.1) ∧ St w w' [.blk b0 65 [ha0_fl.v, .int .i64 v.2]] []) := by
 refine ZbL (vs := [.pointer (some ⟨b0, 0, none⟩), ha1.v]) (R := fun (v : (Int × Int)) (e : Ending) (w' : World) => ∃ g : Unit, e = .returned (.int .i64 v.1) ∧ St w w' [.blk b0 65 [ha0_fl.v, .int .i64 v.2]] []) Try.func20 e Try.ntmps20 e e (ZiN Hb) hm ?_
 unfold Za3
 clear hm
 refine Zac (Zad 0 (Zah e e e (gz2 0 1 e (Zae (Zac (Zad 1 (Zaf e e e (Zaf e e e (Zaf e e e (jg_y (fun w hs => ZaT e (hs.argM Rha1 Oha1)) e e (jm_c e (fun v w hs hm => ZbB hm (hs.blkM (i := 0) e) (hs.argM Rha0_fl Oha0_fl) Oha0_fl) (fun _ => e) e e fun v1 q2 => Za1 fun x3 h4 => jg_y (fun w hs => ZaD e e (hs.argM Rha1 Oha1) h4) e e (jg_y (fun w hs => ZaK e (hs.argM Rha1 Oha1) h4.1 e) e e (Zah e e e (gz1 4 e ?_))))))))))))))
 refine Zae (Zao (Zal e (fun w hs => .tmp e) (fun w hs => ⟨(), e, hs.sel (is := []) e e⟩)))
theorem Zcj {w : World} {a0 : HumpgenMaker} {a1 : Int} {a2 : Int} {a3 : Int} {a4 : Int} {ha0_fl : Hd} {b0 : Nat} {v : (Element × Int)} (hm : Zbx a0 a1 a2 a3 a4 = some v) (Hb : Blk w b0 65 [ha0_fl.v, .int .i64 a0.fn]) (Rha0_fl : Sl w ha0_fl encI a0.fl) (Oha0_fl : Offs ha0_fl [b0]) : Calls Try.prog 42 ([.pointer (some ⟨b0, 0, none⟩), .int .i64 a1, .int .i64 a2, .int .i64 a3, .int .i64 a4] : List Value).toArray w (fun e w' => ∃ g : Unit, e = .returned (.agg #[.int .i64 v.1.Kind, .string v.1.Name, .int .i64 v.1.Parent, .int .i64 v.1.Side, .int .i64 v.1.Length, .int .i64 v.1.Grade, .int .i64 v.1.Curve, .int .i64 v.1.Power]) ∧ St w w' [.blk b0 65 [ha0_fl.v, .int .i64 v.2]] []) := by
 refine ZbL (vs := [.pointer (some ⟨b0, 0, none⟩), .int .i64 a1, .int .i64 a2, .int .i64 a3, .int .i64 a4]) (R := fun (v : (Element × Int)) (e : Ending) (w' : World) => ∃ g : Unit, e = .returned (.agg #[.int .i64 v.1.Kind, .string v.1.Name, .int .i64 v.1.Parent, .int .i64 v.1.Side, .int .i64 v.1.Length, .int .i64 v.1.Grade, .int .i64 v.1.Curve, .int .i64 v.1.Power]) ∧ St w w' [.blk b0 65 [ha0_fl.v, .int .i64 v.2]] []) Try.func42 e Try.ntmps42 e e (ZiN Hb) hm ?_
 unfold Zbx
 clear hm
 refine Zac (Zad 0 (ZaL (l8 e) e e fun g1 => gz6 0 1 2 3 4 10 e (Zae (Zac (Zad 1 (Zaf e e e (Zaf e e e (Zbg e (fun v w hs hm => ZfV hm ) e e fun v2 => Zaf e e e (Zaf e e e (Zaf e e e (Za2 (enc := encI) [1000, 5000, 9000, 12000, 30000, 100000] e e e e e e e e fun hd3 => jm_c e (fun v w hs hm => Za7 hm (hs.blkM (i := 0) e) (hs.argM Rha0_fl Oha0_fl) Oha0_fl (hs.row 0 e) (hs.offML 0 0 e e)) (fun _ => e) e e fun v4 q5 => Zaf e e e (Za2 (enc := encI) [0, 100, (-150), 400, 1000, 3500, 5000] e e e e e e e e fun hd6 => ?_))))))))))))
 refine jm_c e (fun v w hs hm => Za7 hm (hs.blkM (i := 0) e) (hs.argM Rha0_fl Oha0_fl) Oha0_fl (hs.row 0 e) (hs.offML 0 0 e e)) (fun _ => e) e e fun v7 q8 => Zaf e e e (Za2 (enc := encI) [0, 0, 20, 150] e e e e e e e e fun hd9 => jm_c e (fun v w hs hm => Za7 hm (hs.blkM (i := 0) e) (hs.argM Rha0_fl Oha0_fl) Oha0_fl (hs.row 0 e) (hs.offML 0 0 e e)) (fun _ => e) e e fun v10 q11 => jy (ZaY e (o8 e)) e e (ZaL (l8 e) e e fun g12 => Zax 0 e e e (l8 e) e e e e (l8 e) (r5 e) (gz4 0 1 10 11 e (ZaF (is := [0, 4]) (s2 e) e (Zae (Zac (Zac (Zad 2 (Zaf e e e (gz4 0 10 11 27 e (Zae (Zar ?_))))))))))))
 refine Zac (Zad 3 (jy (ZaR e e) e e (Zah e e e (gz5 0 10 11 27 28 e (Zae (Zan e ?_ ?_))))))
 ·refine Zad 4 (Zaf e e e (Za2 (enc := encI) [500000, 2000000, 8000000, 30000000] e e e e e e e e fun hd13 => jm_c e (fun v w hs hm => Za7 hm (hs.blkM (i := 0) e) (hs.argM Rha0_fl Oha0_fl) Oha0_fl (hs.row 0 e) (hs.offML 0 0 e e)) (fun _ => e) e e fun v14 q15 => jy (Zab e) e e (Zax 1 e e e (l1 e) e e e e (l8 e) (r3 e) (gz2 10 11 e (ZaN (Zae ?_))))))
  refine Zac (Zad 7 (jg_y (fun w hs => Zaj e (ldBB (hs.blkL (i := 1) e) e)) e e (Zax 2 e e e (l8 e) e e e e (l8 e) (r3 e) (gz1 10 e (ZaF (is := [2]) (s1 e) e (Zae (Zao (Zal e (fun w hs => .cell e (ldBB (hs.blkL (i := 0) e) e)) (fun w hs => ⟨(), e, hs.sel (is := []) e e⟩)))))))))
 refine Zac (Zad 5 (jy (ZaR e e) e e (Zah e e e (gz4 0 10 11 34 e (Zae (Zan e ?_ ?_))))))
 rotate_left
 ·refine Zam (ZaN (Zae ?_))
  refine Zac (Zad 7 (jg_y (fun w hs => Zaj e (ldBB (hs.blkL (i := 0) e) e)) e e (Zax 1 e e e (l8 e) e e e e (l8 e) (r2 e) (gz1 10 e (Zae (Zao (Zal e (fun w hs => .cell e (ldBB (hs.blkL (i := 1) e) e)) (fun w hs => ⟨(), e, hs.sel (is := []) e e⟩))))))))
 refine Zad 6 (Zaf e e e (Za2 (enc := encI) [100000, 400000, 700000] e e e e e e e e fun hd16 => jm_c e (fun v w hs hm => Za7 hm (hs.blkM (i := 0) e) (hs.argM Rha0_fl Oha0_fl) Oha0_fl (hs.row 0 e) (hs.offML 0 0 e e)) (fun _ => e) e e fun v17 q18 => Zaf e e e (Za2 (enc := encI) [(-100), 0, 50, 150] e e e e e e e e fun hd19 => jm_c e (fun v w hs hm => Za7 hm (hs.blkM (i := 0) e) (hs.argM Rha0_fl Oha0_fl) Oha0_fl (hs.row 0 e) (hs.offML 0 0 e e)) (fun _ => e) e e fun v20 q21 => jy (Zab e) e e (Zax 2 e e e (l1 e) e e e e (l8 e) (r4 e) (jy (Zab e) e e (Zax 2 e e e (l1 e) e e e e (l8 e) (r4 e) (gz2 10 11 e (ZaF (is := [2, 3]) (s2 e) e (ZaN (Zae ?_))))))))))
 refine Zac (Zad 7 (jg_y (fun w hs => Zaj e (ldBB (hs.blkL (i := 0) e) e)) e e (Zax 1 e e e (l8 e) e e e e (l8 e) (r2 e) (gz1 10 e (Zae (Zao (Zal e (fun w hs => .cell e (ldBB (hs.blkL (i := 1) e) e)) (fun w hs => ⟨(), e, hs.sel (is := []) e e⟩))))))))
theorem Zen {w : World} {a0 : HumpgenMaker} {a1 : Int} {ha0_fl : Hd} {b0 : Nat} {v : ((List Element) × Int)} (hm : ZbU a0 a1 = some v) (Hb : Blk w b0 65 [ha0_fl.v, .int .i64 a0.fn]) (Rha0_fl : Sl w ha0_fl encI a0.fl) (Oha0_fl : Offs ha0_fl [b0]) : Calls Try.prog 19 ([.pointer (some ⟨b0, 0, none⟩), .int .i64 a1] : List Value).toArray w (fun e w' => ∃ g : Hd, e = .returned (g.v) ∧ St w w' [.blk b0 65 [ha0_fl.v, .int .i64 v.2]] [(rowH g 62 8 Element.enc v.1)]) := by
 refine ZbL (vs := [.pointer (some ⟨b0, 0, none⟩), .int .i64 a1]) (R := fun (v : ((List Element) × Int)) (e : Ending) (w' : World) => ∃ g : Hd, e = .returned (g.v) ∧ St w w' [.blk b0 65 [ha0_fl.v, .int .i64 v.2]] [(rowH g 62 8 Element.enc v.1)]) Try.func19 e Try.ntmps19 e e (ZiN Hb) hm ?_
 unfold ZbU
 clear hm
 refine Zac (Zad 0 (Zah e e e (gz2 0 1 e (Zae (Zac (Zad 1 (Zbg e (fun v w hs hm => ZfV hm ) e e fun v1 => jy (ZaY e (o8 e)) e e (Za2 (enc := Element.enc) [(Element.mk 0 v1 (-1) 0 0 0 0 0)] e e e e e e e e fun hd2 => Zah e e e (gz3 0 1 5 e (Zae (Zac (Zad 2 (jy (Zd4 e (o2 e)) e e (Za2 (enc := Arr2Int.enc) [(Arr2Int.mk 0 0)] e e e e e e e e fun hd3 => ?_))))))))))))))
 refine Zah e e e (gz4 0 1 5 6 e (Zae (Zac (Zad 3 (Zaf e e e (Zaf e e e (jy (Zap e e) e e (jm_c e (fun v w hs hm => ZbB hm (hs.blkM (i := 0) e) (hs.argM Rha0_fl Oha0_fl) Oha0_fl) (fun _ => e) e e fun v4 q5 => Zah e e e (gz4 0 5 6 7 e (Zae (Zac (Zar (Zbi (n := big) (fun (s : ((List Element) × (List Arr2Int) × Int × Int)) (g : (Hd × Hd)) => [(0, .pointer (some ⟨b0, 0, none⟩)), (5, g.1.v), (6, g.2.v), (7, .int .i64 s.2.2.1)]) (fun (s : ((List Element) × (List Arr2Int) × Int × Int)) (g : (Hd × Hd)) => [(Res.blk b0 65 [ha0_fl.v, .int .i64 s.2.2.2])]) (fun (s : ((List Element) × (List Arr2Int) × Int × Int)) (g : (Hd × Hd)) => [(rowH g.1 62 8 Element.enc s.1), (rowH g.2 110 2 Arr2Int.enc s.2.1)]) (([(Element.mk 0 v1 (-1) 0 0 0 0 0)] : List Element), ([(Arr2Int.mk 0 0)] : List Arr2Int), v4.1, v4.2) (hd2, hd3) [1, 0] ⟨e, e, e, e, trivial⟩ e e e ?_)))))))))))))
 intro z6 q7 n10 k8 H9
 refine Zac (Zac (Zad 4 (Zaf e e e (jg_y (fun w hs => ZaT e (hs.row 1 e)) e e (jy (Zbc e e) e e (gz5 0 5 6 7 22 e (Zae (Zan e ?_ ?_))))))))
 rotate_left
 ·refine ZaG (Zba (Zbe (Zbb (Zae ?_))))
  refine Zac (Zad 18 (Zaf e e e (Zah e e e (gz1 4 e (Zae (Zao (Zal e (fun w hs => .tmp e) (fun w hs => ⟨q7.1, e, hs.sel (is := [0]) e e⟩))))))))
 refine Zam (Zae (Zar (Zac (Zad 5 (Zaf e e e (Za1 fun x11 h12 => jg_y (fun w hs => ZaD e e (hs.row 1 e) h12) e e (jg_y (fun w hs => ZbH e (hs.row 1 e) h12.1 (l2 e) e) e e (ZaL (l2 e) e e fun g13 => Zax 0 e e e (l2 e) e e e e (l2 e) (r3 e) (gz5 0 5 6 7 8 e (Zae (Zac (Zad 6 (Zaf e e e (Zgf fun h14 => ?_))))))))))))))
 refine jg_y (fun w hs => yv_lo e e (hs.row 2 e) (of_decide_eq_true h14)) e e (Zah e e e (gz5 0 5 6 7 8 e (jk_rlo 2 e (of_decide_eq_true h14) (r3 e) (Zae (Za6 (fun (s : ((List Element) × Int × Int × Int)) (g : Hd) => [(0, .pointer (some ⟨b0, 0, none⟩)), (5, g.v), (6, (q7.2.lo (Int.toNat 1) 2).v), (7, .int .i64 z6.2.2.1), (8, .pointer (some ⟨g13, 0, none⟩))]) (fun (s : ((List Element) × Int × Int × Int)) (g : Hd) => [(Res.blk b0 65 [ha0_fl.v, .int .i64 s.2.2.2])]) (fun (s : ((List Element) × Int × Int × Int)) (g : Hd) => [(rowH g 62 8 Element.enc s.1), (rowH (q7.2.lo (Int.toNat 1) 2) 110 2 Arr2Int.enc (z6.2.1.drop (Int.toNat 1))), (Res.blk g13 110 [.int .i64 s.2.1, .int .i64 s.2.2.1])]) ?_ ?_)))))
 rotate_left
 ·intro k17 H18
  refine Zac (Zad 7 (Zaf e e e (jm_c e (fun v w hs hm => ZbB hm (hs.blkM (i := 0) e) (hs.argM Rha0_fl Oha0_fl) Oha0_fl) (fun _ => e) e e fun v32 q33 => Zah e e e (gz6 0 5 6 7 8 9 e (Zae (Zar (Zbi (n := big) (fun (s : ((List Element) × Int × Int × Int × Int)) (g : Hd) => [(0, .pointer (some ⟨b0, 0, none⟩)), (5, g.v), (6, (q7.2.lo (Int.toNat 1) 2).v), (7, .int .i64 z6.2.2.1), (8, .pointer (some ⟨g13, 0, none⟩)), (9, .int .i64 s.2.2.2.1)]) (fun (s : ((List Element) × Int × Int × Int × Int)) (g : Hd) => [(Res.blk b0 65 [ha0_fl.v, .int .i64 s.2.2.2.2])]) (fun (s : ((List Element) × Int × Int × Int × Int)) (g : Hd) => [(rowH g 62 8 Element.enc s.1), (rowH (q7.2.lo (Int.toNat 1) 2) 110 2 Arr2Int.enc (z6.2.1.drop (Int.toNat 1))), (Res.blk g13 110 [.int .i64 s.2.1, .int .i64 s.2.2.1])]) (z6.1, x11.a0, x11.a1, v32.1, v32.2) q7.1 [1, 2, 0] ⟨e, e, e, e, e, e, trivial⟩ e e e ?_)))))))
  intro z34 q35 n38 k36 H37
  refine Zac (Zac (Zad 8 (Zaf e e e (jy (Zbc e e) e e (gz7 0 5 6 7 8 9 31 e (Zae (Zan e ?_ ?_)))))))
  rotate_left
  ·refine ZaG (Zba (Zbe (Zbb ?_)))
   exact Zav H18 (z34.1, z34.2.1, z34.2.2.1, z34.2.2.2.2) q35 [0, 1, 2] ⟨e, e, e, e, e, trivial⟩ e e e
  refine Zam (Zae (Zac (Zar (Zac (Zad 10 (Zaf e e e (Za2 (enc := encI) [1, 1, 2] e e e e e e e e fun hd39 => jm_c e (fun v w hs hm => Za7 hm (hs.blkM (i := 0) e) (hs.argM Rha0_fl Oha0_fl) Oha0_fl (hs.row 0 e) (hs.offML 0 0 e e)) (fun _ => e) e e fun v40 q41 => Zah e e e (gz7 0 5 6 7 8 9 10 e (Zae (Zac (Zad 11 (Zaf e e e (Zaf e e e (Zaf e e e ?_))))))))))))))
  refine Zaf e e e (jg_y (fun w hs => ZaT e (hs.row 1 e)) e e (jy (ZfG e e (by decide)) e e (jg_y (fun w hs => Zaj e (ld1B (hs.blkL (i := 3) e) e)) e e (jy (ZfG e e (by decide)) e e (jg_y (fun w hs => Zaj e (ld1B (hs.blkL (i := 3) e) e)) e e (jm_c e (fun v w hs hm => Zcj hm (hs.blkM (i := 0) e) (hs.argM Rha0_fl Oha0_fl) Oha0_fl) (fun _ => e) e e fun v42 q43 => Za2 (enc := Element.enc) [v42.1] e e e e e e e e fun hd44 => ZaO 2 e e e (fun w hs => (hs.row 0 e)) e e e fun y45 hd46 => jg_L (r5 e) (Zah e e e (gz6 0 5 6 7 8 9 e (ZaF (is := [2, 3, 4]) (s3 e) e (Zae (Zad 12 (Zaf e e e (jg_y (fun w hs => ZaT e (hs.row 0 e)) e e ?_)))))))))))))
  refine jy (ZaW e e) e e (jy (Zd4 e (o2 e)) e e (Zax 2 e e e (l2 e) e e e e (l2 e) (r3 e) (gz6 0 5 6 7 8 9 e (ZaN (Zae ?_)))))
  refine Zad 9 (Zaf e e e (jy (ZaW e e) e e (Zah e e e (gz6 0 5 6 7 8 9 e (Zav H37 (y45, w64 ((y45.length : Int) - 1), 0, w64 (z34.2.2.2.1 - 1), v42.2) hd46 [0, 1, 2] ⟨e, e, e, e, e, e, trivial⟩ e e e)))))
 intro z15 q16
 refine Zac (Zac (Zad 13 (Zaf e e e (jy (Zbc e e) e e (gz6 0 5 6 7 8 54 e (Zae (Zan e ?_ ?_)))))))
 rotate_left
 ·refine Zam (Zae (Zad 17 (Zaf e e e (Zaf e e e (Zaf e e e (jg_y (fun w hs => ZaT e (hs.row 0 e)) e e (jy (ZfG e e (by decide)) e e (jg_y (fun w hs => Zaj e (ld1B (hs.blkL (i := 2) e) e)) e e (jy (ZfG e e (by decide)) e e (jg_y (fun w hs => Zaj e (ld1B (hs.blkL (i := 2) e) e)) e e (jm_c e (fun v w hs hm => Zcj hm (hs.blkM (i := 0) e) (hs.argM Rha0_fl Oha0_fl) Oha0_fl) (fun _ => e) e e fun v27 q28 => Za2 (enc := Element.enc) [v27.1] e e e e e e e e fun hd29 => ZaO 1 e e e (fun w hs => (hs.row 0 e)) e e e fun y30 hd31 => jg_L (r4 e) (Zah e e e (gz4 0 5 6 7 e ?_)))))))))))))
  refine ZaF (is := [1, 2]) (s2 e) e (ZaN (Zav H9 (y30, z6.2.1.drop (Int.toNat 1), z6.2.2.1, v27.2) (hd31, (q7.2.lo (Int.toNat 1) 2)) [0, 1] ⟨e, e, e, e, trivial⟩ e e e))
 refine Zac (Zad 14 (Zaf e e e (jy (ZaW e e) e e (Zah e e e (gz5 0 5 6 7 8 e (Zae (Zac (Zad 15 (Zaf e e e (Zaf e e e (Zaf e e e (jg_y (fun w hs => ZaT e (hs.row 0 e)) e e (jy (ZfG e e (by decide)) e e (jg_y (fun w hs => Zaj e (ld1B (hs.blkL (i := 2) e) e)) e e (jy (ZfG e e (by decide)) e e (jg_y (fun w hs => Zaj e (ld1B (hs.blkL (i := 2) e) e)) e e ?_))))))))))))))))
 refine jm_c e (fun v w hs hm => Zcj hm (hs.blkM (i := 0) e) (hs.argM Rha0_fl Oha0_fl) Oha0_fl) (fun _ => e) e e fun v19 q20 => Za2 (enc := Element.enc) [v19.1] e e e e e e e e fun hd21 => ZaO 1 e e e (fun w hs => (hs.row 0 e)) e e e fun y22 hd23 => jg_L (r4 e) (Zah e e e (gz4 0 5 6 7 e (ZaF (is := [1, 2]) (s2 e) e (Zae (Zac (Zad 16 (Zaf e e e (Zaf e e e (jg_y (fun w hs => ZaT e (hs.row 0 e)) e e (jy (ZaW e e) e e (jy (Zd4 e (o2 e)) e e (Zaf e e e (jg_y (fun w hs => ZaT e (hs.row 0 e)) e e ?_)))))))))))))
 refine jy (ZaW e e) e e (jy (Zd4 e (o2 e)) e e (Za2 (enc := Arr2Int.enc) [(Arr2Int.mk (w64 ((y22.length : Int) - 1)) 1), (Arr2Int.mk (w64 ((y22.length : Int) - 1)) 2)] e e e e e e e e fun hd24 => ZaO 2 e e e (fun w hs => (hs.row 0 e)) e e e fun y25 hd26 => jg_L (r3 e) (Zah e e e (gz4 0 5 6 7 e (Zae (ZaG (Zba (Zbb ?_))))))))
 exact Zav H9 (y22, y25, w64 (z6.2.2.1 - 1), v19.2) (hd23, hd26) [1, 2] ⟨e, e, e, e, trivial⟩ e e e
theorem Zfx {w : World} {a0 : (List Element)} {ha0 : Hd} {v : Int} (hm : Zcm a0 = some v) (Rha0 : Sl w ha0 Element.enc a0) : Gives Try.prog 22 [ha0.v] w (.int .i64 v) := by
 refine ZaS (vs := [ha0.v]) (U := fun (v : Int) => .int .i64 v) Try.func22 e Try.ntmps22 e e hm ?_
 unfold Zcm
 clear hm
 refine Zac (Zad 0 (Zah e e e (gz1 0 e (Zae (Zac (Zad 1 (Zah e e e (gz2 0 3 e (Zae (Zac (Zac (Zad 2 (Zah e e e (gz3 0 3 4 e (Zae (Zar ?_))))))))))))))))
 refine Zbi (n := big) (fun (s : (Int × Int)) (g : Unit) => [(0, ha0.v), (3, .int .i64 s.1), (4, .int .i64 s.2)]) (fun (s : (Int × Int)) (g : Unit) => []) (fun (s : (Int × Int)) (g : Unit) => []) (1000000, 0) () [] ⟨e, e, e, trivial⟩ e e e ?_
 intro z1 q2 n5 k3 H4
 refine Zac (Zac (Zad 3 (Zaf e e e (Zaf e e e (jg_y (fun w hs => ZaT e (hs.arg Rha0)) e e (jy (ZaB e e) e e (gz4 0 3 4 8 e (Zae (Zan e ?_ ?_)))))))))
 rotate_left
 ·refine ZaG (Zba (Zbe (Zbb (Zae ?_))))
  refine Zac (Zad 7 (Zaf e e e (Zah e e e (gz1 2 e (Zae (Zao (Zal e (fun w hs => .tmp e) (fun w hs => ⟨e, hs.drop⟩))))))))
 refine Zam (Zae (Zac (Zar (Zac (Zad 5 (Zaf e e e (Zaf e e e (Za1 fun x6 h7 => jg_y (fun w hs => ZaD e e (hs.arg Rha0) h7) e e (jg_y (fun w hs => ZaX e (hs.arg Rha0) h7.1) e e (jg_y (fun w hs => ZaK e (hs.arg Rha0) h7.1 e) e e (jy (ZaR e e) e e (gz4 0 3 4 16 e (Zae (Zan e ?_ ?_))))))))))))))
 rotate_left
 ·refine Zam (ZaN (Zae ?_))
  refine Zad 4 (Zaf e e e (jy (Zap e e) e e (Zah e e e (gz3 0 3 4 e (Zav H4 (z1.1, w64 (z1.2 + 1)) () [] ⟨e, e, e, trivial⟩ e e e)))))
 refine Zad 6 (Zaf e e e (Zaf e e e (Zaf e e e (Za1 fun x8 h9 => jg_y (fun w hs => ZaD e e (hs.arg Rha0) h9) e e (jg_y (fun w hs => ZaX e (hs.arg Rha0) h9.1) e e (jg_y (fun w hs => ZaK e (hs.arg Rha0) h9.1 e) e e (jy (Zd3 e e) e e (Zah e e e (gz3 0 3 4 e (ZaN (Zae ?_)))))))))))
 refine Zad 4 (Zaf e e e (jy (Zap e e) e e (Zah e e e (gz3 0 3 4 e (Zav H4 (min z1.1 x8.Length, w64 (z1.2 + 1)) () [] ⟨e, e, e, trivial⟩ e e e)))))
theorem ZiF {w : World} {a0 : ByteArray}  {v : Bool} (hm : Zef a0 = some v) : Gives Try.prog 94 [.string a0] w (.bool v) := by
 refine ZaS (vs := [.string a0]) (U := fun (v : Bool) => .bool v) Try.func94 e Try.ntmps94 e e hm ?_
 unfold Zef
 clear hm
 refine Zac (Zad 0 (Zah e e e (gz1 0 e (Zae (Za6 (fun (s : Unit) (g : Unit) => [(0, .string a0)]) (fun (s : Unit) (g : Unit) => []) (fun (s : Unit) (g : Unit) => []) ?_ ?_)))))
 ·intro z1 q2
  refine Zac (Zad 6 (Zaf e e e (jy (ZfF Try.underlying9 e) e e (jy (Zbu e e) e e (Zaf e e e (Zat 36 e ?_ ?_))))))
  ·refine Zaf e e e (jy (ZfF Try.underlying9 e) e e (jy (ZbP e e) e e (jy (Zai e e) e e (Zah e e e (gz1 2 e (Zae (Zao (Zal e (fun w hs => .tmp e) (fun w hs => ⟨e, hs.drop⟩)))))))))
  refine Zaa e e (Zaa e e (Zaa e e (jy (Zag e e) e e (Zah e e e (gz1 2 e (Zae (Zao (Zal e (fun w hs => .tmp e) (fun w hs => ⟨e, hs.drop⟩)))))))))
 intro k3 H4
 refine Zac (Zad 1 (Zah e e e (gz2 0 3 e (Zae (Zar (Zbi (n := big) (fun (s : Int) (g : Unit) => [(0, .string a0), (3, .int .i64 s)]) (fun (s : Int) (g : Unit) => []) (fun (s : Int) (g : Unit) => []) 0 () [] ⟨e, e, trivial⟩ e e e ?_))))))
 intro z5 q6 n9 k7 H8
 refine Zac (Zac (Zad 2 (Zaf e e e (Zaf e e e (jy (ZfF Try.underlying9 e) e e (jy (ZaB e e) e e (gz3 0 3 7 e (Zae (Zan e ?_ ?_)))))))))
 rotate_left
 ·refine ZaG (Zba (Zbe (Zbb ?_)))
  exact Zav H4 () () [] ⟨e, trivial⟩ e e e
 refine Zam (Zae (Zac (Zar (Zac (Zad 4 (Zaf e e e (Zaf e e e (Zgf fun h10 => jy (ZeW Try.underlying9 e e (of_decide_eq_true h10)) e e (jy (Zbu e e) e e (Zaf e e e (Zat 14 e ?_ ?_)))))))))))
 rotate_left
 ·refine Zaa e e (Zaa e e (Zaa e e (Zaa e e (jy (Zag e e) e e (Zaf e e e (Zaf e e e (Zaf e e e (Zgf fun h14 => jy (ZeW Try.underlying9 e e (of_decide_eq_true h14)) e e (jy (Zbu e e) e e (Zaf e e e (Zat 25 e ?_ ?_)))))))))))
  rotate_left
  ·refine Zaa e e (Zaa e e (Zaa e e (Zaa e e (jy (Zag e e) e e (jy (Zag e e) e e (jy (Zbk e) e e (gz3 0 3 32 e (Zae (Zan e ?_ ?_)))))))))
   ·refine Zac (Zad 5 (Zah e e e (gz1 2 e (Zae (Zao (ZaA (Zau (Za0 (ZaA (Zau ?_))))))))))
    exact Zal e (fun w hs => .tmp e) (fun w hs => ⟨e, hs.drop⟩)
   refine Zam (ZaN (Zae ?_))
   refine Zad 3 (Zaf e e e (jy (Zap e e) e e (Zah e e e (gz2 0 3 e (Zav H8 (w64 (z5 + 1)) () [] ⟨e, e, trivial⟩ e e e)))))
  refine Zaf e e e (Zaf e e e (Zgf fun h15 => jy (ZeW Try.underlying9 e e (of_decide_eq_true h15)) e e (jy (ZbP e e) e e (jy (Zai e e) e e (jy (Zag e e) e e (jy (Zbk e) e e (gz3 0 3 32 e (Zae (Zan e ?_ ?_)))))))))
  ·refine Zac (Zad 5 (Zah e e e (gz1 2 e (Zae (Zao (ZaA (Zau (Za0 (ZaA (Zau ?_))))))))))
   exact Zal e (fun w hs => .tmp e) (fun w hs => ⟨e, hs.drop⟩)
  refine Zam (ZaN (Zae ?_))
  refine Zad 3 (Zaf e e e (jy (Zap e e) e e (Zah e e e (gz2 0 3 e (Zav H8 (w64 (z5 + 1)) () [] ⟨e, e, trivial⟩ e e e)))))
 refine Zaf e e e (Zaf e e e (Zgf fun h11 => jy (ZeW Try.underlying9 e e (of_decide_eq_true h11)) e e (jy (ZbP e e) e e (jy (Zai e e) e e (Zaf e e e (Zat 20 e ?_ ?_))))))
 ·refine Zaa e e (Zaa e e (Zaa e e (Zaa e e (Zaa e e (Zaa e e (Zaa e e (Zaa e e (Zaa e e (Zaa e e (jy (Zai e e) e e (jy (Zbk e) e e (gz3 0 3 32 e (Zae (Zan e ?_ ?_))))))))))))))
  ·refine Zac (Zad 5 (Zah e e e (gz1 2 e (Zae (Zao (ZaA (Zau (Za0 (ZaA (Zau ?_))))))))))
   exact Zal e (fun w hs => .tmp e) (fun w hs => ⟨e, hs.drop⟩)
  refine Zam (ZaN (Zae ?_))
  refine Zad 3 (Zaf e e e (jy (Zap e e) e e (Zah e e e (gz2 0 3 e (Zav H8 (w64 (z5 + 1)) () [] ⟨e, e, trivial⟩ e e e)))))
 refine Zaf e e e (Zaf e e e (Zgf fun h12 => jy (ZeW Try.underlying9 e e (of_decide_eq_true h12)) e e (jy (Zbu e e) e e (Zaf e e e (Zat 25 e ?_ ?_)))))
 rotate_left
 ·refine Zaa e e (Zaa e e (Zaa e e (Zaa e e (jy (Zag e e) e e (jy (Zag e e) e e (jy (Zbk e) e e (gz3 0 3 32 e (Zae (Zan e ?_ ?_)))))))))
  ·refine Zac (Zad 5 (Zah e e e (gz1 2 e (Zae (Zao (ZaA (Zau (Za0 (ZaA (Zau ?_))))))))))
   exact Zal e (fun w hs => .tmp e) (fun w hs => ⟨e, hs.drop⟩)
  refine Zam (ZaN (Zae ?_))
  refine Zad 3 (Zaf e e e (jy (Zap e e) e e (Zah e e e (gz2 0 3 e (Zav H8 (w64 (z5 + 1)) () [] ⟨e, e, trivial⟩ e e e)))))
 refine Zaf e e e (Zaf e e e (Zgf fun h13 => jy (ZeW Try.underlying9 e e (of_decide_eq_true h13)) e e (jy (ZbP e e) e e (jy (Zai e e) e e (jy (Zag e e) e e (jy (Zbk e) e e (gz3 0 3 32 e (Zae (Zan e ?_ ?_)))))))))
 ·refine Zac (Zad 5 (Zah e e e (gz1 2 e (Zae (Zao (ZaA (Zau (Za0 (ZaA (Zau ?_))))))))))
  exact Zal e (fun w hs => .tmp e) (fun w hs => ⟨e, hs.drop⟩)
 refine Zam (ZaN (Zae ?_))
 refine Zad 3 (Zaf e e e (jy (Zap e e) e e (Zah e e e (gz2 0 3 e (Zav H8 (w64 (z5 + 1)) () [] ⟨e, e, trivial⟩ e e e)))))
theorem Zhw {w : World} {a0 : Element}  {v : Bool} (hm : Zdy a0 = some v) : Gives Try.prog 85 [.agg #[.int .i64 a0.Kind, .string a0.Name, .int .i64 a0.Parent, .int .i64 a0.Side, .int .i64 a0.Length, .int .i64 a0.Grade, .int .i64 a0.Curve, .int .i64 a0.Power]] w (.bool v) := by
 refine ZaS (vs := [.agg #[.int .i64 a0.Kind, .string a0.Name, .int .i64 a0.Parent, .int .i64 a0.Side, .int .i64 a0.Length, .int .i64 a0.Grade, .int .i64 a0.Curve, .int .i64 a0.Power]]) (U := fun (v : Bool) => .bool v) Try.func85 e Try.ntmps85 e e hm ?_
 unfold Zdy
 clear hm
 refine Zac (Zad 0 (ZbF e (l8 e) e e fun g1 => Zah e e e (gz1 1 e (Zae (Zac (Zac (Zad 1 (jy (Zab e) e e (jg_y (fun w hs => Zaj e (ld1B (hs.blkL (i := 0) e) e)) e e (Zbg e (fun v w hs hm => ZiF hm ) e e fun v2 => jy (Zbk e) e e (gz2 1 6 e (Zae (Zan e ?_ ?_)))))))))))))
 ·refine Zac (Zad 2 (Zah e e e (gz1 2 e (Zae (Zao (Zau (Zal e (fun w hs => .tmp e) (fun w hs => ⟨e, hs.drop⟩))))))))
 refine Zam (Zae (Zac (Zac (Zad 3 (jy (Zab e) e e (jg_y (fun w hs => Zaj e (ld1B (hs.blkL (i := 0) e) e)) e e (jy (ZaR e e) e e (gz2 1 9 e (Zae (Zan e ?_ ?_))))))))))
 ·refine Zac (Zad 4 (jy (Zab e) e e (jg_y (fun w hs => Zaj e (ld1B (hs.blkL (i := 0) e) e)) e e (jy (ZaR e e) e e (Zaf e e e (Zat 13 e ?_ ?_))))))
  rotate_left
  ·refine Zaa e e (Zaa e e (Zaa e e (jy (Zag e e) e e (Zaf e e e (Zaa e e (Zaa e e (Zaa e e (jy (Zag e e) e e (Zaf e e e (Zaa e e (Zaa e e (Zaa e e (jy (Zag e e) e e (Zaf e e e (Zaa e e (Zaa e e ?_))))))))))))))))
   refine Zaa e e (jy (Zag e e) e e (Zaf e e e (Zaa e e (Zaa e e (Zaa e e (jy (Zag e e) e e (Zah e e e (gz1 2 e (Zae (Zao (Zau (Zal e (fun w hs => .tmp e) (fun w hs => ⟨e, hs.drop⟩)))))))))))))
  refine jy (Zab e) e e (jg_y (fun w hs => Zaj e (ld1B (hs.blkL (i := 0) e) e)) e e (jy (ZaR e e) e e (jy (Zai e e) e e (Zaf e e e (Zat 18 e ?_ ?_)))))
  rotate_left
  ·refine Zaa e e (Zaa e e (Zaa e e (jy (Zag e e) e e (Zaf e e e (Zaa e e (Zaa e e (Zaa e e (jy (Zag e e) e e (Zaf e e e (Zaa e e (Zaa e e (Zaa e e (jy (Zag e e) e e (Zaf e e e (Zaa e e (Zaa e e ?_))))))))))))))))
   refine Zaa e e (jy (Zag e e) e e (Zah e e e (gz1 2 e (Zae (Zao (Zau (Zal e (fun w hs => .tmp e) (fun w hs => ⟨e, hs.drop⟩))))))))
  refine jy (Zab e) e e (jg_y (fun w hs => Zaj e (ld1B (hs.blkL (i := 0) e) e)) e e (jy (ZaR e e) e e (jy (Zai e e) e e (Zaf e e e (Zat 23 e ?_ ?_)))))
  rotate_left
  ·refine Zaa e e (Zaa e e (Zaa e e (jy (Zag e e) e e (Zaf e e e (Zaa e e (Zaa e e (Zaa e e (jy (Zag e e) e e (Zaf e e e (Zaa e e (Zaa e e (Zaa e e (jy (Zag e e) e e (Zah e e e (gz1 2 e (Zae ?_))))))))))))))))
   refine Zao (Zau (Zal e (fun w hs => .tmp e) (fun w hs => ⟨e, hs.drop⟩)))
  refine jy (Zab e) e e (jg_y (fun w hs => Zaj e (ld1B (hs.blkL (i := 0) e) e)) e e (jy (ZaR e e) e e (jy (Zai e e) e e (Zaf e e e (Zat 28 e ?_ ?_)))))
  rotate_left
  ·refine Zaa e e (Zaa e e (Zaa e e (jy (Zag e e) e e (Zaf e e e (Zaa e e (Zaa e e (Zaa e e (jy (Zag e e) e e (Zah e e e (gz1 2 e (Zae (Zao (Zau (Zal e (fun w hs => .tmp e) (fun w hs => ⟨e, hs.drop⟩)))))))))))))))
  refine jy (Zab e) e e (jg_y (fun w hs => Zaj e (ld1B (hs.blkL (i := 0) e) e)) e e (jy (ZaR e e) e e (jy (Zai e e) e e (Zaf e e e (Zat 33 e ?_ ?_)))))
  ·refine jy (Zab e) e e (jg_y (fun w hs => Zaj e (ld1B (hs.blkL (i := 0) e) e)) e e (jy (ZaR e e) e e (jy (Zai e e) e e (Zah e e e (gz1 2 e (Zae (Zao (Zau (Zal e (fun w hs => .tmp e) (fun w hs => ⟨e, hs.drop⟩))))))))))
  refine Zaa e e (Zaa e e (Zaa e e (jy (Zag e e) e e (Zah e e e (gz1 2 e (Zae (Zao (Zau (Zal e (fun w hs => .tmp e) (fun w hs => ⟨e, hs.drop⟩))))))))))
 refine Zam (Zae (Zac (Zac (Zad 5 (jy (Zab e) e e (jg_y (fun w hs => Zaj e (ld1B (hs.blkL (i := 0) e) e)) e e (jy (ZaB e e) e e (Zaf e e e (Zat 41 e ?_ ?_)))))))))
 ·refine Zaa e e (Zaa e e (Zaa e e (jy (Zai e e) e e (Zaf e e e (Zaa e e (Zaa e e (Zaa e e (jy (Zai e e) e e (Zaf e e e (Zaa e e (Zaa e e (Zaa e e (jy (Zai e e) e e (Zaf e e e (Zaa e e (Zaa e e ?_))))))))))))))))
  refine Zaa e e (jy (Zai e e) e e (Zaf e e e (Zaa e e (Zaa e e (Zaa e e (jy (Zai e e) e e (Zaf e e e (Zaa e e (Zaa e e (Zaa e e (jy (Zai e e) e e (Zaf e e e (Zaa e e (Zaa e e (Zaa e e (jy (Zai e e) e e ?_))))))))))))))))
  refine Zaf e e e (Zaa e e (Zaa e e (Zaa e e (jy (Zai e e) e e (Zaf e e e (Zaa e e (Zaa e e (Zaa e e (jy (Zai e e) e e (gz2 1 85 e (Zae (Zbf e (Zac (Zad 6 (Zah e e e (gz1 2 e ?_))))))))))))))))
  refine Zae (Zao (Zau (Zal e (fun w hs => .tmp e) (fun w hs => ⟨e, hs.drop⟩))))
 refine jy (Zab e) e e (jg_y (fun w hs => Zaj e (ld1B (hs.blkL (i := 0) e) e)) e e (jy (Zbc e e) e e (jy (Zag e e) e e (Zaf e e e (Zat 46 e ?_ ?_)))))
 ·refine Zaa e e (Zaa e e (Zaa e e (jy (Zai e e) e e (Zaf e e e (Zaa e e (Zaa e e (Zaa e e (jy (Zai e e) e e (Zaf e e e (Zaa e e (Zaa e e (Zaa e e (jy (Zai e e) e e (Zaf e e e (Zaa e e (Zaa e e ?_))))))))))))))))
  refine Zaa e e (jy (Zai e e) e e (Zaf e e e (Zaa e e (Zaa e e (Zaa e e (jy (Zai e e) e e (Zaf e e e (Zaa e e (Zaa e e (Zaa e e (jy (Zai e e) e e (Zaf e e e (Zaa e e (Zaa e e (Zaa e e (jy (Zai e e) e e ?_))))))))))))))))
  refine Zaf e e e (Zaa e e (Zaa e e (Zaa e e (jy (Zai e e) e e (gz2 1 85 e (Zae (Zbf e (Zac (Zad 6 (Zah e e e (gz1 2 e (Zae (Zao (Zau (Zal e (fun w hs => .tmp e) (fun w hs => ⟨e, hs.drop⟩))))))))))))))))
 refine jy (Zab e) e e (jg_y (fun w hs => Zaj e (ld1B (hs.blkL (i := 0) e) e)) e e (jy (ZaB e e) e e (jy (Zag e e) e e (Zaf e e e (Zat 51 e ?_ ?_)))))
 ·refine Zaa e e (Zaa e e (Zaa e e (jy (Zai e e) e e (Zaf e e e (Zaa e e (Zaa e e (Zaa e e (jy (Zai e e) e e (Zaf e e e (Zaa e e (Zaa e e (Zaa e e (jy (Zai e e) e e (Zaf e e e (Zaa e e (Zaa e e ?_))))))))))))))))
  refine Zaa e e (jy (Zai e e) e e (Zaf e e e (Zaa e e (Zaa e e (Zaa e e (jy (Zai e e) e e (Zaf e e e (Zaa e e (Zaa e e (Zaa e e (jy (Zai e e) e e (Zaf e e e (Zaa e e (Zaa e e (Zaa e e (jy (Zai e e) e e ?_))))))))))))))))
  refine gz2 1 85 e (Zae (Zbf e (Zac (Zad 6 (Zah e e e (gz1 2 e (Zae (Zao (Zau (Zal e (fun w hs => .tmp e) (fun w hs => ⟨e, hs.drop⟩)))))))))))
 refine jy (Zab e) e e (jg_y (fun w hs => Zaj e (ld1B (hs.blkL (i := 0) e) e)) e e (jy (Zbc e e) e e (jy (Zag e e) e e (Zaf e e e (Zat 56 e ?_ ?_)))))
 ·refine Zaa e e (Zaa e e (Zaa e e (jy (Zai e e) e e (Zaf e e e (Zaa e e (Zaa e e (Zaa e e (jy (Zai e e) e e (Zaf e e e (Zaa e e (Zaa e e (Zaa e e (jy (Zai e e) e e (Zaf e e e (Zaa e e (Zaa e e ?_))))))))))))))))
  refine Zaa e e (jy (Zai e e) e e (Zaf e e e (Zaa e e (Zaa e e (Zaa e e (jy (Zai e e) e e (Zaf e e e (Zaa e e (Zaa e e (Zaa e e (jy (Zai e e) e e (gz2 1 85 e (Zae (Zbf e (Zac (Zad 6 ?_))))))))))))))))
  refine Zah e e e (gz1 2 e (Zae (Zao (Zau (Zal e (fun w hs => .tmp e) (fun w hs => ⟨e, hs.drop⟩))))))
 refine jy (Zab e) e e (jg_y (fun w hs => Zaj e (ld1B (hs.blkL (i := 0) e) e)) e e (jy (ZaB e e) e e (jy (Zag e e) e e (Zaf e e e (Zat 61 e ?_ ?_)))))
 ·refine Zaa e e (Zaa e e (Zaa e e (jy (Zai e e) e e (Zaf e e e (Zaa e e (Zaa e e (Zaa e e (jy (Zai e e) e e (Zaf e e e (Zaa e e (Zaa e e (Zaa e e (jy (Zai e e) e e (Zaf e e e (Zaa e e (Zaa e e ?_))))))))))))))))
  refine Zaa e e (jy (Zai e e) e e (Zaf e e e (Zaa e e (Zaa e e (Zaa e e (jy (Zai e e) e e (gz2 1 85 e (Zae (Zbf e (Zac (Zad 6 (Zah e e e (gz1 2 e (Zae (Zao (Zau ?_))))))))))))))))
  exact Zal e (fun w hs => .tmp e) (fun w hs => ⟨e, hs.drop⟩)
 refine jy (Zab e) e e (jg_y (fun w hs => Zaj e (ld1B (hs.blkL (i := 0) e) e)) e e (jy (Zbc e e) e e (jy (Zag e e) e e (Zaf e e e (Zat 66 e ?_ ?_)))))
 ·refine Zaa e e (Zaa e e (Zaa e e (jy (Zai e e) e e (Zaf e e e (Zaa e e (Zaa e e (Zaa e e (jy (Zai e e) e e (Zaf e e e (Zaa e e (Zaa e e (Zaa e e (jy (Zai e e) e e (Zaf e e e (Zaa e e (Zaa e e ?_))))))))))))))))
  refine Zaa e e (jy (Zai e e) e e (gz2 1 85 e (Zae (Zbf e (Zac (Zad 6 (Zah e e e (gz1 2 e (Zae (Zao (Zau (Zal e (fun w hs => .tmp e) (fun w hs => ⟨e, hs.drop⟩)))))))))))))
 refine jy (Zab e) e e (jg_y (fun w hs => Zaj e (ld1B (hs.blkL (i := 0) e) e)) e e (jy (ZaB e e) e e (jy (Zag e e) e e (Zaf e e e (Zat 71 e ?_ ?_)))))
 ·refine Zaa e e (Zaa e e (Zaa e e (jy (Zai e e) e e (Zaf e e e (Zaa e e (Zaa e e (Zaa e e (jy (Zai e e) e e (Zaf e e e (Zaa e e (Zaa e e (Zaa e e (jy (Zai e e) e e (gz2 1 85 e (Zae (Zbf e ?_))))))))))))))))
  refine Zac (Zad 6 (Zah e e e (gz1 2 e (Zae (Zao (Zau (Zal e (fun w hs => .tmp e) (fun w hs => ⟨e, hs.drop⟩))))))))
 refine jy (Zab e) e e (jg_y (fun w hs => Zaj e (ld1B (hs.blkL (i := 0) e) e)) e e (jy (Zbc e e) e e (jy (Zag e e) e e (Zaf e e e (Zat 76 e ?_ ?_)))))
 ·refine Zaa e e (Zaa e e (Zaa e e (jy (Zai e e) e e (Zaf e e e (Zaa e e (Zaa e e (Zaa e e (jy (Zai e e) e e (gz2 1 85 e (Zae (Zbf e (Zac (Zad 6 (Zah e e e (gz1 2 e (Zae ?_))))))))))))))))
  refine Zao (Zau (Zal e (fun w hs => .tmp e) (fun w hs => ⟨e, hs.drop⟩)))
 refine jy (Zab e) e e (jg_y (fun w hs => Zaj e (ld1B (hs.blkL (i := 0) e) e)) e e (jy (ZaB e e) e e (jy (Zag e e) e e (Zaf e e e (Zat 81 e ?_ ?_)))))
 ·refine Zaa e e (Zaa e e (Zaa e e (jy (Zai e e) e e (gz2 1 85 e (Zae (Zbf e (Zac (Zad 6 (Zah e e e (gz1 2 e (Zae (Zao (Zau (Zal e (fun w hs => .tmp e) (fun w hs => ⟨e, hs.drop⟩)))))))))))))))
 refine jy (Zab e) e e (jg_y (fun w hs => Zaj e (ld1B (hs.blkL (i := 0) e) e)) e e (jy (Zbc e e) e e (jy (Zag e e) e e (gz2 1 85 e (Zae (Zan e ?_ ?_))))))
 ·refine Zac (Zad 6 (Zah e e e (gz1 2 e (Zae (Zao (Zau (Zal e (fun w hs => .tmp e) (fun w hs => ⟨e, hs.drop⟩))))))))
 refine Zam (Zae (Zac (Zac (Zad 7 (jy (Zab e) e e (jg_y (fun w hs => Zaj e (ld1B (hs.blkL (i := 0) e) e)) e e (jy (ZaR e e) e e (gz2 1 88 e (Zae (Zan e ?_ ?_))))))))))
 rotate_left
 ·refine Zam (Zae (Zac (Zad 9 (jy (Zab e) e e (jg_y (fun w hs => Zaj e (ld1B (hs.blkL (i := 0) e) e)) e e (jy (ZaR e e) e e (Zah e e e (gz1 2 e (Zae (Zao (Zal e (fun w hs => .tmp e) (fun w hs => ⟨e, hs.drop⟩))))))))))))
 refine Zac (Zad 8 (jy (Zab e) e e (jg_y (fun w hs => Zaj e (ld1B (hs.blkL (i := 0) e) e)) e e (jy (Zbu e e) e e (Zaf e e e (Zat 92 e ?_ ?_))))))
 ·refine jy (Zab e) e e (jg_y (fun w hs => Zaj e (ld1B (hs.blkL (i := 0) e) e)) e e (jy (ZbP e e) e e (jy (Zai e e) e e (Zah e e e (gz1 2 e (Zae (Zao (Zau (Zal e (fun w hs => .tmp e) (fun w hs => ⟨e, hs.drop⟩))))))))))
 refine Zaa e e (Zaa e e (Zaa e e (jy (Zag e e) e e (Zah e e e (gz1 2 e (Zae (Zao (Zau (Zal e (fun w hs => .tmp e) (fun w hs => ⟨e, hs.drop⟩))))))))))
theorem ZiE {w : World} {a0 : (List Element)} {a1 : Int} {ha0 : Hd} {v : Int} (hm : Zee a0 a1 = some v) (Rha0 : Sl w ha0 Element.enc a0) : Gives Try.prog 67 [ha0.v, .int .i64 a1] w (.int .i64 v) := by
 refine ZaS (vs := [ha0.v, .int .i64 a1]) (U := fun (v : Int) => .int .i64 v) Try.func67 e Try.ntmps67 e e hm ?_
 unfold Zee
 clear hm
 refine Zac (Zad 0 (Zah e e e (gz2 0 1 e (Zae (Zac (Zad 1 (Zaf e e e (Zaf e e e (Za1 fun x1 h2 => jg_y (fun w hs => ZaD e e (hs.arg Rha0) h2) e e (jg_y (fun w hs => ZbH e (hs.arg Rha0) h2.1 (l8 e) e) e e (ZaL (l8 e) e e fun g3 => Zax 0 e e e (l8 e) e e e e (l8 e) (r1 e) (gz3 0 1 5 e (Zae (Zac ?_))))))))))))))
 refine Zac (Zad 2 (jg_y (fun w hs => Zaj e (ldBB (hs.blkL (i := 0) e) e)) e e (Zbg e (fun v w hs hm => Zhw (a0 := x1) hm ) e e fun v4 => jy (Zbk e) e e (Zaf e e e (Zat 16 e ?_ ?_)))))
 ·refine Zaa e e (Zaa e e (Zaa e e (Zaa e e (Zaa e e (Zaa e e (jy (Zai e e) e e (gz4 0 1 5 23 e (Zae (Zbf e (Zac (Zad 3 (Zah e e e (gz1 4 e (Zae (Zao (Zau ?_))))))))))))))))
  exact Zal e (fun w hs => .tmp e) (fun w hs => ⟨e, hs.drop⟩)
 refine jy (Zab e) e e (jg_y (fun w hs => Zaj e (ld1B (hs.blkL (i := 0) e) e)) e e (jy (ZaR e e) e e (Zaf e e e (jy (ZaR e e) e e (jy (ZeT Try.underlying4 e e) e e (jy (Zag e e) e e (gz4 0 1 5 23 e (Zae (Zan e ?_ ?_)))))))))
 ·refine Zac (Zad 3 (Zah e e e (gz1 4 e (Zae (Zao (Zau (Zal e (fun w hs => .tmp e) (fun w hs => ⟨e, hs.drop⟩))))))))
 refine Zam (Zae (Za6 (fun (s : Unit) (g : Unit) => [(0, ha0.v), (1, .int .i64 a1), (5, .pointer (some ⟨g3, 0, none⟩))]) (fun (s : Unit) (g : Unit) => []) (fun (s : Unit) (g : Unit) => [(Res.blk g3 62 [.int .i64 x1.Kind, .string x1.Name, .int .i64 x1.Parent, .int .i64 x1.Side, .int .i64 x1.Length, .int .i64 x1.Grade, .int .i64 x1.Curve, .int .i64 x1.Power])]) ?_ ?_))
 rotate_left
 ·intro k7 H8
  refine Zac (Zad 4 (Zah e e e (gz4 0 1 5 6 e (Zae (Zar (Zbi (n := big) (fun (s : Int) (g : Unit) => [(0, ha0.v), (1, .int .i64 a1), (5, .pointer (some ⟨g3, 0, none⟩)), (6, .int .i64 s)]) (fun (s : Int) (g : Unit) => []) (fun (s : Int) (g : Unit) => [(Res.blk g3 62 [.int .i64 x1.Kind, .string x1.Name, .int .i64 x1.Parent, .int .i64 x1.Side, .int .i64 x1.Length, .int .i64 x1.Grade, .int .i64 x1.Curve, .int .i64 x1.Power])]) 0 () [0] ⟨e, e, e, e, trivial⟩ e e e ?_))))))
  intro z20 q21 n24 k22 H23
  refine Zac (Zac (Zad 5 (Zaf e e e (Zaf e e e (jy (ZaB e e) e e (gz5 0 1 5 6 26 e (Zae (Zan e ?_ ?_))))))))
  rotate_left
  ·refine ZaG (Zba (Zbe (Zbb ?_)))
   exact Zav H8 () () [0] ⟨e, e, e, trivial⟩ e e e
  refine Zam (Zae (Zac (Zar (Zac (ZaV (L' := [_]) 7 [0] [0, 1, 2, 3, 4, 5, 6, 7] 255 255 [0, 0, 3, 4, 8, 0, 32, 80] [0, 0, 3, 7, 15, 0, 32, 127] [(0, true), (1, true), (2, true), (3, true), (4, true), (5, true), (6, true), (7, true)] e (Zay (ZaE (Zay (Za8 (ZaE (Zay Zbn)))))) (by kernel_rfl) (by kernel_rfl) (by kernel_rfl) (by kernel_rfl) (by kernel_rfl) (by kernel_rfl) (by kernel_rfl) (by kernel_rfl) (Zaz e e e e (Zaz e e e e (Zbs fun x25 h26 => jd_y e (fun w hs => ZaD e e (hs.arg Rha0) h26) e e (jd_y e (fun w hs => ZaX e (hs.arg Rha0) h26.1) e e (jd_y e (fun w hs => ZaK e (hs.arg Rha0) h26.1 e) e e (jd_y e (fun w hs => Zab e) e e (jd_y e (fun w hs => Zaj e (ld1B (hs.blk (i := 0) e) e)) e e (jd_y e (fun w hs => yv_eqlz Try.underlying9 e e) e e (Za9 [(0, _), (1, _), (5, _), (6, _), (36, _)] ⟨e, e, e, e, e, trivial⟩ (Zae ?_)))))))))))))))
  refine Zan e ?_ ?_
  ·refine Zac (Zad 8 (Zah e e e (gz1 4 e (Zae (Zao (ZaA (Zau (Za0 (ZaA (Zau ?_))))))))))
   exact Zal e (fun w hs => .tmp e) (fun w hs => ⟨e, hs.drop⟩)
  refine Zam (ZaN (Zae ?_))
  refine Zad 6 (Zaf e e e (jy (Zap e e) e e (Zah e e e (gz4 0 1 5 6 e (Zav H23 (w64 (z20 + 1)) () [0] ⟨e, e, e, e, trivial⟩ e e e)))))
 intro z5 q6
 refine Zac (Zac (Zad 9 (Zaf e e e (jy (ZaR e e) e e (gz4 0 1 5 38 e (Zae (Zan e ?_ ?_)))))))
 ·refine Zac (Zad 10 (Zah e e e (gz1 4 e (Zae (Zao (Zau (Zal e (fun w hs => .tmp e) (fun w hs => ⟨e, hs.drop⟩))))))))
 refine Zam (Zae (Zac (Zac (Zad 11 (jy (Zab e) e e (jg_y (fun w hs => Zaj e (ld1B (hs.blkL (i := 0) e) e)) e e (jy (ZaB e e) e e (Zaf e e e (Zat 42 e ?_ ?_)))))))))
 ·refine Zaa e e (Zaa e e (Zaa e e (Zaa e e (jy (Zai e e) e e (gz4 0 1 5 47 e (Zae (Zbf e (Zac (Zad 12 (Zah e e e (gz1 4 e (Zae (Zao (Zau (Zal e (fun w hs => .tmp e) (fun w hs => ⟨e, hs.drop⟩))))))))))))))))
 refine jy (Zab e) e e (jg_y (fun w hs => Zaj e (ld1B (hs.blkL (i := 0) e) e)) e e (Zaf e e e (jy (Zbu e e) e e (jy (Zag e e) e e (gz4 0 1 5 47 e (Zae (Zan e ?_ ?_)))))))
 ·refine Zac (Zad 12 (Zah e e e (gz1 4 e (Zae (Zao (Zau (Zal e (fun w hs => .tmp e) (fun w hs => ⟨e, hs.drop⟩))))))))
 refine Zam (Zae (Zac (Zad 13 (Zaf e e e (jy (Zab e) e e (jg_y (fun w hs => Zaj e (ld1B (hs.blkL (i := 0) e) e)) e e (Za1 fun x9 h10 => jg_y (fun w hs => ZaD e e (hs.arg Rha0) h10) e e (jg_y (fun w hs => ZaX e (hs.arg Rha0) h10.1) e e (jg_y (fun w hs => ZaK e (hs.arg Rha0) h10.1 e) e e (Zah e e e (gz4 0 1 5 7 e (Zae (Zac (Zac (Zad 14 ?_)))))))))))))))
 refine Zaf e e e (jy (ZaR e e) e e (Zaf e e e (Zat 56 e ?_ ?_)))
 ·refine Zaa e e (Zaa e e (Zaa e e (Zaa e e (Zaa e e (Zaa e e (jy (Zai e e) e e (gz4 0 1 5 63 e (Zae (Zbf e (Zac (Zad 15 (Zah e e e (gz1 4 e (Zae (Zao (Zau ?_))))))))))))))))
  exact Zal e (fun w hs => .tmp e) (fun w hs => ⟨e, hs.drop⟩)
 refine Zaf e e e (jy (ZaR e e) e e (jy (Zab e) e e (jg_y (fun w hs => Zaj e (ld1B (hs.blkL (i := 0) e) e)) e e (jy (ZaR e e) e e (jy (Zha Try.underlying4 e e) e e (jy (Zag e e) e e (gz4 0 1 5 63 e (Zae (Zan e ?_ ?_)))))))))
 ·refine Zac (Zad 15 (Zah e e e (gz1 4 e (Zae (Zao (Zau (Zal e (fun w hs => .tmp e) (fun w hs => ⟨e, hs.drop⟩))))))))
 refine Zam (Zae (Zac (Zac (Zad 16 (Zah e e e (gz4 0 1 5 8 e (Zae (Zar (Zbi (n := big) (fun (s : Int) (g : Unit) => [(0, ha0.v), (1, .int .i64 a1), (5, .pointer (some ⟨g3, 0, none⟩)), (8, .int .i64 s)]) (fun (s : Int) (g : Unit) => []) (fun (s : Int) (g : Unit) => [(Res.blk g3 62 [.int .i64 x1.Kind, .string x1.Name, .int .i64 x1.Parent, .int .i64 x1.Side, .int .i64 x1.Length, .int .i64 x1.Grade, .int .i64 x1.Curve, .int .i64 x1.Power])]) 1 () [0] ⟨e, e, e, e, trivial⟩ e e e ?_)))))))))
 intro z11 q12 n15 k13 H14
 refine Zac (Zac (Zad 17 (Zaf e e e (Zaf e e e (jy (ZaB e e) e e (gz5 0 1 5 8 66 e (Zae (Zan e ?_ ?_))))))))
 rotate_left
 ·refine ZaG (Zba (Zbe (Zbb (Zae ?_))))
  refine Zac (Zad 21 (Zah e e e (gz1 4 e (Zae (Zao (Zal e (fun w hs => .tmp e) (fun w hs => ⟨e, hs.drop⟩)))))))
 refine Zam (Zae (Zac (Zar (Zac (ZaV (L' := [_]) 19 [0] [0, 1, 2, 3, 4, 5, 6, 7, 8, 9, 10, 11, 12, 13, 14, 15, 16, 17] 262143 262143 [0, 0, 3, 4, 8, 0, 32, 80, 128, 256, 256, 1792, 2304, 4352, 256, 16640, 41216, 65792] [0, 0, 3, 7, 15, 0, 32, 127, 255, 511, 511, 2047, 4095, 8191, 511, 16895, 65535, 131071] [(0, true), (1, true), (2, true), (3, true), (4, true), (5, true), (6, true), (7, true), (8, true), (9, true), (10, true), (11, true), (12, true), (13, true), (14, true), (15, true), (16, true), (17, true)] e (Zay (ZaE (Zay (Za8 (ZaE (Zay Zbn)))))) (by kernel_rfl) (by kernel_rfl) (by kernel_rfl) (by kernel_rfl) (by kernel_rfl) (by kernel_rfl) (by kernel_rfl) (by kernel_rfl) (Zaz e e e e (Zaz e e e e (Zbs fun x16 h17 => jd_y e (fun w hs => ZaD e e (hs.arg Rha0) h17) e e (jd_y e (fun w hs => ZaX e (hs.arg Rha0) h17.1) e e (jd_y e (fun w hs => ZaK e (hs.arg Rha0) h17.1 e) e e (jd_y e (fun w hs => Zab e) e e (jd_y e (fun w hs => Zaj e (ld1B (hs.blk (i := 0) e) e)) e e (jd_y e (fun w hs => ZaR e e) e e (Zaz e e e e (ZbJ 77 e ?_ ?_)))))))))))))))
 rotate_left
 ·refine Zaq e e e (Zaq e e e (Zaq e e e (Zaq e e e (Zaq e e e (Zaq e e e (Zaq e e e (Zaq e e e (jd_y e (fun w hs => Zag e e) e e (Za9 [(0, _), (1, _), (5, _), (8, _), (86, _)] ⟨e, e, e, e, e, trivial⟩ (Zae (Zdt e (Zam (ZaN (Zae ?_))))))))))))))
  refine Zad 18 (Zaf e e e (jy (Zap e e) e e (Zah e e e (gz4 0 1 5 8 e (Zav H14 (w64 (z11 + 1)) () [0] ⟨e, e, e, e, trivial⟩ e e e)))))
 refine Zaz e e e e (Zaz e e e e (Zbs fun x18 h19 => jd_y e (fun w hs => ZaD e e (hs.arg Rha0) h19) e e (jd_y e (fun w hs => ZaX e (hs.arg Rha0) h19.1) e e (jd_y e (fun w hs => ZaK e (hs.arg Rha0) h19.1 e) e e (jd_y e (fun w hs => Zab e) e e (jd_y e (fun w hs => Zaj e (ld1B (hs.blk (i := 0) e) e)) e e (jd_y e (fun w hs => ZaR e e) e e (jd_y e (fun w hs => Zai e e) e e (Za9 [(0, _), (1, _), (5, _), (8, _), (86, _)] ⟨e, e, e, e, e, trivial⟩ (Zae (Zan e ?_ ?_)))))))))))
 ·refine Zac (Zad 20 (Zah e e e (gz1 4 e (Zae (Zao (ZaA (Zau (Za0 (ZaA (Zau ?_))))))))))
  exact Zal e (fun w hs => .tmp e) (fun w hs => ⟨e, hs.drop⟩)
 refine Zam (ZaN (Zae ?_))
 refine Zad 18 (Zaf e e e (jy (Zap e e) e e (Zah e e e (gz4 0 1 5 8 e (Zav H14 (w64 (z11 + 1)) () [0] ⟨e, e, e, e, trivial⟩ e e e)))))
theorem Zhx {w : World} {a0 : (List Element)} {ha0 : Hd} {v : Int} (hm : Zdi a0 = some v) (Rha0 : Sl w ha0 Element.enc a0) : Gives Try.prog 36 [ha0.v] w (.int .i64 v) := by
 refine ZaS (vs := [ha0.v]) (U := fun (v : Int) => .int .i64 v) Try.func36 e Try.ntmps36 e e hm ?_
 unfold Zdi
 clear hm
 refine Zac (Zad 0 (Zah e e e (gz1 0 e (Zae (Zac (Zac (Zad 1 (Zaf e e e (jg_y (fun w hs => ZaT e (hs.arg Rha0)) e e (jy (Zbc e e) e e (gz2 0 12 e (Zae (Zan e ?_ ?_)))))))))))))
 ·refine Zac (Zad 2 (Zah e e e (gz1 2 e (Zae (Zao (Zau (Zal e (fun w hs => .tmp e) (fun w hs => ⟨e, hs.drop⟩))))))))
 refine Zam (Zae (Zac (Zac (Zad 3 (Zaf e e e (jg_y (fun w hs => ZaT e (hs.arg Rha0)) e e (jy (ZaR e e) e e (gz2 0 15 e (Zae (Zan e ?_ ?_))))))))))
 ·refine Zac (Zad 4 (Zah e e e (gz1 2 e (Zae (Zao (Zau (Zal e (fun w hs => .tmp e) (fun w hs => ⟨e, hs.drop⟩))))))))
 refine Zam (Zae (Zac (Zad 5 (Zah e e e (gz2 0 3 e (Zae (Za6 (fun (s : Int) (g : Unit) => [(0, ha0.v), (3, .int .i64 s)]) (fun (s : Int) (g : Unit) => []) (fun (s : Int) (g : Unit) => []) ?_ ?_)))))))
 rotate_left
 ·intro k3 H4
  refine Zac (Zad 6 (Zah e e e (gz3 0 3 4 e (Zae (Zar (Zbi (n := big) (fun (s : (Int × Int)) (g : Unit) => [(0, ha0.v), (3, .int .i64 s.1), (4, .int .i64 s.2)]) (fun (s : (Int × Int)) (g : Unit) => []) (fun (s : (Int × Int)) (g : Unit) => []) (0, 0) () [] ⟨e, e, e, trivial⟩ e e e ?_))))))
  intro z23 q24 n27 k25 H26
  refine Zac (Zac (Zad 7 (Zaf e e e (Zaf e e e (jg_y (fun w hs => ZaT e (hs.arg Rha0)) e e (jy (ZaB e e) e e (gz4 0 3 4 19 e (Zae (Zan e ?_ ?_)))))))))
  rotate_left
  ·refine ZaG (Zba (Zbe (Zbb ?_)))
   exact Zav H4 z23.1 () [] ⟨e, e, trivial⟩ e e e
  refine Zam (Zae (Zac (Zar (Zac (Zac (Zad 9 (Zaf e e e (Zaf e e e (Zbg e (fun v w hs hm => ZiE hm (hs.arg Rha0)) e e fun v28 => Zah e e e (gz4 0 3 4 5 e (Zae (Zac (Zad 10 (Zaf e e e (jy (Zbj e e) e e ?_)))))))))))))))
  refine gz5 0 3 4 5 26 e (Zae (Zan e ?_ ?_))
  ·refine Zac (Zad 11 (Zaf e e e (Zah e e e (gz1 2 e (Zae (Zao (Zau (ZaA (Zau (Za0 (ZaA (Zau ?_))))))))))))
   exact Zal e (fun w hs => .tmp e) (fun w hs => ⟨e, hs.drop⟩)
  refine Zam (Zae (Zac (Zad 12 (Zaf e e e (Zaf e e e (Za1 fun x29 h30 => jg_y (fun w hs => ZaD e e (hs.arg Rha0) h30) e e (jg_y (fun w hs => ZaX e (hs.arg Rha0) h30.1) e e (jg_y (fun w hs => ZaK e (hs.arg Rha0) h30.1 e) e e (jy (ZaR e e) e e (gz4 0 3 4 33 e (Zae (Zan e ?_ ?_))))))))))))
  rotate_left
  ·refine Zam (ZaN (Zae ?_))
   refine Zad 8 (Zaf e e e (jy (Zap e e) e e (Zah e e e (gz3 0 3 4 e (Zav H26 (z23.1, w64 (z23.2 + 1)) () [] ⟨e, e, e, trivial⟩ e e e)))))
  refine Zad 13 (Zaf e e e (jy (Zap e e) e e (Zah e e e (gz3 0 3 4 e (ZaN (Zae ?_))))))
  refine Zad 8 (Zaf e e e (jy (Zap e e) e e (Zah e e e (gz3 0 3 4 e (Zav H26 (w64 (z23.1 + 1), w64 (z23.2 + 1)) () [] ⟨e, e, e, trivial⟩ e e e)))))
 intro z1 q2
 refine Zac (Zac (Zad 14 (Zah e e e (gz3 0 3 6 e (Zae (Zar (Zbi (n := big) (fun (s : Int) (g : Unit) => [(0, ha0.v), (3, .int .i64 z1), (6, .int .i64 s)]) (fun (s : Int) (g : Unit) => []) (fun (s : Int) (g : Unit) => []) 0 () [] ⟨e, e, e, trivial⟩ e e e ?_)))))))
 intro z5 q6 n9 k7 H8
 refine Zac (Zac (Zad 15 (Zaf e e e (Zaf e e e (jg_y (fun w hs => ZaT e (hs.arg Rha0)) e e (jy (ZaB e e) e e (gz4 0 3 6 39 e (Zae (Zan e ?_ ?_)))))))))
 rotate_left
 ·refine ZaG (Zba (Zbe (Zbb (Zae ?_))))
  refine Zac (Zac (Zad 31 (Zaf e e e (jy (Zbc e e) e e (gz1 70 e (Zae (Zan e ?_ ?_)))))))
  ·refine Zac (Zad 32 (Zah e e e (gz1 2 e (Zae (Zao (Zau (Zal e (fun w hs => .tmp e) (fun w hs => ⟨e, hs.drop⟩))))))))
  refine Zam (Zae (Zac (Zad 33 (Zah e e e (gz1 2 e (Zae (Zao (Zal e (fun w hs => .tmp e) (fun w hs => ⟨e, hs.drop⟩)))))))))
 refine Zam (Zae (Zac (Zar (Zac (Zad 17 (Zah e e e (gz4 0 3 6 7 e (Zae (Za6 (fun (s : Int) (g : Unit) => [(0, ha0.v), (3, .int .i64 z1), (6, .int .i64 z5), (7, .int .i64 s)]) (fun (s : Int) (g : Unit) => []) (fun (s : Int) (g : Unit) => []) ?_ ?_)))))))))
 rotate_left
 ·intro k12 H13
  refine Zac (Zad 18 (Zah e e e (gz5 0 3 6 7 8 e (Zae (Zar (Zbi (n := big) (fun (s : (Int × Int)) (g : Unit) => [(0, ha0.v), (3, .int .i64 z1), (6, .int .i64 z5), (7, .int .i64 s.1), (8, .int .i64 s.2)]) (fun (s : (Int × Int)) (g : Unit) => []) (fun (s : (Int × Int)) (g : Unit) => []) (0, 1) () [] ⟨e, e, e, e, e, trivial⟩ e e e ?_))))))
  intro z16 q17 n20 k18 H19
  refine Zac (Zac (Zad 19 (Zaf e e e (Zaf e e e (jg_y (fun w hs => ZaT e (hs.arg Rha0)) e e (jy (ZaB e e) e e (gz6 0 3 6 7 8 45 e (Zae (Zan e ?_ ?_)))))))))
  rotate_left
  ·refine ZaG (Zba (Zbe (Zbb ?_)))
   exact Zav H13 z16.1 () [] ⟨e, e, e, e, trivial⟩ e e e
  refine Zam (Zae (Zac (Zar (Zac (Zad 21 (Zaf e e e (Zaf e e e (Za1 fun x21 h22 => jg_y (fun w hs => ZaD e e (hs.arg Rha0) h22) e e (jg_y (fun w hs => ZaX e (hs.arg Rha0) h22.1) e e (jg_y (fun w hs => ZaK e (hs.arg Rha0) h22.1 e) e e (Zaf e e e (jy (ZaR e e) e e (gz6 0 3 6 7 8 54 e (Zae (Zan e ?_ ?_)))))))))))))))
  rotate_left
  ·refine Zam (ZaN (Zae ?_))
   refine Zad 20 (Zaf e e e (jy (Zap e e) e e (Zah e e e (gz5 0 3 6 7 8 e (Zav H19 (z16.1, w64 (z16.2 + 1)) () [] ⟨e, e, e, e, e, trivial⟩ e e e)))))
  refine Zad 22 (Zaf e e e (jy (Zap e e) e e (Zah e e e (gz5 0 3 6 7 8 e (ZaN (Zae ?_))))))
  refine Zad 20 (Zaf e e e (jy (Zap e e) e e (Zah e e e (gz5 0 3 6 7 8 e (Zav H19 (w64 (z16.1 + 1), w64 (z16.2 + 1)) () [] ⟨e, e, e, e, e, trivial⟩ e e e)))))
 intro z10 q11
 refine Zac (Zad 23 (Zah e e e (gz5 0 3 6 7 9 e (Zae (Zac (Zac (Zad 24 (Zaf e e e (Zaf e e e (Za1 fun x14 h15 => jg_y (fun w hs => ZaD e e (hs.arg Rha0) h15) e e (jg_y (fun w hs => ZaX e (hs.arg Rha0) h15.1) e e (jg_y (fun w hs => ZaK e (hs.arg Rha0) h15.1 e) e e (gz6 0 3 6 7 9 61 e (Zae (Zar ?_)))))))))))))))
 refine Zac (Zad 25 (jy (ZaR e e) e e (Zah e e e (gz7 0 3 6 7 9 61 62 e (Zae (Zan e ?_ ?_))))))
 ·refine Zad 26 (Zah e e e (gz5 0 3 6 7 9 e (ZaN (Zae ?_))))
  refine Zac (Zad 29 (Zaf e e e (Zaf e e e (jy (ZaB e e) e e (gz4 0 3 6 68 e (Zae (Zan e ?_ ?_)))))))
  ·refine Zac (Zad 30 (Zah e e e (gz1 2 e (Zae (Zao (ZaA (Zau (Za0 (ZaA (Zau ?_))))))))))
   exact Zal e (fun w hs => .tmp e) (fun w hs => ⟨e, hs.drop⟩)
  refine Zam (ZaN (Zae ?_))
  refine Zad 16 (Zaf e e e (jy (Zap e e) e e (Zah e e e (gz3 0 3 6 e (Zav H8 (w64 (z5 + 1)) () [] ⟨e, e, e, trivial⟩ e e e)))))
 refine Zac (Zad 27 (jy (ZaR e e) e e (Zah e e e (gz6 0 3 6 7 9 64 e (Zae (Zan e ?_ ?_))))))
 rotate_left
 ·refine Zam (ZaN (Zae ?_))
  refine Zac (Zad 29 (Zaf e e e (Zaf e e e (jy (ZaB e e) e e (gz4 0 3 6 68 e (Zae (Zan e ?_ ?_)))))))
  ·refine Zac (Zad 30 (Zah e e e (gz1 2 e (Zae (Zao (ZaA (Zau (Za0 (ZaA (Zau ?_))))))))))
   exact Zal e (fun w hs => .tmp e) (fun w hs => ⟨e, hs.drop⟩)
  refine Zam (ZaN (Zae ?_))
  refine Zad 16 (Zaf e e e (jy (Zap e e) e e (Zah e e e (gz3 0 3 6 e (Zav H8 (w64 (z5 + 1)) () [] ⟨e, e, e, trivial⟩ e e e)))))
 refine Zad 28 (Zah e e e (gz5 0 3 6 7 9 e (ZaN (Zae ?_))))
 refine Zac (Zad 29 (Zaf e e e (Zaf e e e (jy (ZaB e e) e e (gz4 0 3 6 68 e (Zae (Zan e ?_ ?_)))))))
 ·refine Zac (Zad 30 (Zah e e e (gz1 2 e (Zae (Zao (ZaA (Zau (Za0 (ZaA (Zau ?_))))))))))
  exact Zal e (fun w hs => .tmp e) (fun w hs => ⟨e, hs.drop⟩)
 refine Zam (ZaN (Zae ?_))
 refine Zad 16 (Zaf e e e (jy (Zap e e) e e (Zah e e e (gz3 0 3 6 e (Zav H8 (w64 (z5 + 1)) () [] ⟨e, e, e, trivial⟩ e e e)))))
theorem ZiD (n : Nat) : ∀ {w : World} {a0 : (List Element)} {a1 : Int} {ha0 : Hd} {v : (List Int)} (hm : ZcG n a0 a1 = some v) (Rha0 : Sl w ha0 Element.enc a0), Calls Try.prog 18 ([ha0.v, .int .i64 a1] : List Value).toArray w (fun e w' => ∃ g : Hd, e = .returned (g.v) ∧ St w w' [] [(rowH g 3 1 encI v)]) := by
 induction n with
 | zero => intro w a0 a1 ha0 v hm Rha0; exact absurd hm (by simp [ZcG])
 | succ n ih =>
 intro w a0 a1 ha0 v hm Rha0
 refine ZbL (vs := [ha0.v, .int .i64 a1]) (R := fun (v : (List Int)) (e : Ending) (w' : World) => ∃ g : Hd, e = .returned (g.v) ∧ St w w' [] [(rowH g 3 1 encI v)]) Try.func18 e Try.ntmps18 e e (St.refl w) hm ?_
 rw [ZcG]
 clear hm
 refine Zac (Zad 0 (Zah e e e (gz2 0 1 e (Zae (Zac (Zac (Zad 1 (Zaf e e e (jy (ZaB e e) e e (gz3 0 1 6 e (Zae (Zan e ?_ ?_))))))))))))
 ·refine Zac (Zad 2 (Zah e e e (gz1 4 e (Zae (Zao (Zau (ZaU 3 1 encI (Zal e (fun w hs => .tmp e) (fun w hs => ⟨(Hd.mk none 0 0), e, hs.sel (is := [0]) e e⟩)))))))))
 refine Zam (Zae (Zac (Zad 3 (Zaf e e e (Zaf e e e (Zaf e e e (Za1 fun x1 h2 => jg_y (fun w hs => ZaD e e (hs.arg Rha0) h2) e e (jg_y (fun w hs => ZaX e (hs.arg Rha0) h2.1) e e (jg_y (fun w hs => ZaK e (hs.arg Rha0) h2.1 e) e e (jg_c e (fun v w hs hm => ih hm (hs.arg Rha0)) e e fun v3 q4 => jg_L (r1 e) (Zaf e e e (Za2 (enc := encI) [a1] e e e e e e e e fun hd5 => ZaO 1 e e e (fun w hs => (hs.row 0 e)) e e e fun y6 hd7 => jg_L (r2 e) ?_))))))))))))
 refine Zah e e e (gz1 4 e (Zae (Zao (Zal e (fun w hs => .tmp e) (fun w hs => ⟨hd7, e, hs.sel (is := [1]) e e⟩)))))
theorem Zjo {w : World} {a0 : (List Element)} {a1 : Int} {ha0 : Hd} {v : (List Int)} (hm : Zgb a0 a1 = some v) (Rha0 : Sl w ha0 Element.enc a0) : Calls Try.prog 18 ([ha0.v, .int .i64 a1] : List Value).toArray w (fun e w' => ∃ g : Hd, e = .returned (g.v) ∧ St w w' [] [(rowH g 3 1 encI v)]) :=
 ZiD big hm Rha0
theorem ZiB {w : World} {a0 : (List Element)} {a1 : Int} {ha0 : Hd} {v : ((List Piece) × Int)} (hm : Zec a0 a1 = some v) (Rha0 : Sl w ha0 Element.enc a0) : Calls Try.prog 23 ([ha0.v, .int .i64 a1] : List Value).toArray w (fun e w' => ∃ g : Hd, e = .returned (.tuple #[g.v, .int .i64 v.2]) ∧ St w w' [] [(rowH g 80 5 Piece.enc v.1)]) := by
 refine ZbL (vs := [ha0.v, .int .i64 a1]) (R := fun (v : ((List Piece) × Int)) (e : Ending) (w' : World) => ∃ g : Hd, e = .returned (.tuple #[g.v, .int .i64 v.2]) ∧ St w w' [] [(rowH g 80 5 Piece.enc v.1)]) Try.func23 e Try.ntmps23 e e (St.refl w) hm ?_
 unfold Zec
 clear hm
 refine Zac (Zad 0 (Zah e e e (Zah e e e (gz2 0 1 e (Zae (Zac (Zac (Zad 1 (Zaf e e e (Zbg e (fun v w hs hm => Zhx hm (hs.arg Rha0)) e e fun v1 => Zah e e e (gz3 0 1 6 e (Zae (Zac (Zad 2 (Zaf e e e ?_)))))))))))))))
 refine jy (Zbj e e) e e (gz4 0 1 6 14 e (Zae (Zan e ?_ ?_)))
 ·refine Zac (Zad 3 (Zaf e e e (Zah e e e (Zah e e e (gz2 4 5 e (Zae (Zao (Zau (ZaU 80 5 Piece.enc (ZaZ e (fun w hs => .tmp e) (fun w hs => .tmp e) (fun w hs => ⟨(Hd.mk none 0 0), e, hs.sel (is := [0]) e e⟩)))))))))))
 refine Zam (Zae (Zac (Zac (Zad 4 (Zaf e e e (jy (ZaB e e) e e (Zaf e e e (Zat 18 e ?_ ?_))))))))
 ·refine Zaa e e (Zaa e e (Zaa e e (Zaa e e (jy (Zai e e) e e (Zaf e e e (Zaa e e (Zaa e e (Zaa e e (Zaa e e (Zaa e e (Zaa e e (jy (Zai e e) e e (gz3 0 1 31 e (Zae (Zbf e (Zac ?_))))))))))))))))
  refine Zad 5 (Zah e e e (Zah e e e (gz2 4 5 e (Zae (Zao (Zau (ZaU 80 5 Piece.enc (ZaZ e (fun w hs => .tmp e) (fun w hs => .tmp e) (fun w hs => ⟨(Hd.mk none 0 0), e, hs.sel (is := [0]) e e⟩)))))))))
 refine Zaf e e e (Zaf e e e (jg_y (fun w hs => ZaT e (hs.arg Rha0)) e e (jy (Zbu e e) e e (jy (Zag e e) e e (Zaf e e e (Zat 24 e ?_ ?_))))))
 ·refine Zaa e e (Zaa e e (Zaa e e (Zaa e e (Zaa e e (Zaa e e (jy (Zai e e) e e (gz3 0 1 31 e (Zae (Zbf e (Zac (Zad 5 (Zah e e e (Zah e e e (gz2 4 5 e (Zae (Zao ?_))))))))))))))))
  refine Zau (ZaU 80 5 Piece.enc (ZaZ e (fun w hs => .tmp e) (fun w hs => .tmp e) (fun w hs => ⟨(Hd.mk none 0 0), e, hs.sel (is := [0]) e e⟩)))
 refine Zaf e e e (Zaf e e e (Za1 fun x2 h3 => jg_y (fun w hs => ZaD e e (hs.arg Rha0) h3) e e (jg_y (fun w hs => ZaX e (hs.arg Rha0) h3.1) e e (jg_y (fun w hs => ZaK e (hs.arg Rha0) h3.1 e) e e (jy (Zbj e e) e e (jy (Zag e e) e e (gz3 0 1 31 e (Zae (Zan e ?_ ?_)))))))))
 ·refine Zac (Zad 5 (Zah e e e (Zah e e e (gz2 4 5 e (Zae (Zao (Zau (ZaU 80 5 Piece.enc (ZaZ e (fun w hs => .tmp e) (fun w hs => .tmp e) (fun w hs => ⟨(Hd.mk none 0 0), e, hs.sel (is := [0]) e e⟩))))))))))
 refine Zam (Zae (Zac (Zad 6 (Zah e e e (gz3 0 1 7 e (Zae (Zac (Zad 7 (Zaf e e e (Zaf e e e (jg_c e (fun v w hs hm => Zjo hm (hs.arg Rha0)) e e fun v4 q5 => jg_L (r1 e) (Zah e e e (gz3 0 7 8 e (Zae (Zac ?_)))))))))))))))
 refine Zac (Zad 8 (Zah e e e (gz4 0 7 8 9 e (Zae (Zar (Zbm 80 5 Piece.enc (Zbi (n := big) (fun (s : ((List Piece) × Int)) (g : Hd) => [(0, ha0.v), (7, g.v), (8, q5.v), (9, .int .i64 s.2)]) (fun (s : ((List Piece) × Int)) (g : Hd) => []) (fun (s : ((List Piece) × Int)) (g : Hd) => [(rowH g 80 5 Piece.enc s.1), (rowH q5 3 1 encI v4)]) (([] : List Piece), 1) (Hd.mk none 0 0) [0, 1] ⟨e, e, e, e, trivial⟩ e e e ?_)))))))
 intro z6 q7 n10 k8 H9
 refine Zac (Zac (Zad 9 (Zaf e e e (Zaf e e e (jg_y (fun w hs => ZaT e (hs.row 1 e)) e e (jy (ZaB e e) e e (gz5 0 7 8 9 38 e (Zae (Zan e ?_ ?_)))))))))
 rotate_left
 ·refine ZaG (Zba (Zbe (Zbb (Zae ?_))))
  refine Zac (Zad 13 (Zaf e e e (Zah e e e (Zah e e e (gz2 4 5 e (Zae (Zao (ZaZ e (fun w hs => .tmp e) (fun w hs => .tmp e) (fun w hs => ⟨q7, e, hs.sel (is := [0]) e e⟩)))))))))
 refine Zam (Zae (Zac (Zar (Zac (Zad 11 (Zaf e e e (Zaf e e e (Zaf e e e (Za1 fun x11 h12 => jg_y (fun w hs => ZaD e e (hs.row 1 e) h12) e e (jg_y (fun w hs => ZaK e (hs.row 1 e) h12.1 e) e e (Za1 fun x13 h14 => jg_y (fun w hs => ZaD e e (hs.arg Rha0) h14) e e (jg_y (fun w hs => ZbH e (hs.arg Rha0) h14.1 (l8 e) e) e e (ZaL (l8 e) e e fun g15 => Zax 0 e e e (l8 e) e e e e (l8 e) (r3 e) ?_)))))))))))))
 refine gz5 0 7 8 9 10 e (Zae (ZaV (L' := [_, _]) 12 [0, 2] [0, 1, 2, 3, 4, 5, 6, 7, 8, 9, 10, 11, 12, 13, 14, 15, 16] 131071 131071 [0, 0, 0, 6, 8, 0, 32, 0, 128, 0, 512, 0, 2048, 5456, 8192, 16385, 65535] [0, 0, 0, 6, 14, 0, 32, 0, 128, 0, 512, 0, 2048, 8190, 16382, 32767, 65535] [(0, true), (1, true), (2, true), (3, true), (4, true), (5, true), (6, true), (7, true), (8, true), (9, true), (10, true), (11, true), (12, true), (13, true), (14, false), (15, false), (16, true)] e (ZaE (Zay (Za8 (ZaE (Zay Zbn))))) (by kernel_rfl) (by kernel_rfl) (by kernel_rfl) (by kernel_rfl) (by kernel_rfl) (by kernel_rfl) (by kernel_rfl) (by kernel_rfl) (Zaz e e e e (Zaz e e e e (Zaz e e e e (Zbs fun x16 h17 => jd_y e (fun w hs => ZaD e e (hs.row 1 e) h17) e e (jd_y e (fun w hs => ZaK e (hs.row 1 e) h17.1 e) e e (jd_y e (fun w hs => Zab e) e e (jd_y e (fun w hs => Zaj e (ld1B (hs.blk (i := 0) e) e)) e e (jd_y e (fun w hs => Zab e) e e (jd_y e (fun w hs => Zaj e (ld1B (hs.blk (i := 0) e) e)) e e (jd_y e (fun w hs => Zab e) e e (jd_y e (fun w hs => Zaj e (ld1B (hs.blk (i := 0) e) e)) e e (jd_y e (fun w hs => Zab e) e e (jd_y e (fun w hs => Zaj e (ld1B (hs.blk (i := 0) e) e)) e e ?_)))))))))))))))
 refine jd_y e (fun w hs => ZaY e (o5 e)) e e (jd_h e (Za2 (enc := Piece.enc) [(Piece.mk x16 x13.Length x13.Grade x13.Curve x13.Power)] e e e e e e e e fun hd18 => ZaI (Zb6 [1, 3] e (jd_h e (ZaO 2 e e e (fun w hs => (hs.row 0 e)) e e e fun y19 hd20 => jg_L (r4 e) (ZaI (Zb6 [1, 3] e (Zb4 e e e e (Za9 [(0, _), (7, _), (8, _), (9, _)] ⟨e, e, e, e, trivial⟩ (ZaF (is := [2, 3]) (s2 e) e (ZaN (Zae ?_))))))))))))
 refine Zad 10 (Zaf e e e (jy (Zap e e) e e (Zah e e e (gz4 0 7 8 9 e (Zav H9 (y19, w64 (z6.2 + 1)) hd20 [0, 1] ⟨e, e, e, e, trivial⟩ e e e)))))
theorem ZdY {w : World} {a0 : (List Piece)} {ha0 : Hd} {v : Int} (hm : Zc0 a0 = some v) (Rha0 : Sl w ha0 Piece.enc a0) : Gives Try.prog 43 [ha0.v] w (.int .i64 v) := by
 refine ZaS (vs := [ha0.v]) (U := fun (v : Int) => .int .i64 v) Try.func43 e Try.ntmps43 e e hm ?_
 unfold Zc0
 clear hm
 refine Zac (Zad 0 (Zah e e e (gz1 0 e (Zae (Zac (Zac (Zad 1 (Zaf e e e (jg_y (fun w hs => ZaT e (hs.arg Rha0)) e e (jy (ZaB e e) e e (Zaf e e e (Zat 8 e ?_ ?_))))))))))))
 ·refine Zaa e e (Zaa e e (Zaa e e (jy (Zai e e) e e (gz2 0 12 e (Zae (Zbf e (Zac (Zad 2 (Zah e e e (gz1 2 e (Zae (Zao (Zau (Zal e (fun w hs => .tmp e) (fun w hs => ⟨e, hs.drop⟩)))))))))))))))
 refine Zaf e e e (jg_y (fun w hs => ZaT e (hs.arg Rha0)) e e (jy (Zbc e e) e e (jy (Zag e e) e e (gz2 0 12 e (Zae (Zan e ?_ ?_))))))
 ·refine Zac (Zad 2 (Zah e e e (gz1 2 e (Zae (Zao (Zau (Zal e (fun w hs => .tmp e) (fun w hs => ⟨e, hs.drop⟩))))))))
 refine Zam (Zae (Zac (Zac (Zad 3 (Zah e e e (gz2 0 3 e (Zae (Zar (Zbi (n := big) (fun (s : Int) (g : Unit) => [(0, ha0.v), (3, .int .i64 s)]) (fun (s : Int) (g : Unit) => []) (fun (s : Int) (g : Unit) => []) 0 () [] ⟨e, e, trivial⟩ e e e ?_)))))))))
 intro z1 q2 n5 k3 H4
 refine Zac (Zac (Zad 4 (Zaf e e e (Zaf e e e (jg_y (fun w hs => ZaT e (hs.arg Rha0)) e e (jy (ZaB e e) e e (gz3 0 3 16 e (Zae (Zan e ?_ ?_)))))))))
 rotate_left
 ·refine ZaG (Zba (Zbe (Zbb (Zae ?_))))
  refine Zac (Zad 9 (Zah e e e (gz1 2 e (Zae (Zao (Zal e (fun w hs => .tmp e) (fun w hs => ⟨e, hs.drop⟩)))))))
 refine Zam (Zae (Zac (Zar (Zac (Zad 6 (Zaf e e e (Zaf e e e (Za1 fun x6 h7 => jg_y (fun w hs => ZaD e e (hs.arg Rha0) h7) e e (jg_y (fun w hs => ZbH e (hs.arg Rha0) h7.1 (l5 e) e) e e (ZaL (l5 e) e e fun g8 => Zax 0 e e e (l5 e) e e e e (l5 e) (r1 e) (gz3 0 3 4 e (Zae (Zac (Zad 7 ?_))))))))))))))
 refine jy (Zab e) e e (jg_y (fun w hs => Zaj e (ld1B (hs.blkL (i := 0) e) e)) e e (jy (ZaB e e) e e (Zaf e e e (Zat 26 e ?_ ?_))))
 ·refine Zaa e e (Zaa e e (Zaa e e (jy (Zai e e) e e (Zaf e e e (Zaa e e (Zaa e e (Zaa e e (jy (Zai e e) e e (Zaf e e e (Zaa e e (Zaa e e (Zaa e e (jy (Zai e e) e e (Zaf e e e (Zaa e e (Zaa e e ?_))))))))))))))))
  refine Zaa e e (jy (Zai e e) e e (Zaf e e e (Zaa e e (Zaa e e (Zaa e e (jy (Zai e e) e e (Zaf e e e (Zaa e e (Zaa e e (Zaa e e (jy (Zai e e) e e (Zaf e e e (Zaa e e (Zaa e e (Zaa e e (jy (Zai e e) e e ?_))))))))))))))))
  refine Zaf e e e (Zaa e e (Zaa e e (Zaa e e (jy (Zai e e) e e (Zaf e e e (Zaa e e (Zaa e e (Zaa e e (jy (Zai e e) e e (gz3 0 3 70 e (Zae (Zbf e (Zac (Zad 8 (Zah e e e (gz1 2 e ?_))))))))))))))))
  refine Zae (Zao (ZaA (Zau (Za0 (ZaA (Zau ?_))))))
  exact Zal e (fun w hs => .tmp e) (fun w hs => ⟨e, hs.drop⟩)
 refine jy (Zab e) e e (jg_y (fun w hs => Zaj e (ld1B (hs.blkL (i := 0) e) e)) e e (jy (Zbu e e) e e (jy (Zag e e) e e (Zaf e e e (Zat 31 e ?_ ?_)))))
 ·refine Zaa e e (Zaa e e (Zaa e e (jy (Zai e e) e e (Zaf e e e (Zaa e e (Zaa e e (Zaa e e (jy (Zai e e) e e (Zaf e e e (Zaa e e (Zaa e e (Zaa e e (jy (Zai e e) e e (Zaf e e e (Zaa e e (Zaa e e ?_))))))))))))))))
  refine Zaa e e (jy (Zai e e) e e (Zaf e e e (Zaa e e (Zaa e e (Zaa e e (jy (Zai e e) e e (Zaf e e e (Zaa e e (Zaa e e (Zaa e e (jy (Zai e e) e e (Zaf e e e (Zaa e e (Zaa e e (Zaa e e (jy (Zai e e) e e ?_))))))))))))))))
  refine Zaf e e e (Zaa e e (Zaa e e (Zaa e e (jy (Zai e e) e e (gz3 0 3 70 e (Zae (Zbf e (Zac (Zad 8 (Zah e e e (gz1 2 e (Zae (Zao (ZaA (Zau (Za0 (ZaA (Zau ?_))))))))))))))))))
  exact Zal e (fun w hs => .tmp e) (fun w hs => ⟨e, hs.drop⟩)
 refine jy (Zab e) e e (jg_y (fun w hs => Zaj e (ld1B (hs.blkL (i := 0) e) e)) e e (jy (ZaB e e) e e (jy (Zag e e) e e (Zaf e e e (Zat 36 e ?_ ?_)))))
 ·refine Zaa e e (Zaa e e (Zaa e e (jy (Zai e e) e e (Zaf e e e (Zaa e e (Zaa e e (Zaa e e (jy (Zai e e) e e (Zaf e e e (Zaa e e (Zaa e e (Zaa e e (jy (Zai e e) e e (Zaf e e e (Zaa e e (Zaa e e ?_))))))))))))))))
  refine Zaa e e (jy (Zai e e) e e (Zaf e e e (Zaa e e (Zaa e e (Zaa e e (jy (Zai e e) e e (Zaf e e e (Zaa e e (Zaa e e (Zaa e e (jy (Zai e e) e e (Zaf e e e (Zaa e e (Zaa e e (Zaa e e (jy (Zai e e) e e ?_))))))))))))))))
  refine gz3 0 3 70 e (Zae (Zbf e (Zac (Zad 8 (Zah e e e (gz1 2 e (Zae (Zao (ZaA (Zau (Za0 (ZaA (Zau ?_)))))))))))))
  exact Zal e (fun w hs => .tmp e) (fun w hs => ⟨e, hs.drop⟩)
 refine jy (Zab e) e e (jg_y (fun w hs => Zaj e (ld1B (hs.blkL (i := 0) e) e)) e e (jy (Zbc e e) e e (jy (Zag e e) e e (Zaf e e e (Zat 41 e ?_ ?_)))))
 ·refine Zaa e e (Zaa e e (Zaa e e (jy (Zai e e) e e (Zaf e e e (Zaa e e (Zaa e e (Zaa e e (jy (Zai e e) e e (Zaf e e e (Zaa e e (Zaa e e (Zaa e e (jy (Zai e e) e e (Zaf e e e (Zaa e e (Zaa e e ?_))))))))))))))))
  refine Zaa e e (jy (Zai e e) e e (Zaf e e e (Zaa e e (Zaa e e (Zaa e e (jy (Zai e e) e e (Zaf e e e (Zaa e e (Zaa e e (Zaa e e (jy (Zai e e) e e (gz3 0 3 70 e (Zae (Zbf e (Zac (Zad 8 ?_))))))))))))))))
  refine Zah e e e (gz1 2 e (Zae (Zao (ZaA (Zau (Za0 (ZaA (Zau ?_))))))))
  exact Zal e (fun w hs => .tmp e) (fun w hs => ⟨e, hs.drop⟩)
 refine jy (Zab e) e e (jg_y (fun w hs => Zaj e (ld1B (hs.blkL (i := 0) e) e)) e e (jy (ZaB e e) e e (jy (Zag e e) e e (Zaf e e e (Zat 46 e ?_ ?_)))))
 ·refine Zaa e e (Zaa e e (Zaa e e (jy (Zai e e) e e (Zaf e e e (Zaa e e (Zaa e e (Zaa e e (jy (Zai e e) e e (Zaf e e e (Zaa e e (Zaa e e (Zaa e e (jy (Zai e e) e e (Zaf e e e (Zaa e e (Zaa e e ?_))))))))))))))))
  refine Zaa e e (jy (Zai e e) e e (Zaf e e e (Zaa e e (Zaa e e (Zaa e e (jy (Zai e e) e e (gz3 0 3 70 e (Zae (Zbf e (Zac (Zad 8 (Zah e e e (gz1 2 e (Zae (Zao (ZaA (Zau (Za0 (ZaA (Zau ?_))))))))))))))))))))
  exact Zal e (fun w hs => .tmp e) (fun w hs => ⟨e, hs.drop⟩)
 refine jy (Zab e) e e (jg_y (fun w hs => Zaj e (ld1B (hs.blkL (i := 0) e) e)) e e (jy (Zbc e e) e e (jy (Zag e e) e e (Zaf e e e (Zat 51 e ?_ ?_)))))
 ·refine Zaa e e (Zaa e e (Zaa e e (jy (Zai e e) e e (Zaf e e e (Zaa e e (Zaa e e (Zaa e e (jy (Zai e e) e e (Zaf e e e (Zaa e e (Zaa e e (Zaa e e (jy (Zai e e) e e (Zaf e e e (Zaa e e (Zaa e e ?_))))))))))))))))
  refine Zaa e e (jy (Zai e e) e e (gz3 0 3 70 e (Zae (Zbf e (Zac (Zad 8 (Zah e e e (gz1 2 e (Zae (Zao (ZaA (Zau (Za0 (ZaA (Zau ?_)))))))))))))))
  exact Zal e (fun w hs => .tmp e) (fun w hs => ⟨e, hs.drop⟩)
 refine jy (Zab e) e e (jg_y (fun w hs => Zaj e (ld1B (hs.blkL (i := 0) e) e)) e e (jy (ZaB e e) e e (jy (Zag e e) e e (Zaf e e e (Zat 56 e ?_ ?_)))))
 ·refine Zaa e e (Zaa e e (Zaa e e (jy (Zai e e) e e (Zaf e e e (Zaa e e (Zaa e e (Zaa e e (jy (Zai e e) e e (Zaf e e e (Zaa e e (Zaa e e (Zaa e e (jy (Zai e e) e e (gz3 0 3 70 e (Zae (Zbf e ?_))))))))))))))))
  refine Zac (Zad 8 (Zah e e e (gz1 2 e (Zae (Zao (ZaA (Zau (Za0 (ZaA (Zau ?_))))))))))
  exact Zal e (fun w hs => .tmp e) (fun w hs => ⟨e, hs.drop⟩)
 refine jy (Zab e) e e (jg_y (fun w hs => Zaj e (ld1B (hs.blkL (i := 0) e) e)) e e (jy (Zbc e e) e e (jy (Zag e e) e e (Zaf e e e (Zat 61 e ?_ ?_)))))
 ·refine Zaa e e (Zaa e e (Zaa e e (jy (Zai e e) e e (Zaf e e e (Zaa e e (Zaa e e (Zaa e e (jy (Zai e e) e e (gz3 0 3 70 e (Zae (Zbf e (Zac (Zad 8 (Zah e e e (gz1 2 e (Zae ?_))))))))))))))))
  refine Zao (ZaA (Zau (Za0 (ZaA (Zau ?_)))))
  exact Zal e (fun w hs => .tmp e) (fun w hs => ⟨e, hs.drop⟩)
 refine jy (Zab e) e e (jg_y (fun w hs => Zaj e (ld1B (hs.blkL (i := 0) e) e)) e e (jy (ZaB e e) e e (jy (Zag e e) e e (Zaf e e e (Zat 66 e ?_ ?_)))))
 ·refine Zaa e e (Zaa e e (Zaa e e (jy (Zai e e) e e (gz3 0 3 70 e (Zae (Zbf e (Zac (Zad 8 (Zah e e e (gz1 2 e (Zae (Zao (ZaA (Zau (Za0 (ZaA (Zau ?_)))))))))))))))))
  exact Zal e (fun w hs => .tmp e) (fun w hs => ⟨e, hs.drop⟩)
 refine jy (Zab e) e e (jg_y (fun w hs => Zaj e (ld1B (hs.blkL (i := 0) e) e)) e e (jy (Zbc e e) e e (jy (Zag e e) e e (gz3 0 3 70 e (Zae (Zan e ?_ ?_))))))
 ·refine Zac (Zad 8 (Zah e e e (gz1 2 e (Zae (Zao (ZaA (Zau (Za0 (ZaA (Zau ?_))))))))))
  exact Zal e (fun w hs => .tmp e) (fun w hs => ⟨e, hs.drop⟩)
 refine Zam (ZaN (Zae ?_))
 refine Zad 5 (Zaf e e e (jy (Zap e e) e e (Zah e e e (gz2 0 3 e (Zav H4 (w64 (z1 + 1)) () [] ⟨e, e, trivial⟩ e e e)))))
theorem ZfA {w : World} {a0 : (List Piece)} {a1 : Int} {ha0 : Hd} {v : ((List Piece) × Int)} (hm : ZcF a0 a1 = some v) (Rha0 : Sl w ha0 Piece.enc a0) : Calls Try.prog 24 ([ha0.v, .int .i64 a1] : List Value).toArray w (fun e w' => ∃ g : Hd, e = .returned (.tuple #[g.v, .int .i64 v.2]) ∧ St w w' [] [(rowH g 80 5 Piece.enc v.1)]) := by
 refine ZbL (vs := [ha0.v, .int .i64 a1]) (R := fun (v : ((List Piece) × Int)) (e : Ending) (w' : World) => ∃ g : Hd, e = .returned (.tuple #[g.v, .int .i64 v.2]) ∧ St w w' [] [(rowH g 80 5 Piece.enc v.1)]) Try.func24 e Try.ntmps24 e e (St.refl w) hm ?_
 unfold ZcF
 clear hm
 refine Zac (Zad 0 (Zah e e e (Zah e e e (gz2 0 1 e (Zae (Zac (Zac (Zad 1 (Zaf e e e (Zbg e (fun v w hs hm => ZdY hm (hs.arg Rha0)) e e fun v1 => Zah e e e (gz3 0 1 6 e (Zae (Zac (Zad 2 (Zaf e e e ?_)))))))))))))))
 refine jy (Zbj e e) e e (gz4 0 1 6 12 e (Zae (Zan e ?_ ?_)))
 ·refine Zac (Zad 3 (Zaf e e e (Zah e e e (Zah e e e (gz2 4 5 e (Zae (Zao (Zau (ZaU 80 5 Piece.enc (ZaZ e (fun w hs => .tmp e) (fun w hs => .tmp e) (fun w hs => ⟨(Hd.mk none 0 0), e, hs.sel (is := [0]) e e⟩)))))))))))
 refine Zam (Zae (Zac (Zac (Zad 4 (Zaf e e e (jy (ZaB e e) e e (Zaf e e e (Zat 16 e ?_ ?_))))))))
 ·refine Zaa e e (Zaa e e (jy (Zai e e) e e (gz3 0 1 19 e (Zae (Zbf e (Zac (Zad 5 (Zah e e e (Zah e e e (gz2 4 5 e (Zae (Zao (Zau (ZaU 80 5 Piece.enc (ZaZ e (fun w hs => .tmp e) (fun w hs => .tmp e) (fun w hs => ⟨(Hd.mk none 0 0), e, hs.sel (is := [0]) e e⟩))))))))))))))))
 refine Zaf e e e (jy (Zbc e e) e e (jy (Zag e e) e e (gz3 0 1 19 e (Zae (Zan e ?_ ?_)))))
 ·refine Zac (Zad 5 (Zah e e e (Zah e e e (gz2 4 5 e (Zae (Zao (Zau (ZaU 80 5 Piece.enc (ZaZ e (fun w hs => .tmp e) (fun w hs => .tmp e) (fun w hs => ⟨(Hd.mk none 0 0), e, hs.sel (is := [0]) e e⟩))))))))))
 refine Zam (Zae (Zac (Zad 6 (Zaf e e e (jg_y (fun w hs => ZaT e (hs.arg Rha0)) e e (jy (ZaW e e) e e (Zah e e e (gz3 0 1 7 e (Zae (Zac (Zac (Zad 7 (Zaf e e e (Zaf e e e (Za1 fun x2 h3 => jg_y (fun w hs => ZaD e e (hs.arg Rha0) h3) e e ?_)))))))))))))))
 refine jg_y (fun w hs => ZaX e (hs.arg Rha0) h3.1) e e (jg_y (fun w hs => ZaK e (hs.arg Rha0) h3.1 e) e e (Zaf e e e (jy (ZaB e e) e e (gz4 0 1 7 29 e (Zae (Zan e ?_ ?_))))))
 ·refine Zac (Zad 8 (Zah e e e (Zah e e e (gz2 4 5 e (Zae (Zao (Zau (ZaU 80 5 Piece.enc (ZaZ e (fun w hs => .tmp e) (fun w hs => .tmp e) (fun w hs => ⟨(Hd.mk none 0 0), e, hs.sel (is := [0]) e e⟩))))))))))
 refine Zam (Zae (Zac (Zad 9 (jg_lit0 (enc := Piece.enc) e e fun hd4 => Zaf e e e (ZaO 0 e e e (fun w hs => (hs.arg Rha0)) e e e fun y5 hd6 => jg_L (r1 e) (Zah e e e (gz3 1 7 8 e (Zae (Zac (Zad 10 (Zaf e e e (Zaf e e e (Zaf e e e (Za1 fun x7 h8 => ?_))))))))))))))
 refine jg_y (fun w hs => ZaD e e (hs.row 0 e) h8) e e (jg_y (fun w hs => ZaX e (hs.row 0 e) h8.1) e e (Zc5 0 (a' := (Piece.mk x7.Element a1 x7.Grade x7.Curve x7.Power)) e e h8.1 e (l1 e) e e e e fun y9 => jg_L (r1 e) (gz1 8 e (Zae (Zac (Zad 11 (Zaf e e e (Zah e e e (Zah e e e (gz2 4 5 e (Zae (Zao (ZaZ e (fun w hs => .tmp e) (fun w hs => .tmp e) (fun w hs => ⟨hd6, e, hs.sel (is := [0]) e e⟩))))))))))))))
theorem Zfc {w : World} {a0 : Interval}  {v : Bool} (hm : Zdj a0 = some v) : Gives Try.prog 68 [.agg #[.int .i64 a0.Lo, .int .i64 a0.Hi]] w (.bool v) := by
 refine ZaS (vs := [.agg #[.int .i64 a0.Lo, .int .i64 a0.Hi]]) (U := fun (v : Bool) => .bool v) Try.func68 e Try.ntmps68 e e hm ?_
 unfold Zdj
 clear hm
 refine Zac (Zad 0 (ZbF e (l2 e) e e fun g1 => Zah e e e (gz1 1 e (Zae (Zac (Zad 1 (jy (Zab e) e e (jg_y (fun w hs => Zaj e (ld1B (hs.blkL (i := 0) e) e)) e e (jy (Zab e) e e (jg_y (fun w hs => Zaj e (ld1B (hs.blkL (i := 0) e) e)) e e (jy (ZbP e e) e e (Zaf e e e (Zat 8 e ?_ ?_)))))))))))))
 rotate_left
 ·refine Zaa e e (Zaa e e (Zaa e e (jy (Zag e e) e e (Zaf e e e (Zaa e e (Zaa e e (Zaa e e (jy (Zag e e) e e (Zah e e e (gz1 2 e (Zae (Zao (Zal e (fun w hs => .tmp e) (fun w hs => ⟨e, hs.drop⟩))))))))))))))
 refine jy (Zab e) e e (jg_y (fun w hs => Zaj e (ld1B (hs.blkL (i := 0) e) e)) e e (jy (Zbu e e) e e (jy (Zai e e) e e (Zaf e e e (Zat 13 e ?_ ?_)))))
 ·refine jy (Zab e) e e (jg_y (fun w hs => Zaj e (ld1B (hs.blkL (i := 0) e) e)) e e (jy (ZbP e e) e e (jy (Zai e e) e e (Zah e e e (gz1 2 e (Zae (Zao (Zal e (fun w hs => .tmp e) (fun w hs => ⟨e, hs.drop⟩)))))))))
 refine Zaa e e (Zaa e e (Zaa e e (jy (Zag e e) e e (Zah e e e (gz1 2 e (Zae (Zao (Zal e (fun w hs => .tmp e) (fun w hs => ⟨e, hs.drop⟩)))))))))
theorem Zfb {w : World} {a0 : (List Piece)} {ha0 : Hd} {v : Int} (hm : ZcN a0 = some v) (Rha0 : Sl w ha0 Piece.enc a0) : Gives Try.prog 69 [ha0.v] w (.int .i64 v) := by
 refine ZaS (vs := [ha0.v]) (U := fun (v : Int) => .int .i64 v) Try.func69 e Try.ntmps69 e e hm ?_
 unfold ZcN
 clear hm
 refine Zac (Zad 0 (Zah e e e (gz1 0 e (Zae (Zac (Zad 1 (Zah e e e (gz2 0 3 e (Zae (Zac (Zac (Zad 2 (Zah e e e (gz3 0 3 4 e (Zae (Zar ?_))))))))))))))))
 refine Zbi (n := big) (fun (s : (Int × Int)) (g : Unit) => [(0, ha0.v), (3, .int .i64 s.1), (4, .int .i64 s.2)]) (fun (s : (Int × Int)) (g : Unit) => []) (fun (s : (Int × Int)) (g : Unit) => []) (0, 0) () [] ⟨e, e, e, trivial⟩ e e e ?_
 intro z1 q2 n5 k3 H4
 refine Zac (Zac (Zad 3 (Zaf e e e (Zaf e e e (jg_y (fun w hs => ZaT e (hs.arg Rha0)) e e (jy (ZaB e e) e e (gz4 0 3 4 8 e (Zae (Zan e ?_ ?_)))))))))
 rotate_left
 ·refine ZaG (Zba (Zbe (Zbb (Zae ?_))))
  refine Zac (Zad 7 (Zaf e e e (Zah e e e (gz1 2 e (Zae (Zao (Zal e (fun w hs => .tmp e) (fun w hs => ⟨e, hs.drop⟩))))))))
 refine Zam (Zae (Zac (Zar (Zac (Zad 5 (Zaf e e e (Zaf e e e (Za1 fun x6 h7 => jg_y (fun w hs => ZaD e e (hs.arg Rha0) h7) e e (jg_y (fun w hs => ZaX e (hs.arg Rha0) h7.1) e e (jg_y (fun w hs => ZaK e (hs.arg Rha0) h7.1 e) e e (jy (Zbc e e) e e (gz4 0 3 4 16 e (Zae (Zan e ?_ ?_))))))))))))))
 rotate_left
 ·refine Zam (ZaN (Zae ?_))
  refine Zad 4 (Zaf e e e (jy (Zap e e) e e (Zah e e e (gz3 0 3 4 e (Zav H4 (z1.1, w64 (z1.2 + 1)) () [] ⟨e, e, e, trivial⟩ e e e)))))
 refine Zad 6 (Zaf e e e (jy (Zap e e) e e (Zah e e e (gz3 0 3 4 e (ZaN (Zae ?_))))))
 refine Zad 4 (Zaf e e e (jy (Zap e e) e e (Zah e e e (gz3 0 3 4 e (Zav H4 (w64 (z1.1 + 1), w64 (z1.2 + 1)) () [] ⟨e, e, e, trivial⟩ e e e)))))
theorem Zga {w : World} {a0 : (List Int)} {ha0 : Hd} {v : Bool} (hm : ZcZ a0 = some v) (Rha0 : Sl w ha0 encI a0) : Gives Try.prog 70 [ha0.v] w (.bool v) := by
 refine ZaS (vs := [ha0.v]) (U := fun (v : Bool) => .bool v) Try.func70 e Try.ntmps70 e e hm ?_
 unfold ZcZ
 clear hm
 refine Zac (Zad 0 (Zah e e e (gz1 0 e (Zae (Zac (Zac (Zad 1 (Zah e e e (gz2 0 3 e (Zae (Zar (Zbi (n := big) (fun (s : Int) (g : Unit) => [(0, ha0.v), (3, .int .i64 s)]) (fun (s : Int) (g : Unit) => []) (fun (s : Int) (g : Unit) => []) 0 () [] ⟨e, e, trivial⟩ e e e ?_))))))))))))
 intro z1 q2 n5 k3 H4
 refine Zac (Zac (Zad 2 (Zaf e e e (Zaf e e e (jg_y (fun w hs => ZaT e (hs.arg Rha0)) e e (jy (ZaB e e) e e (gz3 0 3 7 e (Zae (Zan e ?_ ?_)))))))))
 rotate_left
 ·refine ZaG (Zba (Zbe (Zbb (Zae ?_))))
  refine Zac (Zad 6 (Zah e e e (gz1 2 e (Zae (Zao (Zal e (fun w hs => .tmp e) (fun w hs => ⟨e, hs.drop⟩)))))))
 refine Zam (Zae (Zac (Zar (Zac (Zad 4 (Zaf e e e (Zaf e e e (Za1 fun x6 h7 => jg_y (fun w hs => ZaD e e (hs.arg Rha0) h7) e e (jg_y (fun w hs => ZaK e (hs.arg Rha0) h7.1 e) e e (jy (ZaB e e) e e (Zaf e e e (Zat 15 e ?_ ?_))))))))))))
 ·refine Zaa e e (Zaa e e (Zaa e e (Zaa e e (Zaa e e (jy (Zai e e) e e (gz3 0 3 21 e (Zae (Zbf e (Zac (Zad 5 (Zah e e e (gz1 2 e (Zae (Zao (ZaA (Zau (Za0 (ZaA (Zau ?_)))))))))))))))))))
  exact Zal e (fun w hs => .tmp e) (fun w hs => ⟨e, hs.drop⟩)
 refine Zaf e e e (Zaf e e e (Za1 fun x8 h9 => jg_y (fun w hs => ZaD e e (hs.arg Rha0) h9) e e (jg_y (fun w hs => ZaK e (hs.arg Rha0) h9.1 e) e e (jy (Zbc e e) e e (jy (Zag e e) e e (gz3 0 3 21 e (Zae (Zan e ?_ ?_))))))))
 ·refine Zac (Zad 5 (Zah e e e (gz1 2 e (Zae (Zao (ZaA (Zau (Za0 (ZaA (Zau ?_))))))))))
  exact Zal e (fun w hs => .tmp e) (fun w hs => ⟨e, hs.drop⟩)
 refine Zam (ZaN (Zae ?_))
 refine Zad 3 (Zaf e e e (jy (Zap e e) e e (Zah e e e (gz2 0 3 e (Zav H4 (w64 (z1 + 1)) () [] ⟨e, e, trivial⟩ e e e)))))
end Go.Proofs.Ytdgminllobhncaa
namespace Go.Proofs.Ytdgminllobhncaa
open Go.Hy
set_option linter.unusedVariables false
set_option linter.unusedSimpArgs false
set_option maxHeartbeats 2000000
set_option maxRecDepth 100000
theorem ZgN {w : World} {a0 : (List Piece)} {a1 : Motion} {ha0 : Hd} {ha1_Class : Hd} {ha1_Targets : Hd} {v : Int} (hm : Zdh a0 a1 = some v) (Rha0 : Sl w ha0 Piece.enc a0) (Rha1_Class : Sl w ha1_Class Interval.enc a1.Class) (Rha1_Targets : Sl w ha1_Targets encI a1.Targets) : Gives Try.prog 44 [ha0.v, .agg #[.int .i64 a1.Speed.Lo, .int .i64 a1.Speed.Hi, ha1_Class.v, .int .i64 a1.Error, ha1_Targets.v]] w (.int .i64 v) := by
 refine ZaS (vs := [ha0.v, .agg #[.int .i64 a1.Speed.Lo, .int .i64 a1.Speed.Hi, ha1_Class.v, .int .i64 a1.Error, ha1_Targets.v]]) (U := fun (v : Int) => .int .i64 v) Try.func44 e Try.ntmps44 e e hm ?_
 unfold Zdh
 clear hm
 refine Zac (Zad 0 (ZbF e (l5 e) e e fun g1 => Zah e e e (gz2 0 3 e (Zae (Zac (Zac (ZaV (L' := [_]) 1 [0] [0, 1, 2, 3, 4, 5, 6, 7, 8, 9, 10, 11, 12, 13, 14, 15, 16, 17, 18, 19] 1048575 1048575 [0, 1, 2, 4, 12, 16, 48, 80, 16, 272, 656, 1040, 2064, 4096, 12288, 20480, 4096, 69632, 167936, 266240] [0, 1, 3, 7, 15, 31, 63, 127, 31, 287, 1023, 2047, 4095, 8191, 16383, 32767, 8191, 73727, 262143, 524287] [(0, true), (1, true), (2, true), (3, true), (4, true), (5, true), (6, true), (7, true), (8, true), (9, true), (10, true), (11, true), (12, true), (13, true), (14, true), (15, true), (16, true), (17, true), (18, true), (19, true)] e (Zay (Zay Zbn)) (by kernel_rfl) (by kernel_rfl) (by kernel_rfl) (by kernel_rfl) (by kernel_rfl) (by kernel_rfl) (by kernel_rfl) (by kernel_rfl) (jd_y e (fun w hs => Zab e) e e (jd_y e (fun w hs => Zaj e (ldPB (hs.blk (i := 0) e) (l2 e) e)) e e (Zdu e e (fun v w hs hm => Zfc (a0 := a1.Speed) hm ) e e fun v2 => jd_y e (fun w hs => Zbk e) e e (Zaz e e e e (ZbJ 12 e ?_ ?_))))))))))))
 ·refine Zaq e e e (Zaq e e e (Zaq e e e (Zaq e e e (Zaq e e e (Zaq e e e (jd_y e (fun w hs => Zai e e) e e (Zaz e e e e (Zaq e e e (Zaq e e e (Zaq e e e (Zaq e e e (Zaq e e e (Zaq e e e (jd_y e (fun w hs => Zai e e) e e (Za9 [(3, _), (27, _)] ⟨e, e, trivial⟩ (Zae ?_))))))))))))))))
  refine Zbf e (Zac (Zad 2 (Zah e e e (gz1 4 e (Zae (Zao (Zau (Zal e (fun w hs => .tmp e) (fun w hs => ⟨e, hs.drop⟩)))))))))
 refine jd_y e (fun w hs => Zab e) e e (jd_y e (fun w hs => Zaj e (ld1B (hs.blk (i := 0) e) e)) e e (jd_y e (fun w hs => ZaT e (hs.arg Rha1_Class)) e e (Zaz e e e e (jd_y e (fun w hs => ZaT e (hs.arg Rha0)) e e (jd_y e (fun w hs => Zbj e e) e e (jd_y e (fun w hs => Zag e e) e e (Zaz e e e e (ZbJ 20 e ?_ ?_))))))))
 ·refine Zaq e e e (Zaq e e e (Zaq e e e (Zaq e e e (Zaq e e e (Zaq e e e (jd_y e (fun w hs => Zai e e) e e (Za9 [(3, _), (27, _)] ⟨e, e, trivial⟩ (Zae (Zbf e (Zac (Zad 2 (Zah e e e (gz1 4 e (Zae (Zao (Zau ?_))))))))))))))))
  exact Zal e (fun w hs => .tmp e) (fun w hs => ⟨e, hs.drop⟩)
 refine jd_y e (fun w hs => Zab e) e e (jd_y e (fun w hs => Zaj e (ld1B (hs.blk (i := 0) e) e)) e e (jd_y e (fun w hs => ZaT e (hs.arg Rha1_Targets)) e e (Zaz e e e e (Zdu e e (fun v w hs hm => Zfb hm (hs.arg Rha0)) e e fun v3 => jd_y e (fun w hs => Zbj e e) e e (jd_y e (fun w hs => Zag e e) e e (Za9 [(3, _), (27, _)] ⟨e, e, trivial⟩ (Zae (Zan e ?_ ?_))))))))
 ·refine Zac (Zad 2 (Zah e e e (gz1 4 e (Zae (Zao (Zau (Zal e (fun w hs => .tmp e) (fun w hs => ⟨e, hs.drop⟩))))))))
 refine Zam (Zae (Za6 (fun (s : Unit) (g : Unit) => [(3, .pointer (some ⟨g1, 0, none⟩))]) (fun (s : Unit) (g : Unit) => []) (fun (s : Unit) (g : Unit) => [(Res.blk g1 78 [.int .i64 a1.Speed.Lo, .int .i64 a1.Speed.Hi, ha1_Class.v, .int .i64 a1.Error, ha1_Targets.v])]) ?_ ?_))
 rotate_left
 ·intro k6 H7
  refine Zac (Zad 3 (Zah e e e (gz2 3 5 e (Zae (Zar (Zbi (n := big) (fun (s : Int) (g : Unit) => [(3, .pointer (some ⟨g1, 0, none⟩)), (5, .int .i64 s)]) (fun (s : Int) (g : Unit) => []) (fun (s : Int) (g : Unit) => [(Res.blk g1 78 [.int .i64 a1.Speed.Lo, .int .i64 a1.Speed.Hi, ha1_Class.v, .int .i64 a1.Error, ha1_Targets.v])]) 0 () [0] ⟨e, e, trivial⟩ e e e ?_))))))
  intro z22 q23 n26 k24 H25
  refine Zac (Zac (Zad 4 (Zaf e e e (jy (Zab e) e e (jg_y (fun w hs => Zaj e (ld1B (hs.blkL (i := 0) e) e)) e e (jg_y (fun w hs => ZaT e (hs.arg Rha1_Class)) e e (jy (ZaB e e) e e (gz3 3 5 32 e (Zae (Zan e ?_ ?_))))))))))
  rotate_left
  ·refine ZaG (Zba (Zbe (Zbb ?_)))
   exact Zav H7 () () [0] ⟨e, trivial⟩ e e e
  refine Zam (Zae (Zac (Zar (Zac (Zad 6 (jy (Zab e) e e (jg_y (fun w hs => Zaj e (ld1B (hs.blkL (i := 0) e) e)) e e (Zaf e e e (Za1 fun x27 h28 => jg_y (fun w hs => ZaD e e (hs.arg Rha1_Class) h28) e e (jg_y (fun w hs => ZbH e (hs.arg Rha1_Class) h28.1 (l2 e) e) e e (Zbg e (fun v w hs hm => Zfc (a0 := x27) hm ) e e fun v29 => jy (Zbk e) e e (gz3 3 5 41 e (Zae (Zan e ?_ ?_))))))))))))))
  ·refine Zac (Zad 7 (Zah e e e (gz1 4 e (Zae (Zao (ZaA (Zau (Za0 (ZaA (Zau ?_))))))))))
   exact Zal e (fun w hs => .tmp e) (fun w hs => ⟨e, hs.drop⟩)
  refine Zam (ZaN (Zae ?_))
  refine Zad 5 (Zaf e e e (jy (Zap e e) e e (Zah e e e (gz2 3 5 e (Zav H25 (w64 (z22 + 1)) () [0] ⟨e, e, trivial⟩ e e e)))))
 intro z4 q5
 refine Za6 (fun (s : Bool) (g : Unit) => [(3, .pointer (some ⟨g1, 0, none⟩)), (6, .bool s)]) (fun (s : Bool) (g : Unit) => []) (fun (s : Bool) (g : Unit) => [(Res.blk g1 78 [.int .i64 a1.Speed.Lo, .int .i64 a1.Speed.Hi, ha1_Class.v, .int .i64 a1.Error, ha1_Targets.v])]) ?_ ?_
 rotate_left
 ·intro k10 H11
  refine Zad 8 (jy (Zab e) e e (jy (Zab e) e e (jg_y (fun w hs => Zaj e (ld1B (hs.blkL (i := 0) e) e)) e e (jy (Zbu e e) e e (Zaf e e e (Zat 46 e ?_ ?_))))))
  rotate_left
  ·refine Zaa e e (Zaa e e (Zaa e e (Zaa e e (jy (Zag e e) e e (Zaf e e e (Zaa e e (Zaa e e (Zaa e e (jy (Zag e e) e e (Zaf e e e (Zaa e e (Zaa e e (Zaa e e (jy (Zag e e) e e (Zaf e e e (Zaa e e ?_))))))))))))))))
   refine Zaa e e (Zaa e e (jy (Zag e e) e e (Zah e e e (gz2 3 6 e (Zav H11 false () [0] ⟨e, e, trivial⟩ e e e)))))
  refine jy (Zab e) e e (jy (Zab e) e e (jg_y (fun w hs => Zaj e (ld1B (hs.blkL (i := 0) e) e)) e e (jy (ZbP e e) e e (jy (Zai e e) e e (Zaf e e e (Zat 52 e ?_ ?_))))))
  rotate_left
  ·refine Zaa e e (Zaa e e (Zaa e e (jy (Zag e e) e e (Zaf e e e (Zaa e e (Zaa e e (Zaa e e (jy (Zag e e) e e (Zaf e e e (Zaa e e (Zaa e e (Zaa e e (jy (Zag e e) e e (Zah e e e (gz2 3 6 e (Zav H11 false () [0] ⟨e, e, trivial⟩ e e e))))))))))))))))
  refine jy (Zab e) e e (jg_y (fun w hs => Zaj e (ld1B (hs.blkL (i := 0) e) e)) e e (jy (Zbu e e) e e (jy (Zai e e) e e (Zaf e e e (Zat 57 e ?_ ?_)))))
  rotate_left
  ·refine Zaa e e (Zaa e e (Zaa e e (jy (Zag e e) e e (Zaf e e e (Zaa e e (Zaa e e (Zaa e e (jy (Zag e e) e e (Zah e e e (gz2 3 6 e (Zav H11 false () [0] ⟨e, e, trivial⟩ e e e)))))))))))
  refine jy (Zab e) e e (jg_y (fun w hs => Zaj e (ld1B (hs.blkL (i := 0) e) e)) e e (jy (ZbP e e) e e (jy (Zai e e) e e (Zaf e e e (Zat 62 e ?_ ?_)))))
  ·refine jy (Zab e) e e (jg_y (fun w hs => Zaj e (ld1B (hs.blkL (i := 0) e) e)) e e (Zbg e (fun v w hs hm => Zga hm (hs.arg Rha1_Targets)) e e fun v21 => jy (Zai e e) e e (Zah e e e (gz2 3 6 e (Zav H11 v21 () [0] ⟨e, e, trivial⟩ e e e)))))
  refine Zaa e e (Zaa e e (Zaa e e (jy (Zag e e) e e (Zah e e e (gz2 3 6 e (Zav H11 false () [0] ⟨e, e, trivial⟩ e e e))))))
 intro z8 q9
 refine Zac (Zac (Zad 9 (Zah e e e (gz3 3 6 7 e (Zae (Zar (Zbi (n := big) (fun (s : (Bool × Int)) (g : Unit) => [(3, .pointer (some ⟨g1, 0, none⟩)), (6, .bool s.1), (7, .int .i64 s.2)]) (fun (s : (Bool × Int)) (g : Unit) => []) (fun (s : (Bool × Int)) (g : Unit) => [(Res.blk g1 78 [.int .i64 a1.Speed.Lo, .int .i64 a1.Speed.Hi, ha1_Class.v, .int .i64 a1.Error, ha1_Targets.v])]) (z8, 0) () [0] ⟨e, e, e, trivial⟩ e e e ?_)))))))
 intro z12 q13 n16 k14 H15
 refine Zac (Zac (Zad 10 (Zaf e e e (jy (Zab e) e e (jg_y (fun w hs => Zaj e (ld1B (hs.blkL (i := 0) e) e)) e e (jg_y (fun w hs => ZaT e (hs.arg Rha1_Class)) e e (jy (ZaB e e) e e (gz4 3 6 7 71 e (Zae (Zan e ?_ ?_))))))))))
 rotate_left
 ·refine ZaG (Zba (Zbe (Zbb (Zae ?_))))
  refine Zac (Zac (Zad 13 (Zaf e e e (jy (Zbk e) e e (gz1 94 e (Zae (Zan e ?_ ?_)))))))
  ·refine Zac (Zad 14 (Zah e e e (gz1 4 e (Zae (Zao (Zau (Zal e (fun w hs => .tmp e) (fun w hs => ⟨e, hs.drop⟩))))))))
  refine Zam (Zae (Zac (Zad 15 (Zah e e e (gz1 4 e (Zae (Zao (Zal e (fun w hs => .tmp e) (fun w hs => ⟨e, hs.drop⟩)))))))))
 refine Zam (Zae (Zac (Zar (Zad 12 (Zaf e e e (Zaf e e e (Zat 75 e ?_ ?_)))))))
 rotate_left
 ·refine Zaa e e (Zaa e e (Zaa e e (Zaa e e (Zaa e e (Zaa e e (Zaa e e (jy (Zag e e) e e (Zaf e e e (Zaa e e (Zaa e e (Zaa e e (Zaa e e (Zaa e e (Zaa e e (Zaa e e (jy (Zag e e) e e ?_))))))))))))))))
  refine Zah e e e (gz3 3 6 7 e (ZaN (Zae ?_)))
  refine Zad 11 (Zaf e e e (jy (Zap e e) e e (Zah e e e (gz3 3 6 7 e (Zav H15 (false, w64 (z12.2 + 1)) () [0] ⟨e, e, e, trivial⟩ e e e)))))
 refine jy (Zab e) e e (jg_y (fun w hs => Zaj e (ld1B (hs.blkL (i := 0) e) e)) e e (Zaf e e e (Za1 fun x17 h18 => jg_y (fun w hs => ZaD e e (hs.arg Rha1_Class) h18) e e (jg_y (fun w hs => ZaX e (hs.arg Rha1_Class) h18.1) e e (jg_y (fun w hs => ZaK e (hs.arg Rha1_Class) h18.1 e) e e (jy (Zbu e e) e e (jy (Zai e e) e e (Zaf e e e (Zat 84 e ?_ ?_)))))))))
 rotate_left
 ·refine Zaa e e (Zaa e e (Zaa e e (Zaa e e (Zaa e e (Zaa e e (Zaa e e (jy (Zag e e) e e (Zah e e e (gz3 3 6 7 e (ZaN (Zae ?_)))))))))))
  refine Zad 11 (Zaf e e e (jy (Zap e e) e e (Zah e e e (gz3 3 6 7 e (Zav H15 (false, w64 (z12.2 + 1)) () [0] ⟨e, e, e, trivial⟩ e e e)))))
 refine jy (Zab e) e e (jg_y (fun w hs => Zaj e (ld1B (hs.blkL (i := 0) e) e)) e e (Zaf e e e (Za1 fun x19 h20 => jg_y (fun w hs => ZaD e e (hs.arg Rha1_Class) h20) e e (jg_y (fun w hs => ZaX e (hs.arg Rha1_Class) h20.1) e e (jg_y (fun w hs => ZaK e (hs.arg Rha1_Class) h20.1 e) e e (jy (ZbP e e) e e (jy (Zai e e) e e (Zah e e e (gz3 3 6 7 e (ZaN (Zae ?_)))))))))))
 refine Zad 11 (Zaf e e e (jy (Zap e e) e e (Zah e e e (gz3 3 6 7 e (Zav H15 (decide (x19.Hi ≤ 10000), w64 (z12.2 + 1)) () [0] ⟨e, e, e, trivial⟩ e e e)))))
theorem ZfP {w : World} {a0 : Piece} {a1 : Int}  {v : Int} (hm : ZdE a0 a1 = some v) : Gives Try.prog 72 [.agg #[.int .i64 a0.Element, .int .i64 a0.Length, .int .i64 a0.Grade, .int .i64 a0.Curve, .int .i64 a0.Power], .int .i64 a1] w (.int .i64 v) := by
 refine ZaS (vs := [.agg #[.int .i64 a0.Element, .int .i64 a0.Length, .int .i64 a0.Grade, .int .i64 a0.Curve, .int .i64 a0.Power], .int .i64 a1]) (U := fun (v : Int) => .int .i64 v) Try.func72 e Try.ntmps72 e e hm ?_
 unfold ZdE
 clear hm
 refine Zac (Zad 0 (ZbF e (l5 e) e e fun g1 => Zah e e e (gz2 1 2 e (Zae (Zac (Zad 1 (jy (Zab e) e e (jg_y (fun w hs => Zaj e (ld1B (hs.blkL (i := 0) e) e)) e e (Zaf e e e (jy (ZaW e e) e e (ZcJ (fun w hs => ZbE e e) e e fun x2 => jy (Zab e) e e (jg_y (fun w hs => Zaj e (ld1B (hs.blkL (i := 0) e) e)) e e (jy (ZbE e e) e e (Zah e e e ?_))))))))))))))
 refine gz1 4 e (Zae (Zao (Zal e (fun w hs => .tmp e) (fun w hs => ⟨e, hs.drop⟩))))
theorem ZiG {w : World} {a0 : Int} {a1 : Int}  {v : Int} (hm : Zeg a0 a1 = some v) : Gives Try.prog 71 [.int .i64 a0, .int .i64 a1] w (.int .i64 v) := by
 refine ZaS (vs := [.int .i64 a0, .int .i64 a1]) (U := fun (v : Int) => .int .i64 v) Try.func71 e Try.ntmps71 e e hm ?_
 unfold Zeg
 clear hm
 refine Zac (Zad 0 (Zah e e e (gz2 0 1 e (Zae (Zac (ZaV (L' := []) 1 [] [0, 1, 2, 3, 4, 5, 6, 7] 255 255 [0, 0, 3, 0, 0, 24, 7, 127] [0, 0, 3, 0, 0, 24, 7, 127] [(0, true), (1, true), (2, true), (3, true), (4, true), (5, true), (6, true), (7, true)] e (Zay Zbn) (by kernel_rfl) (by kernel_rfl) (by kernel_rfl) (by kernel_rfl) (by kernel_rfl) (by kernel_rfl) (by kernel_rfl) (by kernel_rfl) (Zaz e e e e (Zaz e e e e (Zel fun h1 => jd_y e (fun w hs => ZbX e e (of_decide_eq_true h1)) e e (Zaz e e e e (Zaz e e e e (Zel fun h2 => jd_y e (fun w hs => Zdp e e (of_decide_eq_true h2)) e e (Zb4 e e e e (Zb4 e e e e ?_))))))))))))))
 refine Za9 [(1, _), (5, _), (6, _)] ⟨e, e, e, trivial⟩ (Zae (Zac (Zac (Zad 2 (Zaf e e e (jy (Zbj e e) e e (Zaf e e e (Zat 15 e ?_ ?_))))))))
 rotate_left
 ·refine Zaa e e (Zaa e e (Zaa e e (Zaa e e (Zaa e e (jy (Zag e e) e e (gz2 5 21 e (Zae (Zdt e (Zam (Zae (Zac (Zad 4 (Zaf e e e (Zah e e e (gz1 4 e (Zae ?_))))))))))))))))
  refine Zao (Zal e (fun w hs => .tmp e) (fun w hs => ⟨e, hs.drop⟩))
 refine Zaf e e e (jy (ZaB e e) e e (Zaf e e e (jy (ZaB e e) e e (jy (ZeT Try.underlying4 e e) e e (jy (Zai e e) e e (gz2 5 21 e (Zae (Zan e ?_ ?_))))))))
 rotate_left
 ·refine Zam (Zae (Zac (Zad 4 (Zaf e e e (Zah e e e (gz1 4 e (Zae (Zao (Zal e (fun w hs => .tmp e) (fun w hs => ⟨e, hs.drop⟩))))))))))
 refine Zad 3 (Zaf e e e (ZcJ (fun w hs => ZaW e e) e e fun x3 => Zah e e e (gz1 5 e (Zae (Zac (Zad 4 (Zaf e e e (Zah e e e (gz1 4 e (Zae (Zao (Zal e (fun w hs => .tmp e) (fun w hs => ⟨e, hs.drop⟩)))))))))))))
theorem Zh1 {w : World} {a0 : Int} {a1 : Int}  {v : Int} (hm : ZfQ a0 a1 = some v) : Gives Try.prog 73 [.int .i64 a0, .int .i64 a1] w (.int .i64 v) := by
 refine ZaS (vs := [.int .i64 a0, .int .i64 a1]) (U := fun (v : Int) => .int .i64 v) Try.func73 e Try.ntmps73 e e hm ?_
 unfold ZfQ
 clear hm
 refine Zac (Zad 0 (Zah e e e (gz2 0 1 e (Zae (Zac (ZaV (L' := []) 1 [] [0, 1, 2, 3, 4, 5, 6, 7] 255 255 [0, 0, 3, 0, 0, 24, 7, 127] [0, 0, 3, 0, 0, 24, 7, 127] [(0, true), (1, true), (2, true), (3, true), (4, true), (5, true), (6, true), (7, true)] e (Zay Zbn) (by kernel_rfl) (by kernel_rfl) (by kernel_rfl) (by kernel_rfl) (by kernel_rfl) (by kernel_rfl) (by kernel_rfl) (by kernel_rfl) (Zaz e e e e (Zaz e e e e (Zel fun h1 => jd_y e (fun w hs => ZbX e e (of_decide_eq_true h1)) e e (Zaz e e e e (Zaz e e e e (Zel fun h2 => jd_y e (fun w hs => Zdp e e (of_decide_eq_true h2)) e e (Zb4 e e e e (Zb4 e e e e ?_))))))))))))))
 refine Za9 [(1, _), (5, _), (6, _)] ⟨e, e, e, trivial⟩ (Zae (Zac (Zac (Zad 2 (Zaf e e e (jy (Zbj e e) e e (Zaf e e e (Zat 15 e ?_ ?_))))))))
 rotate_left
 ·refine Zaa e e (Zaa e e (Zaa e e (Zaa e e (Zaa e e (jy (Zag e e) e e (gz2 5 21 e (Zae (Zdt e (Zam (Zae (Zac (Zad 4 (Zaf e e e (Zah e e e (gz1 4 e (Zae ?_))))))))))))))))
  refine Zao (Zal e (fun w hs => .tmp e) (fun w hs => ⟨e, hs.drop⟩))
 refine Zaf e e e (jy (ZaB e e) e e (Zaf e e e (jy (ZaB e e) e e (jy (Zha Try.underlying4 e e) e e (jy (Zai e e) e e (gz2 5 21 e (Zae (Zan e ?_ ?_))))))))
 rotate_left
 ·refine Zam (Zae (Zac (Zad 4 (Zaf e e e (Zah e e e (gz1 4 e (Zae (Zao (Zal e (fun w hs => .tmp e) (fun w hs => ⟨e, hs.drop⟩))))))))))
 refine Zad 3 (Zaf e e e (ZcJ (fun w hs => Zap e e) e e fun x3 => Zah e e e (gz1 5 e (Zae (Zac (Zad 4 (Zaf e e e (Zah e e e (gz1 4 e (Zae (Zao (Zal e (fun w hs => .tmp e) (fun w hs => ⟨e, hs.drop⟩)))))))))))))
theorem Zdc {w : World} {a0 : Int}  {v : Int} (hm : Zb0 a0 = some v) : Gives Try.prog 75 [.int .i64 a0] w (.int .i64 v) := by
 refine ZaS (vs := [.int .i64 a0]) (U := fun (v : Int) => .int .i64 v) Try.func75 e Try.ntmps75 e e hm ?_
 unfold Zb0
 clear hm
 refine Zac (Zad 0 (Zah e e e (gz1 0 e (Zae (Zac (Zad 1 (Zah e e e (Zah e e e (gz3 0 3 4 e (Zae (Zac (Zar (Zbi (n := big) (fun (s : (Int × Int)) (g : Unit) => [(0, .int .i64 a0), (3, .int .i64 s.1), (4, .int .i64 s.2)]) (fun (s : (Int × Int)) (g : Unit) => []) (fun (s : (Int × Int)) (g : Unit) => []) (0, 1073741824) () [] ⟨e, e, e, trivial⟩ e e e ?_)))))))))))))
 intro z1 q2 n5 k3 H4
 refine Zac (Zac (Zad 2 (Zaf e e e (Zaf e e e (jy (ZaB e e) e e (gz4 0 3 4 8 e (Zae (Zan e ?_ ?_))))))))
 rotate_left
 ·refine ZaG (Zba (Zbe (Zbb (Zae ?_))))
  refine Zac (Zad 7 (Zaf e e e (Zah e e e (gz1 2 e (Zae (Zao (Zal e (fun w hs => .tmp e) (fun w hs => ⟨e, hs.drop⟩))))))))
 refine Zam (Zae (Zar (Zac (Zad 3 (Zaf e e e (Zaf e e e (jy (Zap e e) e e (jy (Zap e e) e e (ZcJ (fun w hs => ZbX e e (by decide)) e e fun x6 => Zah e e e (gz4 0 3 4 5 e (Zae (Zac (Zad 4 (Zaf e e e (Zaf e e e ?_)))))))))))))))
 refine jy (ZbE e e) e e (Zaf e e e (jy (ZbP e e) e e (gz5 0 3 4 5 18 e (Zae (Zan e ?_ ?_)))))
 ·refine Zad 5 (Zaf e e e (Zah e e e (gz3 0 3 4 e (ZaN (Zav H4 (x6, z1.2) () [] ⟨e, e, e, trivial⟩ e e e)))))
 refine Zad 6 (Zaf e e e (jy (ZaW e e) e e (Zah e e e (gz3 0 3 4 e (ZaN (Zav H4 (z1.1, w64 (x6 - 1)) () [] ⟨e, e, e, trivial⟩ e e e))))))
theorem ZeA {w : World} {a0 : Int}  {v : Int} (hm : ZcQ a0 = some v) : Gives Try.prog 74 [.int .i64 a0] w (.int .i64 v) := by
 refine ZaS (vs := [.int .i64 a0]) (U := fun (v : Int) => .int .i64 v) Try.func74 e Try.ntmps74 e e hm ?_
 unfold ZcQ
 clear hm
 refine Zac (Zad 0 (Zah e e e (gz1 0 e (Zae (Zac (Zad 1 (Zaf e e e (Zbg e (fun v w hs hm => Zdc hm ) e e fun v1 => Zah e e e (gz2 0 3 e (Zae (Zac (Zac (Zad 2 (Zaf e e e (Zaf e e e ?_)))))))))))))))
 refine jy (ZbE e e) e e (Zaf e e e (jy (ZaB e e) e e (gz2 3 10 e (Zae (Zan e ?_ ?_)))))
 rotate_left
 ·refine Zam (Zae (Zac (Zad 4 (Zaf e e e (Zah e e e (gz1 2 e (Zae (Zao (Zal e (fun w hs => .tmp e) (fun w hs => ⟨e, hs.drop⟩))))))))))
 refine Zad 3 (Zaf e e e (jy (Zap e e) e e (Zah e e e (gz1 3 e (Zae (Zac (Zad 4 (Zaf e e e (Zah e e e (gz1 2 e (Zae (Zao (Zal e (fun w hs => .tmp e) (fun w hs => ⟨e, hs.drop⟩))))))))))))))
theorem ZiA {w : World} {a0 : Passage} {a1 : Piece} {a2 : Interval}  {v : Passage} (hm : Zeb a0 a1 a2 = some v) : Gives Try.prog 45 [.agg #[.int .i64 a0.Time.Lo, .int .i64 a0.Time.Hi, .int .i64 a0.Energy.Lo, .int .i64 a0.Energy.Hi, .bool a0.Slow, .bool a0.Stops], .agg #[.int .i64 a1.Element, .int .i64 a1.Length, .int .i64 a1.Grade, .int .i64 a1.Curve, .int .i64 a1.Power], .agg #[.int .i64 a2.Lo, .int .i64 a2.Hi]] w (.agg #[.int .i64 v.Time.Lo, .int .i64 v.Time.Hi, .int .i64 v.Energy.Lo, .int .i64 v.Energy.Hi, .bool v.Slow, .bool v.Stops]) := by
 refine ZaS (vs := [.agg #[.int .i64 a0.Time.Lo, .int .i64 a0.Time.Hi, .int .i64 a0.Energy.Lo, .int .i64 a0.Energy.Hi, .bool a0.Slow, .bool a0.Stops], .agg #[.int .i64 a1.Element, .int .i64 a1.Length, .int .i64 a1.Grade, .int .i64 a1.Curve, .int .i64 a1.Power], .agg #[.int .i64 a2.Lo, .int .i64 a2.Hi]]) (U := fun (v : Passage) => .agg #[.int .i64 v.Time.Lo, .int .i64 v.Time.Hi, .int .i64 v.Energy.Lo, .int .i64 v.Energy.Hi, .bool v.Slow, .bool v.Stops]) Try.func45 e Try.ntmps45 e e hm ?_
 unfold Zeb
 clear hm
 refine Zac (Zad 0 (ZbF e (l6 e) e e fun g1 => ZbF e (l5 e) e e fun g2 => ZbF e (l2 e) e e fun g3 => ZaL (l6 e) e e fun g4 => gz4 3 4 5 6 e (Zae (Zac (ZaV (L' := [_, _, _, _]) 1 [0, 1, 2, 3] [0, 1, 2, 3, 4, 5, 6, 7, 8, 9, 10, 11, 12, 13, 14, 15, 16, 17, 18, 19] 1048575 1048575 [0, 1, 2, 0, 0, 16, 40, 64, 132, 0, 512, 1024, 0, 0, 8192, 20608, 32768, 67584, 66047, 524287] [0, 1, 3, 0, 0, 16, 56, 120, 255, 0, 512, 1536, 0, 0, 8192, 28920, 61688, 130808, 127487, 524287] [(0, true), (1, true), (2, true), (3, true), (4, true), (5, true), (6, true), (7, true), (8, true), (9, true), (10, true), (11, true), (12, true), (13, true), (14, true), (15, true), (16, true), (17, true), (18, true), (19, true)] e (Zay Zbn) (by kernel_rfl) (by kernel_rfl) (by kernel_rfl) (by kernel_rfl) (by kernel_rfl) (by kernel_rfl) (by kernel_rfl) (by kernel_rfl) (jd_y e (fun w hs => Zab e) e e (jd_y e (fun w hs => Zab e) e e (jd_y e (fun w hs => Zaj e (ld1B (hs.blk (i := 3) e) e)) e e (jd_y e (fun w hs => Zaj e (ldBB (hs.blk (i := 2) e) e)) e e (jd_y e (fun w hs => Zab e) e e (jd_y e (fun w hs => Zaj e (ld1B (hs.blk (i := 1) e) e)) e e (Zdu e e (fun v w hs hm => ZfP (a0 := a1) hm ) e e fun v5 => ?_))))))))))))
 refine Zdu e e (fun v w hs hm => ZiG hm ) e e fun v6 => jd_y e (fun w hs => Zap e e) e e (jd_y e (fun w hs => Zab e) e e (jd_y e (fun w hs => Zab e) e e (jd_y e (fun w hs => Zaj e (ld1B (hs.blk (i := 3) e) e)) e e (jd_y e (fun w hs => Zaj e (ldBB (hs.blk (i := 2) e) e)) e e (jd_y e (fun w hs => Zab e) e e (jd_y e (fun w hs => Zaj e (ld1B (hs.blk (i := 1) e) e)) e e (Zdu e e (fun v w hs hm => ZfP (a0 := a1) hm ) e e fun v7 => Zdu e e (fun v w hs hm => Zh1 hm ) e e fun v8 => jd_y e (fun w hs => Zap e e) e e (Zb4 e e e e (Zb4 e e e e (Za9 [(3, _), (4, _), (6, _), (7, _), (8, _)] ⟨e, e, e, e, e, trivial⟩ (Zae (Zac (Zac ?_)))))))))))))
 refine Zad 2 (Zaf e e e (jy (ZaB e e) e e (gz6 3 4 6 7 8 31 e (Zae (Zan e ?_ ?_)))))
 ·refine Zac (Zad 3 (jy (ZaY e (o6 e)) e e (Zax 0 e e e (l6 e) e e e e (l6 e) (r4 e) (gz1 6 e (ZaF (is := [0]) (s1 e) e (Zae (Zao (Zau (Zal e (fun w hs => .cell e (ldBB (hs.blkL (i := 0) e) e)) (fun w hs => ⟨e, hs.drop⟩))))))))))
 refine Zam (Zae (Zac (Zad 4 (jy (Zab e) e e (jy (Zab e) e e (jg_y (fun w hs => Zaj e (ld1B (hs.blkL (i := 3) e) e)) e e (Zbg e (fun v w hs hm => ZeA hm ) e e fun v9 => Zaf e e e (Zbg e (fun v w hs hm => ZeA hm ) e e fun v10 => jy (Zap e e) e e (Zah e e e (gz6 3 4 6 7 8 9 e (Zae (Zac (Zac (Zad 5 ?_))))))))))))))
 refine Zaf e e e (jy (ZaR e e) e e (gz7 3 4 6 7 8 9 41 e (Zae (Zan e ?_ ?_))))
 ·refine Zac (Zad 6 (jy (ZaY e (o6 e)) e e (Zax 0 e e e (l6 e) e e e e (l6 e) (r4 e) (gz1 6 e (ZaF (is := [0]) (s1 e) e (Zae (Zao (Zau (Zal e (fun w hs => .cell e (ldBB (hs.blkL (i := 0) e) e)) (fun w hs => ⟨e, hs.drop⟩))))))))))
 refine Zam (Zae (Za6 (fun (s : Bool) (g : Nat) => [(3, .pointer (some ⟨g1, 0, none⟩)), (4, .pointer (some ⟨g2, 0, none⟩)), (6, .pointer (some ⟨g4, 0, none⟩)), (7, .int .i64 (w64 (a0.Energy.Lo + v6))), (8, .int .i64 (w64 (a0.Energy.Hi + v8))), (9, .int .i64 (w64 (v9 + v10))), (10, .pointer (some ⟨g, 0, none⟩))]) (fun (s : Bool) (g : Nat) => []) (fun (s : Bool) (g : Nat) => [(Res.blk g1 87 [.int .i64 a0.Time.Lo, .int .i64 a0.Time.Hi, .int .i64 a0.Energy.Lo, .int .i64 a0.Energy.Hi, .bool a0.Slow, .bool a0.Stops]), (Res.blk g2 80 [.int .i64 a1.Element, .int .i64 a1.Length, .int .i64 a1.Grade, .int .i64 a1.Curve, .int .i64 a1.Power]), (Res.blk g4 87 [.int .i64 0, .int .i64 0, .int .i64 0, .int .i64 0, .bool false, .bool false]), (Res.blk g 87 [.int .i64 0, .int .i64 0, .int .i64 0, .int .i64 0, .bool s, .bool false])]) ?_ ?_))
 rotate_left
 ·intro k13 H14
  refine Zad 7 (jy (Zab e) e e (jg_y (fun w hs => Zaj e (ld1B (hs.blkL (i := 3) e) e)) e e (Zaf e e e (Zat 45 e ?_ ?_))))
  ·refine Zaa e e (Zaa e e (jy (Zai e e) e e (jy (ZaY e (o6 e)) e e (ZaL (l6 e) e e fun g27 => Zax 0 e e e (l6 e) e e e e (l6 e) (r5 e) (gz7 3 4 6 7 8 9 10 e (Zav H14 true g27 [4, 3, 1, 0] ⟨e, e, e, e, e, e, e, trivial⟩ e e e))))))
  refine Zaf e e e (jy (ZaB e e) e e (jy (Zag e e) e e (jy (ZaY e (o6 e)) e e (ZaL (l6 e) e e fun g28 => Zax 0 e e e (l6 e) e e e e (l6 e) (r5 e) (gz7 3 4 6 7 8 9 10 e (Zav H14 (decide ((w64 (a0.Energy.Lo + v6)) < 0)) g28 [4, 3, 1, 0] ⟨e, e, e, e, e, e, e, trivial⟩ e e e))))))
 intro z11 q12
 refine Zac (Zad 8 (Zaf e e e (ZcJ (fun w hs => ZeU e e) e e fun x15 => Zah e e e (gz7 3 4 6 7 8 9 10 e (Zae (Zac (Zad 9 (jy (Zab e) e e (jy (Zab e) e e (jg_y (fun w hs => Zaj e (ld1B (hs.blkL (i := 0) e) e)) e e (Zbg e (fun v w hs hm => Zdc hm ) e e fun v16 => Zaf e e e (Zbg e (fun v w hs hm => Zdc hm ) e e fun v17 => jy (Zap e e) e e (Zah e e e ?_)))))))))))))
 refine gz8 3 4 6 7 8 9 10 11 e (Zae (Za6 (fun (s : Bool) (g : Unit) => [(3, .pointer (some ⟨g1, 0, none⟩)), (4, .pointer (some ⟨g2, 0, none⟩)), (6, .pointer (some ⟨g4, 0, none⟩)), (7, .int .i64 x15), (8, .int .i64 (w64 (a0.Energy.Hi + v8))), (9, .int .i64 (w64 (v9 + v10))), (10, .pointer (some ⟨q12, 0, none⟩)), (11, .int .i64 (w64 (v16 + v17)))]) (fun (s : Bool) (g : Unit) => []) (fun (s : Bool) (g : Unit) => [(Res.blk g1 87 [.int .i64 a0.Time.Lo, .int .i64 a0.Time.Hi, .int .i64 a0.Energy.Lo, .int .i64 a0.Energy.Hi, .bool a0.Slow, .bool a0.Stops]), (Res.blk g2 80 [.int .i64 a1.Element, .int .i64 a1.Length, .int .i64 a1.Grade, .int .i64 a1.Curve, .int .i64 a1.Power]), (Res.blk g4 87 [.int .i64 0, .int .i64 0, .int .i64 0, .int .i64 0, .bool false, .bool false]), (Res.blk q12 87 [.int .i64 0, .int .i64 0, .int .i64 0, .int .i64 0, .bool s, .bool false])]) ?_ ?_))
 rotate_left
 ·intro k20 H21
  refine Zad 10 (jy (Zab e) e e (jg_y (fun w hs => Zaj e (ld1B (hs.blkL (i := 3) e) e)) e e (Zaf e e e (Zat 61 e ?_ ?_))))
  ·refine Zaa e e (Zaa e e (jy (Zai e e) e e (jy (Zab e) e e (Zax 3 e e e (l1 e) e e e e (l6 e) (r4 e) (gz8 3 4 6 7 8 9 10 11 e (Zav H21 true () [0, 1, 2, 3] ⟨e, e, e, e, e, e, e, e, trivial⟩ e e e))))))
  refine Zaf e e e (jy (ZaR e e) e e (jy (Zag e e) e e (jy (Zab e) e e (Zax 3 e e e (l1 e) e e e e (l6 e) (r4 e) (gz8 3 4 6 7 8 9 10 11 e (Zav H21 (decide ((w64 (v16 + v17)) = 0)) () [0, 1, 2, 3] ⟨e, e, e, e, e, e, e, e, trivial⟩ e e e))))))
 intro z18 q19
 refine Zac (Zad 11 (Zaf e e e (Zaf e e e (jy (ZaY e (o2 e)) e e (jy (Zab e) e e (Zax 3 e e e (l2 e) e e e e (l6 e) (r4 e) (gz6 3 4 6 9 10 11 e (Zae (Zac (ZaV (L' := [_, _, _, _]) 12 [0, 1, 2, 3] [0, 1, 2, 3, 4, 5, 6, 7, 8, 9, 10, 11] 4095 8191 [0, 1, 2, 0, 8, 16, 0, 96, 132, 256, 512, 2047, 4095] [0, 1, 3, 0, 8, 24, 0, 120, 255, 511, 1023, 2047, 4095] [(0, true), (1, true), (2, true), (3, true), (4, true), (5, true), (6, true), (7, true), (8, true), (9, true), (10, true), (11, true), (12, false)] e (Zay Zbn) (by kernel_rfl) (by kernel_rfl) (by kernel_rfl) (by kernel_rfl) (by kernel_rfl) (by kernel_rfl) (by kernel_rfl) (by kernel_rfl) (jd_y e (fun w hs => Zab e) e e (jd_y e (fun w hs => Zab e) e e (jd_y e (fun w hs => Zaj e (ld1B (hs.blk (i := 0) e) e)) e e (jd_y e (fun w hs => Zab e) e e (jd_y e (fun w hs => Zaj e (ld1B (hs.blk (i := 1) e) e)) e e (jd_y e (fun w hs => ZbE e e) e e ?_))))))))))))))))
 refine Zaz e e e e (Zel fun h22 => Zfl e (fun w hs => ZbX e e (of_decide_eq_true h22)) e e fun x23 => jd_y e (fun w hs => Zap e e) e e (Zfl e (fun w hs => Zd3 e e) e e fun x24 => jd_y e (fun w hs => ZaY e (o2 e)) e e (jd_y e (fun w hs => Zab e) e e (jd_h e (Zax 3 e e e (l2 e) e e e e (l6 e) (r4 e) (ZaI (Zcr e (Zby [(3, _), (4, _), (6, _), (10, _), (11, _)] ⟨e, e, e, e, e, trivial⟩ (Zae (Zac (Zac (Zad 13 (jy (Zab e) e e ?_)))))))))))))
 refine jg_y (fun w hs => Zaj e (ld1B (hs.blkL (i := 3) e) e)) e e (jy (Zbk e) e e (gz6 3 4 6 10 11 84 e (Zae (Zan e ?_ ?_))))
 rotate_left
 ·refine Zam (Zae (Zac (Zad 15 (jg_y (fun w hs => Zaj e (ldBB (hs.blkL (i := 3) e) e)) e e (Zax 2 e e e (l6 e) e e e e (l6 e) (r4 e) (gz1 6 e (ZaF (is := [2]) (s1 e) e (Zae (Zao (Zal e (fun w hs => .cell e (ldBB (hs.blkL (i := 0) e) e)) (fun w hs => ⟨e, hs.drop⟩)))))))))))
 refine ZaV (L' := [_, _, _, _]) 14 [0, 1, 2, 3] [0, 1, 2, 3, 4, 5, 6, 7, 8, 9, 10, 11] 4095 8191 [0, 1, 2, 0, 8, 16, 0, 96, 132, 256, 1023, 2047, 3071] [0, 1, 3, 0, 8, 24, 0, 120, 255, 511, 1023, 2047, 4095] [(0, true), (1, true), (2, true), (3, true), (4, true), (5, true), (6, true), (7, true), (8, true), (9, true), (10, true), (11, true), (12, false)] e (Zay Zbn) (by kernel_rfl) (by kernel_rfl) (by kernel_rfl) (by kernel_rfl) (by kernel_rfl) (by kernel_rfl) (by kernel_rfl) (by kernel_rfl) (jd_y e (fun w hs => Zab e) e e (jd_y e (fun w hs => Zab e) e e (jd_y e (fun w hs => Zaj e (ld1B (hs.blk (i := 0) e) e)) e e (jd_y e (fun w hs => Zab e) e e (jd_y e (fun w hs => Zaj e (ld1B (hs.blk (i := 1) e) e)) e e (jd_y e (fun w hs => ZbE e e) e e (Zaz e e e e (Zdu e e (fun v w hs hm => Zh1 hm ) e e fun v25 => jd_y e (fun w hs => Zap e e) e e (Zfl e (fun w hs => Zd3 e e) e e fun x26 => jd_y e (fun w hs => Zab e) e e (jd_y e (fun w hs => Zab e) e e (jd_h e (Zax 3 e e e (l1 e) e e e e (l6 e) (r4 e) (ZaI (Zcr e ?_))))))))))))))
 refine Zby [(6, _), (10, _)] ⟨e, e, trivial⟩ (ZaF (is := [2, 3]) (s2 e) e (Zae (Zac (Zad 15 (jg_y (fun w hs => Zaj e (ldBB (hs.blkL (i := 1) e) e)) e e (Zax 0 e e e (l6 e) e e e e (l6 e) (r2 e) (gz1 6 e (Zae (Zao (Zal e (fun w hs => .cell e (ldBB (hs.blkL (i := 0) e) e)) (fun w hs => ⟨e, hs.drop⟩)))))))))))
theorem Zhv {w : World} {a0 : Interval} {a1 : Int} {a2 : Int} {a3 : Int}  {v : Interval} (hm : Zdx a0 a1 a2 a3 = some v) : Gives Try.prog 46 [.agg #[.int .i64 a0.Lo, .int .i64 a0.Hi], .int .i64 a1, .int .i64 a2, .int .i64 a3] w (.agg #[.int .i64 v.Lo, .int .i64 v.Hi]) := by
 refine ZaS (vs := [.agg #[.int .i64 a0.Lo, .int .i64 a0.Hi], .int .i64 a1, .int .i64 a2, .int .i64 a3]) (U := fun (v : Interval) => .agg #[.int .i64 v.Lo, .int .i64 v.Hi]) Try.func46 e Try.ntmps46 e e hm ?_
 unfold Zdx
 clear hm
 refine Zac (Zad 0 (ZbF e (l2 e) e e fun g1 => ZaL (l2 e) e e fun g2 => gz5 1 2 3 4 8 e (Zae (Zac (Zad 1 (Zaf e e e (Zaf e e e (jy (ZaW e e) e e (jy (ZeU e e) e e (Zaf e e e (Zaf e e e (jy (Zap e e) e e (Zah e e e (Zah e e e ?_))))))))))))))
 refine gz5 1 4 8 9 10 e (Zae (Zac (Zad 2 (jy (Zab e) e e (jg_y (fun w hs => Zaj e (ld1B (hs.blkL (i := 1) e) e)) e e (Zaf e e e (Zaf e e e (ZcJ (fun w hs => ZbE e e) e e fun x3 => jy (Zd3 e e) e e (jy (Zab e) e e (jg_y (fun w hs => Zaj e (ld1B (hs.blkL (i := 1) e) e)) e e (Zaf e e e (Zaf e e e (ZcJ (fun w hs => ZbE e e) e e fun x4 => jy (Zd3 e e) e e (jy (Zab e) e e ?_))))))))))))))
 refine jg_y (fun w hs => Zaj e (ld1B (hs.blkL (i := 1) e) e)) e e (Zaf e e e (jy (ZaW e e) e e (ZcJ (fun w hs => ZeU e e) e e fun x5 => jy (ZaY e (o2 e)) e e (Zax 0 e e e (l2 e) e e e e (l2 e) (r2 e) (gz1 8 e (Zae (Zao (Zal e (fun w hs => .cell e (ldBB (hs.blkL (i := 0) e) e)) (fun w hs => ⟨e, hs.drop⟩)))))))))
theorem ZiC {w : World} {a0 : (List Piece)} {a1 : Motion} {ha0 : Hd} {ha1_Class : Hd} {ha1_Targets : Hd} {v : ((List Passage) × Int)} (hm : Zed a0 a1 = some v) (Rha0 : Sl w ha0 Piece.enc a0) (Rha1_Class : Sl w ha1_Class Interval.enc a1.Class) (Rha1_Targets : Sl w ha1_Targets encI a1.Targets) : Calls Try.prog 25 ([ha0.v, .agg #[.int .i64 a1.Speed.Lo, .int .i64 a1.Speed.Hi, ha1_Class.v, .int .i64 a1.Error, ha1_Targets.v]] : List Value).toArray w (fun e w' => ∃ g : Hd, e = .returned (.tuple #[g.v, .int .i64 v.2]) ∧ St w w' [] [(rowH g 87 6 Passage.enc v.1)]) := by
 refine ZbL (vs := [ha0.v, .agg #[.int .i64 a1.Speed.Lo, .int .i64 a1.Speed.Hi, ha1_Class.v, .int .i64 a1.Error, ha1_Targets.v]]) (R := fun (v : ((List Passage) × Int)) (e : Ending) (w' : World) => ∃ g : Hd, e = .returned (.tuple #[g.v, .int .i64 v.2]) ∧ St w w' [] [(rowH g 87 6 Passage.enc v.1)]) Try.func25 e Try.ntmps25 e e (St.refl w) hm ?_
 unfold Zed
 clear hm
 refine Zac (Zad 0 (ZbF e (l5 e) e e fun g1 => Zah e e e (Zah e e e (gz2 0 3 e (Zae (Zac (Zac (Zad 1 (Zaf e e e (Zbg e (fun v w hs hm => ZdY hm (hs.arg Rha0)) e e fun v2 => Zah e e e (gz3 0 3 6 e (Zae (Zac (Zad 2 ?_))))))))))))))
 refine Zaf e e e (jy (Zbj e e) e e (gz4 0 3 6 15 e (Zae (Zan e ?_ ?_))))
 ·refine Zac (Zad 3 (Zaf e e e (Zah e e e (Zah e e e (gz2 4 5 e (Zae (Zao (Zau (ZaU 87 6 Passage.enc (ZaZ e (fun w hs => .tmp e) (fun w hs => .tmp e) (fun w hs => ⟨(Hd.mk none 0 0), e, hs.sel (is := [0]) e e⟩)))))))))))
 refine Zam (Zae (Zac (Zac (Zad 4 (Zaf e e e (jg_y (fun w hs => Zaj e (ldBB (hs.blkL (i := 0) e) e)) e e (Zbg e (fun v w hs hm => ZgN (a1 := a1) hm (hs.arg Rha0) (hs.arg Rha1_Class) (hs.arg Rha1_Targets)) e e fun v3 => Zah e e e (gz3 0 3 7 e (Zae (Zac (Zad 5 (Zaf e e e (jy (Zbj e e) e e (gz4 0 3 7 21 e (Zae ?_)))))))))))))))
 refine Zan e ?_ ?_
 ·refine Zac (Zad 6 (Zaf e e e (Zah e e e (Zah e e e (gz2 4 5 e (Zae (Zao (Zau (ZaU 87 6 Passage.enc (ZaZ e (fun w hs => .tmp e) (fun w hs => .tmp e) (fun w hs => ⟨(Hd.mk none 0 0), e, hs.sel (is := [0]) e e⟩)))))))))))
 refine Zam (Zae (Zac (Zad 7 (jy (Zab e) e e (jy (Zab e) e e (jg_y (fun w hs => Zaj e (ld1B (hs.blkL (i := 0) e) e)) e e (jy (Zab e) e e (jy (Zab e) e e (jg_y (fun w hs => Zaj e (ld1B (hs.blkL (i := 0) e) e)) e e (ZcJ (fun w hs => ZbE e e) e e fun x4 => jy (Zab e) e e (jy (Zab e) e e (jg_y (fun w hs => Zaj e (ld1B (hs.blkL (i := 0) e) e)) e e (jy (Zab e) e e (jy (Zab e) e e (jg_y (fun w hs => Zaj e (ld1B (hs.blkL (i := 0) e) e)) e e ?_)))))))))))))))
 refine ZcJ (fun w hs => ZbE e e) e e fun x5 => jy (ZaY e (o2 e)) e e (jy (ZaY e (o6 e)) e e (ZaL (l6 e) e e fun g6 => Zax 0 e e e (l6 e) e e e e (l6 e) (r2 e) (gz3 0 3 8 e (Zae (Zac (Zad 8 (jg_y (fun w hs => Zaj e (ldBB (hs.blkL (i := 0) e) e)) e e (Za2 (enc := Passage.enc) [(Passage.mk (Interval.mk 0 0) (Interval.mk x4 x5) false false)] e e e e e e e e fun hd7 => Zah e e e (gz4 0 3 8 9 e (Zae (Zac (Zad 9 (Zah e e e ?_)))))))))))))
 refine gz5 0 3 8 9 10 e (Zae (Zac (Zac (Zad 10 (Zah e e e (gz6 0 3 8 9 10 11 e (Zae (Zar (Zbi (n := big) (fun (s : (Int × Int × Int × Int × Bool × Bool × (List Passage) × Int × Int)) (g : Hd) => [(0, ha0.v), (3, .pointer (some ⟨g1, 0, none⟩)), (8, .pointer (some ⟨g6, 0, none⟩)), (9, g.v), (10, .int .i64 s.2.2.2.2.2.2.2.1), (11, .int .i64 s.2.2.2.2.2.2.2.2)]) (fun (s : (Int × Int × Int × Int × Bool × Bool × (List Passage) × Int × Int)) (g : Hd) => []) (fun (s : (Int × Int × Int × Int × Bool × Bool × (List Passage) × Int × Int)) (g : Hd) => [(Res.blk g1 78 [.int .i64 a1.Speed.Lo, .int .i64 a1.Speed.Hi, ha1_Class.v, .int .i64 a1.Error, ha1_Targets.v]), (Res.blk g6 87 [.int .i64 s.1, .int .i64 s.2.1, .int .i64 s.2.2.1, .int .i64 s.2.2.2.1, .bool s.2.2.2.2.1, .bool s.2.2.2.2.2.1]), (rowH g 87 6 Passage.enc s.2.2.2.2.2.2.1)]) (0, 0, x4, x5, false, false, ([(Passage.mk (Interval.mk 0 0) (Interval.mk x4 x5) false false)] : List Passage), 0, 0) hd7 [2, 1, 0] ⟨e, e, e, e, e, e, trivial⟩ e e e ?_)))))))))
 intro z8 q9 n12 k10 H11
 refine Zac (Zac (Zad 11 (Zaf e e e (Zaf e e e (jg_y (fun w hs => ZaT e (hs.arg Rha0)) e e (jy (ZaB e e) e e (gz7 0 3 8 9 10 11 44 e (Zae (Zan e ?_ ?_)))))))))
 rotate_left
 ·refine ZaG (Zba (Zbe (Zbb (Zae ?_))))
  refine Zac (Zad 20 (Zaf e e e (Zah e e e (Zah e e e (gz2 4 5 e (ZaF (is := [2]) (s1 e) e (Zae (Zao (ZaZ e (fun w hs => .tmp e) (fun w hs => .tmp e) (fun w hs => ⟨q9, e, hs.sel (is := [0]) e e⟩))))))))))
 refine Zam (Zae (Zac (Zar (Za6 (fun (s : (Int × Int × Int × Int × Bool × Bool)) (g : Unit) => [(0, ha0.v), (3, .pointer (some ⟨g1, 0, none⟩)), (8, .pointer (some ⟨g6, 0, none⟩)), (9, q9.v), (10, .int .i64 z8.2.2.2.2.2.2.2.1), (11, .int .i64 z8.2.2.2.2.2.2.2.2)]) (fun (s : (Int × Int × Int × Int × Bool × Bool)) (g : Unit) => []) (fun (s : (Int × Int × Int × Int × Bool × Bool)) (g : Unit) => [(Res.blk g1 78 [.int .i64 a1.Speed.Lo, .int .i64 a1.Speed.Hi, ha1_Class.v, .int .i64 a1.Error, ha1_Targets.v]), (Res.blk g6 87 [.int .i64 s.1, .int .i64 s.2.1, .int .i64 s.2.2.1, .int .i64 s.2.2.2.1, .bool s.2.2.2.2.1, .bool s.2.2.2.2.2]), (rowH q9 87 6 Passage.enc z8.2.2.2.2.2.2.1)]) ?_ ?_))))
 rotate_left
 ·intro k15 H16
  refine Zac (Zad 13 (jy (Zab e) e e (jg_y (fun w hs => Zaj e (ld1B (hs.blkL (i := 1) e) e)) e e (jy (Zbk e) e e (gz7 0 3 8 9 10 11 49 e (Zae (Zan e ?_ ?_)))))))
  rotate_left
  ·refine Zam (Zav H16 (z8.1, z8.2.1, z8.2.2.1, z8.2.2.2.1, z8.2.2.2.2.1, z8.2.2.2.2.2.1) () [0, 1, 2] ⟨e, e, e, e, e, e, trivial⟩ e e e)
  refine ZaV (L' := [_, _, _]) 14 [0, 1, 2] [0, 1, 2, 3, 4, 5, 6, 7, 8, 9, 10] 2047 4095 [0, 0, 0, 6, 8, 0, 32, 0, 192, 256, 529, 2047] [0, 0, 0, 6, 14, 0, 32, 0, 224, 480, 1023, 2047] [(0, true), (1, true), (2, true), (3, true), (4, true), (5, true), (6, true), (7, true), (8, true), (9, true), (10, true), (11, false)] e (Zay (ZaE (Zay (Za8 (ZaE (Zay Zbn)))))) (by kernel_rfl) (by kernel_rfl) (by kernel_rfl) (by kernel_rfl) (by kernel_rfl) (by kernel_rfl) (by kernel_rfl) (by kernel_rfl) (jd_y e (fun w hs => Zaj e (ldBB (hs.blk (i := 1) e) e)) e e (Zaz e e e e (Zaz e e e e (Zbs fun x39 h40 => jd_y e (fun w hs => ZaD e e (hs.arg Rha0) h40) e e (jd_y e (fun w hs => ZbH e (hs.arg Rha0) h40.1 (l5 e) e) e e (jd_y e (fun w hs => Zab e) e e (jd_y e (fun w hs => Zaj e (ld1B (hs.blk (i := 0) e) e)) e e (Zaz e e e e (Zbs fun x41 h42 => jd_y e (fun w hs => ZaD e e (hs.arg Rha1_Class) h42) e e (jd_y e (fun w hs => ZbH e (hs.arg Rha1_Class) h42.1 (l2 e) e) e e (Zdu e e (fun v w hs hm => ZiA (a0 := (Passage.mk (Interval.mk z8.1 z8.2.1) (Interval.mk z8.2.2.1 z8.2.2.2.1) z8.2.2.2.2.1 z8.2.2.2.2.2.1)) (a1 := x39) (a2 := x41) hm ) e e fun v43 => jd_h e (Zax 1 e e e (l6 e) e e e e (l6 e) (r3 e) (ZaI ?_)))))))))))))
  refine Zcr e (Zby [(0, _), (3, _), (8, _), (9, _), (10, _), (11, _)] ⟨e, e, e, e, e, e, trivial⟩ (Zav H16 (v43.Time.Lo, v43.Time.Hi, v43.Energy.Lo, v43.Energy.Hi, v43.Slow, v43.Stops) () [0, 1, 2] ⟨e, e, e, e, e, e, trivial⟩ e e e))
 intro z13 q14
 refine Zac (Zac (Zad 15 (Zaf e e e (Zaf e e e (Za1 fun x17 h18 => jg_y (fun w hs => ZaD e e (hs.arg Rha0) h18) e e (jg_y (fun w hs => ZaX e (hs.arg Rha0) h18.1) e e (jg_y (fun w hs => ZaK e (hs.arg Rha0) h18.1 e) e e (jy (Zbc e e) e e (gz7 0 3 8 9 10 11 66 e (Zae (Zan e ?_ ?_)))))))))))
 rotate_left
 ·refine Zam (Zae (Zad 19 (Zaf e e e (jg_y (fun w hs => Zaj e (ldBB (hs.blkL (i := 1) e) e)) e e (Za2 (enc := Passage.enc) [(Passage.mk (Interval.mk z13.1 z13.2.1) (Interval.mk z13.2.2.1 z13.2.2.2.1) z13.2.2.2.2.1 z13.2.2.2.2.2)] e e e e e e e e fun hd36 => ZaO 3 e e e (fun w hs => (hs.row 0 e)) e e e fun y37 hd38 => jg_L (r4 e) (Zah e e e (gz6 0 3 8 9 10 11 e (ZaN (Zae ?_)))))))))
  refine Zad 12 (Zaf e e e (jy (Zap e e) e e (Zah e e e (gz6 0 3 8 9 10 11 e (Zav H11 (z13.1, z13.2.1, z13.2.2.1, z13.2.2.2.1, z13.2.2.2.2.1, z13.2.2.2.2.2, y37, z8.2.2.2.2.2.2.2.1, w64 (z8.2.2.2.2.2.2.2.2 + 1)) hd38 [1, 2, 3] ⟨e, e, e, e, e, e, trivial⟩ e e e)))))
 refine Zac (Za6 (fun (s : Bool) (g : Unit) => [(0, ha0.v), (3, .pointer (some ⟨g1, 0, none⟩)), (8, .pointer (some ⟨g6, 0, none⟩)), (9, q9.v), (10, .int .i64 z8.2.2.2.2.2.2.2.1), (11, .int .i64 z8.2.2.2.2.2.2.2.2), (77, .bool s)]) (fun (s : Bool) (g : Unit) => []) (fun (s : Bool) (g : Unit) => [(Res.blk g1 78 [.int .i64 a1.Speed.Lo, .int .i64 a1.Speed.Hi, ha1_Class.v, .int .i64 a1.Error, ha1_Targets.v]), (Res.blk g6 87 [.int .i64 z13.1, .int .i64 z13.2.1, .int .i64 z13.2.2.1, .int .i64 z13.2.2.2.1, .bool z13.2.2.2.2.1, .bool z13.2.2.2.2.2]), (rowH q9 87 6 Passage.enc z8.2.2.2.2.2.2.1)]) ?_ ?_)
 rotate_left
 ·intro k21 H22
  refine Zad 16 (jy (Zab e) e e (jg_y (fun w hs => Zaj e (ld1B (hs.blkL (i := 1) e) e)) e e (jy (Zbk e) e e (Zaf e e e (Zat 70 e ?_ ?_)))))
  rotate_left
  ·refine Zaa e e (Zaa e e (Zaa e e (Zaa e e (Zaa e e (Zaa e e (jy (Zag e e) e e (gz7 0 3 8 9 10 11 77 e (Zav H22 false () [0, 1, 2] ⟨e, e, e, e, e, e, e, trivial⟩ e e e))))))))
  refine jy (Zab e) e e (jg_y (fun w hs => Zaj e (ld1B (hs.blkL (i := 0) e) e)) e e (Zaf e e e (Za1 fun x34 h35 => jg_y (fun w hs => ZaD e e (hs.arg Rha1_Targets) h35) e e (jg_y (fun w hs => ZaK e (hs.arg Rha1_Targets) h35.1 e) e e (jy (Zbu e e) e e (jy (Zai e e) e e (gz7 0 3 8 9 10 11 77 e (Zav H22 (decide (0 ≤ x34)) () [0, 1, 2] ⟨e, e, e, e, e, e, e, trivial⟩ e e e))))))))
 intro z19 q20
 refine Zan e ?_ ?_
 rotate_left
 ·refine Zam (Zae (Zad 18 (Zaf e e e (jy (Zap e e) e e (Zah e e e (gz6 0 3 8 9 10 11 e (Zae (Zad 19 (Zaf e e e (jg_y (fun w hs => Zaj e (ldBB (hs.blkL (i := 1) e) e)) e e (Za2 (enc := Passage.enc) [(Passage.mk (Interval.mk z13.1 z13.2.1) (Interval.mk z13.2.2.1 z13.2.2.2.1) z13.2.2.2.2.1 z13.2.2.2.2.2)] e e e e e e e e fun hd31 => ZaO 3 e e e (fun w hs => (hs.row 0 e)) e e e fun y32 hd33 => jg_L (r4 e) (Zah e e e (gz6 0 3 8 9 10 11 e (ZaN (Zae ?_)))))))))))))))
  refine Zad 12 (Zaf e e e (jy (Zap e e) e e (Zah e e e (gz6 0 3 8 9 10 11 e (Zav H11 (z13.1, z13.2.1, z13.2.2.1, z13.2.2.2.1, z13.2.2.2.2.1, z13.2.2.2.2.2, y32, w64 (z8.2.2.2.2.2.2.2.1 + 1), w64 (z8.2.2.2.2.2.2.2.2 + 1)) hd33 [1, 2, 3] ⟨e, e, e, e, e, e, trivial⟩ e e e)))))
 refine ZaV (L' := [_, _, _]) 17 [0, 1, 2] [0, 1, 2, 3, 4, 5, 6, 7, 8, 9, 10, 11, 12, 13, 14, 15] 65535 131071 [0, 1, 0, 0, 12, 16, 32, 0, 128, 0, 768, 1024, 0, 4096, 10306, 32767, 65535] [0, 1, 0, 0, 12, 28, 60, 0, 128, 0, 896, 1920, 0, 4096, 16383, 32767, 65535] [(0, true), (1, true), (2, true), (3, true), (4, true), (5, true), (6, true), (7, true), (8, true), (9, true), (10, true), (11, true), (12, true), (13, true), (14, true), (15, true), (16, false)] e (Zay (Zay (ZaE (Zay (Za8 (ZaE (Zay Zbn))))))) (by kernel_rfl) (by kernel_rfl) (by kernel_rfl) (by kernel_rfl) (by kernel_rfl) (by kernel_rfl) (by kernel_rfl) (by kernel_rfl) (jd_y e (fun w hs => Zab e) e e (jd_y e (fun w hs => Zaj e (ldPB (hs.blk (i := 1) e) (l2 e) e)) e e (Zaz e e e e (Zaz e e e e (Zbs fun x23 h24 => jd_y e (fun w hs => ZaD e e (hs.arg Rha0) h24) e e (jd_y e (fun w hs => ZaX e (hs.arg Rha0) h24.1) e e (jd_y e (fun w hs => ZaK e (hs.arg Rha0) h24.1 e) e e (jd_y e (fun w hs => Zab e) e e (jd_y e (fun w hs => Zaj e (ld1B (hs.blk (i := 0) e) e)) e e (Zaz e e e e (Zbs fun x25 h26 => jd_y e (fun w hs => ZaD e e (hs.arg Rha1_Targets) h26) e e (jd_y e (fun w hs => ZaK e (hs.arg Rha1_Targets) h26.1 e) e e (jd_y e (fun w hs => Zab e) e e (jd_y e (fun w hs => Zaj e (ld1B (hs.blk (i := 0) e) e)) e e ?_))))))))))))))
 refine Zdu e e (fun v w hs hm => Zhv (a0 := (Interval.mk z13.2.2.1 z13.2.2.2.1)) hm ) e e fun v27 => jd_y e (fun w hs => Zab e) e e (jd_h e (Zax 1 e e e (l2 e) e e e e (l6 e) (r3 e) (ZaI (Zcr e (Zby [(0, _), (3, _), (8, _), (9, _), (10, _), (11, _)] ⟨e, e, e, e, e, e, trivial⟩ (Zae (Zad 18 (Zaf e e e (jy (Zap e e) e e (Zah e e e (gz6 0 3 8 9 10 11 e (Zae (Zad 19 (Zaf e e e (jg_y (fun w hs => Zaj e (ldBB (hs.blkL (i := 1) e) e)) e e ?_)))))))))))))))
 refine Za2 (enc := Passage.enc) [(Passage.mk (Interval.mk z13.1 z13.2.1) v27 z13.2.2.2.2.1 z13.2.2.2.2.2)] e e e e e e e e fun hd28 => ZaO 3 e e e (fun w hs => (hs.row 0 e)) e e e fun y29 hd30 => jg_L (r4 e) (Zah e e e (gz6 0 3 8 9 10 11 e (ZaN (Zae ?_))))
 refine Zad 12 (Zaf e e e (jy (Zap e e) e e (Zah e e e (gz6 0 3 8 9 10 11 e (Zav H11 (z13.1, z13.2.1, v27.Lo, v27.Hi, z13.2.2.2.2.1, z13.2.2.2.2.2, y29, w64 (z8.2.2.2.2.2.2.2.1 + 1), w64 (z8.2.2.2.2.2.2.2.2 + 1)) hd30 [1, 2, 3] ⟨e, e, e, e, e, e, trivial⟩ e e e)))))
theorem Zfa {w : World} {a0 : (List Piece)} {a1 : Int} {a2 : Int} {ha0 : Hd} {v : Int} (hm : Zdg a0 a1 a2 = some v) (Rha0 : Sl w ha0 Piece.enc a0) : Gives Try.prog 49 [ha0.v, .int .i64 a1, .int .i64 a2] w (.int .i64 v) := by
 refine ZaS (vs := [ha0.v, .int .i64 a1, .int .i64 a2]) (U := fun (v : Int) => .int .i64 v) Try.func49 e Try.ntmps49 e e hm ?_
 unfold Zdg
 clear hm
 refine Zac (Zad 0 (Zah e e e (gz3 0 1 2 e (Zae (Zac (Zac (Zad 1 (Zaf e e e (jy (ZaB e e) e e (Zaf e e e (Zat 12 e ?_ ?_)))))))))))
 ·refine Zaa e e (Zaa e e (Zaa e e (Zaa e e (jy (Zai e e) e e (Zaf e e e (Zaa e e (Zaa e e (jy (Zai e e) e e (Zaf e e e (Zaa e e (Zaa e e (jy (Zai e e) e e (gz4 0 1 2 25 e (Zae (Zbf e (Zac ?_))))))))))))))))
  refine Zad 2 (Zah e e e (gz1 6 e (Zae (Zao (Zau (Zal e (fun w hs => .tmp e) (fun w hs => ⟨e, hs.drop⟩)))))))
 refine Zaf e e e (Zaf e e e (jg_y (fun w hs => ZaT e (hs.arg Rha0)) e e (jy (Zbu e e) e e (jy (Zag e e) e e (Zaf e e e (Zat 18 e ?_ ?_))))))
 ·refine Zaa e e (Zaa e e (jy (Zai e e) e e (Zaf e e e (Zaa e e (Zaa e e (jy (Zai e e) e e (gz4 0 1 2 25 e (Zae (Zbf e (Zac (Zad 2 (Zah e e e (gz1 6 e (Zae (Zao (Zau ?_))))))))))))))))
  exact Zal e (fun w hs => .tmp e) (fun w hs => ⟨e, hs.drop⟩)
 refine Zaf e e e (jy (ZaB e e) e e (jy (Zag e e) e e (Zaf e e e (Zat 22 e ?_ ?_))))
 ·refine Zaa e e (Zaa e e (jy (Zai e e) e e (gz4 0 1 2 25 e (Zae (Zbf e (Zac (Zad 2 (Zah e e e (gz1 6 e (Zae (Zao (Zau (Zal e (fun w hs => .tmp e) (fun w hs => ⟨e, hs.drop⟩))))))))))))))
 refine Zaf e e e (jy (Zbc e e) e e (jy (Zag e e) e e (gz4 0 1 2 25 e (Zae (Zan e ?_ ?_)))))
 ·refine Zac (Zad 2 (Zah e e e (gz1 6 e (Zae (Zao (Zau (Zal e (fun w hs => .tmp e) (fun w hs => ⟨e, hs.drop⟩))))))))
 refine Zam (Zae (Za6 (fun (s : Unit) (g : Unit) => [(0, ha0.v), (1, .int .i64 a1), (2, .int .i64 a2)]) (fun (s : Unit) (g : Unit) => []) (fun (s : Unit) (g : Unit) => []) ?_ ?_))
 rotate_left
 ·intro k3 H4
  refine Zac (Zad 3 (Zah e e e (gz4 0 1 2 7 e (Zae (Zar (Zbi (n := big) (fun (s : Int) (g : Unit) => [(0, ha0.v), (1, .int .i64 a1), (2, .int .i64 a2), (7, .int .i64 s)]) (fun (s : Int) (g : Unit) => []) (fun (s : Int) (g : Unit) => []) 0 () [] ⟨e, e, e, e, trivial⟩ e e e ?_))))))
  intro z12 q13 n16 k14 H15
  refine Zac (Zac (Zad 4 (Zaf e e e (Zaf e e e (jg_y (fun w hs => ZaT e (hs.arg Rha0)) e e (jy (ZaB e e) e e (gz5 0 1 2 7 29 e (Zae (Zan e ?_ ?_)))))))))
  rotate_left
  ·refine ZaG (Zba (Zbe (Zbb ?_)))
   exact Zav H4 () () [] ⟨e, e, e, trivial⟩ e e e
  refine Zam (Zae (Zac (Zar (Zac (Zad 6 (Zaf e e e (Zaf e e e (Za1 fun x17 h18 => jg_y (fun w hs => ZaD e e (hs.arg Rha0) h18) e e (jg_y (fun w hs => ZaX e (hs.arg Rha0) h18.1) e e (jg_y (fun w hs => ZaK e (hs.arg Rha0) h18.1 e) e e (jy (ZaB e e) e e (Zaf e e e (Zat 38 e ?_ ?_)))))))))))))
  ·refine Zaa e e (Zaa e e (Zaa e e (Zaa e e (Zaa e e (Zaa e e (jy (Zai e e) e e (gz5 0 1 2 7 45 e (Zae (Zbf e (Zac (Zad 7 (Zah e e e (gz1 6 e (Zae (Zao (ZaA (Zau (Za0 (ZaA (Zau ?_))))))))))))))))))))
   exact Zal e (fun w hs => .tmp e) (fun w hs => ⟨e, hs.drop⟩)
  refine Zaf e e e (Zaf e e e (Za1 fun x19 h20 => jg_y (fun w hs => ZaD e e (hs.arg Rha0) h20) e e (jg_y (fun w hs => ZaX e (hs.arg Rha0) h20.1) e e (jg_y (fun w hs => ZaK e (hs.arg Rha0) h20.1 e) e e (jy (Zbc e e) e e (jy (Zag e e) e e (gz5 0 1 2 7 45 e (Zae (Zan e ?_ ?_)))))))))
  ·refine Zac (Zad 7 (Zah e e e (gz1 6 e (Zae (Zao (ZaA (Zau (Za0 (ZaA (Zau ?_))))))))))
   exact Zal e (fun w hs => .tmp e) (fun w hs => ⟨e, hs.drop⟩)
  refine Zam (ZaN (Zae ?_))
  refine Zad 5 (Zaf e e e (jy (Zap e e) e e (Zah e e e (gz4 0 1 2 7 e (Zav H15 (w64 (z12 + 1)) () [] ⟨e, e, e, e, trivial⟩ e e e)))))
 intro z1 q2
 refine Zac (Zad 8 (Zah e e e (gz4 0 1 2 8 e (Zae (Zac (Zac (Zad 9 (Zaf e e e (Zah e e e (gz5 0 1 2 8 9 e (Zae (Zar (Zbi (n := big) (fun (s : (Int × Int)) (g : Unit) => [(0, ha0.v), (1, .int .i64 a1), (2, .int .i64 a2), (8, .int .i64 s.1), (9, .int .i64 s.2)]) (fun (s : (Int × Int)) (g : Unit) => []) (fun (s : (Int × Int)) (g : Unit) => []) (0, a1) () [] ⟨e, e, e, e, e, trivial⟩ e e e ?_)))))))))))))
 intro z5 q6 n9 k7 H8
 refine Zac (Zac (Zad 10 (Zaf e e e (Zaf e e e (jg_y (fun w hs => ZaT e (hs.arg Rha0)) e e (jy (ZaB e e) e e (gz6 0 1 2 8 9 50 e (Zae (Zan e ?_ ?_)))))))))
 rotate_left
 ·refine ZaG (Zba (Zbe (Zbb (Zae ?_))))
  refine Zac (Zad 16 (Zah e e e (gz1 6 e (Zae (Zao (Zal e (fun w hs => .tmp e) (fun w hs => ⟨e, hs.drop⟩)))))))
 refine Zam (Zae (Zac (Zar (Zac (Zac (Zad 12 (Zaf e e e (Zaf e e e (jy (Zbc e e) e e (gz6 0 1 2 8 9 55 e (Zae (Zan e ?_ ?_))))))))))))
 rotate_left
 ·refine Zam (Zae (Zac (Zad 14 (Zaf e e e (Zaf e e e (jy (Zbu e e) e e (gz6 0 1 2 8 9 65 e (Zae (Zan e ?_ ?_)))))))))
  rotate_left
  ·refine Zam (ZaN (Zae ?_))
   refine Zad 11 (Zaf e e e (jy (Zap e e) e e (Zah e e e (gz5 0 1 2 8 9 e (Zav H8 (z5.1, w64 (z5.2 + 1)) () [] ⟨e, e, e, e, e, trivial⟩ e e e)))))
  refine Zac (Zad 15 (Zaf e e e (Zah e e e (gz1 6 e (Zae (Zao (ZaA (Zau (Za0 (ZaA (Zau ?_)))))))))))
  exact Zal e (fun w hs => .tmp e) (fun w hs => ⟨e, hs.drop⟩)
 refine Zad 13 (Zaf e e e (Zaf e e e (Zaf e e e (Za1 fun x10 h11 => jg_y (fun w hs => ZaD e e (hs.arg Rha0) h11) e e (jg_y (fun w hs => ZaX e (hs.arg Rha0) h11.1) e e (jg_y (fun w hs => ZaK e (hs.arg Rha0) h11.1 e) e e (jy (Zap e e) e e (Zah e e e (gz5 0 1 2 8 9 e (Zae (Zac (Zad 14 (Zaf e e e (Zaf e e e (jy (Zbu e e) e e ?_)))))))))))))))
 refine gz6 0 1 2 8 9 65 e (Zae (Zan e ?_ ?_))
 rotate_left
 ·refine Zam (ZaN (Zae ?_))
  refine Zad 11 (Zaf e e e (jy (Zap e e) e e (Zah e e e (gz5 0 1 2 8 9 e (Zav H8 (w64 (z5.1 + x10.Length), w64 (z5.2 + 1)) () [] ⟨e, e, e, e, e, trivial⟩ e e e)))))
 refine Zac (Zad 15 (Zaf e e e (Zah e e e (gz1 6 e (Zae (Zao (ZaA (Zau (Za0 (ZaA (Zau ?_)))))))))))
 exact Zal e (fun w hs => .tmp e) (fun w hs => ⟨e, hs.drop⟩)
theorem Zht {w : World} {a0 : (List Element)} {a1 : (List Piece)} {a2 : Bool} {a3 : Int} {ha0 : Hd} {ha1 : Hd} {v : Int} (hm : Zdv a0 a1 a2 a3 = some v) (Rha0 : Sl w ha0 Element.enc a0) (Rha1 : Sl w ha1 Piece.enc a1) : Gives Try.prog 47 [ha0.v, ha1.v, .bool a2, .int .i64 a3] w (.int .i64 v) := by
 refine ZaS (vs := [ha0.v, ha1.v, .bool a2, .int .i64 a3]) (U := fun (v : Int) => .int .i64 v) Try.func47 e Try.ntmps47 e e hm ?_
 unfold Zdv
 clear hm
 refine Zac (Zad 0 (Zah e e e (gz4 0 1 2 3 e (Zae (Zac (Zac (Zad 1 (Zaf e e e (Zbg e (fun v w hs hm => ZdY hm (hs.arg Rha1)) e e fun v1 => Zah e e e (gz5 0 1 2 3 9 e (Zae (Zac (Zad 2 (Zaf e e e (jy (Zbj e e) e e ?_)))))))))))))))
 refine gz6 0 1 2 3 9 15 e (Zae (Zan e ?_ ?_))
 ·refine Zac (Zad 3 (Zaf e e e (Zah e e e (gz1 8 e (Zae (Zao (Zau (Zal e (fun w hs => .tmp e) (fun w hs => ⟨e, hs.drop⟩)))))))))
 refine Zam (Zae (Zac (Zac (Zad 4 (Zaf e e e (jy (ZaB e e) e e (Zaf e e e (Zat 19 e ?_ ?_))))))))
 ·refine Zaa e e (Zaa e e (jy (Zai e e) e e (gz5 0 1 2 3 22 e (Zae (Zbf e (Zac (Zad 5 (Zah e e e (gz1 8 e (Zae (Zao (Zau (Zal e (fun w hs => .tmp e) (fun w hs => ⟨e, hs.drop⟩))))))))))))))
 refine Zaf e e e (jy (Zbc e e) e e (jy (Zag e e) e e (gz5 0 1 2 3 22 e (Zae (Zan e ?_ ?_)))))
 ·refine Zac (Zad 5 (Zah e e e (gz1 8 e (Zae (Zao (Zau (Zal e (fun w hs => .tmp e) (fun w hs => ⟨e, hs.drop⟩))))))))
 refine Zam (Zae (Za6 (fun (s : Bool) (g : Unit) => [(1, ha1.v), (2, .bool s), (3, .int .i64 a3)]) (fun (s : Bool) (g : Unit) => []) (fun (s : Bool) (g : Unit) => []) ?_ ?_))
 rotate_left
 ·intro k4 H5
  refine Zac (Zad 6 (Zah e e e (gz5 0 1 2 3 10 e (Zae (Zar (Zbi (n := big) (fun (s : (Bool × Int)) (g : Unit) => [(0, ha0.v), (1, ha1.v), (2, .bool s.1), (3, .int .i64 a3), (10, .int .i64 s.2)]) (fun (s : (Bool × Int)) (g : Unit) => []) (fun (s : (Bool × Int)) (g : Unit) => []) (a2, 0) () [] ⟨e, e, e, e, e, trivial⟩ e e e ?_))))))
  intro z12 q13 n16 k14 H15
  refine Zac (Zac (Zad 7 (Zaf e e e (Zaf e e e (jg_y (fun w hs => ZaT e (hs.arg Rha1)) e e (jy (ZaB e e) e e (gz6 0 1 2 3 10 26 e (Zae (Zan e ?_ ?_)))))))))
  rotate_left
  ·refine ZaG (Zba (Zbe (Zbb ?_)))
   exact Zav H5 z12.1 () [] ⟨e, e, e, trivial⟩ e e e
  refine Zam (Zae (Zac (Zar (Zad 9 (Zaf e e e (Zaf e e e (Zat 30 e ?_ ?_)))))))
  rotate_left
  ·refine Zaa e e (Zaa e e (Zaa e e (Zaa e e (Zaa e e (Zaa e e (Zaa e e (Zaa e e (jy (Zag e e) e e (Zah e e e (gz5 0 1 2 3 10 e (ZaN (Zae ?_))))))))))))
   refine Zad 8 (Zaf e e e (jy (Zap e e) e e (Zah e e e (gz5 0 1 2 3 10 e (Zav H15 (false, w64 (z12.2 + 1)) () [] ⟨e, e, e, e, e, trivial⟩ e e e)))))
  refine Zaf e e e (Zaf e e e (Za1 fun x17 h18 => jg_y (fun w hs => ZaD e e (hs.arg Rha1) h18) e e (jg_y (fun w hs => ZaX e (hs.arg Rha1) h18.1) e e (jg_y (fun w hs => ZaK e (hs.arg Rha1) h18.1 e) e e (Zaf e e e (jg_y (fun w hs => ZaT e (hs.arg Rha0)) e e (jy (ZaB e e) e e (jy (Zai e e) e e (Zah e e e (gz5 0 1 2 3 10 e (ZaN (Zae ?_))))))))))))
  refine Zad 8 (Zaf e e e (jy (Zap e e) e e (Zah e e e (gz5 0 1 2 3 10 e (Zav H15 (decide (x17.Element < (a0.length : Int)), w64 (z12.2 + 1)) () [] ⟨e, e, e, e, e, trivial⟩ e e e)))))
 intro z2 q3
 refine Zac (Zac (Zad 10 (Zaf e e e (jy (Zbk e) e e (gz3 1 3 41 e (Zae (Zan e ?_ ?_)))))))
 ·refine Zac (Zad 11 (Zah e e e (gz1 8 e (Zae (Zao (Zau (Zal e (fun w hs => .tmp e) (fun w hs => ⟨e, hs.drop⟩))))))))
 refine Zam (Zae (Zac (Zac (Zad 12 (Zah e e e (gz3 1 3 11 e (Zae (Zar (Zbi (n := big) (fun (s : Int) (g : Unit) => [(1, ha1.v), (3, .int .i64 a3), (11, .int .i64 s)]) (fun (s : Int) (g : Unit) => []) (fun (s : Int) (g : Unit) => []) 0 () [] ⟨e, e, e, trivial⟩ e e e ?_)))))))))
 intro z6 q7 n10 k8 H9
 refine Zac (Zac (Zad 13 (Zaf e e e (jy (Zap e e) e e (Zaf e e e (jg_y (fun w hs => ZaT e (hs.arg Rha1)) e e (jy (ZaB e e) e e (gz4 1 3 11 46 e (Zae (Zan e ?_ ?_))))))))))
 rotate_left
 ·refine ZaG (Zba (Zbe (Zbb (Zae ?_))))
  refine Zac (Zad 17 (Zah e e e (gz1 8 e (Zae (Zao (Zal e (fun w hs => .tmp e) (fun w hs => ⟨e, hs.drop⟩)))))))
 refine Zam (Zae (Zac (Zar (Zac (Zad 15 (Zaf e e e (Zaf e e e (Zaf e e e (Zbg e (fun v w hs hm => Zfa hm (hs.arg Rha1)) e e fun v11 => jy (ZaB e e) e e (gz4 1 3 11 53 e (Zae (Zan e ?_ ?_))))))))))))
 ·refine Zac (Zad 16 (Zah e e e (gz1 8 e (Zae (Zao (ZaA (Zau (Za0 (ZaA (Zau ?_))))))))))
  exact Zal e (fun w hs => .tmp e) (fun w hs => ⟨e, hs.drop⟩)
 refine Zam (ZaN (Zae ?_))
 refine Zad 14 (Zaf e e e (jy (Zap e e) e e (Zah e e e (gz3 1 3 11 e (Zav H9 (w64 (z6 + 1)) () [] ⟨e, e, e, trivial⟩ e e e)))))
theorem Ziz {w : World} {a0 : (List Element)} {a1 : (List Piece)} {a2 : Int} {ha0 : Hd} {ha1 : Hd} {v : Int} (hm : Zea a0 a1 a2 = some v) (Rha0 : Sl w ha0 Element.enc a0) (Rha1 : Sl w ha1 Piece.enc a1) : Gives Try.prog 48 [ha0.v, ha1.v, .int .i64 a2] w (.int .i64 v) := by
 refine ZaS (vs := [ha0.v, ha1.v, .int .i64 a2]) (U := fun (v : Int) => .int .i64 v) Try.func48 e Try.ntmps48 e e hm ?_
 unfold Zea
 clear hm
 refine Zac (Zad 0 (Zah e e e (gz3 0 1 2 e (Zae (Zac (Zac (Zad 1 (Zaf e e e (Zaf e e e (Zaf e e e (Za1 fun x1 h2 => jg_y (fun w hs => ZaD e e (hs.arg Rha1) h2) e e (jg_y (fun w hs => ZaX e (hs.arg Rha1) h2.1) e e (jg_y (fun w hs => ZaK e (hs.arg Rha1) h2.1 e) e e (Za1 fun x3 h4 => jg_y (fun w hs => ZaD e e (hs.arg Rha0) h4) e e ?_))))))))))))))
 refine jg_y (fun w hs => ZaX e (hs.arg Rha0) h4.1) e e (jg_y (fun w hs => ZaK e (hs.arg Rha0) h4.1 e) e e (jy (Zbj e e) e e (gz4 0 1 2 16 e (Zae (Zan e ?_ ?_)))))
 ·refine Zac (Zad 2 (Zah e e e (gz1 6 e (Zae (Zao (Zau (Zal e (fun w hs => .tmp e) (fun w hs => ⟨e, hs.drop⟩))))))))
 refine Zam (Zae (Zac (Zad 3 (Zaf e e e (Zaf e e e (Zaf e e e (jy (Zap e e) e e (Za1 fun x5 h6 => jg_y (fun w hs => ZaD e e (hs.arg Rha1) h6) e e (jg_y (fun w hs => ZaX e (hs.arg Rha1) h6.1) e e (jg_y (fun w hs => ZaK e (hs.arg Rha1) h6.1 e) e e (Za1 fun x7 h8 => jg_y (fun w hs => ZaD e e (hs.arg Rha0) h8) e e (jg_y (fun w hs => ZaX e (hs.arg Rha0) h8.1) e e (jg_y (fun w hs => ZaK e (hs.arg Rha0) h8.1 e) e e (Zah e e e ?_))))))))))))))
 refine gz1 6 e (Zae (Zao (Zal e (fun w hs => .tmp e) (fun w hs => ⟨e, hs.drop⟩))))
theorem Zhu {w : World} {a0 : (List Element)} {a1 : (List Piece)} {a2 : (List Passage)} {a3 : Int} {ha0 : Hd} {ha1 : Hd} {ha2 : Hd} {v : ((List Span) × Int)} (hm : Zdw a0 a1 a2 a3 = some v) (Rha0 : Sl w ha0 Element.enc a0) (Rha1 : Sl w ha1 Piece.enc a1) (Rha2 : Sl w ha2 Passage.enc a2) : Calls Try.prog 26 ([ha0.v, ha1.v, ha2.v, .int .i64 a3] : List Value).toArray w (fun e w' => ∃ g : Hd, e = .returned (.tuple #[g.v, .int .i64 v.2]) ∧ St w w' [] [(rowH g 47 4 Span.enc v.1)]) := by
 refine ZbL (vs := [ha0.v, ha1.v, ha2.v, .int .i64 a3]) (R := fun (v : ((List Span) × Int)) (e : Ending) (w' : World) => ∃ g : Hd, e = .returned (.tuple #[g.v, .int .i64 v.2]) ∧ St w w' [] [(rowH g 47 4 Span.enc v.1)]) Try.func26 e Try.ntmps26 e e (St.refl w) hm ?_
 unfold Zdw
 clear hm
 refine Zac (Zad 0 (Zah e e e (Zah e e e (gz4 0 1 2 3 e (Zae (Zac (Zac (Zad 1 (Zaf e e e (Zaf e e e (Zaf e e e (jg_y (fun w hs => ZaT e (hs.arg Rha2)) e e (Zaf e e e (jg_y (fun w hs => ZaT e (hs.arg Rha1)) e e (jy (Zap e e) e e (jy (ZaR e e) e e ?_))))))))))))))))
 refine Zaf e e e (Zbg e (fun v w hs hm => Zht hm (hs.arg Rha0) (hs.arg Rha1)) e e fun v1 => Zah e e e (gz5 0 1 2 3 10 e (Zae (Zac (Zad 2 (Zaf e e e (jy (Zbj e e) e e (gz6 0 1 2 3 10 26 e (Zae (Zan e ?_ ?_))))))))))
 ·refine Zac (Zad 3 (Zaf e e e (Zah e e e (Zah e e e (gz2 8 9 e (Zae (Zao (Zau (ZaU 47 4 Span.enc (ZaZ e (fun w hs => .tmp e) (fun w hs => .tmp e) (fun w hs => ⟨(Hd.mk none 0 0), e, hs.sel (is := [0]) e e⟩)))))))))))
 refine Zam (Zae (Zac (Zad 4 (Zah e e e (gz5 0 1 2 3 11 e (Zae (Zac (Zac (Zad 5 (Zah e e e (gz6 0 1 2 3 11 12 e (Zae (Zar (Zbm 47 4 Span.enc (Zbi (n := big) (fun (s : ((List Span) × Int)) (g : Hd) => [(0, ha0.v), (1, ha1.v), (2, ha2.v), (3, .int .i64 a3), (11, g.v), (12, .int .i64 s.2)]) (fun (s : ((List Span) × Int)) (g : Hd) => []) (fun (s : ((List Span) × Int)) (g : Hd) => [(rowH g 47 4 Span.enc s.1)]) (([] : List Span), 0) (Hd.mk none 0 0) [0] ⟨e, e, e, e, e, e, trivial⟩ e e e ?_)))))))))))))))
 intro z2 q3 n6 k4 H5
 refine Zac (Zac (Zad 6 (Zaf e e e (jy (Zap e e) e e (Zaf e e e (jg_y (fun w hs => ZaT e (hs.arg Rha1)) e e (jy (ZaB e e) e e (Zaf e e e (Zat 33 e ?_ ?_)))))))))
 rotate_left
 ·refine Zaa e e (Zaa e e (Zaa e e (Zaa e e (Zaa e e (Zaa e e (jy (Zag e e) e e (gz7 0 1 2 3 11 12 40 e (Zae (Zdt e (ZaG (Zba (Zbe (Zbb (Zae ?_))))))))))))))
  refine Zac (Zad 13 (Zaf e e e (Zah e e e (Zah e e e (gz2 8 9 e (Zae (Zao (ZaZ e (fun w hs => .tmp e) (fun w hs => .tmp e) (fun w hs => ⟨q3, e, hs.sel (is := [0]) e e⟩)))))))))
 refine Zaf e e e (Zaf e e e (Za1 fun x7 h8 => jg_y (fun w hs => ZaD e e (hs.arg Rha2) h8) e e (jg_y (fun w hs => ZaX e (hs.arg Rha2) h8.1) e e (jg_y (fun w hs => ZaK e (hs.arg Rha2) h8.1 e) e e (jy (Zbk e) e e (jy (Zai e e) e e (gz7 0 1 2 3 11 12 40 e (Zae (Zan e ?_ ?_)))))))))
 rotate_left
 ·refine ZaG (Zba (Zbe (Zbb (Zae ?_))))
  refine Zac (Zad 13 (Zaf e e e (Zah e e e (Zah e e e (gz2 8 9 e (Zae (Zao (ZaZ e (fun w hs => .tmp e) (fun w hs => .tmp e) (fun w hs => ⟨q3, e, hs.sel (is := [0]) e e⟩)))))))))
 refine Zam (Zae (Zac (Zar (Zac (ZaV (L' := [_]) 8 [0] [0, 1, 2, 3, 4, 5, 6, 7, 8, 9, 10, 11, 12, 13, 14, 15, 16] 131071 262143 [0, 0, 3, 4, 8, 0, 0, 0, 224, 0, 0, 1536, 2048, 4096, 8192, 16656, 0, 131071] [0, 0, 3, 7, 15, 0, 0, 0, 224, 0, 0, 1536, 3584, 7680, 15872, 32767, 0, 131071] [(0, true), (1, true), (2, true), (3, true), (4, true), (5, true), (6, true), (7, true), (8, true), (9, true), (10, true), (11, true), (12, true), (13, true), (14, true), (15, true), (16, false), (17, false)] e (Zay (ZaE (Zay (Za8 (ZaE (Zay Zbn)))))) (by kernel_rfl) (by kernel_rfl) (by kernel_rfl) (by kernel_rfl) (by kernel_rfl) (by kernel_rfl) (by kernel_rfl) (by kernel_rfl) (Zaz e e e e (Zaz e e e e (Zbs fun x9 h10 => jd_y e (fun w hs => ZaD e e (hs.arg Rha1) h10) e e (jd_y e (fun w hs => ZaX e (hs.arg Rha1) h10.1) e e (jd_y e (fun w hs => ZaK e (hs.arg Rha1) h10.1 e) e e (Zaz e e e e (Zaz e e e e (Zaz e e e e (Zdu e e (fun v w hs hm => Ziz hm (hs.arg Rha0) (hs.arg Rha1)) e e fun v11 => Zaz e e e e ?_))))))))))))))
 refine Zaz e e e e (Zbs fun x12 h13 => jd_y e (fun w hs => ZaD e e (hs.arg Rha2) h13) e e (jd_y e (fun w hs => ZaX e (hs.arg Rha2) h13.1) e e (jd_y e (fun w hs => ZaX e (hs.arg Rha2) h13.1) e e (jd_y e (fun w hs => ZaK e (hs.arg Rha2) h13.1 e) e e (jd_y e (fun w hs => ZaY e (o4 e)) e e (jd_h e (ZaL (l4 e) e e fun g14 => ZaI (Zb6 [1] e (jd_h e (Zax 0 e e e (l4 e) e e e e (l4 e) (r2 e) (ZaI (Zcr e (Zby [(0, _), (1, _), (2, _), (3, _), (11, _), (12, _), (13, _)] ⟨e, e, e, e, e, e, e, trivial⟩ (Zae ?_))))))))))))))
 refine Zac (Zac (Zad 9 (Zaf e e e (Zaf e e e (Zaf e e e (Zaf e e e (Zbg e (fun v w hs hm => Zfa hm (hs.arg Rha1)) e e fun v15 => jy (Zap e e) e e (Za1 fun x16 h17 => jg_y (fun w hs => ZaD e e (hs.arg Rha2) h17) e e (jg_y (fun w hs => ZbH e (hs.arg Rha2) h17.1 (l6 e) e) e e (ZaL (l6 e) e e fun g18 => Zax 0 e e e (l6 e) e e e e (l6 e) (r3 e) (gz8 0 1 2 3 11 12 13 14 e (Zae (Zac ?_)))))))))))))
 refine Zad 10 (jy (Zab e) e e (jg_y (fun w hs => Zaj e (ld1B (hs.blkL (i := 0) e) e)) e e (jy (Zbk e) e e (gz9 0 1 2 3 11 12 13 14 69 e (Zae (Zan e ?_ ?_))))))
 rotate_left
 ·refine Zam (Zae (Zad 12 (Zaf e e e (jg_y (fun w hs => Zaj e (ldBB (hs.blkL (i := 1) e) e)) e e (Za2 (enc := Span.enc) [(Span.mk x9.Element v11 x12.Time.Lo 1000000000)] e e e e e e e e fun hd22 => ZaO 3 e e e (fun w hs => (hs.row 0 e)) e e e fun y23 hd24 => jg_L (r4 e) (Zah e e e (gz6 0 1 2 3 11 12 e (ZaF (is := [3]) (s1 e) e (ZaN (Zae ?_))))))))))
  refine Zad 7 (Zaf e e e (jy (Zap e e) e e (Zah e e e (gz6 0 1 2 3 11 12 e (Zav H5 (y23, w64 (z2.2 + 1)) hd24 [0] ⟨e, e, e, e, e, e, trivial⟩ e e e)))))
 refine Zad 11 (jy (Zab e) e e (jy (Zab e) e e (jg_y (fun w hs => Zaj e (ld1B (hs.blkL (i := 0) e) e)) e e (jy (Zab e) e e (Zax 1 e e e (l1 e) e e e e (l4 e) (r3 e) (gz7 0 1 2 3 11 12 13 e (Zae (Zad 12 (Zaf e e e (jg_y (fun w hs => Zaj e (ldBB (hs.blkL (i := 1) e) e)) e e (Za2 (enc := Span.enc) [(Span.mk x9.Element v11 x12.Time.Lo x16.Time.Hi)] e e e e e e e e fun hd19 => ZaO 3 e e e (fun w hs => (hs.row 0 e)) e e e fun y20 hd21 => jg_L (r4 e) (Zah e e e (gz6 0 1 2 3 11 12 e (ZaF (is := [3]) (s1 e) e ?_))))))))))))))
 refine ZaN (Zae ?_)
 refine Zad 7 (Zaf e e e (jy (Zap e e) e e (Zah e e e (gz6 0 1 2 3 11 12 e (Zav H5 (y20, w64 (z2.2 + 1)) hd21 [0] ⟨e, e, e, e, e, e, trivial⟩ e e e)))))
theorem Ze8 {w : World} {a0 : (List Span)} {ha0 : Hd} {v : Bool} (hm : Zcb a0 = some v) (Rha0 : Sl w ha0 Span.enc a0) : Gives Try.prog 27 [ha0.v] w (.bool v) := by
 refine ZaS (vs := [ha0.v]) (U := fun (v : Bool) => .bool v) Try.func27 e Try.ntmps27 e e hm ?_
 unfold Zcb
 clear hm
 refine Zac (Zad 0 (Zah e e e (gz1 0 e (Zae (Zac (Zac (Zad 1 (Zaf e e e (jg_y (fun w hs => ZaT e (hs.arg Rha0)) e e (jy (Zbc e e) e e (gz2 0 8 e (Zae (Zan e ?_ ?_)))))))))))))
 ·refine Zac (Zad 2 (Zah e e e (gz1 2 e (Zae (Zao (Zau (Zal e (fun w hs => .tmp e) (fun w hs => ⟨e, hs.drop⟩))))))))
 refine Zam (Zae (Zac (Zac (Zad 3 (Zah e e e (gz2 0 3 e (Zae (Zar (Zbi (n := big) (fun (s : Int) (g : Unit) => [(0, ha0.v), (3, .int .i64 s)]) (fun (s : Int) (g : Unit) => []) (fun (s : Int) (g : Unit) => []) 0 () [] ⟨e, e, trivial⟩ e e e ?_)))))))))
 intro z1 q2 n5 k3 H4
 refine Zac (Zac (Zad 4 (Zaf e e e (Zaf e e e (jg_y (fun w hs => ZaT e (hs.arg Rha0)) e e (jy (ZaB e e) e e (gz3 0 3 12 e (Zae (Zan e ?_ ?_)))))))))
 rotate_left
 ·refine ZaG (Zba (Zbe (Zbb (Zae ?_))))
  refine Zac (Zad 14 (Zah e e e (gz1 2 e (Zae (Zao (Zal e (fun w hs => .tmp e) (fun w hs => ⟨e, hs.drop⟩)))))))
 refine Zam (Zae (Zac (Zar (Zac (Zad 6 (Zaf e e e (Zaf e e e (Za1 fun x6 h7 => jg_y (fun w hs => ZaD e e (hs.arg Rha0) h7) e e (jg_y (fun w hs => ZbH e (hs.arg Rha0) h7.1 (l4 e) e) e e (ZaL (l4 e) e e fun g8 => Zax 0 e e e (l4 e) e e e e (l4 e) (r1 e) (gz3 0 3 4 e (Zae (Zac (Zac ?_))))))))))))))
 refine Zad 7 (jy (Zab e) e e (jg_y (fun w hs => Zaj e (ld1B (hs.blkL (i := 0) e) e)) e e (jy (ZaB e e) e e (Zaf e e e (Zat 22 e ?_ ?_)))))
 ·refine Zaa e e (Zaa e e (Zaa e e (jy (Zai e e) e e (Zaf e e e (Zaa e e (Zaa e e (Zaa e e (jy (Zai e e) e e (Zaf e e e (Zaa e e (Zaa e e (Zaa e e (jy (Zai e e) e e (Zaf e e e (Zaa e e (Zaa e e ?_))))))))))))))))
  refine Zaa e e (Zaa e e (Zaa e e (jy (Zai e e) e e (Zaf e e e (Zaa e e (Zaa e e (Zaa e e (jy (Zai e e) e e (gz4 0 3 4 48 e (Zae (Zbf e (Zac (Zad 8 (Zah e e e (gz1 2 e (Zae ?_))))))))))))))))
  refine Zao (Zau (ZaA (Zau (Za0 (ZaA (Zau ?_))))))
  exact Zal e (fun w hs => .tmp e) (fun w hs => ⟨e, hs.drop⟩)
 refine jy (Zab e) e e (jg_y (fun w hs => Zaj e (ld1B (hs.blkL (i := 0) e) e)) e e (jy (ZaB e e) e e (jy (Zag e e) e e (Zaf e e e (Zat 27 e ?_ ?_)))))
 ·refine Zaa e e (Zaa e e (Zaa e e (jy (Zai e e) e e (Zaf e e e (Zaa e e (Zaa e e (Zaa e e (jy (Zai e e) e e (Zaf e e e (Zaa e e (Zaa e e (Zaa e e (Zaa e e (Zaa e e (jy (Zai e e) e e (Zaf e e e ?_))))))))))))))))
  refine Zaa e e (Zaa e e (Zaa e e (jy (Zai e e) e e (gz4 0 3 4 48 e (Zae (Zbf e (Zac (Zad 8 (Zah e e e (gz1 2 e (Zae (Zao (Zau (ZaA (Zau (Za0 (ZaA (Zau ?_))))))))))))))))))
  exact Zal e (fun w hs => .tmp e) (fun w hs => ⟨e, hs.drop⟩)
 refine jy (Zab e) e e (jg_y (fun w hs => Zaj e (ld1B (hs.blkL (i := 0) e) e)) e e (jy (Zbc e e) e e (jy (Zag e e) e e (Zaf e e e (Zat 32 e ?_ ?_)))))
 ·refine Zaa e e (Zaa e e (Zaa e e (jy (Zai e e) e e (Zaf e e e (Zaa e e (Zaa e e (Zaa e e (Zaa e e (Zaa e e (jy (Zai e e) e e (Zaf e e e (Zaa e e (Zaa e e (Zaa e e (jy (Zai e e) e e (gz4 0 3 4 48 e ?_))))))))))))))))
  refine Zae (Zbf e (Zac (Zad 8 (Zah e e e (gz1 2 e (Zae (Zao (Zau (ZaA (Zau (Za0 (ZaA (Zau ?_)))))))))))))
  exact Zal e (fun w hs => .tmp e) (fun w hs => ⟨e, hs.drop⟩)
 refine jy (Zab e) e e (jg_y (fun w hs => Zaj e (ld1B (hs.blkL (i := 0) e) e)) e e (jy (ZaB e e) e e (jy (Zag e e) e e (Zaf e e e (Zat 37 e ?_ ?_)))))
 ·refine Zaa e e (Zaa e e (Zaa e e (Zaa e e (Zaa e e (jy (Zai e e) e e (Zaf e e e (Zaa e e (Zaa e e (Zaa e e (jy (Zai e e) e e (gz4 0 3 4 48 e (Zae (Zbf e (Zac (Zad 8 (Zah e e e ?_))))))))))))))))
  refine gz1 2 e (Zae (Zao (Zau (ZaA (Zau (Za0 (ZaA (Zau ?_))))))))
  exact Zal e (fun w hs => .tmp e) (fun w hs => ⟨e, hs.drop⟩)
 refine jy (Zab e) e e (jg_y (fun w hs => Zaj e (ld1B (hs.blkL (i := 0) e) e)) e e (jy (Zab e) e e (jg_y (fun w hs => Zaj e (ld1B (hs.blkL (i := 0) e) e)) e e (jy (Zbu e e) e e (jy (Zag e e) e e (Zaf e e e (Zat 44 e ?_ ?_)))))))
 ·refine Zaa e e (Zaa e e (Zaa e e (jy (Zai e e) e e (gz4 0 3 4 48 e (Zae (Zbf e (Zac (Zad 8 (Zah e e e (gz1 2 e (Zae (Zao (Zau (ZaA (Zau (Za0 (ZaA (Zau ?_))))))))))))))))))
  exact Zal e (fun w hs => .tmp e) (fun w hs => ⟨e, hs.drop⟩)
 refine jy (Zab e) e e (jg_y (fun w hs => Zaj e (ld1B (hs.blkL (i := 0) e) e)) e e (jy (Zbc e e) e e (jy (Zag e e) e e (gz4 0 3 4 48 e (Zae (Zan e ?_ ?_))))))
 ·refine Zac (Zad 8 (Zah e e e (gz1 2 e (Zae (Zao (Zau (ZaA (Zau (Za0 (ZaA (Zau ?_)))))))))))
  exact Zal e (fun w hs => .tmp e) (fun w hs => ⟨e, hs.drop⟩)
 refine Zam (Zae (Zac (Zad 9 (Zah e e e (gz4 0 3 4 5 e (Zae (Zar (Zbi (n := big) (fun (s : Int) (g : Unit) => [(0, ha0.v), (3, .int .i64 z1), (4, .pointer (some ⟨g8, 0, none⟩)), (5, .int .i64 s)]) (fun (s : Int) (g : Unit) => []) (fun (s : Int) (g : Unit) => [(Res.blk g8 47 [.int .i64 x6.Element, .int .i64 x6.Side, .int .i64 x6.From, .int .i64 x6.To])]) 0 () [0] ⟨e, e, e, e, trivial⟩ e e e ?_))))))))
 intro z9 q10 n13 k11 H12
 refine Zac (Zac (Zad 10 (Zaf e e e (Zaf e e e (jy (ZaB e e) e e (gz5 0 3 4 5 51 e (Zae (Zan e ?_ ?_))))))))
 rotate_left
 ·refine ZaG (Zba (Zbe (Zbb (ZaN (Zae ?_)))))
  refine Zad 5 (Zaf e e e (jy (Zap e e) e e (Zah e e e (gz2 0 3 e (Zav H4 (w64 (z1 + 1)) () [] ⟨e, e, trivial⟩ e e e)))))
 refine Zam (Zae (Zac (Zar (Zac (ZaV (L' := [_]) 12 [0] [0, 1, 2, 3, 4, 5, 6, 7] 255 255 [0, 0, 3, 4, 8, 0, 32, 80] [0, 0, 3, 7, 15, 0, 32, 127] [(0, true), (1, true), (2, true), (3, true), (4, true), (5, true), (6, true), (7, true)] e (Zay (ZaE (Zay (Za8 (ZaE (ZaE (Zay (Za8 (ZaE (Zay Zbn)))))))))) (by kernel_rfl) (by kernel_rfl) (by kernel_rfl) (by kernel_rfl) (by kernel_rfl) (by kernel_rfl) (by kernel_rfl) (by kernel_rfl) (Zaz e e e e (Zaz e e e e (Zbs fun x14 h15 => jd_y e (fun w hs => ZaD e e (hs.arg Rha0) h15) e e (jd_y e (fun w hs => ZaX e (hs.arg Rha0) h15.1) e e (jd_y e (fun w hs => ZaK e (hs.arg Rha0) h15.1 e) e e (jd_y e (fun w hs => Zab e) e e (jd_y e (fun w hs => Zaj e (ld1B (hs.blk (i := 0) e) e)) e e (jd_y e (fun w hs => ZaR e e) e e (Za9 [(0, _), (3, _), (4, _), (5, _), (61, _)] ⟨e, e, e, e, e, trivial⟩ (Zae ?_)))))))))))))))
 refine Zan e ?_ ?_
 ·refine Zac (Zad 13 (Zah e e e (gz1 2 e (Zae (Zao (ZaA (Zau (Za0 (ZaA (ZaA (Zau (Za0 (ZaA (Zau ?_))))))))))))))
  exact Zal e (fun w hs => .tmp e) (fun w hs => ⟨e, hs.drop⟩)
 refine Zam (ZaN (Zae ?_))
 refine Zad 11 (Zaf e e e (jy (Zap e e) e e (Zah e e e (gz4 0 3 4 5 e (Zav H12 (w64 (z9 + 1)) () [0] ⟨e, e, e, e, trivial⟩ e e e)))))
theorem ZcL {w : World} {a0 : HumpgenMaker} {a1 : Int} {a2 : Int} {ha0_fl : Hd} {b0 : Nat} {v : (Int × Int)} (hm : ZbG a0 a1 a2 = some v) (Hb : Blk w b0 65 [ha0_fl.v, .int .i64 a0.fn]) (Rha0_fl : Sl w ha0_fl encI a0.fl) (Oha0_fl : Offs ha0_fl [b0]) : Calls Try.prog 28 ([.pointer (some ⟨b0, 0, none⟩), .int .i64 a1, .int .i64 a2] : List Value).toArray w (fun e w' => ∃ g : Unit, e = .returned (.int .i64 v.1) ∧ St w w' [.blk b0 65 [ha0_fl.v, .int .i64 v.2]] []) := by
 refine ZbL (vs := [.pointer (some ⟨b0, 0, none⟩), .int .i64 a1, .int .i64 a2]) (R := fun (v : (Int × Int)) (e : Ending) (w' : World) => ∃ g : Unit, e = .returned (.int .i64 v.1) ∧ St w w' [.blk b0 65 [ha0_fl.v, .int .i64 v.2]] []) Try.func28 e Try.ntmps28 e e (ZiN Hb) hm ?_
 unfold ZbG
 clear hm
 refine Zac (Zad 0 (Zah e e e (gz3 0 1 2 e (Zae (Zac (Zad 1 (Zaf e e e (Zaf e e e (Zaf e e e (Zaf e e e (jy (ZaW e e) e e (jy (Zap e e) e e (jm_c e (fun v w hs hm => ZbB hm (hs.blkM (i := 0) e) (hs.argM Rha0_fl Oha0_fl) Oha0_fl) (fun _ => e) e e fun v1 q2 => jy (Zap e e) e e (Zah e e e (gz1 6 e ?_)))))))))))))))
 refine Zae (Zao (Zal e (fun w hs => .tmp e) (fun w hs => ⟨(), e, hs.sel (is := []) e e⟩)))
theorem Ze9 {w : World} {a0 : (List (List Span))} {a1 : Int} {ha0 : Hd} {qa0 : List ((List Span) × Hd)} {v : Int} (hm : ZcE a0 a1 = some v) (eha0 : qa0.map (·.1) = a0) (Rha0 : Sl w ha0 Nt.enc qa0) (Dha0 : ∀ p ∈ qa0, rdN w p) : Gives Try.prog 50 [ha0.v, .int .i64 a1] w (.int .i64 v) := by
 refine ZaS (vs := [ha0.v, .int .i64 a1]) (U := fun (v : Int) => .int .i64 v) Try.func50 e Try.ntmps50 e e hm ?_
 unfold ZcE
 clear hm
 refine Zac (Zad 0 (Zah e e e (gz2 0 1 e (Zae (Zac (Zac (Zad 1 (Zaf e e e (jg_y (fun w hs => Zcq eha0 e (hs.arg Rha0)) e e (jy (Zbc e e) e e (gz3 0 1 9 e (Zae (Zan e ?_ ?_)))))))))))))
 ·refine Zac (Zad 2 (Zah e e e (gz1 4 e (Zae (Zao (Zau (Zal e (fun w hs => .tmp e) (fun w hs => ⟨e, hs.drop⟩))))))))
 refine Zam (Zae (Za6 (fun (s : Bool) (g : Unit) => [(0, ha0.v), (5, .bool s)]) (fun (s : Bool) (g : Unit) => []) (fun (s : Bool) (g : Unit) => []) ?_ ?_))
 rotate_left
 ·intro k3 H4
  refine Zad 3 (Zaf e e e (jy (Zbu e e) e e (Zaf e e e (Zat 12 e ?_ ?_))))
  ·refine Zaf e e e (jy (ZbP e e) e e (jy (Zai e e) e e (Zah e e e (gz2 0 5 e (Zav H4 (decide (a1 ≤ 1000000000)) () [] ⟨e, e, trivial⟩ e e e)))))
  refine Zaa e e (Zaa e e (jy (Zag e e) e e (Zah e e e (gz2 0 5 e (Zav H4 false () [] ⟨e, e, trivial⟩ e e e)))))
 intro z1 q2
 refine Zac (Zac (Zad 4 (Zah e e e (gz3 0 5 6 e (Zae (Zar (Zbi (n := big) (fun (s : (Bool × Int)) (g : Unit) => [(0, ha0.v), (5, .bool s.1), (6, .int .i64 s.2)]) (fun (s : (Bool × Int)) (g : Unit) => []) (fun (s : (Bool × Int)) (g : Unit) => []) (z1, 0) () [] ⟨e, e, e, trivial⟩ e e e ?_)))))))
 intro z5 q6 n9 k7 H8
 refine Zac (Zac (Zad 5 (Zaf e e e (Zaf e e e (jg_y (fun w hs => Zcq eha0 e (hs.arg Rha0)) e e (jy (ZaB e e) e e (gz4 0 5 6 19 e (Zae (Zan e ?_ ?_)))))))))
 rotate_left
 ·refine ZaG (Zba (Zbe (Zbb (Zae ?_))))
  refine Zac (Zac (Zad 8 (Zaf e e e (jy (Zbk e) e e (gz1 31 e (Zae (Zan e ?_ ?_)))))))
  ·refine Zac (Zad 9 (Zah e e e (gz1 4 e (Zae (Zao (Zau (Zal e (fun w hs => .tmp e) (fun w hs => ⟨e, hs.drop⟩))))))))
  refine Zam (Zae (Zac (Zad 10 (Zah e e e (gz1 4 e (Zae (Zao (Zal e (fun w hs => .tmp e) (fun w hs => ⟨e, hs.drop⟩)))))))))
 refine Zam (Zae (Zac (Zar (Zad 7 (Zaf e e e (Zaf e e e (Zat 23 e ?_ ?_)))))))
 rotate_left
 ·refine Zaa e e (Zaa e e (Zaa e e (Zaa e e (Zaa e e (jy (Zag e e) e e (Zah e e e (gz3 0 5 6 e (ZaN (Zae ?_)))))))))
  refine Zad 6 (Zaf e e e (jy (Zap e e) e e (Zah e e e (gz3 0 5 6 e (Zav H8 (false, w64 (z5.2 + 1)) () [] ⟨e, e, e, trivial⟩ e e e)))))
 refine Zaf e e e (Zaf e e e (Zce (fun w hs => eha0) fun x10 d12 h11 => ?_))
 have Rr13 := (Dha0 _ (List.mem_of_getElem? h11.1)).sl (.head _)
 refine jg_y (fun w hs => ZaD e e (hs.arg Rha0) h11) e e (jg_y (fun w hs => ZaK e (hs.arg Rha0) h11.1 e) e e (Zbg e (fun v w hs hm => Ze8 hm (hs.arg Rr13)) e e fun v14 => jy (Zai e e) e e (Zah e e e (gz3 0 5 6 e (ZaN (Zae ?_))))))
 refine Zad 6 (Zaf e e e (jy (Zap e e) e e (Zah e e e (gz3 0 5 6 e (Zav H8 (v14, w64 (z5.2 + 1)) () [] ⟨e, e, e, trivial⟩ e e e)))))
theorem ZfO {w : World} {a0 : (List Span)} {a1 : Int} {ha0 : Hd} {v : Int} (hm : Zc9 a0 a1 = some v) (Rha0 : Sl w ha0 Span.enc a0) : Gives Try.prog 54 [ha0.v, .int .i64 a1] w (.int .i64 v) := by
 refine ZaS (vs := [ha0.v, .int .i64 a1]) (U := fun (v : Int) => .int .i64 v) Try.func54 e Try.ntmps54 e e hm ?_
 unfold Zc9
 clear hm
 refine Zac (Zad 0 (Zah e e e (gz2 0 1 e (Zae (Zac (Zac (Zad 1 (Zah e e e (gz3 0 1 5 e (Zae (Zar (Zbi (n := big) (fun (s : Int) (g : Unit) => [(0, ha0.v), (1, .int .i64 a1), (5, .int .i64 s)]) (fun (s : Int) (g : Unit) => []) (fun (s : Int) (g : Unit) => []) 0 () [] ⟨e, e, e, trivial⟩ e e e ?_))))))))))))
 intro z1 q2 n5 k3 H4
 refine Zac (Zac (Zad 2 (Zaf e e e (Zaf e e e (jg_y (fun w hs => ZaT e (hs.arg Rha0)) e e (jy (ZaB e e) e e (gz4 0 1 5 9 e (Zae (Zan e ?_ ?_)))))))))
 rotate_left
 ·refine ZaG (Zba (Zbe (Zbb (Zae ?_))))
  refine Zac (Zad 6 (Zah e e e (gz1 4 e (Zae (Zao (Zal e (fun w hs => .tmp e) (fun w hs => ⟨e, hs.drop⟩)))))))
 refine Zam (Zae (Zac (Zar (Zac (Zad 4 (Zaf e e e (Zaf e e e (Za1 fun x6 h7 => jg_y (fun w hs => ZaD e e (hs.arg Rha0) h7) e e (jg_y (fun w hs => ZaX e (hs.arg Rha0) h7.1) e e (jg_y (fun w hs => ZaK e (hs.arg Rha0) h7.1 e) e e (Zaf e e e (jy (ZaR e e) e e (gz4 0 1 5 18 e (Zae (Zan e ?_ ?_)))))))))))))))
 rotate_left
 ·refine Zam (ZaN (Zae ?_))
  refine Zad 3 (Zaf e e e (jy (Zap e e) e e (Zah e e e (gz3 0 1 5 e (Zav H4 (w64 (z1 + 1)) () [] ⟨e, e, e, trivial⟩ e e e)))))
 refine Zac (Zad 5 (Zaf e e e (Zah e e e (gz1 4 e (Zae (Zao (ZaA (Zau (Za0 (ZaA (Zau ?_)))))))))))
 exact Zal e (fun w hs => .tmp e) (fun w hs => ⟨e, hs.drop⟩)
theorem Zhs {w : World} {a0 : Span} {a1 : Span} {a2 : Int}  {v : Int} (hm : ZcY a0 a1 a2 = some v) : Gives Try.prog 76 [.agg #[.int .i64 a0.Element, .int .i64 a0.Side, .int .i64 a0.From, .int .i64 a0.To], .agg #[.int .i64 a1.Element, .int .i64 a1.Side, .int .i64 a1.From, .int .i64 a1.To], .int .i64 a2] w (.int .i64 v) := by
 refine ZaS (vs := [.agg #[.int .i64 a0.Element, .int .i64 a0.Side, .int .i64 a0.From, .int .i64 a0.To], .agg #[.int .i64 a1.Element, .int .i64 a1.Side, .int .i64 a1.From, .int .i64 a1.To], .int .i64 a2]) (U := fun (v : Int) => .int .i64 v) Try.func76 e Try.ntmps76 e e hm ?_
 unfold ZcY
 clear hm
 refine Zac (Zad 0 (ZbF e (l4 e) e e fun g1 => ZbF e (l4 e) e e fun g2 => Zah e e e (gz3 2 3 4 e (Zae (Zac (Zac (Zad 1 (jy (Zab e) e e (jg_y (fun w hs => Zaj e (ld1B (hs.blkL (i := 1) e) e)) e e (jy (Zbj e e) e e (Zaf e e e (Zat 10 e ?_ ?_))))))))))))
 rotate_left
 ·refine Zaa e e (Zaa e e (Zaa e e (jy (Zag e e) e e (Zaf e e e (Zaa e e (Zaa e e (Zaa e e (Zaa e e (Zaa e e (jy (Zag e e) e e (gz3 2 3 21 e (Zae (Zdt e (Zam (Zae (Zac ?_))))))))))))))))
  refine Zad 3 (jy (Zab e) e e (jg_y (fun w hs => Zaj e (ld1B (hs.blkL (i := 1) e) e)) e e (Zah e e e (gz1 6 e (ZaF (is := []) (s0 e) e (Zae (Zao (Zal e (fun w hs => .tmp e) (fun w hs => ⟨e, hs.drop⟩)))))))))
 refine jy (Zab e) e e (jg_y (fun w hs => Zaj e (ld1B (hs.blkL (i := 0) e) e)) e e (jy (Zbj e e) e e (jy (Zai e e) e e (Zaf e e e (Zat 15 e ?_ ?_)))))
 rotate_left
 ·refine Zaa e e (Zaa e e (Zaa e e (Zaa e e (Zaa e e (jy (Zag e e) e e (gz3 2 3 21 e (Zae (Zdt e (Zam (Zae (Zac (Zad 3 (jy (Zab e) e e (jg_y (fun w hs => Zaj e (ld1B (hs.blkL (i := 1) e) e)) e e (Zah e e e (gz1 6 e ?_))))))))))))))))
  refine ZaF (is := []) (s0 e) e (Zae (Zao (Zal e (fun w hs => .tmp e) (fun w hs => ⟨e, hs.drop⟩))))
 refine jy (Zab e) e e (jg_y (fun w hs => Zaj e (ld1B (hs.blkL (i := 1) e) e)) e e (jy (Zab e) e e (jg_y (fun w hs => Zaj e (ld1B (hs.blkL (i := 0) e) e)) e e (jy (Zbj e e) e e (jy (Zai e e) e e (gz3 2 3 21 e (Zae (Zan e ?_ ?_))))))))
 rotate_left
 ·refine Zam (Zae (Zac (Zad 3 (jy (Zab e) e e (jg_y (fun w hs => Zaj e (ld1B (hs.blkL (i := 1) e) e)) e e (Zah e e e (gz1 6 e (ZaF (is := []) (s0 e) e (Zae (Zao (Zal e (fun w hs => .tmp e) (fun w hs => ⟨e, hs.drop⟩))))))))))))
 refine Zac (Zad 2 (jy (Zab e) e e (jg_y (fun w hs => Zaj e (ld1B (hs.blkL (i := 1) e) e)) e e (Zaf e e e (jy (Zap e e) e e (Zah e e e (gz1 6 e (ZaF (is := []) (s0 e) e (Zae (Zao (Zau (Zal e (fun w hs => .tmp e) (fun w hs => ⟨e, hs.drop⟩)))))))))))))
theorem Zjn {w : World} {a0 : (List Span)} {a1 : (List Span)} {a2 : Int} {ha0 : Hd} {ha1 : Hd} {v : (Int × Int)} (hm : ZdX a0 a1 a2 = some v) (Rha0 : Sl w ha0 Span.enc a0) (Rha1 : Sl w ha1 Span.enc a1) : Gives Try.prog 51 [ha0.v, ha1.v, .int .i64 a2] w (.tuple #[.int .i64 v.1, .int .i64 v.2]) := by
 refine ZaS (vs := [ha0.v, ha1.v, .int .i64 a2]) (U := fun (v : (Int × Int)) => .tuple #[.int .i64 v.1, .int .i64 v.2]) Try.func51 e Try.ntmps51 e e hm ?_
 unfold ZdX
 clear hm
 refine Zac (Zad 0 (Zah e e e (Zah e e e (gz3 0 1 2 e (Zae (Zac (Zad 1 (Zah e e e (gz4 0 1 2 8 e (Zae (Zac (Zac (Zad 2 (Zah e e e (gz5 0 1 2 8 9 e (Zae ?_))))))))))))))))
 refine Zar (Zbi (n := big) (fun (s : (Int × Int)) (g : Unit) => [(0, ha0.v), (1, ha1.v), (2, .int .i64 a2), (8, .int .i64 s.1), (9, .int .i64 s.2)]) (fun (s : (Int × Int)) (g : Unit) => []) (fun (s : (Int × Int)) (g : Unit) => []) (0, 0) () [] ⟨e, e, e, e, e, trivial⟩ e e e ?_)
 intro z1 q2 n5 k3 H4
 refine Zac (Zac (Zad 3 (Zaf e e e (Zaf e e e (jg_y (fun w hs => ZaT e (hs.arg Rha1)) e e (jy (ZaB e e) e e (gz6 0 1 2 8 9 14 e (Zae (Zan e ?_ ?_)))))))))
 rotate_left
 ·refine ZaG (Zba (Zbe (Zbb (Zae ?_))))
  refine Zac (Zad 10 (Zaf e e e (Zah e e e (Zah e e e (gz2 6 7 e (Zae (Zao (ZaZ e (fun w hs => .tmp e) (fun w hs => .tmp e) (fun w hs => ⟨e, hs.drop⟩)))))))))
 refine Zam (Zae (Zac (Zar (Zac (Zad 5 (Zaf e e e (Zaf e e e (Zaf e e e (Za1 fun x6 h7 => jg_y (fun w hs => ZaD e e (hs.arg Rha1) h7) e e (jg_y (fun w hs => ZaX e (hs.arg Rha1) h7.1) e e (jg_y (fun w hs => ZaK e (hs.arg Rha1) h7.1 e) e e (Zbg e (fun v w hs hm => ZfO hm (hs.arg Rha0)) e e fun v8 => Zah e e e (gz6 0 1 2 8 9 10 e (Zae ?_))))))))))))))
 refine Zac (Zac (Zad 6 (Zaf e e e (jy (ZaB e e) e e (gz7 0 1 2 8 9 10 25 e (Zae (Zan e ?_ ?_)))))))
 ·refine ZaG (Zba (Zbb (Zae ?_)))
  refine Zad 4 (Zaf e e e (jy (Zap e e) e e (Zah e e e (gz5 0 1 2 8 9 e (Zav H4 (z1.1, w64 (z1.2 + 1)) () [] ⟨e, e, e, e, e, trivial⟩ e e e)))))
 refine Zam (Zae (Zac (Zac (Zad 7 (Zaf e e e (Zaf e e e (Za1 fun x9 h10 => jg_y (fun w hs => ZaD e e (hs.arg Rha0) h10) e e (jg_y (fun w hs => ZaX e (hs.arg Rha0) h10.1) e e (jg_y (fun w hs => ZaK e (hs.arg Rha0) h10.1 e) e e (jy (ZaR e e) e e (gz7 0 1 2 8 9 10 31 e (Zae (Zan e ?_ ?_)))))))))))))
 ·refine Zac (Zad 8 (Zah e e e (Zah e e e (gz2 6 7 e (Zae (Zao (Zau (ZaA (Zau (Za0 (ZaA (Zau ?_))))))))))))
  exact ZaZ e (fun w hs => .tmp e) (fun w hs => .tmp e) (fun w hs => ⟨e, hs.drop⟩)
 refine Zam (Zae (ZaV (L' := []) 9 [] [0, 1, 2, 3, 4, 5, 6, 7, 8, 9, 10, 11, 12, 13, 14, 15, 16, 17, 18] 524287 524287 [0, 0, 0, 6, 8, 0, 0, 96, 128, 0, 784, 0, 0, 6144, 8192, 16384, 33792, 65537, 262143] [0, 0, 0, 6, 14, 0, 0, 96, 224, 0, 1022, 0, 0, 6144, 14336, 30720, 65534, 131071, 262143] [(0, true), (1, true), (2, true), (3, true), (4, true), (5, true), (6, true), (7, true), (8, true), (9, true), (10, true), (11, true), (12, true), (13, true), (14, true), (15, true), (16, true), (17, true), (18, true)] e (ZaE (Zay (Za8 (ZaE (Zay Zbn))))) (by kernel_rfl) (by kernel_rfl) (by kernel_rfl) (by kernel_rfl) (by kernel_rfl) (by kernel_rfl) (by kernel_rfl) (by kernel_rfl) (Zaz e e e e (Zaz e e e e (Zaz e e e e (Zbs fun x11 h12 => jd_y e (fun w hs => ZaD e e (hs.arg Rha0) h12) e e (jd_y e (fun w hs => ZbH e (hs.arg Rha0) h12.1 (l4 e) e) e e (Zaz e e e e (Zaz e e e e (Zbs fun x13 h14 => jd_y e (fun w hs => ZaD e e (hs.arg Rha1) h14) e e (jd_y e (fun w hs => ZbH e (hs.arg Rha1) h14.1 (l4 e) e) e e (Zaz e e e e (Zdu e e (fun v w hs hm => Zhs (a0 := x11) (a1 := x13) hm ) e e fun v15 => Zaz e e e e ?_)))))))))))))
 refine Zaz e e e e (Zbs fun x16 h17 => jd_y e (fun w hs => ZaD e e (hs.arg Rha1) h17) e e (jd_y e (fun w hs => ZaX e (hs.arg Rha1) h17.1) e e (jd_y e (fun w hs => ZaK e (hs.arg Rha1) h17.1 e) e e (jd_y e (fun w hs => ZaW e e) e e (Zfl e (fun w hs => ZeU e e) e e fun x18 => Zb4 e e e e (Za9 [(0, _), (1, _), (2, _), (8, _), (9, _)] ⟨e, e, e, e, e, trivial⟩ (ZaN (Zae ?_))))))))
 refine Zad 4 (Zaf e e e (jy (Zap e e) e e (Zah e e e (gz5 0 1 2 8 9 e (Zav H4 (x18, w64 (z1.2 + 1)) () [] ⟨e, e, e, e, e, trivial⟩ e e e)))))
end Go.Proofs.Ytdgminllobhncaa
namespace Go.Proofs.Ytdgminllobhncaa
open Go.Hy
set_option linter.unusedVariables false
set_option linter.unusedSimpArgs false
set_option maxHeartbeats 2000000
set_option maxRecDepth 100000
theorem Zfz {w : World} {a0 : (List (List Span))} {a1 : Int} {ha0 : Hd} {qa0 : List ((List Span) × Hd)} {v : ((List Int) × Int)} (hm : ZbO a0 a1 = some v) (eha0 : qa0.map (·.1) = a0) (Rha0 : Sl w ha0 Nt.enc qa0) (Dha0 : ∀ p ∈ qa0, rdN w p) : Calls Try.prog 29 ([ha0.v, .int .i64 a1] : List Value).toArray w (fun e w' => ∃ g : Hd, e = .returned (.tuple #[g.v, .int .i64 v.2]) ∧ St w w' [] [(rowH g 3 1 encI v.1)]) := by
 refine ZbL (vs := [ha0.v, .int .i64 a1]) (R := fun (v : ((List Int) × Int)) (e : Ending) (w' : World) => ∃ g : Hd, e = .returned (.tuple #[g.v, .int .i64 v.2]) ∧ St w w' [] [(rowH g 3 1 encI v.1)]) Try.func29 e Try.ntmps29 e e (St.refl w) hm ?_
 unfold ZbO
 clear hm
 refine Zac (Zad 0 (Zah e e e (Zah e e e (gz2 0 1 e (Zae (Zac (Zac (Zad 1 (Zaf e e e (Zaf e e e (Zbg e (fun v w hs hm => Ze9 hm eha0 (hs.arg Rha0) (hs.argN Dha0)) e e fun v1 => Zah e e e (gz3 0 1 6 e (Zae (Zac (Zad 2 ?_)))))))))))))))
 refine Zaf e e e (jy (Zbj e e) e e (gz4 0 1 6 17 e (Zae (Zan e ?_ ?_))))
 ·refine Zac (Zad 3 (Zaf e e e (Zah e e e (Zah e e e (gz2 4 5 e (Zae (Zao (Zau (ZaU 3 1 encI (ZaZ e (fun w hs => .tmp e) (fun w hs => .tmp e) (fun w hs => ⟨(Hd.mk none 0 0), e, hs.sel (is := [0]) e e⟩)))))))))))
 refine Zam (Zae (Zac (Zad 4 (Zah e e e (gz3 0 1 7 e (Zae (Zac (Zac (Zad 5 (Zah e e e (gz4 0 1 7 8 e (Zae (Zar (Zbm 3 1 encI (Zbi (n := big) (fun (s : ((List Int) × Int)) (g : Hd) => [(0, ha0.v), (1, .int .i64 a1), (7, g.v), (8, .int .i64 s.2)]) (fun (s : ((List Int) × Int)) (g : Hd) => []) (fun (s : ((List Int) × Int)) (g : Hd) => [(rowH g 3 1 encI s.1)]) (([] : List Int), 0) (Hd.mk none 0 0) [0] ⟨e, e, e, e, trivial⟩ e e e ?_)))))))))))))))
 intro z2 q3 n6 k4 H5
 refine Zac (Zac (Zad 6 (Zaf e e e (Zaf e e e (jg_y (fun w hs => Zcq eha0 e (hs.arg Rha0)) e e (jy (ZaB e e) e e (gz5 0 1 7 8 22 e (Zae (Zan e ?_ ?_)))))))))
 rotate_left
 ·refine ZaG (Zba (Zbe (Zbb (Zae ?_))))
  refine Zac (Zad 19 (Zaf e e e (Zah e e e (Zah e e e (gz2 4 5 e (Zae (Zao (ZaZ e (fun w hs => .tmp e) (fun w hs => .tmp e) (fun w hs => ⟨q3, e, hs.sel (is := [0]) e e⟩)))))))))
 refine Zam (Zae (Zac (Zar (Zac (Zad 8 (Zah e e e (gz5 0 1 7 8 9 e (Zae (Za6 (fun (s : Int) (g : Unit) => [(0, ha0.v), (1, .int .i64 a1), (7, q3.v), (8, .int .i64 z2.2), (9, .int .i64 s)]) (fun (s : Int) (g : Unit) => []) (fun (s : Int) (g : Unit) => [(rowH q3 3 1 encI z2.1)]) ?_ ?_)))))))))
 ·intro z7 q8
  refine Zac (Zac (Zad 16 (Zaf e e e (jy (Zbc e e) e e (gz6 0 1 7 8 9 55 e (Zae (Zan e ?_ ?_)))))))
  ·refine Zac (Zad 17 (Zah e e e (Zah e e e (gz2 4 5 e (Zae (Zao (Zau (ZaA (Zau (Za0 (ZaA (Zau ?_))))))))))))
   refine ZaU 3 1 encI (ZaZ e (fun w hs => .tmp e) (fun w hs => .tmp e) (fun w hs => ⟨(Hd.mk none 0 0), e, hs.sel (is := [0]) e e⟩))
  refine Zam (Zae (Zad 18 (Zaf e e e (Zaf e e e (Za2 (enc := encI) [z7] e e e e e e e e fun hd11 => ZaO 1 e e e (fun w hs => (hs.row 0 e)) e e e fun y12 hd13 => jg_L (r2 e) (Zah e e e (gz4 0 1 7 8 e (ZaN (Zae ?_)))))))))
  refine Zad 7 (Zaf e e e (jy (Zap e e) e e (Zah e e e (gz4 0 1 7 8 e (Zav H5 (y12, w64 (z2.2 + 1)) hd13 [1] ⟨e, e, e, e, trivial⟩ e e e)))))
 intro k9 H10
 refine Zac (Zad 9 (Zah e e e (gz6 0 1 7 8 9 10 e (Zae (Zar (Zbi (n := big) (fun (s : (Int × Int)) (g : Unit) => [(0, ha0.v), (1, .int .i64 a1), (7, q3.v), (8, .int .i64 z2.2), (9, .int .i64 s.1), (10, .int .i64 s.2)]) (fun (s : (Int × Int)) (g : Unit) => []) (fun (s : (Int × Int)) (g : Unit) => [(rowH q3 3 1 encI z2.1)]) (0, 0) () [0] ⟨e, e, e, e, e, e, trivial⟩ e e e ?_))))))
 intro z14 q15 n18 k16 H17
 refine Zac (Zac (Zad 10 (Zaf e e e (Zaf e e e (jy (ZaB e e) e e (gz7 0 1 7 8 9 10 27 e (Zae (Zan e ?_ ?_))))))))
 rotate_left
 ·refine ZaG (Zba (Zbe (Zbb ?_)))
  exact Zav H10 z14.1 () [0] ⟨e, e, e, e, e, trivial⟩ e e e
 refine Zam (Zae (Zac (Zar (Zac (ZaV (L' := [_]) 12 [0] [0, 1, 2, 3, 4, 5, 6, 7, 8, 9, 10, 11, 12, 13, 14] 32767 32767 [0, 0, 3, 4, 0, 0, 48, 64, 0, 392, 512, 1024, 1024, 4095, 16383] [0, 0, 3, 7, 0, 0, 48, 112, 0, 511, 1023, 2047, 2047, 4095, 16383] [(0, true), (1, true), (2, true), (3, true), (4, true), (5, true), (6, true), (7, true), (8, true), (9, true), (10, true), (11, true), (12, true), (13, true), (14, true)] e (Zay (ZaE (Zay (Za8 (ZaE (Zay (ZaE (Zay (Za8 (ZaE (Zay Zbn))))))))))) (by kernel_rfl) (by kernel_rfl) (by kernel_rfl) (by kernel_rfl) (by kernel_rfl) (by kernel_rfl) (by kernel_rfl) (by kernel_rfl) (Zaz e e e e (Zaz e e e e (ZcM (fun w hs => eha0) fun x19 d21 h20 => ?_))))))))
 have Rr22 := (Dha0 _ (List.mem_of_getElem? h20.1)).sl (.head _)
 refine jd_y e (fun w hs => ZaD e e (hs.arg Rha0) h20) e e (jd_y e (fun w hs => ZaK e (hs.arg Rha0) h20.1 e) e e (Zaz e e e e (Zaz e e e e (ZcM (fun w hs => eha0) fun x23 d25 h24 => ?_))))
 have Rr26 := (Dha0 _ (List.mem_of_getElem? h24.1)).sl (.head _)
 refine jd_y e (fun w hs => ZaD e e (hs.arg Rha0) h24) e e (jd_y e (fun w hs => ZaK e (hs.arg Rha0) h24.1 e) e e (Zaz e e e e (Zdu e e (fun v w hs hm => Zjn hm (hs.arg Rr22) (hs.arg Rr26)) e e fun v27 => Zaz e e e e (jd_y e (fun w hs => ZaH e e) e e (jd_y e (fun w hs => ZaH e e) e e (Zb4 e e e e (Zb4 e e e e (Za9 [(0, _), (1, _), (7, _), (8, _), (9, _), (10, _), (11, _), (12, _)] ⟨e, e, e, e, e, e, e, e, trivial⟩ (Zae (Zac (Zac (Zad 13 (Zaf e e e (jy (Zbj e e) e e (gz9 0 1 7 8 9 10 11 12 44 e ?_)))))))))))))))
 refine Zae (Zan e ?_ ?_)
 ·refine Zac (Zad 14 (Zaf e e e (Zah e e e (Zah e e e (gz2 4 5 e (Zae (Zao (Zau (ZaA (Zau (Za0 (ZaA (Zau (ZaA (Zau (Za0 (ZaA (Zau ?_))))))))))))))))))
  refine ZaU 3 1 encI (ZaZ e (fun w hs => .tmp e) (fun w hs => .tmp e) (fun w hs => ⟨(Hd.mk none 0 0), e, hs.sel (is := [0]) e e⟩))
 refine Zam (Zae (Zad 15 (Zaf e e e (Zaf e e e (Zaf e e e (Za1 fun x28 h29 => jg_y (fun w hs => ZaD e e (hs.row 0 e) h29) e e (jg_y (fun w hs => ZaK e (hs.row 0 e) h29.1 e) e e (Zaf e e e (jy (Zap e e) e e (jy (ZeU e e) e e (Zah e e e (gz6 0 1 7 8 9 10 e (ZaN (Zae ?_))))))))))))))
 refine Zad 11 (Zaf e e e (jy (Zap e e) e e (Zah e e e (gz6 0 1 7 8 9 10 e (Zav H17 (max z14.1 (w64 (x28 + v27.1)), w64 (z14.2 + 1)) () [0] ⟨e, e, e, e, e, e, trivial⟩ e e e)))))
theorem ZgK {w : World} {a0 : (List Throw)} {ha0 : Hd} {v : Bool} (hm : Zcy a0 = some v) (Rha0 : Sl w ha0 Throw.enc a0) : Gives Try.prog 77 [ha0.v] w (.bool v) := by
 refine ZaS (vs := [ha0.v]) (U := fun (v : Bool) => .bool v) Try.func77 e Try.ntmps77 e e hm ?_
 unfold Zcy
 clear hm
 refine Zac (Zad 0 (Zah e e e (gz1 0 e (Zae (Zac (Zac (Zad 1 (Zaf e e e (jg_y (fun w hs => ZaT e (hs.arg Rha0)) e e (jy (Zbc e e) e e (gz2 0 7 e (Zae (Zan e ?_ ?_)))))))))))))
 ·refine Zac (Zad 2 (Zah e e e (gz1 2 e (Zae (Zao (Zau (Zal e (fun w hs => .tmp e) (fun w hs => ⟨e, hs.drop⟩))))))))
 refine Zam (Zae (Zac (Zac (Zad 3 (Zah e e e (gz2 0 3 e (Zae (Zar (Zbi (n := big) (fun (s : Int) (g : Unit) => [(0, ha0.v), (3, .int .i64 s)]) (fun (s : Int) (g : Unit) => []) (fun (s : Int) (g : Unit) => []) 0 () [] ⟨e, e, trivial⟩ e e e ?_)))))))))
 intro z1 q2 n5 k3 H4
 refine Zac (Zac (Zad 4 (Zaf e e e (Zaf e e e (jg_y (fun w hs => ZaT e (hs.arg Rha0)) e e (jy (ZaB e e) e e (gz3 0 3 11 e (Zae (Zan e ?_ ?_)))))))))
 rotate_left
 ·refine ZaG (Zba (Zbe (Zbb (Zae ?_))))
  refine Zac (Zad 13 (Zah e e e (gz1 2 e (Zae (Zao (Zal e (fun w hs => .tmp e) (fun w hs => ⟨e, hs.drop⟩)))))))
 refine Zam (Zae (Zac (Zar (Za6 (fun (s : Unit) (g : Unit) => [(0, ha0.v), (3, .int .i64 z1)]) (fun (s : Unit) (g : Unit) => []) (fun (s : Unit) (g : Unit) => []) ?_ ?_))))
 ·intro z6 q7
  refine Zac (Zad 8 (Zah e e e (gz3 0 3 4 e (Zae (Zar (Zbi (n := big) (fun (s : Int) (g : Unit) => [(0, ha0.v), (3, .int .i64 z1), (4, .int .i64 s)]) (fun (s : Int) (g : Unit) => []) (fun (s : Int) (g : Unit) => []) 0 () [] ⟨e, e, e, trivial⟩ e e e ?_))))))
  intro z10 q11 n14 k12 H13
  refine Zac (Zac (Zad 9 (Zaf e e e (Zaf e e e (jy (ZaB e e) e e (gz4 0 3 4 38 e (Zae (Zan e ?_ ?_))))))))
  rotate_left
  ·refine ZaG (Zba (Zbe (Zbb (ZaN (Zae ?_)))))
   refine Zad 5 (Zaf e e e (jy (Zap e e) e e (Zah e e e (gz2 0 3 e (Zav H4 (w64 (z1 + 1)) () [] ⟨e, e, trivial⟩ e e e)))))
  refine Zam (Zae (Zac (Zar (Zac (ZaV (L' := []) 11 [] [0, 1, 2, 3, 4, 5, 6, 7, 8, 9, 10] 2047 2047 [0, 0, 3, 4, 8, 0, 0, 96, 128, 256, 528] [0, 0, 3, 7, 15, 0, 0, 96, 224, 480, 1023] [(0, true), (1, true), (2, true), (3, true), (4, true), (5, true), (6, true), (7, true), (8, true), (9, true), (10, true)] e (Zay (ZaE (Zay (Za8 (ZaE (ZaE (Zay (Za8 (ZaE (Zay Zbn)))))))))) (by kernel_rfl) (by kernel_rfl) (by kernel_rfl) (by kernel_rfl) (by kernel_rfl) (by kernel_rfl) (by kernel_rfl) (by kernel_rfl) (Zaz e e e e (Zaz e e e e (Zbs fun x15 h16 => jd_y e (fun w hs => ZaD e e (hs.arg Rha0) h16) e e (jd_y e (fun w hs => ZaX e (hs.arg Rha0) h16.1) e e (jd_y e (fun w hs => ZaK e (hs.arg Rha0) h16.1 e) e e (Zaz e e e e (Zaz e e e e (Zbs fun x17 h18 => jd_y e (fun w hs => ZaD e e (hs.arg Rha0) h18) e e (jd_y e (fun w hs => ZaX e (hs.arg Rha0) h18.1) e e ?_))))))))))))))
  refine jd_y e (fun w hs => ZaK e (hs.arg Rha0) h18.1 e) e e (jd_y e (fun w hs => ZaR e e) e e (Za9 [(0, _), (3, _), (4, _), (51, _)] ⟨e, e, e, e, trivial⟩ (Zae (Zan e ?_ ?_))))
  ·refine Zac (Zad 12 (Zah e e e (gz1 2 e (Zae (Zao (ZaA (Zau (Za0 (ZaA (ZaA (Zau (Za0 (ZaA (Zau ?_))))))))))))))
   exact Zal e (fun w hs => .tmp e) (fun w hs => ⟨e, hs.drop⟩)
  refine Zam (ZaN (Zae ?_))
  refine Zad 10 (Zaf e e e (jy (Zap e e) e e (Zah e e e (gz3 0 3 4 e (Zav H13 (w64 (z10 + 1)) () [] ⟨e, e, e, trivial⟩ e e e)))))
 intro k8 H9
 refine Zac (Zad 6 (Zaf e e e (Zaf e e e (Za1 fun x19 h20 => jg_y (fun w hs => ZaD e e (hs.arg Rha0) h20) e e (jg_y (fun w hs => ZaX e (hs.arg Rha0) h20.1) e e (jg_y (fun w hs => ZaK e (hs.arg Rha0) h20.1 e) e e (jy (ZaB e e) e e (Zaf e e e (Zat 20 e ?_ ?_)))))))))
 ·refine Zaa e e (Zaa e e (Zaa e e (Zaa e e (Zaa e e (Zaa e e (Zaa e e (Zaa e e (Zaa e e (Zaa e e (Zaa e e (Zaa e e (Zaa e e (Zaa e e (jy (Zai e e) e e (gz3 0 3 35 e (Zae ?_))))))))))))))))
  refine Zbf e (Zac (Zad 7 (Zah e e e (gz1 2 e (Zae (Zao (Zau (ZaA (Zau (Za0 (ZaA (Zau ?_))))))))))))
  exact Zal e (fun w hs => .tmp e) (fun w hs => ⟨e, hs.drop⟩)
 refine Zaf e e e (Zaf e e e (Za1 fun x21 h22 => jg_y (fun w hs => ZaD e e (hs.arg Rha0) h22) e e (jg_y (fun w hs => ZaX e (hs.arg Rha0) h22.1) e e (jg_y (fun w hs => ZaK e (hs.arg Rha0) h22.1 e) e e (jy (Zbj e e) e e (Zaf e e e (Zat 27 e ?_ ?_)))))))
 rotate_left
 ·refine Zaa e e (Zaa e e (Zaa e e (Zaa e e (Zaa e e (Zaa e e (jy (Zag e e) e e (jy (Zag e e) e e (gz3 0 3 35 e (Zae (Zdt e (Zam (Zav H9 () () [] ⟨e, e, trivial⟩ e e e))))))))))))
 refine Zaf e e e (Zaf e e e (Za1 fun x23 h24 => jg_y (fun w hs => ZaD e e (hs.arg Rha0) h24) e e (jg_y (fun w hs => ZaX e (hs.arg Rha0) h24.1) e e (jg_y (fun w hs => ZaK e (hs.arg Rha0) h24.1 e) e e (jy (Zbj e e) e e (jy (Zai e e) e e (jy (Zag e e) e e (gz3 0 3 35 e (Zae (Zan e ?_ ?_))))))))))
 rotate_left
 ·refine Zam (Zav H9 () () [] ⟨e, e, trivial⟩ e e e)
 refine Zac (Zad 7 (Zah e e e (gz1 2 e (Zae (Zao (Zau (ZaA (Zau (Za0 (ZaA (Zau ?_)))))))))))
 exact Zal e (fun w hs => .tmp e) (fun w hs => ⟨e, hs.drop⟩)
theorem Zhq {w : World} {a0 : (List (List Span))} {a1 : (List Int)} {a2 : Int} {a3 : (List Throw)} {ha0 : Hd} {qa0 : List ((List Span) × Hd)} {ha1 : Hd} {ha3 : Hd} {v : Int} (hm : ZcW a0 a1 a2 a3 = some v) (Rha1 : Sl w ha1 encI a1) (Rha3 : Sl w ha3 Throw.enc a3) (eha0 : qa0.map (·.1) = a0) (Rha0 : Sl w ha0 Nt.enc qa0) (Dha0 : ∀ p ∈ qa0, rdN w p) : Gives Try.prog 52 [ha0.v, ha1.v, .int .i64 a2, ha3.v] w (.int .i64 v) := by
 refine ZaS (vs := [ha0.v, ha1.v, .int .i64 a2, ha3.v]) (U := fun (v : Int) => .int .i64 v) Try.func52 e Try.ntmps52 e e hm ?_
 unfold ZcW
 clear hm
 refine Zac (Zad 0 (Zah e e e (gz4 0 1 2 3 e (Zae (Zac (Zac (Zad 1 (Zaf e e e (Zaf e e e (Zbg e (fun v w hs hm => Ze9 hm eha0 (hs.arg Rha0) (hs.argN Dha0)) e e fun v1 => Zah e e e (gz4 0 1 3 9 e (Zae (Zac (Zad 2 (Zaf e e e ?_)))))))))))))))
 refine jy (Zbj e e) e e (gz5 0 1 3 9 16 e (Zae (Zan e ?_ ?_)))
 ·refine Zac (Zad 3 (Zaf e e e (Zah e e e (gz1 8 e (Zae (Zao (Zau (Zal e (fun w hs => .tmp e) (fun w hs => ⟨e, hs.drop⟩)))))))))
 refine Zam (Zae (Za6 (fun (s : Bool) (g : Unit) => [(1, ha1.v), (10, .bool s)]) (fun (s : Bool) (g : Unit) => []) (fun (s : Bool) (g : Unit) => []) ?_ ?_))
 rotate_left
 ·intro k4 H5
  refine Zad 4 (Zaf e e e (jg_y (fun w hs => ZaT e (hs.arg Rha1)) e e (Zaf e e e (jg_y (fun w hs => Zcq eha0 e (hs.arg Rha0)) e e (jy (ZaR e e) e e (Zaf e e e (Zat 23 e ?_ ?_)))))))
  ·refine Zaf e e e (Zbg e (fun v w hs hm => ZgK hm (hs.arg Rha3)) e e fun v19 => jy (Zai e e) e e (Zah e e e (gz2 1 10 e (Zav H5 v19 () [] ⟨e, e, trivial⟩ e e e))))
  refine Zaa e e (Zaa e e (jy (Zag e e) e e (Zah e e e (gz2 1 10 e (Zav H5 false () [] ⟨e, e, trivial⟩ e e e)))))
 intro z2 q3
 refine Zac (Zac (Zad 5 (Zah e e e (gz3 1 10 11 e (Zae (Zar (Zbi (n := big) (fun (s : (Bool × Int)) (g : Unit) => [(1, ha1.v), (10, .bool s.1), (11, .int .i64 s.2)]) (fun (s : (Bool × Int)) (g : Unit) => []) (fun (s : (Bool × Int)) (g : Unit) => []) (z2, 0) () [] ⟨e, e, e, trivial⟩ e e e ?_)))))))
 intro z6 q7 n10 k8 H9
 refine Zac (Zac (Zad 6 (Zaf e e e (Zaf e e e (jg_y (fun w hs => ZaT e (hs.arg Rha1)) e e (jy (ZaB e e) e e (gz4 1 10 11 30 e (Zae (Zan e ?_ ?_)))))))))
 rotate_left
 ·refine ZaG (Zba (Zbe (Zbb (Zae ?_))))
  refine Zac (Zac (Zad 9 (Zaf e e e (jy (Zbk e) e e (gz1 65 e (Zae (Zan e ?_ ?_)))))))
  ·refine Zac (Zad 10 (Zah e e e (gz1 8 e (Zae (Zao (Zau (Zal e (fun w hs => .tmp e) (fun w hs => ⟨e, hs.drop⟩))))))))
  refine Zam (Zae (Zac (Zad 11 (Zah e e e (gz1 8 e (Zae (Zao (Zal e (fun w hs => .tmp e) (fun w hs => ⟨e, hs.drop⟩)))))))))
 refine Zam (Zae (Zac (Zar (ZaV (L' := []) 8 [] [0, 1, 2, 3, 4, 5, 6, 7, 8, 9, 10, 11, 12, 13, 14, 15, 16, 17, 18, 19, 20, 21, 22, 23, 24, 25, 26, 27, 28, 29, 30, 31] 4294967295 4294967295 [0, 1, 2, 2, 14, 18, 34, 66, 130, 256, 256, 1792, 2304, 4352, 8448, 16640, 32768, 98304, 163840, 262144, 262144, 1835008, 2359296, 262144, 262144, 17039360, 42205184, 67371008, 138674176, 268730368, 536903680, 2147483647] [0, 1, 3, 3, 15, 31, 63, 127, 255, 511, 511, 2047, 4095, 8191, 16383, 32767, 65535, 131071, 262143, 524287, 524287, 2097151, 4194303, 524287, 524287, 17301503, 59244543, 126353407, 268435455, 536870911, 1073741823, 2147483647] [(0, true), (1, true), (2, true), (3, true), (4, true), (5, true), (6, true), (7, true), (8, true), (9, true), (10, true), (11, true), (12, true), (13, true), (14, true), (15, true), (16, true), (17, true), (18, true), (19, true), (20, true), (21, true), (22, true), (23, true), (24, true), (25, true), (26, true), (27, true), (28, true), (29, true), (30, true), (31, true)] e (ZaE (Zay (Za8 (ZaE (Zay Zbn))))) (by kernel_rfl) (by kernel_rfl) (by kernel_rfl) (by kernel_rfl) (by kernel_rfl) (by kernel_rfl) (by kernel_rfl) (by kernel_rfl) (Zaz e e e e (Zaz e e e e (ZbJ 34 e ?_ ?_)))))))
 rotate_left
 ·refine Zaq e e e (Zaq e e e (Zaq e e e (Zaq e e e (Zaq e e e (jd_y e (fun w hs => Zag e e) e e (Zaz e e e e (Zaq e e e (Zaq e e e (Zaq e e e (Zaq e e e (Zaq e e e (jd_y e (fun w hs => Zag e e) e e (Zaz e e e e (Zaq e e e (Zaq e e e (Zaq e e e ?_))))))))))))))))
  refine Zaq e e e (Zaq e e e (Zaq e e e (Zaq e e e (Zaq e e e (Zaq e e e (Zaq e e e (Zaq e e e (Zaq e e e (Zaq e e e (Zaq e e e (jd_y e (fun w hs => Zag e e) e e (Zb4 e e e e (Za9 [(1, _), (10, _), (11, _)] ⟨e, e, e, trivial⟩ (ZaN (Zae ?_)))))))))))))))
  refine Zad 7 (Zaf e e e (jy (Zap e e) e e (Zah e e e (gz3 1 10 11 e (Zav H9 (false, w64 (z6.2 + 1)) () [] ⟨e, e, e, trivial⟩ e e e)))))
 refine Zaz e e e e (Zaz e e e e (Zbs fun x11 h12 => jd_y e (fun w hs => ZaD e e (hs.arg Rha1) h12) e e (jd_y e (fun w hs => ZaK e (hs.arg Rha1) h12.1 e) e e (jd_y e (fun w hs => Zbu e e) e e (jd_y e (fun w hs => Zai e e) e e (Zaz e e e e (ZbJ 41 e ?_ ?_)))))))
 rotate_left
 ·refine Zaq e e e (Zaq e e e (Zaq e e e (Zaq e e e (Zaq e e e (jd_y e (fun w hs => Zag e e) e e (Zaz e e e e (Zaq e e e (Zaq e e e (Zaq e e e (Zaq e e e (Zaq e e e (Zaq e e e (Zaq e e e (Zaq e e e (Zaq e e e (Zaq e e e ?_))))))))))))))))
  refine Zaq e e e (Zaq e e e (Zaq e e e (Zaq e e e (jd_y e (fun w hs => Zag e e) e e (Zb4 e e e e (Za9 [(1, _), (10, _), (11, _)] ⟨e, e, e, trivial⟩ (ZaN (Zae ?_))))))))
  refine Zad 7 (Zaf e e e (jy (Zap e e) e e (Zah e e e (gz3 1 10 11 e (Zav H9 (false, w64 (z6.2 + 1)) () [] ⟨e, e, e, trivial⟩ e e e)))))
 refine Zaz e e e e (Zaz e e e e (Zbs fun x13 h14 => jd_y e (fun w hs => ZaD e e (hs.arg Rha1) h14) e e (jd_y e (fun w hs => ZaK e (hs.arg Rha1) h14.1 e) e e (jd_y e (fun w hs => ZbP e e) e e (jd_y e (fun w hs => Zai e e) e e (Zaz e e e e (ZbJ 48 e ?_ ?_)))))))
 rotate_left
 ·refine Zaq e e e (Zaq e e e (Zaq e e e (Zaq e e e (Zaq e e e (Zaq e e e (Zaq e e e (Zaq e e e (Zaq e e e (Zaq e e e (Zaq e e e (Zaq e e e (Zaq e e e (Zaq e e e (jd_y e (fun w hs => Zag e e) e e (Zb4 e e e e (Za9 [(1, _), (10, _), (11, _)] ⟨e, e, e, trivial⟩ ?_))))))))))))))))
  refine ZaN (Zae ?_)
  refine Zad 7 (Zaf e e e (jy (Zap e e) e e (Zah e e e (gz3 1 10 11 e (Zav H9 (false, w64 (z6.2 + 1)) () [] ⟨e, e, e, trivial⟩ e e e)))))
 refine Zaz e e e e (jd_y e (fun w hs => ZaR e e) e e (Zaz e e e e (ZbJ 51 e ?_ ?_)))
 ·refine Zaq e e e (Zaq e e e (Zaq e e e (Zaq e e e (Zaq e e e (Zaq e e e (Zaq e e e (Zaq e e e (Zaq e e e (Zaq e e e (jd_y e (fun w hs => Zai e e) e e (jd_y e (fun w hs => Zai e e) e e (Zb4 e e e e (Za9 [(1, _), (10, _), (11, _)] ⟨e, e, e, trivial⟩ (ZaN (Zae ?_)))))))))))))))
  refine Zad 7 (Zaf e e e (jy (Zap e e) e e (Zah e e e (gz3 1 10 11 e (Zav H9 (true, w64 (z6.2 + 1)) () [] ⟨e, e, e, trivial⟩ e e e)))))
 refine Zaz e e e e (Zaz e e e e (Zbs fun x15 h16 => jd_y e (fun w hs => ZaD e e (hs.arg Rha1) h16) e e (jd_y e (fun w hs => ZaK e (hs.arg Rha1) h16.1 e) e e (Zaz e e e e (Zaz e e e e (jd_y e (fun w hs => ZaW e e) e e (Zbs fun x17 h18 => jd_y e (fun w hs => ZaD e e (hs.arg Rha1) h18) e e (jd_y e (fun w hs => ZaK e (hs.arg Rha1) h18.1 e) e e (jd_y e (fun w hs => Zbu e e) e e (jd_y e (fun w hs => Zag e e) e e (jd_y e (fun w hs => Zai e e) e e (Zb4 e e e e (Za9 [(1, _), (10, _), (11, _)] ⟨e, e, e, trivial⟩ (ZaN (Zae ?_)))))))))))))))
 refine Zad 7 (Zaf e e e (jy (Zap e e) e e (Zah e e e (gz3 1 10 11 e (Zav H9 (decide (x17 ≤ x15), w64 (z6.2 + 1)) () [] ⟨e, e, e, trivial⟩ e e e)))))
theorem Zhr {w : World} {a0 : (List Throw)} {a1 : Int} {ha0 : Hd} {v : Int} (hm : ZcX a0 a1 = some v) (Rha0 : Sl w ha0 Throw.enc a0) : Gives Try.prog 53 [ha0.v, .int .i64 a1] w (.int .i64 v) := by
 refine ZaS (vs := [ha0.v, .int .i64 a1]) (U := fun (v : Int) => .int .i64 v) Try.func53 e Try.ntmps53 e e hm ?_
 unfold ZcX
 clear hm
 refine Zac (Zad 0 (Zah e e e (gz2 0 1 e (Zae (Zac (Zac (Zad 1 (Zah e e e (gz3 0 1 5 e (Zae (Zar (Zbi (n := big) (fun (s : Int) (g : Unit) => [(0, ha0.v), (1, .int .i64 a1), (5, .int .i64 s)]) (fun (s : Int) (g : Unit) => []) (fun (s : Int) (g : Unit) => []) 0 () [] ⟨e, e, e, trivial⟩ e e e ?_))))))))))))
 intro z1 q2 n5 k3 H4
 refine Zac (Zac (Zad 2 (Zaf e e e (Zaf e e e (jg_y (fun w hs => ZaT e (hs.arg Rha0)) e e (jy (ZaB e e) e e (gz4 0 1 5 9 e (Zae (Zan e ?_ ?_)))))))))
 rotate_left
 ·refine ZaG (Zba (Zbe (Zbb (Zae ?_))))
  refine Zac (Zad 6 (Zah e e e (gz1 4 e (Zae (Zao (Zal e (fun w hs => .tmp e) (fun w hs => ⟨e, hs.drop⟩)))))))
 refine Zam (Zae (Zac (Zar (Zac (Zad 4 (Zaf e e e (Zaf e e e (Za1 fun x6 h7 => jg_y (fun w hs => ZaD e e (hs.arg Rha0) h7) e e (jg_y (fun w hs => ZaX e (hs.arg Rha0) h7.1) e e (jg_y (fun w hs => ZaK e (hs.arg Rha0) h7.1 e) e e (Zaf e e e (jy (ZaR e e) e e (gz4 0 1 5 18 e (Zae (Zan e ?_ ?_)))))))))))))))
 rotate_left
 ·refine Zam (ZaN (Zae ?_))
  refine Zad 3 (Zaf e e e (jy (Zap e e) e e (Zah e e e (gz3 0 1 5 e (Zav H4 (w64 (z1 + 1)) () [] ⟨e, e, e, trivial⟩ e e e)))))
 refine Zac (Zad 5 (Zaf e e e (Zaf e e e (Za1 fun x8 h9 => jg_y (fun w hs => ZaD e e (hs.arg Rha0) h9) e e (jg_y (fun w hs => ZaX e (hs.arg Rha0) h9.1) e e (jg_y (fun w hs => ZaK e (hs.arg Rha0) h9.1 e) e e (Zah e e e (gz1 4 e (Zae (Zao (ZaA (Zau (Za0 (ZaA (Zau ?_)))))))))))))))
 exact Zal e (fun w hs => .tmp e) (fun w hs => ⟨e, hs.drop⟩)
theorem Zfy {w : World} {a0 : (List (List Span))} {a1 : (List Int)} {a2 : Int} {a3 : (List Throw)} {ha0 : Hd} {qa0 : List ((List Span) × Hd)} {ha1 : Hd} {ha3 : Hd} {v : ((List Command) × Int)} (hm : ZbN a0 a1 a2 a3 = some v) (Rha1 : Sl w ha1 encI a1) (Rha3 : Sl w ha3 Throw.enc a3) (eha0 : qa0.map (·.1) = a0) (Rha0 : Sl w ha0 Nt.enc qa0) (Dha0 : ∀ p ∈ qa0, rdN w p) : Calls Try.prog 30 ([ha0.v, ha1.v, .int .i64 a2, ha3.v] : List Value).toArray w (fun e w' => ∃ g : Hd, e = .returned (.tuple #[g.v, .int .i64 v.2]) ∧ St w w' [] [(rowH g 53 4 Command.enc v.1)]) := by
 refine ZbL (vs := [ha0.v, ha1.v, .int .i64 a2, ha3.v]) (R := fun (v : ((List Command) × Int)) (e : Ending) (w' : World) => ∃ g : Hd, e = .returned (.tuple #[g.v, .int .i64 v.2]) ∧ St w w' [] [(rowH g 53 4 Command.enc v.1)]) Try.func30 e Try.ntmps30 e e (St.refl w) hm ?_
 unfold ZbN
 clear hm
 refine Zac (Zad 0 (Zah e e e (Zah e e e (gz4 0 1 2 3 e (Zae (Zac (Zac (Zad 1 (Zaf e e e (Zaf e e e (Zaf e e e (Zaf e e e (Zbg e (fun v w hs hm => Zhq hm (hs.arg Rha1) (hs.arg Rha3) eha0 (hs.arg Rha0) (hs.argN Dha0)) e e fun v1 => Zah e e e (gz5 0 1 2 3 10 e (Zae ?_)))))))))))))))
 refine Zac (Zad 2 (Zaf e e e (jy (Zbj e e) e e (gz6 0 1 2 3 10 30 e (Zae (Zan e ?_ ?_))))))
 ·refine Zac (Zad 3 (Zaf e e e (Zah e e e (Zah e e e (gz2 8 9 e (Zae (Zao (Zau (ZaU 53 4 Command.enc (ZaZ e (fun w hs => .tmp e) (fun w hs => .tmp e) (fun w hs => ⟨(Hd.mk none 0 0), e, hs.sel (is := [0]) e e⟩)))))))))))
 refine Zam (Zae (Zac (Zad 4 (Zah e e e (gz5 0 1 2 3 11 e (Zae (Za6 (fun (s : (List Command)) (g : Hd) => [(11, g.v)]) (fun (s : (List Command)) (g : Hd) => []) (fun (s : (List Command)) (g : Hd) => [(rowH g 53 4 Command.enc s)]) ?_ ?_)))))))
 ·intro z2 q3
  refine Zac (Zad 38 (Zah e e e (gz2 11 21 e (Zae (Zac (Zac (Zad 39 (Zah e e e (gz3 11 21 22 e (Zae (Zar (Zbm 53 4 Command.enc (Zbi (n := big) (fun (s : ((List Command) × Int)) (g : Hd) => [(11, q3.v), (21, g.v), (22, .int .i64 s.2)]) (fun (s : ((List Command) × Int)) (g : Hd) => []) (fun (s : ((List Command) × Int)) (g : Hd) => [(rowH q3 53 4 Command.enc z2), (rowH g 53 4 Command.enc s.1)]) (([] : List Command), 0) (Hd.mk none 0 0) [1, 0] ⟨e, e, e, trivial⟩ e e e ?_)))))))))))))
  intro z6 q7 n10 k8 H9
  refine Zac (Zac (Zad 40 (Zaf e e e (Zaf e e e (jg_y (fun w hs => ZaT e (hs.row 0 e)) e e (jy (ZaB e e) e e (gz4 11 21 22 159 e (Zae (Zan e ?_ ?_)))))))))
  rotate_left
  ·refine ZaG (Zba (Zbe (Zbb (Zae ?_))))
   refine Zac (Zad 46 (Zaf e e e (Zah e e e (Zah e e e (gz2 8 9 e (Zae (Zao (ZaZ e (fun w hs => .tmp e) (fun w hs => .tmp e) (fun w hs => ⟨q7, e, hs.sel (is := [1]) e e⟩)))))))))
  refine Zam (Zae (Zac (Zar (Zac (Zad 42 (Zaf e e e (jg_y (fun w hs => ZaT e (hs.row 1 e)) e e (Zah e e e (gz4 11 21 22 23 e (Zae (Za6 (fun (s : Int) (g : Unit) => [(11, q3.v), (21, q7.v), (22, .int .i64 z6.2), (23, .int .i64 s)]) (fun (s : Int) (g : Unit) => []) (fun (s : Int) (g : Unit) => [(rowH q3 53 4 Command.enc z2), (rowH q7 53 4 Command.enc z6.1)]) ?_ ?_)))))))))))
  ·intro z11 q12
   refine ZaV (L' := [_, _]) 45 [0, 1] [0, 1, 2, 3, 4, 5, 6, 7, 9, 10, 11, 8, 12] 8191 32767 [0, 0, 0, 7, 0, 0, 48, 64, 128, 0, 0, 1536, 2304, 4104, 16383] [0, 0, 0, 7, 0, 0, 48, 112, 240, 0, 0, 1536, 4080, 8191, 16383] [(0, true), (1, true), (2, true), (3, true), (4, true), (5, true), (6, true), (7, true), (9, true), (10, true), (11, true), (8, false), (12, false), (13, false), (14, false)] e (ZaE (Zay (Za8 (ZaE (Zay Zbn))))) (by kernel_rfl) (by kernel_rfl) (by kernel_rfl) (by kernel_rfl) (by kernel_rfl) (by kernel_rfl) (by kernel_rfl) (by kernel_rfl) (Zaz e e e e (Zaz e e e e (Zaz e e e e (Zel fun h15 => jd_y e (fun w hs => yv_hm e e e (hs.row 1 e) (of_decide_eq_true h15)) e e (Zaz e e e e (Zaz e e e e (Zbs fun x16 h17 => jd_y e (fun w hs => ZaD e e (hs.row 0 e) h17) e e (jd_y e (fun w hs => ZbH e (hs.row 0 e) h17.1 (l4 e) e) e e (Zaz e e e e (Zaz e e e e (Zel fun h18 => jd_y e (fun w hs => yv_lo e e (hs.row 1 e) (of_decide_eq_true h18)) e e (jd_h e (Za2 (enc := Command.enc) [x16] e e e e e e e e fun hd19 => ?_)))))))))))))
   refine ZaI (Zb6 [1, 2] e (jd_h e (ZaO 0 e e e (fun w hs => (Sl.lo (sz := 4) (hs.row 2 e) (of_decide_eq_true h18))) e e e fun y20 hd21 => jg_L (r3 e) (ZaI (Zb6 [1, 2] e (jd_h e (jg_rhm 2 e (of_decide_eq_true h15) (r3 e) (ZaO 2 e e e (fun w hs => (hs.row 0 e)) e e e fun y22 hd23 => jg_L (r3 e) (ZaI (Zcr e (jf_h e (Zah e e e (ZaI (Zcr e ?_))))))))))))))
   refine Zby [(11, _), (21, _), (22, _)] ⟨e, e, e, trivial⟩ (ZaN (Zae ?_))
   refine Zad 41 (Zaf e e e (jy (Zap e e) e e (Zah e e e (gz3 11 21 22 e (Zav H9 (y22, w64 (z6.2 + 1)) hd23 [1, 2] ⟨e, e, e, trivial⟩ e e e)))))
  intro k13 H14
  refine Zar (Zbi (n := big) (fun (s : Int) (g : Unit) => [(11, q3.v), (21, q7.v), (22, .int .i64 z6.2), (23, .int .i64 s)]) (fun (s : Int) (g : Unit) => []) (fun (s : Int) (g : Unit) => [(rowH q3 53 4 Command.enc z2), (rowH q7 53 4 Command.enc z6.1)]) (z6.1.length : Int) () [0, 1] ⟨e, e, e, e, trivial⟩ e e e ?_)
  intro z24 q25 n28 k26 H27
  refine Zac (Zac (ZaV (L' := [_, _]) 43 [0, 1] [0, 1, 2, 3, 4, 5, 6, 7, 8, 9, 10, 11, 12, 13, 14, 15] 65535 65535 [0, 1, 2, 4, 4, 20, 44, 68, 132, 4, 4, 1540, 2052, 4100, 8452, 16388] [0, 1, 3, 7, 7, 23, 63, 127, 255, 7, 7, 1543, 3591, 7687, 16383, 32767] [(0, true), (1, true), (2, true), (3, true), (4, true), (5, true), (6, true), (7, true), (8, true), (9, true), (10, true), (11, true), (12, true), (13, true), (14, true), (15, true)] e (Zay (Zay (Za8 (ZaE (Zay (ZaE (Zay (Za8 (ZaE (Zay Zbn)))))))))) (by kernel_rfl) (by kernel_rfl) (by kernel_rfl) (by kernel_rfl) (by kernel_rfl) (by kernel_rfl) (by kernel_rfl) (by kernel_rfl) (Zaz e e e e (jd_y e (fun w hs => Zbc e e) e e (Zaz e e e e (ZbJ 166 e ?_ ?_))))))
  rotate_left
  ·refine Zaq e e e (Zaq e e e (Zaq e e e (Zaq e e e (Zaq e e e (Zaq e e e (Zaq e e e (Zaq e e e (Zaq e e e (Zaq e e e (Zaq e e e (Zaq e e e (jd_y e (fun w hs => Zag e e) e e (Za9 [(11, _), (21, _), (22, _), (23, _), (179, _)] ⟨e, e, e, e, e, trivial⟩ (Zae (Zdt e (ZaG ?_))))))))))))))))
   refine Zba (Zbe (Zbb ?_))
   exact Zav H14 z24 () [0, 1] ⟨e, e, e, e, trivial⟩ e e e
  refine Zaz e e e e (Zaz e e e e (jd_y e (fun w hs => ZaW e e) e e (Zbs fun x29 h30 => jd_y e (fun w hs => ZaD e e (hs.row 1 e) h30) e e (jd_y e (fun w hs => ZaX e (hs.row 1 e) h30.1) e e (jd_y e (fun w hs => ZaK e (hs.row 1 e) h30.1 e) e e (Zaz e e e e (Zaz e e e e (Zbs fun x31 h32 => jd_y e (fun w hs => ZaD e e (hs.row 0 e) h32) e e (jd_y e (fun w hs => ZaX e (hs.row 0 e) h32.1) e e (jd_y e (fun w hs => ZaK e (hs.row 0 e) h32.1 e) e e (jd_y e (fun w hs => Zbc e e) e e (jd_y e (fun w hs => Zai e e) e e (Za9 [(11, _), (21, _), (22, _), (23, _), (179, _)] ⟨e, e, e, e, e, trivial⟩ (Zae ?_))))))))))))))
  refine Zan e ?_ ?_
  rotate_left
  ·refine ZaG (Zba (Zbe (Zbb ?_)))
   exact Zav H14 z24 () [0, 1] ⟨e, e, e, e, trivial⟩ e e e
  refine Zam (Zae (Zar (Zad 44 (Zaf e e e (jy (ZaW e e) e e (Zah e e e (gz4 11 21 22 23 e (ZaN (Zav H27 (w64 (z24 - 1)) () [0, 1] ⟨e, e, e, e, trivial⟩ e e e)))))))))
 intro k4 H5
 refine Zac (Zad 5 (Zah e e e (gz6 0 1 2 3 11 12 e (Zae (Zar (Zbm 53 4 Command.enc (Zbi (n := big) (fun (s : ((List Command) × Int)) (g : Hd) => [(0, ha0.v), (1, ha1.v), (2, .int .i64 a2), (3, ha3.v), (11, g.v), (12, .int .i64 s.2)]) (fun (s : ((List Command) × Int)) (g : Hd) => []) (fun (s : ((List Command) × Int)) (g : Hd) => [(rowH g 53 4 Command.enc s.1)]) (([] : List Command), 0) (Hd.mk none 0 0) [0] ⟨e, e, e, e, e, e, trivial⟩ e e e ?_)))))))
 intro z33 q34 n37 k35 H36
 refine Zac (Zac (Zad 6 (Zaf e e e (Zaf e e e (jg_y (fun w hs => Zcq eha0 e (hs.arg Rha0)) e e (jy (ZaB e e) e e (gz7 0 1 2 3 11 12 35 e (Zae (Zan e ?_ ?_)))))))))
 rotate_left
 ·refine ZaG (Zba (Zbe (Zbb ?_)))
  exact Zav H5 z33.1 q34 [0] ⟨e, trivial⟩ e e e
 refine Zam (Zae (Zac (Zar (Zac (Zad 8 (Zah e e e (gz7 0 1 2 3 11 12 13 e (Zae (Zar (Zbi (n := big) (fun (s : ((List Command) × Int)) (g : Hd) => [(0, ha0.v), (1, ha1.v), (2, .int .i64 a2), (3, ha3.v), (11, g.v), (12, .int .i64 z33.2), (13, .int .i64 s.2)]) (fun (s : ((List Command) × Int)) (g : Hd) => []) (fun (s : ((List Command) × Int)) (g : Hd) => [(rowH g 53 4 Command.enc s.1)]) (z33.1, 0) q34 [0] ⟨e, e, e, e, e, e, e, trivial⟩ e e e ?_))))))))))
 intro z38 q39 n42 k40 H41
 refine Zac (Zac (Zad 9 (Zaf e e e (Zaf e e e (Zaf e e e (Zce (fun w hs => eha0) fun x43 d45 h44 => ?_))))))
 have Rr46 := (Dha0 _ (List.mem_of_getElem? h44.1)).sl (.head _)
 refine jg_y (fun w hs => ZaD e e (hs.arg Rha0) h44) e e (jg_y (fun w hs => ZaK e (hs.arg Rha0) h44.1 e) e e (jg_y (fun w hs => ZaT e (hs.arg Rr46)) e e (jy (ZaB e e) e e (gz8 0 1 2 3 11 12 13 44 e (Zae (Zan e ?_ ?_))))))
 rotate_left
 ·refine ZaG (Zba (Zbe (Zbb (ZaN (Zae ?_)))))
  refine Zad 7 (Zaf e e e (jy (Zap e e) e e (Zah e e e (gz6 0 1 2 3 11 12 e (Zav H36 (z38.1, w64 (z33.2 + 1)) q39 [0] ⟨e, e, e, e, e, e, trivial⟩ e e e)))))
 refine Zam (Zae (Zac (Zar (Zac (Zad 11 (Zaf e e e (Zaf e e e (Zce (fun w hs => eha0) fun x47 d49 h48 => ?_))))))))
 have Rr50 := (Dha0 _ (List.mem_of_getElem? h48.1)).sl (.head _)
 refine jg_y (fun w hs => ZaD e e (hs.arg Rha0) h48) e e (jg_y (fun w hs => ZaK e (hs.arg Rha0) h48.1 e) e e (Zaf e e e (Za1 fun x51 h52 => jg_y (fun w hs => ZaD e e (hs.arg Rr50) h52) e e (jg_y (fun w hs => ZbH e (hs.arg Rr50) h52.1 (l4 e) e) e e (ZaL (l4 e) e e fun g53 => Zax 0 e e e (l4 e) e e e e (l4 e) (r2 e) (gz8 0 1 2 3 11 12 13 14 e (Zae (Zac (Zac (Zad 12 (jy (Zab e) e e (jg_y (fun w hs => Zaj e (ld1B (hs.blkL (i := 0) e) e)) e e (jy (ZaR e e) e e (gz9 0 1 2 3 11 12 13 14 56 e ?_))))))))))))))
 refine Zae (Zan e ?_ ?_)
 ·refine ZaG (Zba (Zbb (Zae ?_)))
  refine Zad 10 (Zaf e e e (jy (Zap e e) e e (Zah e e e (gz7 0 1 2 3 11 12 13 e (Zav H41 (z38.1, w64 (z38.2 + 1)) q39 [1] ⟨e, e, e, e, e, e, e, trivial⟩ e e e)))))
 refine Zam (Zae (Zac (Zad 13 (Zaf e e e (jy (Zab e) e e (jg_y (fun w hs => Zaj e (ld1B (hs.blkL (i := 0) e) e)) e e (Zbg e (fun v w hs hm => Zhr hm (hs.arg Rha3)) e e fun v54 => Zah e e e (gz9 0 1 2 3 11 12 13 14 15 e (Zae (Za6 (fun (s : Int) (g : Unit) => [(0, ha0.v), (1, ha1.v), (2, .int .i64 a2), (3, ha3.v), (11, q39.v), (12, .int .i64 z33.2), (13, .int .i64 z38.2), (14, .pointer (some ⟨g53, 0, none⟩)), (15, .int .i64 s)]) (fun (s : Int) (g : Unit) => []) (fun (s : Int) (g : Unit) => [(rowH q39 53 4 Command.enc z38.1), (Res.blk g53 47 [.int .i64 x51.Element, .int .i64 x51.Side, .int .i64 x51.From, .int .i64 x51.To])]) ?_ ?_))))))))))
 rotate_left
 ·intro k57 H58
  refine Zac (Zad 14 (Zah e e e (gz10 0 1 2 3 11 12 13 14 15 16 e (Zae (Zar (Zbi (n := big) (fun (s : (Int × Int)) (g : Unit) => [(0, ha0.v), (1, ha1.v), (2, .int .i64 a2), (3, ha3.v), (11, q39.v), (12, .int .i64 z33.2), (13, .int .i64 z38.2), (14, .pointer (some ⟨g53, 0, none⟩)), (15, .int .i64 s.1), (16, .int .i64 s.2)]) (fun (s : (Int × Int)) (g : Unit) => []) (fun (s : (Int × Int)) (g : Unit) => [(rowH q39 53 4 Command.enc z38.1), (Res.blk g53 47 [.int .i64 x51.Element, .int .i64 x51.Side, .int .i64 x51.From, .int .i64 x51.To])]) (v54, 0) () [1, 0] ⟨e, e, e, e, e, e, e, e, e, e, trivial⟩ e e e ?_))))))
  intro z97 q98 n101 k99 H100
  refine Zac (Zac (Zad 15 (Zaf e e e (Zaf e e e (jg_y (fun w hs => ZaT e (hs.row 0 e)) e e (jy (ZaB e e) e e (gz11 0 1 2 3 11 12 13 14 15 16 64 e (Zae (Zan e ?_ ?_)))))))))
  rotate_left
  ·refine ZaG (Zba (Zbe (Zbb ?_)))
   exact Zav H58 z97.1 () [0, 1] ⟨e, e, e, e, e, e, e, e, e, trivial⟩ e e e
  refine Zam (Zae (Zac (Zar (Zac (ZaV (L' := [_, _]) 17 [0, 1] [0, 1, 2, 3, 4, 5, 6, 7] 255 255 [0, 0, 3, 4, 8, 0, 32, 80] [0, 0, 3, 7, 15, 0, 32, 127] [(0, true), (1, true), (2, true), (3, true), (4, true), (5, true), (6, true), (7, true)] e (Zay (ZaE (Zay (Za8 (ZaE (Zay (ZaE (Zay (Za8 (ZaE (ZaE (Zay (Za8 (ZaE (Zay Zbn))))))))))))))) (by kernel_rfl) (by kernel_rfl) (by kernel_rfl) (by kernel_rfl) (by kernel_rfl) (by kernel_rfl) (by kernel_rfl) (by kernel_rfl) (Zaz e e e e (Zaz e e e e (Zbs fun x102 h103 => jd_y e (fun w hs => ZaD e e (hs.row 0 e) h103) e e (jd_y e (fun w hs => ZaX e (hs.row 0 e) h103.1) e e (jd_y e (fun w hs => ZaK e (hs.row 0 e) h103.1 e) e e (jd_y e (fun w hs => Zab e) e e (jd_y e (fun w hs => Zaj e (ld1B (hs.blk (i := 1) e) e)) e e (jd_y e (fun w hs => ZaR e e) e e (Za9 [(0, _), (1, _), (2, _), (3, _), (11, _), (12, _), (13, _), (14, _), (15, _), (16, _), (74, _)] ⟨e, e, e, e, e, e, e, e, e, e, e, trivial⟩ (Zae ?_)))))))))))))))
  refine Zan e ?_ ?_
  rotate_left
  ·refine Zam (ZaN (Zae ?_))
   refine Zad 16 (Zaf e e e (jy (Zap e e) e e (Zah e e e (gz10 0 1 2 3 11 12 13 14 15 16 e (Zav H100 (z97.1, w64 (z97.2 + 1)) () [0, 1] ⟨e, e, e, e, e, e, e, e, e, e, trivial⟩ e e e)))))
  refine Zad 18 (Zaf e e e (Zaf e e e (Za1 fun x104 h105 => jg_y (fun w hs => ZaD e e (hs.row 0 e) h105) e e (jg_y (fun w hs => ZaX e (hs.row 0 e) h105.1) e e (jg_y (fun w hs => ZaK e (hs.row 0 e) h105.1 e) e e (Zah e e e (gz10 0 1 2 3 11 12 13 14 15 16 e (ZaN (Zae ?_)))))))))
  refine Zad 16 (Zaf e e e (jy (Zap e e) e e (Zah e e e (gz10 0 1 2 3 11 12 13 14 15 16 e (Zav H100 (x104.Side, w64 (z97.2 + 1)) () [0, 1] ⟨e, e, e, e, e, e, e, e, e, e, trivial⟩ e e e)))))
 intro z55 q56
 refine Zac (Zac (Zad 19 (Zaf e e e (jy (Zab e) e e (jg_y (fun w hs => Zaj e (ld1B (hs.blkL (i := 1) e) e)) e e (jy (ZaR e e) e e (gz9 0 1 2 3 11 12 13 14 83 e (Zae (Zan e ?_ ?_)))))))))
 ·refine ZaG (Zba (Zbb (Zae ?_)))
  refine Zad 10 (Zaf e e e (jy (Zap e e) e e (Zah e e e (gz7 0 1 2 3 11 12 13 e (Zav H41 (z38.1, w64 (z38.2 + 1)) q39 [0] ⟨e, e, e, e, e, e, e, trivial⟩ e e e)))))
 refine Zam (Zae (Zac (Zad 20 (jy (Zab e) e e (jg_y (fun w hs => Zaj e (ld1B (hs.blkL (i := 1) e) e)) e e (jy (Zab e) e e (jg_y (fun w hs => Zaj e (ld1B (hs.blkL (i := 1) e) e)) e e (Zaf e e e (jy (ZaY e (o4 e)) e e (ZaL (l4 e) e e fun g59 => Zax 0 e e e (l4 e) e e e e (l4 e) (r3 e) (gz9 0 1 2 3 11 12 13 14 17 e (Zae (Zac (Zad 21 (Zah e e e ?_)))))))))))))))
 refine gz10 0 1 2 3 11 12 13 14 17 18 e (Zae (Za6 (fun (s : (Int × Bool)) (g : Unit) => [(0, ha0.v), (1, ha1.v), (2, .int .i64 a2), (3, ha3.v), (11, q39.v), (12, .int .i64 z33.2), (13, .int .i64 z38.2), (14, .pointer (some ⟨g53, 0, none⟩)), (17, .pointer (some ⟨g59, 0, none⟩)), (18, .bool s.2)]) (fun (s : (Int × Bool)) (g : Unit) => []) (fun (s : (Int × Bool)) (g : Unit) => [(rowH q39 53 4 Command.enc z38.1), (Res.blk g53 47 [.int .i64 x51.Element, .int .i64 x51.Side, .int .i64 x51.From, .int .i64 x51.To]), (Res.blk g59 53 [.int .i64 s.1, .int .i64 x51.Element, .int .i64 x51.Side, .int .i64 z33.2])]) ?_ ?_))
 ·intro z60 q61
  refine Zac (Zac (Zad 29 (Zaf e e e (gz10 0 1 2 3 11 12 13 14 17 133 e (Zae (Zan e ?_ ?_))))))
  ·refine Zac (Zad 30 (Zah e e e (Zah e e e (gz2 8 9 e (ZaF (is := []) (s0 e) e (Zae (Zao (Zau (ZaA (Zau (Za0 (ZaA (ZaA (Zau (Za0 (ZaA (Zau ?_)))))))))))))))))
   refine ZaU 53 4 Command.enc (ZaZ e (fun w hs => .tmp e) (fun w hs => .tmp e) (fun w hs => ⟨(Hd.mk none 0 0), e, hs.sel (is := [0]) e e⟩))
  refine Zam (Zae (Zac (Zac (Zad 31 (jy (Zab e) e e (jg_y (fun w hs => Zaj e (ld1B (hs.blkL (i := 2) e) e)) e e (jy (Zbc e e) e e (gz10 0 1 2 3 11 12 13 14 17 136 e (Zae (Zan e ?_ ?_))))))))))
  ·refine Zac (Zad 32 (Zah e e e (Zah e e e (gz2 8 9 e (ZaF (is := []) (s0 e) e (Zae (Zao (Zau (ZaA (Zau (Za0 (ZaA (ZaA (Zau (Za0 (ZaA (Zau ?_)))))))))))))))))
   refine ZaU 53 4 Command.enc (ZaZ e (fun w hs => .tmp e) (fun w hs => .tmp e) (fun w hs => ⟨(Hd.mk none 0 0), e, hs.sel (is := [0]) e e⟩))
  refine Zam (Zae (Zac (Zac (ZaV (L' := [_, _, _]) 33 [0, 1, 2] [0, 1, 2, 3, 4, 5, 6, 7, 8, 9, 10, 11] 4095 4095 [0, 1, 0, 6, 0, 0, 48, 64, 0, 256, 640, 1032] [0, 1, 0, 7, 0, 0, 48, 112, 0, 256, 1008, 2047] [(0, true), (1, true), (2, true), (3, true), (4, true), (5, true), (6, true), (7, true), (8, true), (9, true), (10, true), (11, true)] e (Zay (Zay (ZaE (Zay (Za8 (ZaE (ZaE (Zay (Za8 (ZaE (Zay Zbn))))))))))) (by kernel_rfl) (by kernel_rfl) (by kernel_rfl) (by kernel_rfl) (by kernel_rfl) (by kernel_rfl) (by kernel_rfl) (by kernel_rfl) (jd_y e (fun w hs => Zab e) e e (jd_y e (fun w hs => Zaj e (ld1B (hs.blk (i := 2) e) e)) e e (Zaz e e e e (jd_y e (fun w hs => Zap e e) e e (Zaz e e e e (Zaz e e e e (Zbs fun x64 h65 => jd_y e (fun w hs => ZaD e e (hs.arg Rha1) h65) e e (jd_y e (fun w hs => ZaK e (hs.arg Rha1) h65.1 e) e e (jd_y e (fun w hs => Zab e) e e (jd_y e (fun w hs => Zaj e (ld1B (hs.blk (i := 1) e) e)) e e (jd_y e (fun w hs => Zap e e) e e ?_)))))))))))))))
  refine jd_y e (fun w hs => Zbc e e) e e (Za9 [(0, _), (1, _), (2, _), (3, _), (11, _), (12, _), (13, _), (17, _), (148, _)] ⟨e, e, e, e, e, e, e, e, e, trivial⟩ (Zae (Zan e ?_ ?_)))
  ·refine Zac (Zad 34 (Zah e e e (Zah e e e (gz2 8 9 e (ZaF (is := []) (s0 e) e (Zae (Zao (Zau (ZaA (Zau (Za0 (ZaA (ZaA (Zau (Za0 (ZaA (Zau ?_)))))))))))))))))
   refine ZaU 53 4 Command.enc (ZaZ e (fun w hs => .tmp e) (fun w hs => .tmp e) (fun w hs => ⟨(Hd.mk none 0 0), e, hs.sel (is := [0]) e e⟩))
  refine Zam (Zae (Zac (Zac (Zad 35 (Zaf e e e (jg_y (fun w hs => ZaT e (hs.row 0 e)) e e (jy (ZaR e e) e e (gz9 0 1 2 3 11 12 13 17 151 e (Zae (Zan e ?_ ?_))))))))))
  ·refine Zac (Zad 36 (Zah e e e (Zah e e e (gz2 8 9 e (ZaF (is := []) (s0 e) e (Zae (Zao (Zau (ZaA (Zau (Za0 (ZaA (ZaA (Zau (Za0 (ZaA (Zau ?_)))))))))))))))))
   refine ZaU 53 4 Command.enc (ZaZ e (fun w hs => .tmp e) (fun w hs => .tmp e) (fun w hs => ⟨(Hd.mk none 0 0), e, hs.sel (is := [0]) e e⟩))
  refine Zam (Zae (Zad 37 (Zaf e e e (jg_y (fun w hs => Zaj e (ldBB (hs.blkL (i := 2) e) e)) e e (Za2 (enc := Command.enc) [(Command.mk z60.1 x51.Element x51.Side z33.2)] e e e e e e e e fun hd66 => ZaO 1 e e e (fun w hs => (hs.row 0 e)) e e e fun y67 hd68 => jg_L (r4 e) (Zah e e e (gz7 0 1 2 3 11 12 13 e (ZaF (is := [1]) (s1 e) e (ZaN (Zae ?_))))))))))
  refine Zad 10 (Zaf e e e (jy (Zap e e) e e (Zah e e e (gz7 0 1 2 3 11 12 13 e (Zav H41 (y67, w64 (z38.2 + 1)) hd68 [0] ⟨e, e, e, e, e, e, e, trivial⟩ e e e)))))
 intro k62 H63
 refine Zac (Zad 22 (Zah e e e (gz11 0 1 2 3 11 12 13 14 17 18 19 e (Zae (Zar (Zbi (n := big) (fun (s : (Int × Bool × Int)) (g : Unit) => [(0, ha0.v), (1, ha1.v), (2, .int .i64 a2), (3, ha3.v), (11, q39.v), (12, .int .i64 z33.2), (13, .int .i64 z38.2), (14, .pointer (some ⟨g53, 0, none⟩)), (17, .pointer (some ⟨g59, 0, none⟩)), (18, .bool s.2.1), (19, .int .i64 s.2.2)]) (fun (s : (Int × Bool × Int)) (g : Unit) => []) (fun (s : (Int × Bool × Int)) (g : Unit) => [(rowH q39 53 4 Command.enc z38.1), (Res.blk g53 47 [.int .i64 x51.Element, .int .i64 x51.Side, .int .i64 x51.From, .int .i64 x51.To]), (Res.blk g59 53 [.int .i64 s.1, .int .i64 x51.Element, .int .i64 x51.Side, .int .i64 z33.2])]) (0, false, 0) () [1, 2, 0] ⟨e, e, e, e, e, e, e, e, e, e, e, trivial⟩ e e e ?_))))))
 intro z69 q70 n73 k71 H72
 refine Zac (Zac (Zad 23 (Zaf e e e (Zaf e e e (jy (ZaB e e) e e (gz12 0 1 2 3 11 12 13 14 17 18 19 92 e (Zae (Zan e ?_ ?_))))))))
 rotate_left
 ·refine ZaG (Zba (Zbe (Zbb ?_)))
  exact Zav H63 (z69.1, z69.2.1) () [0, 1, 2] ⟨e, e, e, e, e, e, e, e, e, e, trivial⟩ e e e
 refine Zam (Zae (Zac (Zar (Zac (ZaV (L' := [_, _, _]) 25 [0, 1, 2] [0, 1, 2, 3, 4, 5, 6, 7] 255 255 [0, 0, 3, 4, 0, 16, 40, 127] [0, 0, 3, 7, 0, 16, 63, 127] [(0, true), (1, true), (2, true), (3, true), (4, true), (5, true), (6, true), (7, true)] e (Zay (ZaE (Zay (Za8 (ZaE (Zay (ZaE (Zay (Za8 (ZaE (ZaE (Zay (Za8 (ZaE (Zay Zbn))))))))))))))) (by kernel_rfl) (by kernel_rfl) (by kernel_rfl) (by kernel_rfl) (by kernel_rfl) (by kernel_rfl) (by kernel_rfl) (by kernel_rfl) (Zaz e e e e (Zaz e e e e (ZcM (fun w hs => eha0) fun x74 d76 h75 => ?_))))))))
 have Rr77 := (Dha0 _ (List.mem_of_getElem? h75.1)).sl (.head _)
 refine jd_y e (fun w hs => ZaD e e (hs.arg Rha0) h75) e e (jd_y e (fun w hs => ZaK e (hs.arg Rha0) h75.1 e) e e (jd_y e (fun w hs => Zab e) e e (jd_y e (fun w hs => Zaj e (ld1B (hs.blk (i := 1) e) e)) e e (Zdu e e (fun v w hs hm => ZfO hm (hs.arg Rr77)) e e fun v78 => Zb4 e e e e (Za9 [(0, _), (1, _), (2, _), (3, _), (11, _), (12, _), (13, _), (14, _), (17, _), (18, _), (19, _), (20, _)] ⟨e, e, e, e, e, e, e, e, e, e, e, e, trivial⟩ (Zae (Zac (Zad 26 (Zaf e e e (jy (Zbu e e) e e (gz13 0 1 2 3 11 12 13 14 17 18 19 20 103 e (Zae (Zan e ?_ ?_)))))))))))))
 rotate_left
 ·refine Zam (ZaN (Zae ?_))
  refine Zad 24 (Zaf e e e (jy (Zap e e) e e (Zah e e e (gz11 0 1 2 3 11 12 13 14 17 18 19 e (Zav H72 (z69.1, z69.2.1, w64 (z69.2.2 + 1)) () [0, 1, 2] ⟨e, e, e, e, e, e, e, e, e, e, e, trivial⟩ e e e)))))
 refine Za6 (fun (s : Bool) (g : Unit) => [(0, ha0.v), (1, ha1.v), (2, .int .i64 a2), (3, ha3.v), (11, q39.v), (12, .int .i64 z33.2), (13, .int .i64 z38.2), (14, .pointer (some ⟨g53, 0, none⟩)), (17, .pointer (some ⟨g59, 0, none⟩)), (18, .bool s), (19, .int .i64 z69.2.2), (20, .int .i64 v78)]) (fun (s : Bool) (g : Unit) => []) (fun (s : Bool) (g : Unit) => [(rowH q39 53 4 Command.enc z38.1), (Res.blk g53 47 [.int .i64 x51.Element, .int .i64 x51.Side, .int .i64 x51.From, .int .i64 x51.To]), (Res.blk g59 53 [.int .i64 z69.1, .int .i64 x51.Element, .int .i64 x51.Side, .int .i64 z33.2])]) ?_ ?_
 rotate_left
 ·intro k81 H82
  refine Zad 27 (Zaf e e e (Zaf e e e (Zat 105 e ?_ ?_)))
  ·refine Zaa e e (Zaa e e (Zaa e e (Zaa e e (Zaa e e (Zaa e e (Zaa e e (Zaa e e (Zaa e e (jy (Zai e e) e e (Zah e e e (gz12 0 1 2 3 11 12 13 14 17 18 19 20 e (Zav H82 true () [0, 1, 2] ⟨e, e, e, e, e, e, e, e, e, e, e, e, trivial⟩ e e e))))))))))))
  refine Zaf e e e (Zaf e e e (Zce (fun w hs => eha0) fun x91 d93 h92 => ?_))
  have Rr94 := (Dha0 _ (List.mem_of_getElem? h92.1)).sl (.head _)
  refine jg_y (fun w hs => ZaD e e (hs.arg Rha0) h92) e e (jg_y (fun w hs => ZaK e (hs.arg Rha0) h92.1 e) e e (Zaf e e e (Za1 fun x95 h96 => jg_y (fun w hs => ZaD e e (hs.arg Rr94) h96) e e (jg_y (fun w hs => ZaX e (hs.arg Rr94) h96.1) e e (jg_y (fun w hs => ZaK e (hs.arg Rr94) h96.1 e) e e (jy (ZaR e e) e e (jy (Zag e e) e e (Zah e e e (gz12 0 1 2 3 11 12 13 14 17 18 19 20 e (Zav H82 (decide (x95.To = 1000000000)) () [0, 1, 2] ⟨e, e, e, e, e, e, e, e, e, e, e, e, trivial⟩ e e e))))))))))
 intro z79 q80
 refine ZaV (L' := [_, _, _]) 28 [0, 1, 2] [0, 1, 2, 3, 4, 5, 6, 7, 8, 9, 10, 11, 12, 13, 14, 15, 16] 131071 262143 [0, 1, 0, 0, 12, 16, 0, 0, 192, 256, 0, 1536, 2048, 4096, 8224, 16386, 65535, 131071] [0, 1, 0, 0, 12, 28, 0, 0, 192, 448, 0, 1984, 4032, 8128, 16380, 32767, 65535, 131071] [(0, true), (1, true), (2, true), (3, true), (4, true), (5, true), (6, true), (7, true), (8, true), (9, true), (10, true), (11, true), (12, true), (13, true), (14, true), (15, true), (16, true), (17, false)] e (ZaE (Zay (Za8 (ZaE (Zay (ZaE (Zay (Za8 (ZaE (ZaE (Zay (Za8 (ZaE (Zay Zbn)))))))))))))) (by kernel_rfl) (by kernel_rfl) (by kernel_rfl) (by kernel_rfl) (by kernel_rfl) (by kernel_rfl) (by kernel_rfl) (by kernel_rfl) (jd_y e (fun w hs => Zab e) e e (jd_y e (fun w hs => Zaj e (ld1B (hs.blk (i := 2) e) e)) e e (Zaz e e e e (Zaz e e e e (Zbs fun x83 h84 => jd_y e (fun w hs => ZaD e e (hs.arg Rha1) h84) e e (jd_y e (fun w hs => ZaK e (hs.arg Rha1) h84.1 e) e e (Zaz e e e e (Zaz e e e e (ZcM (fun w hs => eha0) fun x85 d87 h86 => ?_)))))))))
 have Rr88 := (Dha0 _ (List.mem_of_getElem? h86.1)).sl (.head _)
 refine jd_y e (fun w hs => ZaD e e (hs.arg Rha0) h86) e e (jd_y e (fun w hs => ZaK e (hs.arg Rha0) h86.1 e) e e (Zaz e e e e (Zbs fun x89 h90 => jd_y e (fun w hs => ZaD e e (hs.arg Rr88) h90) e e (jd_y e (fun w hs => ZaX e (hs.arg Rr88) h90.1) e e (jd_y e (fun w hs => ZaK e (hs.arg Rr88) h90.1 e) e e (jd_y e (fun w hs => Zap e e) e e (jd_y e (fun w hs => ZeU e e) e e (jd_y e (fun w hs => Zab e) e e (jd_h e (Zax 2 e e e (l1 e) e e e e (l4 e) (r3 e) (ZaI (Zcr e (Zby [(0, _), (1, _), (2, _), (3, _), (11, _), (12, _), (13, _), (14, _), (17, _), (18, _), (19, _)] ⟨e, e, e, e, e, e, e, e, e, e, e, trivial⟩ (ZaN (Zae ?_)))))))))))))))
 refine Zad 24 (Zaf e e e (jy (Zap e e) e e (Zah e e e (gz11 0 1 2 3 11 12 13 14 17 18 19 e (Zav H72 (max z69.1 (w64 (x83 + x89.To)), z79, w64 (z69.2.2 + 1)) () [0, 1, 2] ⟨e, e, e, e, e, e, e, e, e, e, e, trivial⟩ e e e)))))
end Go.Proofs.Ytdgminllobhncaa
