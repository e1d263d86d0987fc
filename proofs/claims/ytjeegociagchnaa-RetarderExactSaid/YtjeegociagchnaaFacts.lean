/-
  Facts on the types and functions that this seat's functions meet, each a closed fact of the loaded program. Printed by a program.
-/
import Derived.Test.YtjeegociagchnaaClo
import Derived.Test.YtjeegociagchnaaProg
namespace Go.Proofs.Ytjeegociagchnaa
open Go.Hy

instance : C1 Try.prog 3 := ⟨⟨_, Try.underlying3, trivial⟩⟩
instance : CN Try.prog 3 1 := ⟨by kernel_rfl⟩
instance : CZ Try.prog 3 (.int .i64 0) := ⟨by kernel_rfl⟩
instance : C1 Try.prog 4 := ⟨⟨_, Try.underlying4, trivial⟩⟩
instance : CN Try.prog 4 1 := ⟨by kernel_rfl⟩
instance : CZ Try.prog 4 (.bool false) := ⟨by kernel_rfl⟩
instance : C1 Try.prog 9 := ⟨⟨_, Try.underlying9, trivial⟩⟩
instance : CN Try.prog 9 1 := ⟨by kernel_rfl⟩
instance : CZ Try.prog 9 (.string ⟨#[]⟩) := ⟨by kernel_rfl⟩
instance : C1 Try.prog 22 := ⟨⟨_, Try.underlying22, trivial⟩⟩
instance : CN Try.prog 22 1 := ⟨by kernel_rfl⟩
instance : CZ Try.prog 22 (.slice none 0 0) := ⟨by kernel_rfl⟩
instance : C1 Try.prog 25 := ⟨⟨_, Try.underlying25, trivial⟩⟩
instance : CN Try.prog 25 1 := ⟨by kernel_rfl⟩
instance : CZ Try.prog 25 (.slice none 0 0) := ⟨by kernel_rfl⟩
instance : CS Try.prog 30 5 := ⟨⟨_, Try.underlying30, trivial⟩, by kernel_rfl⟩
instance : CN Try.prog 30 5 := ⟨by kernel_rfl⟩
instance : CZ Try.prog 30 (.agg #[.int .i64 0, .int .i64 0, .int .i64 0, .int .i64 0, .int .i64 0]) := ⟨by kernel_rfl⟩
instance : CS Try.prog 41 2 := ⟨⟨_, Try.underlying41, trivial⟩, by kernel_rfl⟩
instance : CN Try.prog 41 2 := ⟨by kernel_rfl⟩
instance : CZ Try.prog 41 (.agg #[.int .i64 0, .int .i64 0]) := ⟨by kernel_rfl⟩
instance : C1 Try.prog 42 := ⟨⟨_, Try.underlying42, trivial⟩⟩
instance : CN Try.prog 42 1 := ⟨by kernel_rfl⟩
instance : CZ Try.prog 42 (.slice none 0 0) := ⟨by kernel_rfl⟩
instance : CS Try.prog 44 5 := ⟨⟨_, Try.underlying44, trivial⟩, by kernel_rfl⟩
instance : CN Try.prog 44 5 := ⟨by kernel_rfl⟩
instance : CZ Try.prog 44 (.agg #[.int .i64 0, .int .i64 0, .slice none 0 0, .int .i64 0, .slice none 0 0]) := ⟨by kernel_rfl⟩
instance : CS Try.prog 53 4 := ⟨⟨_, Try.underlying53, trivial⟩, by kernel_rfl⟩
instance : CN Try.prog 53 4 := ⟨by kernel_rfl⟩
instance : CZ Try.prog 53 (.agg #[.int .i64 0, .int .i64 0, .int .i64 0, .int .i64 0]) := ⟨by kernel_rfl⟩
instance : CS Try.prog 58 3 := ⟨⟨_, Try.underlying58, trivial⟩, by kernel_rfl⟩
instance : CN Try.prog 58 3 := ⟨by kernel_rfl⟩
instance : CZ Try.prog 58 (.agg #[.int .i64 0, .slice none 0 0, .slice none 0 0]) := ⟨by kernel_rfl⟩
instance : CS Try.prog 66 2 := ⟨⟨_, Try.underlying66, trivial⟩, by kernel_rfl⟩
instance : CN Try.prog 66 2 := ⟨by kernel_rfl⟩
instance : CZ Try.prog 66 (.agg #[.int .i64 0, .int .i64 0]) := ⟨by kernel_rfl⟩
instance : CS Try.prog 72 2 := ⟨⟨_, Try.underlying72, trivial⟩, by kernel_rfl⟩
instance : CN Try.prog 72 2 := ⟨by kernel_rfl⟩
instance : CZ Try.prog 72 (.agg #[.int .i64 0, .int .i64 0]) := ⟨by kernel_rfl⟩
instance : CS Try.prog 82 2 := ⟨⟨_, Try.underlying82, trivial⟩, by kernel_rfl⟩
instance : CN Try.prog 82 2 := ⟨by kernel_rfl⟩
instance : CZ Try.prog 82 (.agg #[.slice none 0 0, .int .i64 0]) := ⟨by kernel_rfl⟩
instance : CS Try.prog 85 8 := ⟨⟨_, Try.underlying85, trivial⟩, by kernel_rfl⟩
instance : CN Try.prog 85 8 := ⟨by kernel_rfl⟩
instance : CZ Try.prog 85 (.agg #[.int .i64 0, .string ⟨#[]⟩, .int .i64 0, .int .i64 0, .int .i64 0, .int .i64 0, .int .i64 0, .int .i64 0]) := ⟨by kernel_rfl⟩
instance : CS Try.prog 91 6 := ⟨⟨_, Try.underlying91, trivial⟩, by kernel_rfl⟩
instance : CN Try.prog 91 6 := ⟨by kernel_rfl⟩
instance : CZ Try.prog 91 (.agg #[.int .i64 0, .int .i64 0, .int .i64 0, .int .i64 0, .bool false, .bool false]) := ⟨by kernel_rfl⟩
instance : C1 Try.prog 102 := ⟨⟨_, Try.underlying102, trivial⟩⟩
instance : CN Try.prog 102 1 := ⟨by kernel_rfl⟩
instance : CZ Try.prog 102 (.nilFunc) := ⟨by kernel_rfl⟩
instance : CS Try.prog 107 2 := ⟨⟨_, Try.underlying107, trivial⟩, by kernel_rfl⟩
instance : CN Try.prog 107 2 := ⟨by kernel_rfl⟩
instance : CZ Try.prog 107 (.agg #[.int .i64 0, .int .i64 0]) := ⟨by kernel_rfl⟩
instance : CS Try.prog 122 5 := ⟨⟨_, Try.underlying122, trivial⟩, by kernel_rfl⟩
instance : CN Try.prog 122 5 := ⟨by kernel_rfl⟩
instance : CZ Try.prog 122 (.agg #[.int .i64 0, .int .i64 0, .int .i64 0, .int .i64 0, .bool false]) := ⟨by kernel_rfl⟩
instance : CF Try.prog 30 0 0 := ⟨_, _, Try.underlying30, rfl, rfl, 0, by kernel_rfl⟩
instance : CF Try.prog 30 1 1 := ⟨_, _, Try.underlying30, rfl, rfl, 0, by kernel_rfl⟩
instance : CF Try.prog 30 2 2 := ⟨_, _, Try.underlying30, rfl, rfl, 0, by kernel_rfl⟩
instance : CF Try.prog 30 3 3 := ⟨_, _, Try.underlying30, rfl, rfl, 0, by kernel_rfl⟩
instance : CF Try.prog 30 4 4 := ⟨_, _, Try.underlying30, rfl, rfl, 0, by kernel_rfl⟩
instance : CF Try.prog 41 0 0 := ⟨_, _, Try.underlying41, rfl, rfl, 0, by kernel_rfl⟩
instance : CF Try.prog 41 1 1 := ⟨_, _, Try.underlying41, rfl, rfl, 0, by kernel_rfl⟩
instance : CF Try.prog 44 0 0 := ⟨_, _, Try.underlying44, rfl, rfl, 1, by kernel_rfl⟩
instance : CF Try.prog 44 1 2 := ⟨_, _, Try.underlying44, rfl, rfl, 0, by kernel_rfl⟩
instance : CF Try.prog 44 2 3 := ⟨_, _, Try.underlying44, rfl, rfl, 0, by kernel_rfl⟩
instance : CF Try.prog 44 3 4 := ⟨_, _, Try.underlying44, rfl, rfl, 0, by kernel_rfl⟩
instance : CF Try.prog 53 0 0 := ⟨_, _, Try.underlying53, rfl, rfl, 0, by kernel_rfl⟩
instance : CF Try.prog 53 1 1 := ⟨_, _, Try.underlying53, rfl, rfl, 0, by kernel_rfl⟩
instance : CF Try.prog 53 2 2 := ⟨_, _, Try.underlying53, rfl, rfl, 0, by kernel_rfl⟩
instance : CF Try.prog 53 3 3 := ⟨_, _, Try.underlying53, rfl, rfl, 0, by kernel_rfl⟩
instance : CF Try.prog 58 0 0 := ⟨_, _, Try.underlying58, rfl, rfl, 0, by kernel_rfl⟩
instance : CF Try.prog 58 1 1 := ⟨_, _, Try.underlying58, rfl, rfl, 0, by kernel_rfl⟩
instance : CF Try.prog 58 2 2 := ⟨_, _, Try.underlying58, rfl, rfl, 0, by kernel_rfl⟩
instance : CF Try.prog 66 0 0 := ⟨_, _, Try.underlying66, rfl, rfl, 0, by kernel_rfl⟩
instance : CF Try.prog 66 1 1 := ⟨_, _, Try.underlying66, rfl, rfl, 0, by kernel_rfl⟩
instance : CF Try.prog 72 0 0 := ⟨_, _, Try.underlying72, rfl, rfl, 0, by kernel_rfl⟩
instance : CF Try.prog 72 1 1 := ⟨_, _, Try.underlying72, rfl, rfl, 0, by kernel_rfl⟩
instance : CF Try.prog 82 0 0 := ⟨_, _, Try.underlying82, rfl, rfl, 0, by kernel_rfl⟩
instance : CF Try.prog 82 1 1 := ⟨_, _, Try.underlying82, rfl, rfl, 0, by kernel_rfl⟩
instance : CF Try.prog 85 0 0 := ⟨_, _, Try.underlying85, rfl, rfl, 0, by kernel_rfl⟩
instance : CF Try.prog 85 1 1 := ⟨_, _, Try.underlying85, rfl, rfl, 0, by kernel_rfl⟩
instance : CF Try.prog 85 2 2 := ⟨_, _, Try.underlying85, rfl, rfl, 0, by kernel_rfl⟩
instance : CF Try.prog 85 3 3 := ⟨_, _, Try.underlying85, rfl, rfl, 0, by kernel_rfl⟩
instance : CF Try.prog 85 4 4 := ⟨_, _, Try.underlying85, rfl, rfl, 0, by kernel_rfl⟩
instance : CF Try.prog 85 5 5 := ⟨_, _, Try.underlying85, rfl, rfl, 0, by kernel_rfl⟩
instance : CF Try.prog 85 6 6 := ⟨_, _, Try.underlying85, rfl, rfl, 0, by kernel_rfl⟩
instance : CF Try.prog 85 7 7 := ⟨_, _, Try.underlying85, rfl, rfl, 0, by kernel_rfl⟩
instance : CF Try.prog 91 0 0 := ⟨_, _, Try.underlying91, rfl, rfl, 1, by kernel_rfl⟩
instance : CF Try.prog 91 1 2 := ⟨_, _, Try.underlying91, rfl, rfl, 1, by kernel_rfl⟩
instance : CF Try.prog 91 2 4 := ⟨_, _, Try.underlying91, rfl, rfl, 0, by kernel_rfl⟩
instance : CF Try.prog 91 3 5 := ⟨_, _, Try.underlying91, rfl, rfl, 0, by kernel_rfl⟩
instance : CF Try.prog 122 0 0 := ⟨_, _, Try.underlying122, rfl, rfl, 1, by kernel_rfl⟩
instance : CF Try.prog 122 1 2 := ⟨_, _, Try.underlying122, rfl, rfl, 1, by kernel_rfl⟩
instance : CF Try.prog 122 2 4 := ⟨_, _, Try.underlying122, rfl, rfl, 0, by kernel_rfl⟩
instance : CL Try.prog 22 3 1 8 (.int .i64 0) := CL.of Try.underlying22 (by kernel_rfl) rfl (by decide)
instance : CL Try.prog 25 30 5 40 (.agg #[.int .i64 0, .int .i64 0, .int .i64 0, .int .i64 0, .int .i64 0]) := CL.of Try.underlying25 (by kernel_rfl) rfl (by decide)
instance : CL Try.prog 33 85 8 72 (.agg #[.int .i64 0, .string ⟨#[]⟩, .int .i64 0, .int .i64 0, .int .i64 0, .int .i64 0, .int .i64 0, .int .i64 0]) := CL.of Try.underlying33 (by kernel_rfl) rfl (by decide)
instance : CL Try.prog 42 41 2 16 (.agg #[.int .i64 0, .int .i64 0]) := CL.of Try.underlying42 (by kernel_rfl) rfl (by decide)
instance : CL Try.prog 46 91 6 40 (.agg #[.int .i64 0, .int .i64 0, .int .i64 0, .int .i64 0, .bool false, .bool false]) := CL.of Try.underlying46 (by kernel_rfl) rfl (by decide)
instance : CL Try.prog 49 53 4 32 (.agg #[.int .i64 0, .int .i64 0, .int .i64 0, .int .i64 0]) := CL.of Try.underlying49 (by kernel_rfl) rfl (by decide)
instance : CL Try.prog 54 72 2 16 (.agg #[.int .i64 0, .int .i64 0]) := CL.of Try.underlying54 (by kernel_rfl) rfl (by decide)
instance : CL Try.prog 108 107 2 16 (.agg #[.int .i64 0, .int .i64 0]) := CL.of Try.underlying108 (by kernel_rfl) rfl (by decide)
instance : CL Try.prog 118 5 1 1 (.int .u8 0) := CL.of Try.underlying118 (by kernel_rfl) rfl (by decide)
instance : CB Try.prog 30 [.int .i64 0, .int .i64 0, .int .i64 0, .int .i64 0, .int .i64 0] #[(0, 1), (1, 1), (2, 1), (3, 1), (4, 1)] := ⟨.agg #[.int .i64 0, .int .i64 0, .int .i64 0, .int .i64 0, .int .i64 0], _, by kernel_rfl, rfl, Try.underlying30, fun _ => by kernel_rfl⟩
instance : CB Try.prog 41 [.int .i64 0, .int .i64 0] #[(0, 1), (1, 1)] := ⟨.agg #[.int .i64 0, .int .i64 0], _, by kernel_rfl, rfl, Try.underlying41, fun _ => by kernel_rfl⟩
instance : CB Try.prog 44 [.int .i64 0, .int .i64 0, .slice none 0 0, .int .i64 0, .slice none 0 0] #[(0, 2), (2, 1), (3, 1), (4, 1)] := ⟨.agg #[.int .i64 0, .int .i64 0, .slice none 0 0, .int .i64 0, .slice none 0 0], _, by kernel_rfl, rfl, Try.underlying44, fun _ => by kernel_rfl⟩
instance : CB Try.prog 53 [.int .i64 0, .int .i64 0, .int .i64 0, .int .i64 0] #[(0, 1), (1, 1), (2, 1), (3, 1)] := ⟨.agg #[.int .i64 0, .int .i64 0, .int .i64 0, .int .i64 0], _, by kernel_rfl, rfl, Try.underlying53, fun _ => by kernel_rfl⟩
instance : CB Try.prog 58 [.int .i64 0, .slice none 0 0, .slice none 0 0] #[(0, 1), (1, 1), (2, 1)] := ⟨.agg #[.int .i64 0, .slice none 0 0, .slice none 0 0], _, by kernel_rfl, rfl, Try.underlying58, fun _ => by kernel_rfl⟩
instance : CB Try.prog 66 [.int .i64 0, .int .i64 0] #[(0, 1), (1, 1)] := ⟨.agg #[.int .i64 0, .int .i64 0], _, by kernel_rfl, rfl, Try.underlying66, fun _ => by kernel_rfl⟩
instance : CB Try.prog 72 [.int .i64 0, .int .i64 0] #[(0, 1), (1, 1)] := ⟨.agg #[.int .i64 0, .int .i64 0], _, by kernel_rfl, rfl, Try.underlying72, fun _ => by kernel_rfl⟩
instance : CA Try.prog 76 4 3 1 [.int .i64 0, .int .i64 0, .int .i64 0, .int .i64 0] := ⟨Try.underlying76, by kernel_rfl, .agg #[.int .i64 0, .int .i64 0, .int .i64 0, .int .i64 0], by kernel_rfl, rfl⟩
instance : CB Try.prog 82 [.slice none 0 0, .int .i64 0] #[(0, 1), (1, 1)] := ⟨.agg #[.slice none 0 0, .int .i64 0], _, by kernel_rfl, rfl, Try.underlying82, fun _ => by kernel_rfl⟩
instance : CB Try.prog 85 [.int .i64 0, .string ⟨#[]⟩, .int .i64 0, .int .i64 0, .int .i64 0, .int .i64 0, .int .i64 0, .int .i64 0] #[(0, 1), (1, 1), (2, 1), (3, 1), (4, 1), (5, 1), (6, 1), (7, 1)] := ⟨.agg #[.int .i64 0, .string ⟨#[]⟩, .int .i64 0, .int .i64 0, .int .i64 0, .int .i64 0, .int .i64 0, .int .i64 0], _, by kernel_rfl, rfl, Try.underlying85, fun _ => by kernel_rfl⟩
instance : CB Try.prog 91 [.int .i64 0, .int .i64 0, .int .i64 0, .int .i64 0, .bool false, .bool false] #[(0, 2), (2, 2), (4, 1), (5, 1)] := ⟨.agg #[.int .i64 0, .int .i64 0, .int .i64 0, .int .i64 0, .bool false, .bool false], _, by kernel_rfl, rfl, Try.underlying91, fun _ => by kernel_rfl⟩
instance : CA Try.prog 107 2 3 1 [.int .i64 0, .int .i64 0] := ⟨Try.underlying107, by kernel_rfl, .agg #[.int .i64 0, .int .i64 0], by kernel_rfl, rfl⟩
instance : CB Try.prog 122 [.int .i64 0, .int .i64 0, .int .i64 0, .int .i64 0, .bool false] #[(0, 2), (2, 2), (4, 1)] := ⟨.agg #[.int .i64 0, .int .i64 0, .int .i64 0, .int .i64 0, .bool false], _, by kernel_rfl, rfl, Try.underlying122, fun _ => by kernel_rfl⟩
instance : CFn Try.prog 13 := CFn.of Try.func13 rfl (by decide +kernel)
instance : CFn Try.prog 14 := CFn.of Try.func14 rfl (by decide +kernel)
instance : CFn Try.prog 15 := CFn.of Try.func15 rfl (by decide +kernel)
instance : CFn Try.prog 16 := CFn.of Try.func16 rfl (by decide +kernel)
instance : CFn Try.prog 17 := CFn.of Try.func17 rfl (by decide +kernel)
instance : CFn Try.prog 18 := CFn.of Try.func18 rfl (by decide +kernel)
instance : CFn Try.prog 19 := CFn.of Try.func19 rfl (by decide +kernel)
instance : CFn Try.prog 20 := CFn.of Try.func20 rfl (by decide +kernel)
instance : CFn Try.prog 21 := CFn.of Try.func21 rfl (by decide +kernel)
instance : CFn Try.prog 22 := CFn.of Try.func22 rfl (by decide +kernel)
instance : CFn Try.prog 23 := CFn.of Try.func23 rfl (by decide +kernel)
instance : CFn Try.prog 24 := CFn.of Try.func24 rfl (by decide +kernel)
instance : CFn Try.prog 25 := CFn.of Try.func25 rfl (by decide +kernel)
instance : CFn Try.prog 26 := CFn.of Try.func26 rfl (by decide +kernel)
instance : CFn Try.prog 27 := CFn.of Try.func27 rfl (by decide +kernel)
instance : CFn Try.prog 28 := CFn.of Try.func28 rfl (by decide +kernel)
instance : CFn Try.prog 29 := CFn.of Try.func29 rfl (by decide +kernel)
instance : CFn Try.prog 30 := CFn.of Try.func30 rfl (by decide +kernel)
instance : CFn Try.prog 31 := CFn.of Try.func31 rfl (by decide +kernel)
instance : CFn Try.prog 32 := CFn.of Try.func32 rfl (by decide +kernel)
instance : CFn Try.prog 33 := CFn.of Try.func33 rfl (by decide +kernel)
instance : CFn Try.prog 34 := CFn.of Try.func34 rfl (by decide +kernel)
instance : CFn Try.prog 35 := CFn.of Try.func35 rfl (by decide +kernel)
instance : CFn Try.prog 36 := CFn.of Try.func36 rfl (by decide +kernel)
instance : CFn Try.prog 37 := CFn.of Try.func37 rfl (by decide +kernel)
instance : CFn Try.prog 38 := CFn.of Try.func38 rfl (by decide +kernel)
instance : CFn Try.prog 39 := CFn.of Try.func39 rfl (by decide +kernel)
instance : CFn Try.prog 40 := CFn.of Try.func40 rfl (by decide +kernel)
instance : CFn Try.prog 41 := CFn.of Try.func41 rfl (by decide +kernel)
instance : CFn Try.prog 42 := CFn.of Try.func42 rfl (by decide +kernel)
instance : CFn Try.prog 43 := CFn.of Try.func43 rfl (by decide +kernel)
instance : CFn Try.prog 44 := CFn.of Try.func44 rfl (by decide +kernel)
instance : CFn Try.prog 45 := CFn.of Try.func45 rfl (by decide +kernel)
instance : CFn Try.prog 46 := CFn.of Try.func46 rfl (by decide +kernel)
instance : CFn Try.prog 47 := CFn.of Try.func47 rfl (by decide +kernel)
instance : CFn Try.prog 48 := CFn.of Try.func48 rfl (by decide +kernel)
instance : CFn Try.prog 49 := CFn.of Try.func49 rfl (by decide +kernel)
instance : CFn Try.prog 50 := CFn.of Try.func50 rfl (by decide +kernel)
instance : CFn Try.prog 51 := CFn.of Try.func51 rfl (by decide +kernel)
instance : CFn Try.prog 52 := CFn.of Try.func52 rfl (by decide +kernel)
instance : CFn Try.prog 53 := CFn.of Try.func53 rfl (by decide +kernel)
instance : CFn Try.prog 54 := CFn.of Try.func54 rfl (by decide +kernel)
instance : CFn Try.prog 55 := CFn.of Try.func55 rfl (by decide +kernel)
instance : CFn Try.prog 56 := CFn.of Try.func56 rfl (by decide +kernel)
instance : CFn Try.prog 57 := CFn.of Try.func57 rfl (by decide +kernel)
instance : CFn Try.prog 58 := CFn.of Try.func58 rfl (by decide +kernel)
instance : CFn Try.prog 59 := CFn.of Try.func59 rfl (by decide +kernel)
instance : CFn Try.prog 60 := CFn.of Try.func60 rfl (by decide +kernel)
instance : CFn Try.prog 61 := CFn.of Try.func61 rfl (by decide +kernel)
instance : CFn Try.prog 62 := CFn.of Try.func62 rfl (by decide +kernel)
instance : CFn Try.prog 63 := CFn.of Try.func63 rfl (by decide +kernel)
instance : CFn Try.prog 64 := CFn.of Try.func64 rfl (by decide +kernel)
instance : CFn Try.prog 65 := CFn.of Try.func65 rfl (by decide +kernel)
instance : CFn Try.prog 66 := CFn.of Try.func66 rfl (by decide +kernel)
instance : CFn Try.prog 67 := CFn.of Try.func67 rfl (by decide +kernel)
instance : CFn Try.prog 68 := CFn.of Try.func68 rfl (by decide +kernel)
instance : CFn Try.prog 69 := CFn.of Try.func69 rfl (by decide +kernel)
instance : CFn Try.prog 70 := CFn.of Try.func70 rfl (by decide +kernel)
instance : CFn Try.prog 71 := CFn.of Try.func71 rfl (by decide +kernel)
instance : CFn Try.prog 72 := CFn.of Try.func72 rfl (by decide +kernel)
instance : CFn Try.prog 73 := CFn.of Try.func73 rfl (by decide +kernel)
instance : CFn Try.prog 74 := CFn.of Try.func74 rfl (by decide +kernel)
instance : CFn Try.prog 75 := CFn.of Try.func75 rfl (by decide +kernel)
instance : CFn Try.prog 76 := CFn.of Try.func76 rfl (by decide +kernel)
instance : CFn Try.prog 77 := CFn.of Try.func77 rfl (by decide +kernel)
instance : CFn Try.prog 78 := CFn.of Try.func78 rfl (by decide +kernel)
instance : CFn Try.prog 79 := CFn.of Try.func79 rfl (by decide +kernel)
instance : CFn Try.prog 80 := CFn.of Try.func80 rfl (by decide +kernel)
instance : CFn Try.prog 81 := CFn.of Try.func81 rfl (by decide +kernel)
instance : CFn Try.prog 82 := CFn.of Try.func82 rfl (by decide +kernel)
instance : CFn Try.prog 83 := CFn.of Try.func83 rfl (by decide +kernel)
instance : CFn Try.prog 84 := CFn.of Try.func84 rfl (by decide +kernel)
instance : CFn Try.prog 85 := CFn.of Try.func85 rfl (by decide +kernel)
instance : CFn Try.prog 86 := CFn.of Try.func86 rfl (by decide +kernel)
instance : CFn Try.prog 87 := CFn.of Try.func87 rfl (by decide +kernel)
instance : CFn Try.prog 88 := CFn.of Try.func88 rfl (by decide +kernel)
instance : CFn Try.prog 89 := CFn.of Try.func89 rfl (by decide +kernel)
instance : CFn Try.prog 90 := CFn.of Try.func90 rfl (by decide +kernel)
instance : CFn Try.prog 91 := CFn.of Try.func91 rfl (by decide +kernel)
instance : CFn Try.prog 92 := CFn.of Try.func92 rfl (by decide +kernel)
instance : CFn Try.prog 93 := CFn.of Try.func93 rfl (by decide +kernel)
instance : CFn Try.prog 94 := CFn.of Try.func94 rfl (by decide +kernel)
instance : CFn Try.prog 95 := CFn.of Try.func95 rfl (by decide +kernel)
instance : CFn Try.prog 96 := CFn.of Try.func96 rfl (by decide +kernel)
instance : CFn Try.prog 97 := CFn.of Try.func97 rfl (by decide +kernel)
instance : CFn Try.prog 98 := CFn.of Try.func98 rfl (by decide +kernel)
instance : CFn Try.prog 99 := CFn.of Try.func99 rfl (by decide +kernel)
instance : CFn Try.prog 100 := CFn.of Try.func100 rfl (by decide +kernel)
instance : CFn Try.prog 101 := CFn.of Try.func101 rfl (by decide +kernel)
instance : CM Try.prog := ⟨by kernel_rfl⟩
theorem qin30 (d : Nat) (a0 b0 : Int) (a1 b1 : Int) (a2 b2 : Int) (a3 b3 : Int) (a4 b4 : Int) (w : World) : (Op.equalIn (d + 3) 30 (.agg #[.int .i64 a0, .int .i64 a1, .int .i64 a2, .int .i64 a3, .int .i64 a4]) (.agg #[.int .i64 b0, .int .i64 b1, .int .i64 b2, .int .i64 b3, .int .i64 b4])).run Try.prog w = .ok (decide (a0 = b0 ∧ a1 = b1 ∧ a2 = b2 ∧ a3 = b3 ∧ a4 = b4)) w := by
  rw [run_equalIn_agg w (d + 2) 30 _ _ (by kernel_rfl) (by kernel_rfl)]
  rw [show Try.prog.fieldsOf 30 = #[{ name := "Element", type := 3, offset := 0, embedded := false, tag := "", pkgPath := "", byteOffset := 0 }, { name := "Length", type := 3, offset := 1, embedded := false, tag := "", pkgPath := "", byteOffset := 8 }, { name := "Grade", type := 3, offset := 2, embedded := false, tag := "", pkgPath := "", byteOffset := 16 }, { name := "Curve", type := 3, offset := 3, embedded := false, tag := "", pkgPath := "", byteOffset := 24 }, { name := "Power", type := 3, offset := 4, embedded := false, tag := "", pkgPath := "", byteOffset := 32 }] from by kernel_rfl]
  have p3 : ∀ cs off v w, cs[off]? = some v → (part 3 cs off).run Try.prog w = .ok v w := fun cs off v w h => by simp [part, run_isAgg1, h]
  have q3 := fun d a b w => run_equalIn_int (P := Try.prog) w d 3 .i64 .i64 a b Try.underlying3
  simp [Op.eqFields, p3, q3]
  repeat (split <;> simp_all)
theorem yeq30 {N : Nat} {ρ : Env} {w : World} {d : Option Nat} {ty : TypeId} {ps : String} {af : Array Edge} {gd : Option (Nat × Bool)} {x y : Operand} {yt : TypeId} {a0 b0 : Int} {a1 b1 : Int} {a2 b2 : Int} {a3 b3 : Int} {a4 b4 : Int} (hx : evo ρ x = some (.agg #[.int .i64 a0, .int .i64 a1, .int .i64 a2, .int .i64 a3, .int .i64 a4])) (hy : evo ρ y = some (.agg #[.int .i64 b0, .int .i64 b1, .int .i64 b2, .int .i64 b3, .int .i64 b4])) : Yv Try.prog N ρ w ⟨d, .binOp .eql 30 x y yt, ty, ps, af, gd⟩ (.bool (decide (a0 = b0 ∧ a1 = b1 ∧ a2 = b2 ∧ a3 = b3 ∧ a4 = b4))) := yv_eqS (by kernel_rfl) (qin30 9997 a0 b0 a1 b1 a2 b2 a3 b3 a4 b4 w) hx hy
theorem yne30 {N : Nat} {ρ : Env} {w : World} {d : Option Nat} {ty : TypeId} {ps : String} {af : Array Edge} {gd : Option (Nat × Bool)} {x y : Operand} {yt : TypeId} {a0 b0 : Int} {a1 b1 : Int} {a2 b2 : Int} {a3 b3 : Int} {a4 b4 : Int} (hx : evo ρ x = some (.agg #[.int .i64 a0, .int .i64 a1, .int .i64 a2, .int .i64 a3, .int .i64 a4])) (hy : evo ρ y = some (.agg #[.int .i64 b0, .int .i64 b1, .int .i64 b2, .int .i64 b3, .int .i64 b4])) : Yv Try.prog N ρ w ⟨d, .binOp .neq 30 x y yt, ty, ps, af, gd⟩ (.bool (decide (¬ (a0 = b0 ∧ a1 = b1 ∧ a2 = b2 ∧ a3 = b3 ∧ a4 = b4)))) := yv_neS (by kernel_rfl) (qin30 9997 a0 b0 a1 b1 a2 b2 a3 b3 a4 b4 w) hx hy
theorem qin41 (d : Nat) (a0 b0 : Int) (a1 b1 : Int) (w : World) : (Op.equalIn (d + 3) 41 (.agg #[.int .i64 a0, .int .i64 a1]) (.agg #[.int .i64 b0, .int .i64 b1])).run Try.prog w = .ok (decide (a0 = b0 ∧ a1 = b1)) w := by
  rw [run_equalIn_agg w (d + 2) 41 _ _ (by kernel_rfl) (by kernel_rfl)]
  rw [show Try.prog.fieldsOf 41 = #[{ name := "Lo", type := 3, offset := 0, embedded := false, tag := "", pkgPath := "", byteOffset := 0 }, { name := "Hi", type := 3, offset := 1, embedded := false, tag := "", pkgPath := "", byteOffset := 8 }] from by kernel_rfl]
  have p3 : ∀ cs off v w, cs[off]? = some v → (part 3 cs off).run Try.prog w = .ok v w := fun cs off v w h => by simp [part, run_isAgg1, h]
  have q3 := fun d a b w => run_equalIn_int (P := Try.prog) w d 3 .i64 .i64 a b Try.underlying3
  simp [Op.eqFields, p3, q3]
  by_cases h0 : a0 = b0 <;> by_cases h1 : a1 = b1 <;> simp [h0, h1]
theorem yeq41 {N : Nat} {ρ : Env} {w : World} {d : Option Nat} {ty : TypeId} {ps : String} {af : Array Edge} {gd : Option (Nat × Bool)} {x y : Operand} {yt : TypeId} {a0 b0 : Int} {a1 b1 : Int} (hx : evo ρ x = some (.agg #[.int .i64 a0, .int .i64 a1])) (hy : evo ρ y = some (.agg #[.int .i64 b0, .int .i64 b1])) : Yv Try.prog N ρ w ⟨d, .binOp .eql 41 x y yt, ty, ps, af, gd⟩ (.bool (decide (a0 = b0 ∧ a1 = b1))) := yv_eqS (by kernel_rfl) (qin41 9997 a0 b0 a1 b1 w) hx hy
theorem yne41 {N : Nat} {ρ : Env} {w : World} {d : Option Nat} {ty : TypeId} {ps : String} {af : Array Edge} {gd : Option (Nat × Bool)} {x y : Operand} {yt : TypeId} {a0 b0 : Int} {a1 b1 : Int} (hx : evo ρ x = some (.agg #[.int .i64 a0, .int .i64 a1])) (hy : evo ρ y = some (.agg #[.int .i64 b0, .int .i64 b1])) : Yv Try.prog N ρ w ⟨d, .binOp .neq 41 x y yt, ty, ps, af, gd⟩ (.bool (decide (¬ (a0 = b0 ∧ a1 = b1)))) := yv_neS (by kernel_rfl) (qin41 9997 a0 b0 a1 b1 w) hx hy
theorem qin53 (d : Nat) (a0 b0 : Int) (a1 b1 : Int) (a2 b2 : Int) (a3 b3 : Int) (w : World) : (Op.equalIn (d + 3) 53 (.agg #[.int .i64 a0, .int .i64 a1, .int .i64 a2, .int .i64 a3]) (.agg #[.int .i64 b0, .int .i64 b1, .int .i64 b2, .int .i64 b3])).run Try.prog w = .ok (decide (a0 = b0 ∧ a1 = b1 ∧ a2 = b2 ∧ a3 = b3)) w := by
  rw [run_equalIn_agg w (d + 2) 53 _ _ (by kernel_rfl) (by kernel_rfl)]
  rw [show Try.prog.fieldsOf 53 = #[{ name := "Element", type := 3, offset := 0, embedded := false, tag := "", pkgPath := "", byteOffset := 0 }, { name := "Side", type := 3, offset := 1, embedded := false, tag := "", pkgPath := "", byteOffset := 8 }, { name := "From", type := 3, offset := 2, embedded := false, tag := "", pkgPath := "", byteOffset := 16 }, { name := "To", type := 3, offset := 3, embedded := false, tag := "", pkgPath := "", byteOffset := 24 }] from by kernel_rfl]
  have p3 : ∀ cs off v w, cs[off]? = some v → (part 3 cs off).run Try.prog w = .ok v w := fun cs off v w h => by simp [part, run_isAgg1, h]
  have q3 := fun d a b w => run_equalIn_int (P := Try.prog) w d 3 .i64 .i64 a b Try.underlying3
  simp [Op.eqFields, p3, q3]
  repeat (split <;> simp_all)
theorem yeq53 {N : Nat} {ρ : Env} {w : World} {d : Option Nat} {ty : TypeId} {ps : String} {af : Array Edge} {gd : Option (Nat × Bool)} {x y : Operand} {yt : TypeId} {a0 b0 : Int} {a1 b1 : Int} {a2 b2 : Int} {a3 b3 : Int} (hx : evo ρ x = some (.agg #[.int .i64 a0, .int .i64 a1, .int .i64 a2, .int .i64 a3])) (hy : evo ρ y = some (.agg #[.int .i64 b0, .int .i64 b1, .int .i64 b2, .int .i64 b3])) : Yv Try.prog N ρ w ⟨d, .binOp .eql 53 x y yt, ty, ps, af, gd⟩ (.bool (decide (a0 = b0 ∧ a1 = b1 ∧ a2 = b2 ∧ a3 = b3))) := yv_eqS (by kernel_rfl) (qin53 9997 a0 b0 a1 b1 a2 b2 a3 b3 w) hx hy
theorem yne53 {N : Nat} {ρ : Env} {w : World} {d : Option Nat} {ty : TypeId} {ps : String} {af : Array Edge} {gd : Option (Nat × Bool)} {x y : Operand} {yt : TypeId} {a0 b0 : Int} {a1 b1 : Int} {a2 b2 : Int} {a3 b3 : Int} (hx : evo ρ x = some (.agg #[.int .i64 a0, .int .i64 a1, .int .i64 a2, .int .i64 a3])) (hy : evo ρ y = some (.agg #[.int .i64 b0, .int .i64 b1, .int .i64 b2, .int .i64 b3])) : Yv Try.prog N ρ w ⟨d, .binOp .neq 53 x y yt, ty, ps, af, gd⟩ (.bool (decide (¬ (a0 = b0 ∧ a1 = b1 ∧ a2 = b2 ∧ a3 = b3)))) := yv_neS (by kernel_rfl) (qin53 9997 a0 b0 a1 b1 a2 b2 a3 b3 w) hx hy
end Go.Proofs.Ytjeegociagchnaa
