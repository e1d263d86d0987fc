/-
  Facts on the types and functions that this seat's functions meet, each a closed fact of the loaded program. Printed by a program.
-/
import Derived.Test.YtdgminllobhncaaGreatVMap
import Derived.Test.YtdgminllobhncaaGreatProg
namespace Go.Proofs.YtdgminllobhncaaGreat
open Go.Hy

instance : C1 Tryz.prog 3 := ⟨⟨_, Tryz.underlying3, trivial⟩⟩
instance : CN Tryz.prog 3 1 := ⟨by kernel_rfl⟩
instance : CZ Tryz.prog 3 (.int .i64 0) := ⟨by kernel_rfl⟩
instance : C1 Tryz.prog 4 := ⟨⟨_, Tryz.underlying4, trivial⟩⟩
instance : CN Tryz.prog 4 1 := ⟨by kernel_rfl⟩
instance : CZ Tryz.prog 4 (.bool false) := ⟨by kernel_rfl⟩
instance : C1 Tryz.prog 9 := ⟨⟨_, Tryz.underlying9, trivial⟩⟩
instance : CN Tryz.prog 9 1 := ⟨by kernel_rfl⟩
instance : CZ Tryz.prog 9 (.string ⟨#[]⟩) := ⟨by kernel_rfl⟩
instance : C1 Tryz.prog 22 := ⟨⟨_, Tryz.underlying22, trivial⟩⟩
instance : CN Tryz.prog 22 1 := ⟨by kernel_rfl⟩
instance : CZ Tryz.prog 22 (.slice none 0 0) := ⟨by kernel_rfl⟩
instance : CS Tryz.prog 32 3 := ⟨⟨_, Tryz.underlying32, trivial⟩, by kernel_rfl⟩
instance : CN Tryz.prog 32 3 := ⟨by kernel_rfl⟩
instance : CZ Tryz.prog 32 (.agg #[.int .i64 0, .slice none 0 0, .slice none 0 0]) := ⟨by kernel_rfl⟩
instance : CS Tryz.prog 35 2 := ⟨⟨_, Tryz.underlying35, trivial⟩, by kernel_rfl⟩
instance : CN Tryz.prog 35 2 := ⟨by kernel_rfl⟩
instance : CZ Tryz.prog 35 (.agg #[.int .i64 0, .int .i64 0]) := ⟨by kernel_rfl⟩
instance : C1 Tryz.prog 36 := ⟨⟨_, Tryz.underlying36, trivial⟩⟩
instance : CN Tryz.prog 36 1 := ⟨by kernel_rfl⟩
instance : CZ Tryz.prog 36 (.slice none 0 0) := ⟨by kernel_rfl⟩
instance : CS Tryz.prog 38 5 := ⟨⟨_, Tryz.underlying38, trivial⟩, by kernel_rfl⟩
instance : CN Tryz.prog 38 5 := ⟨by kernel_rfl⟩
instance : CZ Tryz.prog 38 (.agg #[.int .i64 0, .int .i64 0, .slice none 0 0, .int .i64 0, .slice none 0 0]) := ⟨by kernel_rfl⟩
instance : CS Tryz.prog 44 2 := ⟨⟨_, Tryz.underlying44, trivial⟩, by kernel_rfl⟩
instance : CN Tryz.prog 44 2 := ⟨by kernel_rfl⟩
instance : CZ Tryz.prog 44 (.agg #[.int .i64 0, .int .i64 0]) := ⟨by kernel_rfl⟩
instance : CS Tryz.prog 46 3 := ⟨⟨_, Tryz.underlying46, trivial⟩, by kernel_rfl⟩
instance : CN Tryz.prog 46 3 := ⟨by kernel_rfl⟩
instance : CZ Tryz.prog 46 (.agg #[.int .i64 0, .int .i64 0, .int .i64 0]) := ⟨by kernel_rfl⟩
instance : C1 Tryz.prog 51 := ⟨⟨_, Tryz.underlying51, trivial⟩⟩
instance : CN Tryz.prog 51 1 := ⟨by kernel_rfl⟩
instance : CZ Tryz.prog 51 (.slice none 0 0) := ⟨by kernel_rfl⟩
instance : C1 Tryz.prog 52 := ⟨⟨_, Tryz.underlying52, trivial⟩⟩
instance : CN Tryz.prog 52 1 := ⟨by kernel_rfl⟩
instance : CZ Tryz.prog 52 (.slice none 0 0) := ⟨by kernel_rfl⟩
instance : C1 Tryz.prog 53 := ⟨⟨_, Tryz.underlying53, trivial⟩⟩
instance : CN Tryz.prog 53 1 := ⟨by kernel_rfl⟩
instance : CZ Tryz.prog 53 (.slice none 0 0) := ⟨by kernel_rfl⟩
instance : C1 Tryz.prog 54 := ⟨⟨_, Tryz.underlying54, trivial⟩⟩
instance : CN Tryz.prog 54 1 := ⟨by kernel_rfl⟩
instance : CZ Tryz.prog 54 (.slice none 0 0) := ⟨by kernel_rfl⟩
instance : CS Tryz.prog 56 5 := ⟨⟨_, Tryz.underlying56, trivial⟩, by kernel_rfl⟩
instance : CN Tryz.prog 56 5 := ⟨by kernel_rfl⟩
instance : CZ Tryz.prog 56 (.agg #[.slice none 0 0, .int .i64 0, .slice none 0 0, .slice none 0 0, .slice none 0 0]) := ⟨by kernel_rfl⟩
instance : C1 Tryz.prog 57 := ⟨⟨_, Tryz.underlying57, trivial⟩⟩
instance : CN Tryz.prog 57 1 := ⟨by kernel_rfl⟩
instance : CZ Tryz.prog 57 (.slice none 0 0) := ⟨by kernel_rfl⟩
instance : CS Tryz.prog 59 8 := ⟨⟨_, Tryz.underlying59, trivial⟩, by kernel_rfl⟩
instance : CN Tryz.prog 59 8 := ⟨by kernel_rfl⟩
instance : CZ Tryz.prog 59 (.agg #[.slice none 0 0, .int .i64 0, .slice none 0 0, .slice none 0 0, .slice none 0 0, .slice none 0 0, .slice none 0 0, .bool false]) := ⟨by kernel_rfl⟩
instance : CS Tryz.prog 65 2 := ⟨⟨_, Tryz.underlying65, trivial⟩, by kernel_rfl⟩
instance : CN Tryz.prog 65 2 := ⟨by kernel_rfl⟩
instance : CZ Tryz.prog 65 (.agg #[.slice none 0 0, .int .i64 0]) := ⟨by kernel_rfl⟩
instance : CS Tryz.prog 69 5 := ⟨⟨_, Tryz.underlying69, trivial⟩, by kernel_rfl⟩
instance : CN Tryz.prog 69 5 := ⟨by kernel_rfl⟩
instance : CZ Tryz.prog 69 (.agg #[.int .i64 0, .int .i64 0, .int .i64 0, .int .i64 0, .int .i64 0]) := ⟨by kernel_rfl⟩
instance : CS Tryz.prog 78 3 := ⟨⟨_, Tryz.underlying78, trivial⟩, by kernel_rfl⟩
instance : CN Tryz.prog 78 3 := ⟨by kernel_rfl⟩
instance : CZ Tryz.prog 78 (.agg #[.int .i64 0, .int .i64 0, .int .i64 0]) := ⟨by kernel_rfl⟩
instance : C1 Tryz.prog 81 := ⟨⟨_, Tryz.underlying81, trivial⟩⟩
instance : CN Tryz.prog 81 1 := ⟨by kernel_rfl⟩
instance : CZ Tryz.prog 81 (.slice none 0 0) := ⟨by kernel_rfl⟩
instance : CS Tryz.prog 83 2 := ⟨⟨_, Tryz.underlying83, trivial⟩, by kernel_rfl⟩
instance : CN Tryz.prog 83 2 := ⟨by kernel_rfl⟩
instance : CZ Tryz.prog 83 (.agg #[.slice none 0 0, .int .i64 0]) := ⟨by kernel_rfl⟩
instance : CS Tryz.prog 85 2 := ⟨⟨_, Tryz.underlying85, trivial⟩, by kernel_rfl⟩
instance : CN Tryz.prog 85 2 := ⟨by kernel_rfl⟩
instance : CZ Tryz.prog 85 (.agg #[.int .i64 0, .slice none 0 0]) := ⟨by kernel_rfl⟩
instance : CS Tryz.prog 87 3 := ⟨⟨_, Tryz.underlying87, trivial⟩, by kernel_rfl⟩
instance : CN Tryz.prog 87 3 := ⟨by kernel_rfl⟩
instance : CZ Tryz.prog 87 (.agg #[.int .i64 0, .slice none 0 0, .slice none 0 0]) := ⟨by kernel_rfl⟩
instance : CS Tryz.prog 89 6 := ⟨⟨_, Tryz.underlying89, trivial⟩, by kernel_rfl⟩
instance : CN Tryz.prog 89 6 := ⟨by kernel_rfl⟩
instance : CZ Tryz.prog 89 (.agg #[.slice none 0 0, .int .i64 0, .int .i64 0, .slice none 0 0, .slice none 0 0, .slice none 0 0]) := ⟨by kernel_rfl⟩
instance : CS Tryz.prog 93 4 := ⟨⟨_, Tryz.underlying93, trivial⟩, by kernel_rfl⟩
instance : CN Tryz.prog 93 4 := ⟨by kernel_rfl⟩
instance : CZ Tryz.prog 93 (.agg #[.int .i64 0, .int .i64 0, .int .i64 0, .int .i64 0]) := ⟨by kernel_rfl⟩
instance : C1 Tryz.prog 94 := ⟨⟨_, Tryz.underlying94, trivial⟩⟩
instance : CN Tryz.prog 94 1 := ⟨by kernel_rfl⟩
instance : CZ Tryz.prog 94 (.slice none 0 0) := ⟨by kernel_rfl⟩
instance : CS Tryz.prog 96 2 := ⟨⟨_, Tryz.underlying96, trivial⟩, by kernel_rfl⟩
instance : CN Tryz.prog 96 2 := ⟨by kernel_rfl⟩
instance : CZ Tryz.prog 96 (.agg #[.slice none 0 0, .int .i64 0]) := ⟨by kernel_rfl⟩
instance : CS Tryz.prog 102 8 := ⟨⟨_, Tryz.underlying102, trivial⟩, by kernel_rfl⟩
instance : CN Tryz.prog 102 8 := ⟨by kernel_rfl⟩
instance : CZ Tryz.prog 102 (.agg #[.int .i64 0, .string ⟨#[]⟩, .int .i64 0, .int .i64 0, .int .i64 0, .int .i64 0, .int .i64 0, .int .i64 0]) := ⟨by kernel_rfl⟩
instance : CS Tryz.prog 104 6 := ⟨⟨_, Tryz.underlying104, trivial⟩, by kernel_rfl⟩
instance : CN Tryz.prog 104 6 := ⟨by kernel_rfl⟩
instance : CZ Tryz.prog 104 (.agg #[.int .i64 0, .int .i64 0, .int .i64 0, .int .i64 0, .slice none 0 0, .slice none 0 0]) := ⟨by kernel_rfl⟩
instance : C1 Tryz.prog 112 := ⟨⟨_, Tryz.underlying112, trivial⟩⟩
instance : CN Tryz.prog 112 1 := ⟨by kernel_rfl⟩
instance : CZ Tryz.prog 112 (.slice none 0 0) := ⟨by kernel_rfl⟩
instance : CS Tryz.prog 116 6 := ⟨⟨_, Tryz.underlying116, trivial⟩, by kernel_rfl⟩
instance : CN Tryz.prog 116 6 := ⟨by kernel_rfl⟩
instance : CZ Tryz.prog 116 (.agg #[.int .i64 0, .int .i64 0, .int .i64 0, .int .i64 0, .bool false, .bool false]) := ⟨by kernel_rfl⟩
instance : CS Tryz.prog 119 2 := ⟨⟨_, Tryz.underlying119, trivial⟩, by kernel_rfl⟩
instance : CN Tryz.prog 119 2 := ⟨by kernel_rfl⟩
instance : CZ Tryz.prog 119 (.agg #[.int .i64 0, .int .i64 0]) := ⟨by kernel_rfl⟩
instance : C1 Tryz.prog 124 := ⟨⟨_, Tryz.underlying124, trivial⟩⟩
instance : CN Tryz.prog 124 1 := ⟨by kernel_rfl⟩
instance : CZ Tryz.prog 124 (.slice none 0 0) := ⟨by kernel_rfl⟩
instance : C1 Tryz.prog 125 := ⟨⟨_, Tryz.underlying125, trivial⟩⟩
instance : CN Tryz.prog 125 1 := ⟨by kernel_rfl⟩
instance : CZ Tryz.prog 125 (.slice none 0 0) := ⟨by kernel_rfl⟩
instance : CS Tryz.prog 132 4 := ⟨⟨_, Tryz.underlying132, trivial⟩, by kernel_rfl⟩
instance : CN Tryz.prog 132 4 := ⟨by kernel_rfl⟩
instance : CZ Tryz.prog 132 (.agg #[.int .i64 0, .int .i64 0, .int .i64 0, .int .i64 0]) := ⟨by kernel_rfl⟩
instance : CS Tryz.prog 137 2 := ⟨⟨_, Tryz.underlying137, trivial⟩, by kernel_rfl⟩
instance : CN Tryz.prog 137 2 := ⟨by kernel_rfl⟩
instance : CZ Tryz.prog 137 (.agg #[.int .i64 0, .slice none 0 0]) := ⟨by kernel_rfl⟩
instance : CS Tryz.prog 139 4 := ⟨⟨_, Tryz.underlying139, trivial⟩, by kernel_rfl⟩
instance : CN Tryz.prog 139 4 := ⟨by kernel_rfl⟩
instance : CZ Tryz.prog 139 (.agg #[.int .i64 0, .int .i64 0, .int .i64 0, .int .i64 0]) := ⟨by kernel_rfl⟩
instance : CS Tryz.prog 141 5 := ⟨⟨_, Tryz.underlying141, trivial⟩, by kernel_rfl⟩
instance : CN Tryz.prog 141 5 := ⟨by kernel_rfl⟩
instance : CZ Tryz.prog 141 (.agg #[.int .i64 0, .int .i64 0, .int .i64 0, .int .i64 0, .int .i64 0]) := ⟨by kernel_rfl⟩
instance : CS Tryz.prog 151 2 := ⟨⟨_, Tryz.underlying151, trivial⟩, by kernel_rfl⟩
instance : CN Tryz.prog 151 2 := ⟨by kernel_rfl⟩
instance : CZ Tryz.prog 151 (.agg #[.int .i64 0, .int .i64 0]) := ⟨by kernel_rfl⟩
instance : CS Tryz.prog 156 4 := ⟨⟨_, Tryz.underlying156, trivial⟩, by kernel_rfl⟩
instance : CN Tryz.prog 156 4 := ⟨by kernel_rfl⟩
instance : CZ Tryz.prog 156 (.agg #[.int .i64 0, .int .i64 0, .int .i64 0, .int .i64 0]) := ⟨by kernel_rfl⟩
instance : CS Tryz.prog 162 8 := ⟨⟨_, Tryz.underlying162, trivial⟩, by kernel_rfl⟩
instance : CN Tryz.prog 162 8 := ⟨by kernel_rfl⟩
instance : CZ Tryz.prog 162 (.agg #[.slice none 0 0, .int .i64 0, .int .i64 0, .slice none 0 0, .slice none 0 0, .slice none 0 0, .int .i64 0, .int .i64 0]) := ⟨by kernel_rfl⟩
instance : CS Tryz.prog 165 2 := ⟨⟨_, Tryz.underlying165, trivial⟩, by kernel_rfl⟩
instance : CN Tryz.prog 165 2 := ⟨by kernel_rfl⟩
instance : CZ Tryz.prog 165 (.agg #[.int .i64 0, .int .i64 0]) := ⟨by kernel_rfl⟩
instance : C1 Tryz.prog 182 := ⟨⟨_, Tryz.underlying182, trivial⟩⟩
instance : CN Tryz.prog 182 1 := ⟨by kernel_rfl⟩
instance : CZ Tryz.prog 182 (.map none) := ⟨by kernel_rfl⟩
instance : C1 Tryz.prog 183 := ⟨⟨_, Tryz.underlying183, trivial⟩⟩
instance : CN Tryz.prog 183 1 := ⟨by kernel_rfl⟩
instance : CZ Tryz.prog 183 (.map none) := ⟨by kernel_rfl⟩
instance : CS Tryz.prog 185 9 := ⟨⟨_, Tryz.underlying185, trivial⟩, by kernel_rfl⟩
instance : CN Tryz.prog 185 9 := ⟨by kernel_rfl⟩
instance : CZ Tryz.prog 185 (.agg #[.slice none 0 0, .int .i64 0, .slice none 0 0, .slice none 0 0, .slice none 0 0, .map none, .map none, .slice none 0 0, .slice none 0 0]) := ⟨by kernel_rfl⟩
instance : CS Tryz.prog 191 8 := ⟨⟨_, Tryz.underlying191, trivial⟩, by kernel_rfl⟩
instance : CN Tryz.prog 191 8 := ⟨by kernel_rfl⟩
instance : CZ Tryz.prog 191 (.agg #[.slice none 0 0, .int .i64 0, .slice none 0 0, .slice none 0 0, .slice none 0 0, .slice none 0 0, .slice none 0 0, .slice none 0 0]) := ⟨by kernel_rfl⟩
instance : CS Tryz.prog 237 2 := ⟨⟨_, Tryz.underlying237, trivial⟩, by kernel_rfl⟩
instance : CN Tryz.prog 237 2 := ⟨by kernel_rfl⟩
instance : CZ Tryz.prog 237 (.agg #[.int .i64 0, .int .i64 0]) := ⟨by kernel_rfl⟩
instance : C1 Tryz.prog 279 := ⟨⟨_, Tryz.underlying279, trivial⟩⟩
instance : CN Tryz.prog 279 1 := ⟨by kernel_rfl⟩
instance : CZ Tryz.prog 279 (.int .u64 0) := ⟨by kernel_rfl⟩
instance : CF Tryz.prog 32 0 0 := ⟨_, _, Tryz.underlying32, rfl, rfl, 0, by kernel_rfl⟩
instance : CF Tryz.prog 32 1 1 := ⟨_, _, Tryz.underlying32, rfl, rfl, 0, by kernel_rfl⟩
instance : CF Tryz.prog 32 2 2 := ⟨_, _, Tryz.underlying32, rfl, rfl, 0, by kernel_rfl⟩
instance : CF Tryz.prog 35 0 0 := ⟨_, _, Tryz.underlying35, rfl, rfl, 0, by kernel_rfl⟩
instance : CF Tryz.prog 35 1 1 := ⟨_, _, Tryz.underlying35, rfl, rfl, 0, by kernel_rfl⟩
instance : CF Tryz.prog 38 0 0 := ⟨_, _, Tryz.underlying38, rfl, rfl, 1, by kernel_rfl⟩
instance : CF Tryz.prog 38 1 2 := ⟨_, _, Tryz.underlying38, rfl, rfl, 0, by kernel_rfl⟩
instance : CF Tryz.prog 38 2 3 := ⟨_, _, Tryz.underlying38, rfl, rfl, 0, by kernel_rfl⟩
instance : CF Tryz.prog 38 3 4 := ⟨_, _, Tryz.underlying38, rfl, rfl, 0, by kernel_rfl⟩
instance : CF Tryz.prog 44 0 0 := ⟨_, _, Tryz.underlying44, rfl, rfl, 0, by kernel_rfl⟩
instance : CF Tryz.prog 44 1 1 := ⟨_, _, Tryz.underlying44, rfl, rfl, 0, by kernel_rfl⟩
instance : CF Tryz.prog 46 0 0 := ⟨_, _, Tryz.underlying46, rfl, rfl, 0, by kernel_rfl⟩
instance : CF Tryz.prog 46 1 1 := ⟨_, _, Tryz.underlying46, rfl, rfl, 0, by kernel_rfl⟩
instance : CF Tryz.prog 46 2 2 := ⟨_, _, Tryz.underlying46, rfl, rfl, 0, by kernel_rfl⟩
instance : CF Tryz.prog 56 0 0 := ⟨_, _, Tryz.underlying56, rfl, rfl, 0, by kernel_rfl⟩
instance : CF Tryz.prog 56 1 1 := ⟨_, _, Tryz.underlying56, rfl, rfl, 0, by kernel_rfl⟩
instance : CF Tryz.prog 56 2 2 := ⟨_, _, Tryz.underlying56, rfl, rfl, 0, by kernel_rfl⟩
instance : CF Tryz.prog 56 3 3 := ⟨_, _, Tryz.underlying56, rfl, rfl, 0, by kernel_rfl⟩
instance : CF Tryz.prog 56 4 4 := ⟨_, _, Tryz.underlying56, rfl, rfl, 0, by kernel_rfl⟩
instance : CF Tryz.prog 59 0 0 := ⟨_, _, Tryz.underlying59, rfl, rfl, 4, by kernel_rfl⟩
instance : CF Tryz.prog 59 1 5 := ⟨_, _, Tryz.underlying59, rfl, rfl, 0, by kernel_rfl⟩
instance : CF Tryz.prog 59 2 6 := ⟨_, _, Tryz.underlying59, rfl, rfl, 0, by kernel_rfl⟩
instance : CF Tryz.prog 59 3 7 := ⟨_, _, Tryz.underlying59, rfl, rfl, 0, by kernel_rfl⟩
instance : CF Tryz.prog 65 0 0 := ⟨_, _, Tryz.underlying65, rfl, rfl, 0, by kernel_rfl⟩
instance : CF Tryz.prog 65 1 1 := ⟨_, _, Tryz.underlying65, rfl, rfl, 0, by kernel_rfl⟩
instance : CF Tryz.prog 69 0 0 := ⟨_, _, Tryz.underlying69, rfl, rfl, 0, by kernel_rfl⟩
instance : CF Tryz.prog 69 1 1 := ⟨_, _, Tryz.underlying69, rfl, rfl, 0, by kernel_rfl⟩
instance : CF Tryz.prog 69 2 2 := ⟨_, _, Tryz.underlying69, rfl, rfl, 0, by kernel_rfl⟩
instance : CF Tryz.prog 69 3 3 := ⟨_, _, Tryz.underlying69, rfl, rfl, 0, by kernel_rfl⟩
instance : CF Tryz.prog 69 4 4 := ⟨_, _, Tryz.underlying69, rfl, rfl, 0, by kernel_rfl⟩
instance : CF Tryz.prog 78 0 0 := ⟨_, _, Tryz.underlying78, rfl, rfl, 0, by kernel_rfl⟩
instance : CF Tryz.prog 78 1 1 := ⟨_, _, Tryz.underlying78, rfl, rfl, 0, by kernel_rfl⟩
instance : CF Tryz.prog 78 2 2 := ⟨_, _, Tryz.underlying78, rfl, rfl, 0, by kernel_rfl⟩
instance : CF Tryz.prog 83 0 0 := ⟨_, _, Tryz.underlying83, rfl, rfl, 0, by kernel_rfl⟩
instance : CF Tryz.prog 83 1 1 := ⟨_, _, Tryz.underlying83, rfl, rfl, 0, by kernel_rfl⟩
instance : CF Tryz.prog 85 0 0 := ⟨_, _, Tryz.underlying85, rfl, rfl, 0, by kernel_rfl⟩
instance : CF Tryz.prog 85 1 1 := ⟨_, _, Tryz.underlying85, rfl, rfl, 0, by kernel_rfl⟩
instance : CF Tryz.prog 87 0 0 := ⟨_, _, Tryz.underlying87, rfl, rfl, 1, by kernel_rfl⟩
instance : CF Tryz.prog 89 0 0 := ⟨_, _, Tryz.underlying89, rfl, rfl, 1, by kernel_rfl⟩
instance : CF Tryz.prog 89 1 2 := ⟨_, _, Tryz.underlying89, rfl, rfl, 2, by kernel_rfl⟩
instance : CF Tryz.prog 93 0 0 := ⟨_, _, Tryz.underlying93, rfl, rfl, 0, by kernel_rfl⟩
instance : CF Tryz.prog 93 1 1 := ⟨_, _, Tryz.underlying93, rfl, rfl, 0, by kernel_rfl⟩
instance : CF Tryz.prog 93 2 2 := ⟨_, _, Tryz.underlying93, rfl, rfl, 0, by kernel_rfl⟩
instance : CF Tryz.prog 93 3 3 := ⟨_, _, Tryz.underlying93, rfl, rfl, 0, by kernel_rfl⟩
instance : CF Tryz.prog 96 0 0 := ⟨_, _, Tryz.underlying96, rfl, rfl, 0, by kernel_rfl⟩
instance : CF Tryz.prog 96 1 1 := ⟨_, _, Tryz.underlying96, rfl, rfl, 0, by kernel_rfl⟩
instance : CF Tryz.prog 102 0 0 := ⟨_, _, Tryz.underlying102, rfl, rfl, 0, by kernel_rfl⟩
instance : CF Tryz.prog 102 1 1 := ⟨_, _, Tryz.underlying102, rfl, rfl, 0, by kernel_rfl⟩
instance : CF Tryz.prog 102 2 2 := ⟨_, _, Tryz.underlying102, rfl, rfl, 0, by kernel_rfl⟩
instance : CF Tryz.prog 102 3 3 := ⟨_, _, Tryz.underlying102, rfl, rfl, 0, by kernel_rfl⟩
instance : CF Tryz.prog 102 4 4 := ⟨_, _, Tryz.underlying102, rfl, rfl, 0, by kernel_rfl⟩
instance : CF Tryz.prog 102 5 5 := ⟨_, _, Tryz.underlying102, rfl, rfl, 0, by kernel_rfl⟩
instance : CF Tryz.prog 102 6 6 := ⟨_, _, Tryz.underlying102, rfl, rfl, 0, by kernel_rfl⟩
instance : CF Tryz.prog 102 7 7 := ⟨_, _, Tryz.underlying102, rfl, rfl, 0, by kernel_rfl⟩
instance : CF Tryz.prog 104 0 0 := ⟨_, _, Tryz.underlying104, rfl, rfl, 0, by kernel_rfl⟩
instance : CF Tryz.prog 104 1 1 := ⟨_, _, Tryz.underlying104, rfl, rfl, 0, by kernel_rfl⟩
instance : CF Tryz.prog 104 2 2 := ⟨_, _, Tryz.underlying104, rfl, rfl, 0, by kernel_rfl⟩
instance : CF Tryz.prog 104 3 3 := ⟨_, _, Tryz.underlying104, rfl, rfl, 0, by kernel_rfl⟩
instance : CF Tryz.prog 104 4 4 := ⟨_, _, Tryz.underlying104, rfl, rfl, 0, by kernel_rfl⟩
instance : CF Tryz.prog 104 5 5 := ⟨_, _, Tryz.underlying104, rfl, rfl, 0, by kernel_rfl⟩
instance : CF Tryz.prog 116 0 0 := ⟨_, _, Tryz.underlying116, rfl, rfl, 1, by kernel_rfl⟩
instance : CF Tryz.prog 116 1 2 := ⟨_, _, Tryz.underlying116, rfl, rfl, 1, by kernel_rfl⟩
instance : CF Tryz.prog 116 2 4 := ⟨_, _, Tryz.underlying116, rfl, rfl, 0, by kernel_rfl⟩
instance : CF Tryz.prog 116 3 5 := ⟨_, _, Tryz.underlying116, rfl, rfl, 0, by kernel_rfl⟩
instance : CF Tryz.prog 119 0 0 := ⟨_, _, Tryz.underlying119, rfl, rfl, 0, by kernel_rfl⟩
instance : CF Tryz.prog 119 1 1 := ⟨_, _, Tryz.underlying119, rfl, rfl, 0, by kernel_rfl⟩
instance : CF Tryz.prog 132 0 0 := ⟨_, _, Tryz.underlying132, rfl, rfl, 0, by kernel_rfl⟩
instance : CF Tryz.prog 132 1 1 := ⟨_, _, Tryz.underlying132, rfl, rfl, 0, by kernel_rfl⟩
instance : CF Tryz.prog 132 2 2 := ⟨_, _, Tryz.underlying132, rfl, rfl, 0, by kernel_rfl⟩
instance : CF Tryz.prog 132 3 3 := ⟨_, _, Tryz.underlying132, rfl, rfl, 0, by kernel_rfl⟩
instance : CF Tryz.prog 137 0 0 := ⟨_, _, Tryz.underlying137, rfl, rfl, 0, by kernel_rfl⟩
instance : CF Tryz.prog 137 1 1 := ⟨_, _, Tryz.underlying137, rfl, rfl, 0, by kernel_rfl⟩
instance : CF Tryz.prog 139 0 0 := ⟨_, _, Tryz.underlying139, rfl, rfl, 0, by kernel_rfl⟩
instance : CF Tryz.prog 139 1 1 := ⟨_, _, Tryz.underlying139, rfl, rfl, 0, by kernel_rfl⟩
instance : CF Tryz.prog 139 2 2 := ⟨_, _, Tryz.underlying139, rfl, rfl, 0, by kernel_rfl⟩
instance : CF Tryz.prog 139 3 3 := ⟨_, _, Tryz.underlying139, rfl, rfl, 0, by kernel_rfl⟩
instance : CF Tryz.prog 141 0 0 := ⟨_, _, Tryz.underlying141, rfl, rfl, 0, by kernel_rfl⟩
instance : CF Tryz.prog 156 0 0 := ⟨_, _, Tryz.underlying156, rfl, rfl, 0, by kernel_rfl⟩
instance : CF Tryz.prog 156 1 1 := ⟨_, _, Tryz.underlying156, rfl, rfl, 0, by kernel_rfl⟩
instance : CF Tryz.prog 156 2 2 := ⟨_, _, Tryz.underlying156, rfl, rfl, 0, by kernel_rfl⟩
instance : CF Tryz.prog 162 0 0 := ⟨_, _, Tryz.underlying162, rfl, rfl, 1, by kernel_rfl⟩
instance : CF Tryz.prog 162 1 2 := ⟨_, _, Tryz.underlying162, rfl, rfl, 1, by kernel_rfl⟩
instance : CF Tryz.prog 162 2 4 := ⟨_, _, Tryz.underlying162, rfl, rfl, 0, by kernel_rfl⟩
instance : CF Tryz.prog 162 3 5 := ⟨_, _, Tryz.underlying162, rfl, rfl, 0, by kernel_rfl⟩
instance : CF Tryz.prog 162 4 6 := ⟨_, _, Tryz.underlying162, rfl, rfl, 0, by kernel_rfl⟩
instance : CF Tryz.prog 162 5 7 := ⟨_, _, Tryz.underlying162, rfl, rfl, 0, by kernel_rfl⟩
instance : CF Tryz.prog 185 0 0 := ⟨_, _, Tryz.underlying185, rfl, rfl, 4, by kernel_rfl⟩
instance : CF Tryz.prog 185 1 5 := ⟨_, _, Tryz.underlying185, rfl, rfl, 0, by kernel_rfl⟩
instance : CF Tryz.prog 185 2 6 := ⟨_, _, Tryz.underlying185, rfl, rfl, 0, by kernel_rfl⟩
instance : CF Tryz.prog 185 3 7 := ⟨_, _, Tryz.underlying185, rfl, rfl, 0, by kernel_rfl⟩
instance : CF Tryz.prog 185 4 8 := ⟨_, _, Tryz.underlying185, rfl, rfl, 0, by kernel_rfl⟩
instance : CF Tryz.prog 191 0 0 := ⟨_, _, Tryz.underlying191, rfl, rfl, 4, by kernel_rfl⟩
instance : CF Tryz.prog 191 1 5 := ⟨_, _, Tryz.underlying191, rfl, rfl, 0, by kernel_rfl⟩
instance : CF Tryz.prog 191 2 6 := ⟨_, _, Tryz.underlying191, rfl, rfl, 0, by kernel_rfl⟩
instance : CF Tryz.prog 191 3 7 := ⟨_, _, Tryz.underlying191, rfl, rfl, 0, by kernel_rfl⟩
instance : CL Tryz.prog 22 3 1 8 (.int .i64 0) := CL.of Tryz.underlying22 (by kernel_rfl) rfl (by decide)
instance : CL Tryz.prog 25 69 5 40 (.agg #[.int .i64 0, .int .i64 0, .int .i64 0, .int .i64 0, .int .i64 0]) := CL.of Tryz.underlying25 (by kernel_rfl) rfl (by decide)
instance : CL Tryz.prog 27 44 2 16 (.agg #[.int .i64 0, .int .i64 0]) := CL.of Tryz.underlying27 (by kernel_rfl) rfl (by decide)
instance : CL Tryz.prog 36 35 2 16 (.agg #[.int .i64 0, .int .i64 0]) := CL.of Tryz.underlying36 (by kernel_rfl) rfl (by decide)
instance : CL Tryz.prog 40 78 3 24 (.agg #[.int .i64 0, .int .i64 0, .int .i64 0]) := CL.of Tryz.underlying40 (by kernel_rfl) rfl (by decide)
instance : CL Tryz.prog 42 46 3 24 (.agg #[.int .i64 0, .int .i64 0, .int .i64 0]) := CL.of Tryz.underlying42 (by kernel_rfl) rfl (by decide)
instance : CL Tryz.prog 51 102 8 72 (.agg #[.int .i64 0, .string ⟨#[]⟩, .int .i64 0, .int .i64 0, .int .i64 0, .int .i64 0, .int .i64 0, .int .i64 0]) := CL.of Tryz.underlying51 (by kernel_rfl) rfl (by decide)
instance : CL Tryz.prog 52 119 2 16 (.agg #[.int .i64 0, .int .i64 0]) := CL.of Tryz.underlying52 (by kernel_rfl) rfl (by decide)
instance : CL Tryz.prog 53 132 4 32 (.agg #[.int .i64 0, .int .i64 0, .int .i64 0, .int .i64 0]) := CL.of Tryz.underlying53 (by kernel_rfl) rfl (by decide)
instance : CL Tryz.prog 54 104 6 80 (.agg #[.int .i64 0, .int .i64 0, .int .i64 0, .int .i64 0, .slice none 0 0, .slice none 0 0]) := CL.of Tryz.underlying54 (by kernel_rfl) rfl (by decide)
instance : CL Tryz.prog 57 112 1 24 (.slice none 0 0) := CL.of Tryz.underlying57 (by kernel_rfl) rfl (by decide)
instance : CL Tryz.prog 81 93 4 32 (.agg #[.int .i64 0, .int .i64 0, .int .i64 0, .int .i64 0]) := CL.of Tryz.underlying81 (by kernel_rfl) rfl (by decide)
instance : CL Tryz.prog 94 22 1 24 (.slice none 0 0) := CL.of Tryz.underlying94 (by kernel_rfl) rfl (by decide)
instance : CL Tryz.prog 109 116 6 40 (.agg #[.int .i64 0, .int .i64 0, .int .i64 0, .int .i64 0, .bool false, .bool false]) := CL.of Tryz.underlying109 (by kernel_rfl) rfl (by decide)
instance : CL Tryz.prog 112 139 4 32 (.agg #[.int .i64 0, .int .i64 0, .int .i64 0, .int .i64 0]) := CL.of Tryz.underlying112 (by kernel_rfl) rfl (by decide)
instance : CL Tryz.prog 124 137 2 32 (.agg #[.int .i64 0, .slice none 0 0]) := CL.of Tryz.underlying124 (by kernel_rfl) rfl (by decide)
instance : CL Tryz.prog 125 141 5 40 (.agg #[.int .i64 0, .int .i64 0, .int .i64 0, .int .i64 0, .int .i64 0]) := CL.of Tryz.underlying125 (by kernel_rfl) rfl (by decide)
instance : CL Tryz.prog 152 156 4 32 (.agg #[.int .i64 0, .int .i64 0, .int .i64 0, .int .i64 0]) := CL.of Tryz.underlying152 (by kernel_rfl) rfl (by decide)
instance : CL Tryz.prog 166 165 2 16 (.agg #[.int .i64 0, .int .i64 0]) := CL.of Tryz.underlying166 (by kernel_rfl) rfl (by decide)
instance : CL Tryz.prog 199 9 1 16 (.string ⟨#[]⟩) := CL.of Tryz.underlying199 (by kernel_rfl) rfl (by decide)
instance : CL Tryz.prog 215 5 1 1 (.int .u8 0) := CL.of Tryz.underlying215 (by kernel_rfl) rfl (by decide)
instance : CL Tryz.prog 244 4 1 1 (.bool false) := CL.of Tryz.underlying244 (by kernel_rfl) rfl (by decide)
instance : CB Tryz.prog 32 [.int .i64 0, .slice none 0 0, .slice none 0 0] #[(0, 1), (1, 1), (2, 1)] := ⟨.agg #[.int .i64 0, .slice none 0 0, .slice none 0 0], _, by kernel_rfl, rfl, Tryz.underlying32, fun _ => by kernel_rfl⟩
instance : CB Tryz.prog 35 [.int .i64 0, .int .i64 0] #[(0, 1), (1, 1)] := ⟨.agg #[.int .i64 0, .int .i64 0], _, by kernel_rfl, rfl, Tryz.underlying35, fun _ => by kernel_rfl⟩
instance : CB Tryz.prog 38 [.int .i64 0, .int .i64 0, .slice none 0 0, .int .i64 0, .slice none 0 0] #[(0, 2), (2, 1), (3, 1), (4, 1)] := ⟨.agg #[.int .i64 0, .int .i64 0, .slice none 0 0, .int .i64 0, .slice none 0 0], _, by kernel_rfl, rfl, Tryz.underlying38, fun _ => by kernel_rfl⟩
instance : CB Tryz.prog 44 [.int .i64 0, .int .i64 0] #[(0, 1), (1, 1)] := ⟨.agg #[.int .i64 0, .int .i64 0], _, by kernel_rfl, rfl, Tryz.underlying44, fun _ => by kernel_rfl⟩
instance : CB Tryz.prog 46 [.int .i64 0, .int .i64 0, .int .i64 0] #[(0, 1), (1, 1), (2, 1)] := ⟨.agg #[.int .i64 0, .int .i64 0, .int .i64 0], _, by kernel_rfl, rfl, Tryz.underlying46, fun _ => by kernel_rfl⟩
instance : CB Tryz.prog 56 [.slice none 0 0, .int .i64 0, .slice none 0 0, .slice none 0 0, .slice none 0 0] #[(0, 1), (1, 1), (2, 1), (3, 1), (4, 1)] := ⟨.agg #[.slice none 0 0, .int .i64 0, .slice none 0 0, .slice none 0 0, .slice none 0 0], _, by kernel_rfl, rfl, Tryz.underlying56, fun _ => by kernel_rfl⟩
instance : CB Tryz.prog 59 [.slice none 0 0, .int .i64 0, .slice none 0 0, .slice none 0 0, .slice none 0 0, .slice none 0 0, .slice none 0 0, .bool false] #[(0, 5), (5, 1), (6, 1), (7, 1)] := ⟨.agg #[.slice none 0 0, .int .i64 0, .slice none 0 0, .slice none 0 0, .slice none 0 0, .slice none 0 0, .slice none 0 0, .bool false], _, by kernel_rfl, rfl, Tryz.underlying59, fun _ => by kernel_rfl⟩
instance : CB Tryz.prog 65 [.slice none 0 0, .int .i64 0] #[(0, 1), (1, 1)] := ⟨.agg #[.slice none 0 0, .int .i64 0], _, by kernel_rfl, rfl, Tryz.underlying65, fun _ => by kernel_rfl⟩
instance : CB Tryz.prog 69 [.int .i64 0, .int .i64 0, .int .i64 0, .int .i64 0, .int .i64 0] #[(0, 1), (1, 1), (2, 1), (3, 1), (4, 1)] := ⟨.agg #[.int .i64 0, .int .i64 0, .int .i64 0, .int .i64 0, .int .i64 0], _, by kernel_rfl, rfl, Tryz.underlying69, fun _ => by kernel_rfl⟩
instance : CB Tryz.prog 78 [.int .i64 0, .int .i64 0, .int .i64 0] #[(0, 1), (1, 1), (2, 1)] := ⟨.agg #[.int .i64 0, .int .i64 0, .int .i64 0], _, by kernel_rfl, rfl, Tryz.underlying78, fun _ => by kernel_rfl⟩
instance : CB Tryz.prog 83 [.slice none 0 0, .int .i64 0] #[(0, 1), (1, 1)] := ⟨.agg #[.slice none 0 0, .int .i64 0], _, by kernel_rfl, rfl, Tryz.underlying83, fun _ => by kernel_rfl⟩
instance : CB Tryz.prog 85 [.int .i64 0, .slice none 0 0] #[(0, 1), (1, 1)] := ⟨.agg #[.int .i64 0, .slice none 0 0], _, by kernel_rfl, rfl, Tryz.underlying85, fun _ => by kernel_rfl⟩
instance : CB Tryz.prog 87 [.int .i64 0, .slice none 0 0, .slice none 0 0] #[(0, 2), (2, 1)] := ⟨.agg #[.int .i64 0, .slice none 0 0, .slice none 0 0], _, by kernel_rfl, rfl, Tryz.underlying87, fun _ => by kernel_rfl⟩
instance : CB Tryz.prog 89 [.slice none 0 0, .int .i64 0, .int .i64 0, .slice none 0 0, .slice none 0 0, .slice none 0 0] #[(0, 2), (2, 3), (5, 1)] := ⟨.agg #[.slice none 0 0, .int .i64 0, .int .i64 0, .slice none 0 0, .slice none 0 0, .slice none 0 0], _, by kernel_rfl, rfl, Tryz.underlying89, fun _ => by kernel_rfl⟩
instance : CB Tryz.prog 93 [.int .i64 0, .int .i64 0, .int .i64 0, .int .i64 0] #[(0, 1), (1, 1), (2, 1), (3, 1)] := ⟨.agg #[.int .i64 0, .int .i64 0, .int .i64 0, .int .i64 0], _, by kernel_rfl, rfl, Tryz.underlying93, fun _ => by kernel_rfl⟩
instance : CB Tryz.prog 96 [.slice none 0 0, .int .i64 0] #[(0, 1), (1, 1)] := ⟨.agg #[.slice none 0 0, .int .i64 0], _, by kernel_rfl, rfl, Tryz.underlying96, fun _ => by kernel_rfl⟩
instance : CB Tryz.prog 102 [.int .i64 0, .string ⟨#[]⟩, .int .i64 0, .int .i64 0, .int .i64 0, .int .i64 0, .int .i64 0, .int .i64 0] #[(0, 1), (1, 1), (2, 1), (3, 1), (4, 1), (5, 1), (6, 1), (7, 1)] := ⟨.agg #[.int .i64 0, .string ⟨#[]⟩, .int .i64 0, .int .i64 0, .int .i64 0, .int .i64 0, .int .i64 0, .int .i64 0], _, by kernel_rfl, rfl, Tryz.underlying102, fun _ => by kernel_rfl⟩
instance : CB Tryz.prog 104 [.int .i64 0, .int .i64 0, .int .i64 0, .int .i64 0, .slice none 0 0, .slice none 0 0] #[(0, 1), (1, 1), (2, 1), (3, 1), (4, 1), (5, 1)] := ⟨.agg #[.int .i64 0, .int .i64 0, .int .i64 0, .int .i64 0, .slice none 0 0, .slice none 0 0], _, by kernel_rfl, rfl, Tryz.underlying104, fun _ => by kernel_rfl⟩
instance : CB Tryz.prog 116 [.int .i64 0, .int .i64 0, .int .i64 0, .int .i64 0, .bool false, .bool false] #[(0, 2), (2, 2), (4, 1), (5, 1)] := ⟨.agg #[.int .i64 0, .int .i64 0, .int .i64 0, .int .i64 0, .bool false, .bool false], _, by kernel_rfl, rfl, Tryz.underlying116, fun _ => by kernel_rfl⟩
instance : CB Tryz.prog 119 [.int .i64 0, .int .i64 0] #[(0, 1), (1, 1)] := ⟨.agg #[.int .i64 0, .int .i64 0], _, by kernel_rfl, rfl, Tryz.underlying119, fun _ => by kernel_rfl⟩
instance : CB Tryz.prog 132 [.int .i64 0, .int .i64 0, .int .i64 0, .int .i64 0] #[(0, 1), (1, 1), (2, 1), (3, 1)] := ⟨.agg #[.int .i64 0, .int .i64 0, .int .i64 0, .int .i64 0], _, by kernel_rfl, rfl, Tryz.underlying132, fun _ => by kernel_rfl⟩
instance : CB Tryz.prog 137 [.int .i64 0, .slice none 0 0] #[(0, 1), (1, 1)] := ⟨.agg #[.int .i64 0, .slice none 0 0], _, by kernel_rfl, rfl, Tryz.underlying137, fun _ => by kernel_rfl⟩
instance : CB Tryz.prog 139 [.int .i64 0, .int .i64 0, .int .i64 0, .int .i64 0] #[(0, 1), (1, 1), (2, 1), (3, 1)] := ⟨.agg #[.int .i64 0, .int .i64 0, .int .i64 0, .int .i64 0], _, by kernel_rfl, rfl, Tryz.underlying139, fun _ => by kernel_rfl⟩
instance : CB Tryz.prog 141 [.int .i64 0, .int .i64 0, .int .i64 0, .int .i64 0, .int .i64 0] #[(0, 1), (1, 1), (2, 1), (3, 1), (4, 1)] := ⟨.agg #[.int .i64 0, .int .i64 0, .int .i64 0, .int .i64 0, .int .i64 0], _, by kernel_rfl, rfl, Tryz.underlying141, fun _ => by kernel_rfl⟩
instance : CB Tryz.prog 151 [.int .i64 0, .int .i64 0] #[(0, 1), (1, 1)] := ⟨.agg #[.int .i64 0, .int .i64 0], _, by kernel_rfl, rfl, Tryz.underlying151, fun _ => by kernel_rfl⟩
instance : CB Tryz.prog 156 [.int .i64 0, .int .i64 0, .int .i64 0, .int .i64 0] #[(0, 1), (1, 1), (2, 1), (3, 1)] := ⟨.agg #[.int .i64 0, .int .i64 0, .int .i64 0, .int .i64 0], _, by kernel_rfl, rfl, Tryz.underlying156, fun _ => by kernel_rfl⟩
instance : CB Tryz.prog 162 [.slice none 0 0, .int .i64 0, .int .i64 0, .slice none 0 0, .slice none 0 0, .slice none 0 0, .int .i64 0, .int .i64 0] #[(0, 2), (2, 2), (4, 1), (5, 1), (6, 1), (7, 1)] := ⟨.agg #[.slice none 0 0, .int .i64 0, .int .i64 0, .slice none 0 0, .slice none 0 0, .slice none 0 0, .int .i64 0, .int .i64 0], _, by kernel_rfl, rfl, Tryz.underlying162, fun _ => by kernel_rfl⟩
instance : CA Tryz.prog 165 2 3 1 [.int .i64 0, .int .i64 0] := ⟨Tryz.underlying165, by kernel_rfl, .agg #[.int .i64 0, .int .i64 0], by kernel_rfl, rfl⟩
instance : CB Tryz.prog 185 [.slice none 0 0, .int .i64 0, .slice none 0 0, .slice none 0 0, .slice none 0 0, .map none, .map none, .slice none 0 0, .slice none 0 0] #[(0, 5), (5, 1), (6, 1), (7, 1), (8, 1)] := ⟨.agg #[.slice none 0 0, .int .i64 0, .slice none 0 0, .slice none 0 0, .slice none 0 0, .map none, .map none, .slice none 0 0, .slice none 0 0], _, by kernel_rfl, rfl, Tryz.underlying185, fun _ => by kernel_rfl⟩
instance : CB Tryz.prog 191 [.slice none 0 0, .int .i64 0, .slice none 0 0, .slice none 0 0, .slice none 0 0, .slice none 0 0, .slice none 0 0, .slice none 0 0] #[(0, 5), (5, 1), (6, 1), (7, 1)] := ⟨.agg #[.slice none 0 0, .int .i64 0, .slice none 0 0, .slice none 0 0, .slice none 0 0, .slice none 0 0, .slice none 0 0, .slice none 0 0], _, by kernel_rfl, rfl, Tryz.underlying191, fun _ => by kernel_rfl⟩
instance : CA Tryz.prog 203 4 3 1 [.int .i64 0, .int .i64 0, .int .i64 0, .int .i64 0] := ⟨Tryz.underlying203, by kernel_rfl, .agg #[.int .i64 0, .int .i64 0, .int .i64 0, .int .i64 0], by kernel_rfl, rfl⟩
instance : CB Tryz.prog 237 [.int .i64 0, .int .i64 0] #[(0, 1), (1, 1)] := ⟨.agg #[.int .i64 0, .int .i64 0], _, by kernel_rfl, rfl, Tryz.underlying237, fun _ => by kernel_rfl⟩
instance : CFn Tryz.prog 5 := CFn.of Tryz.func5 rfl (by decide +kernel)
instance : CFn Tryz.prog 6 := CFn.of Tryz.func6 rfl (by decide +kernel)
instance : CFn Tryz.prog 7 := CFn.of Tryz.func7 rfl (by decide +kernel)
instance : CFn Tryz.prog 8 := CFn.of Tryz.func8 rfl (by decide +kernel)
instance : CFn Tryz.prog 9 := CFn.of Tryz.func9 rfl (by decide +kernel)
instance : CFn Tryz.prog 10 := CFn.of Tryz.func10 rfl (by decide +kernel)
instance : CFn Tryz.prog 11 := CFn.of Tryz.func11 rfl (by decide +kernel)
instance : CFn Tryz.prog 12 := CFn.of Tryz.func12 rfl (by decide +kernel)
instance : CFn Tryz.prog 13 := CFn.of Tryz.func13 rfl (by decide +kernel)
instance : CFn Tryz.prog 14 := CFn.of Tryz.func14 rfl (by decide +kernel)
instance : CFn Tryz.prog 15 := CFn.of Tryz.func15 rfl (by decide +kernel)
instance : CFn Tryz.prog 16 := CFn.of Tryz.func16 rfl (by decide +kernel)
instance : CFn Tryz.prog 17 := CFn.of Tryz.func17 rfl (by decide +kernel)
instance : CFn Tryz.prog 18 := CFn.of Tryz.func18 rfl (by decide +kernel)
instance : CFn Tryz.prog 19 := CFn.of Tryz.func19 rfl (by decide +kernel)
instance : CFn Tryz.prog 20 := CFn.of Tryz.func20 rfl (by decide +kernel)
instance : CFn Tryz.prog 21 := CFn.of Tryz.func21 rfl (by decide +kernel)
instance : CFn Tryz.prog 22 := CFn.of Tryz.func22 rfl (by decide +kernel)
instance : CFn Tryz.prog 23 := CFn.of Tryz.func23 rfl (by decide +kernel)
instance : CFn Tryz.prog 24 := CFn.of Tryz.func24 rfl (by decide +kernel)
instance : CFn Tryz.prog 25 := CFn.of Tryz.func25 rfl (by decide +kernel)
instance : CFn Tryz.prog 26 := CFn.of Tryz.func26 rfl (by decide +kernel)
instance : CFn Tryz.prog 27 := CFn.of Tryz.func27 rfl (by decide +kernel)
instance : CFn Tryz.prog 28 := CFn.of Tryz.func28 rfl (by decide +kernel)
instance : CFn Tryz.prog 29 := CFn.of Tryz.func29 rfl (by decide +kernel)
instance : CFn Tryz.prog 30 := CFn.of Tryz.func30 rfl (by decide +kernel)
instance : CFn Tryz.prog 31 := CFn.of Tryz.func31 rfl (by decide +kernel)
instance : CFn Tryz.prog 32 := CFn.of Tryz.func32 rfl (by decide +kernel)
instance : CFn Tryz.prog 33 := CFn.of Tryz.func33 rfl (by decide +kernel)
instance : CFn Tryz.prog 34 := CFn.of Tryz.func34 rfl (by decide +kernel)
instance : CFn Tryz.prog 35 := CFn.of Tryz.func35 rfl (by decide +kernel)
instance : CFn Tryz.prog 36 := CFn.of Tryz.func36 rfl (by decide +kernel)
instance : CFn Tryz.prog 37 := CFn.of Tryz.func37 rfl (by decide +kernel)
instance : CFn Tryz.prog 38 := CFn.of Tryz.func38 rfl (by decide +kernel)
instance : CFn Tryz.prog 39 := CFn.of Tryz.func39 rfl (by decide +kernel)
instance : CFn Tryz.prog 40 := CFn.of Tryz.func40 rfl (by decide +kernel)
instance : CFn Tryz.prog 41 := CFn.of Tryz.func41 rfl (by decide +kernel)
instance : CFn Tryz.prog 42 := CFn.of Tryz.func42 rfl (by decide +kernel)
instance : CFn Tryz.prog 43 := CFn.of Tryz.func43 rfl (by decide +kernel)
instance : CFn Tryz.prog 44 := CFn.of Tryz.func44 rfl (by decide +kernel)
instance : CFn Tryz.prog 45 := CFn.of Tryz.func45 rfl (by decide +kernel)
instance : CFn Tryz.prog 46 := CFn.of Tryz.func46 rfl (by decide +kernel)
instance : CFn Tryz.prog 47 := CFn.of Tryz.func47 rfl (by decide +kernel)
instance : CFn Tryz.prog 48 := CFn.of Tryz.func48 rfl (by decide +kernel)
instance : CFn Tryz.prog 49 := CFn.of Tryz.func49 rfl (by decide +kernel)
instance : CFn Tryz.prog 50 := CFn.of Tryz.func50 rfl (by decide +kernel)
instance : CFn Tryz.prog 51 := CFn.of Tryz.func51 rfl (by decide +kernel)
instance : CFn Tryz.prog 52 := CFn.of Tryz.func52 rfl (by decide +kernel)
instance : CFn Tryz.prog 53 := CFn.of Tryz.func53 rfl (by decide +kernel)
instance : CFn Tryz.prog 54 := CFn.of Tryz.func54 rfl (by decide +kernel)
instance : CFn Tryz.prog 55 := CFn.of Tryz.func55 rfl (by decide +kernel)
instance : CFn Tryz.prog 56 := CFn.of Tryz.func56 rfl (by decide +kernel)
instance : CFn Tryz.prog 57 := CFn.of Tryz.func57 rfl (by decide +kernel)
instance : CFn Tryz.prog 58 := CFn.of Tryz.func58 rfl (by decide +kernel)
instance : CFn Tryz.prog 59 := CFn.of Tryz.func59 rfl (by decide +kernel)
instance : CFn Tryz.prog 60 := CFn.of Tryz.func60 rfl (by decide +kernel)
instance : CFn Tryz.prog 61 := CFn.of Tryz.func61 rfl (by decide +kernel)
instance : CFn Tryz.prog 62 := CFn.of Tryz.func62 rfl (by decide +kernel)
instance : CFn Tryz.prog 63 := CFn.of Tryz.func63 rfl (by decide +kernel)
instance : CFn Tryz.prog 64 := CFn.of Tryz.func64 rfl (by decide +kernel)
instance : CFn Tryz.prog 65 := CFn.of Tryz.func65 rfl (by decide +kernel)
instance : CFn Tryz.prog 66 := CFn.of Tryz.func66 rfl (by decide +kernel)
instance : CFn Tryz.prog 67 := CFn.of Tryz.func67 rfl (by decide +kernel)
instance : CFn Tryz.prog 68 := CFn.of Tryz.func68 rfl (by decide +kernel)
instance : CFn Tryz.prog 69 := CFn.of Tryz.func69 rfl (by decide +kernel)
instance : CFn Tryz.prog 70 := CFn.of Tryz.func70 rfl (by decide +kernel)
instance : CFn Tryz.prog 71 := CFn.of Tryz.func71 rfl (by decide +kernel)
instance : CFn Tryz.prog 72 := CFn.of Tryz.func72 rfl (by decide +kernel)
instance : CFn Tryz.prog 73 := CFn.of Tryz.func73 rfl (by decide +kernel)
instance : CFn Tryz.prog 74 := CFn.of Tryz.func74 rfl (by decide +kernel)
instance : CFn Tryz.prog 75 := CFn.of Tryz.func75 rfl (by decide +kernel)
instance : CFn Tryz.prog 76 := CFn.of Tryz.func76 rfl (by decide +kernel)
instance : CFn Tryz.prog 77 := CFn.of Tryz.func77 rfl (by decide +kernel)
instance : CFn Tryz.prog 78 := CFn.of Tryz.func78 rfl (by decide +kernel)
instance : CFn Tryz.prog 79 := CFn.of Tryz.func79 rfl (by decide +kernel)
instance : CFn Tryz.prog 80 := CFn.of Tryz.func80 rfl (by decide +kernel)
instance : CFn Tryz.prog 81 := CFn.of Tryz.func81 rfl (by decide +kernel)
instance : CFn Tryz.prog 82 := CFn.of Tryz.func82 rfl (by decide +kernel)
instance : CFn Tryz.prog 83 := CFn.of Tryz.func83 rfl (by decide +kernel)
instance : CFn Tryz.prog 84 := CFn.of Tryz.func84 rfl (by decide +kernel)
instance : CFn Tryz.prog 85 := CFn.of Tryz.func85 rfl (by decide +kernel)
instance : CFn Tryz.prog 86 := CFn.of Tryz.func86 rfl (by decide +kernel)
instance : CFn Tryz.prog 87 := CFn.of Tryz.func87 rfl (by decide +kernel)
instance : CFn Tryz.prog 88 := CFn.of Tryz.func88 rfl (by decide +kernel)
instance : CFn Tryz.prog 89 := CFn.of Tryz.func89 rfl (by decide +kernel)
instance : CFn Tryz.prog 90 := CFn.of Tryz.func90 rfl (by decide +kernel)
instance : CFn Tryz.prog 91 := CFn.of Tryz.func91 rfl (by decide +kernel)
instance : CFn Tryz.prog 92 := CFn.of Tryz.func92 rfl (by decide +kernel)
instance : CFn Tryz.prog 93 := CFn.of Tryz.func93 rfl (by decide +kernel)
instance : CFn Tryz.prog 94 := CFn.of Tryz.func94 rfl (by decide +kernel)
instance : CFn Tryz.prog 95 := CFn.of Tryz.func95 rfl (by decide +kernel)
instance : CFn Tryz.prog 96 := CFn.of Tryz.func96 rfl (by decide +kernel)
instance : CFn Tryz.prog 97 := CFn.of Tryz.func97 rfl (by decide +kernel)
instance : CFn Tryz.prog 98 := CFn.of Tryz.func98 rfl (by decide +kernel)
instance : CFn Tryz.prog 99 := CFn.of Tryz.func99 rfl (by decide +kernel)
instance : CFn Tryz.prog 100 := CFn.of Tryz.func100 rfl (by decide +kernel)
instance : CFn Tryz.prog 101 := CFn.of Tryz.func101 rfl (by decide +kernel)
instance : CFn Tryz.prog 102 := CFn.of Tryz.func102 rfl (by decide +kernel)
instance : CFn Tryz.prog 103 := CFn.of Tryz.func103 rfl (by decide +kernel)
instance : CFn Tryz.prog 104 := CFn.of Tryz.func104 rfl (by decide +kernel)
instance : CFn Tryz.prog 105 := CFn.of Tryz.func105 rfl (by decide +kernel)
instance : CFn Tryz.prog 106 := CFn.of Tryz.func106 rfl (by decide +kernel)
instance : CFn Tryz.prog 107 := CFn.of Tryz.func107 rfl (by decide +kernel)
instance : CFn Tryz.prog 108 := CFn.of Tryz.func108 rfl (by decide +kernel)
instance : CFn Tryz.prog 109 := CFn.of Tryz.func109 rfl (by decide +kernel)
instance : CFn Tryz.prog 110 := CFn.of Tryz.func110 rfl (by decide +kernel)
instance : CFn Tryz.prog 111 := CFn.of Tryz.func111 rfl (by decide +kernel)
instance : CFn Tryz.prog 112 := CFn.of Tryz.func112 rfl (by decide +kernel)
instance : CFn Tryz.prog 113 := CFn.of Tryz.func113 rfl (by decide +kernel)
instance : CFn Tryz.prog 114 := CFn.of Tryz.func114 rfl (by decide +kernel)
instance : CFn Tryz.prog 115 := CFn.of Tryz.func115 rfl (by decide +kernel)
instance : CFn Tryz.prog 116 := CFn.of Tryz.func116 rfl (by decide +kernel)
instance : CFn Tryz.prog 117 := CFn.of Tryz.func117 rfl (by decide +kernel)
instance : CFn Tryz.prog 118 := CFn.of Tryz.func118 rfl (by decide +kernel)
instance : CFn Tryz.prog 119 := CFn.of Tryz.func119 rfl (by decide +kernel)
instance : CFn Tryz.prog 120 := CFn.of Tryz.func120 rfl (by decide +kernel)
instance : CFn Tryz.prog 121 := CFn.of Tryz.func121 rfl (by decide +kernel)
instance : CFn Tryz.prog 122 := CFn.of Tryz.func122 rfl (by decide +kernel)
instance : CFn Tryz.prog 123 := CFn.of Tryz.func123 rfl (by decide +kernel)
instance : CFn Tryz.prog 124 := CFn.of Tryz.func124 rfl (by decide +kernel)
instance : CFn Tryz.prog 125 := CFn.of Tryz.func125 rfl (by decide +kernel)
instance : CFn Tryz.prog 126 := CFn.of Tryz.func126 rfl (by decide +kernel)
instance : CFn Tryz.prog 127 := CFn.of Tryz.func127 rfl (by decide +kernel)
instance : CFn Tryz.prog 128 := CFn.of Tryz.func128 rfl (by decide +kernel)
instance : CFn Tryz.prog 129 := CFn.of Tryz.func129 rfl (by decide +kernel)
instance : CFn Tryz.prog 130 := CFn.of Tryz.func130 rfl (by decide +kernel)
instance : CFn Tryz.prog 131 := CFn.of Tryz.func131 rfl (by decide +kernel)
instance : CFn Tryz.prog 132 := CFn.of Tryz.func132 rfl (by decide +kernel)
instance : CFn Tryz.prog 133 := CFn.of Tryz.func133 rfl (by decide +kernel)
instance : CFn Tryz.prog 134 := CFn.of Tryz.func134 rfl (by decide +kernel)
instance : CFn Tryz.prog 135 := CFn.of Tryz.func135 rfl (by decide +kernel)
instance : CFn Tryz.prog 136 := CFn.of Tryz.func136 rfl (by decide +kernel)
instance : CFn Tryz.prog 137 := CFn.of Tryz.func137 rfl (by decide +kernel)
instance : CFn Tryz.prog 138 := CFn.of Tryz.func138 rfl (by decide +kernel)
instance : CFn Tryz.prog 139 := CFn.of Tryz.func139 rfl (by decide +kernel)
instance : CFn Tryz.prog 140 := CFn.of Tryz.func140 rfl (by decide +kernel)
instance : CFn Tryz.prog 141 := CFn.of Tryz.func141 rfl (by decide +kernel)
instance : CFn Tryz.prog 142 := CFn.of Tryz.func142 rfl (by decide +kernel)
instance : CFn Tryz.prog 143 := CFn.of Tryz.func143 rfl (by decide +kernel)
instance : CFn Tryz.prog 144 := CFn.of Tryz.func144 rfl (by decide +kernel)
instance : CFn Tryz.prog 145 := CFn.of Tryz.func145 rfl (by decide +kernel)
instance : CFn Tryz.prog 146 := CFn.of Tryz.func146 rfl (by decide +kernel)
instance : CFn Tryz.prog 147 := CFn.of Tryz.func147 rfl (by decide +kernel)
instance : CFn Tryz.prog 148 := CFn.of Tryz.func148 rfl (by decide +kernel)
instance : CFn Tryz.prog 149 := CFn.of Tryz.func149 rfl (by decide +kernel)
instance : CFn Tryz.prog 150 := CFn.of Tryz.func150 rfl (by decide +kernel)
instance : CFn Tryz.prog 151 := CFn.of Tryz.func151 rfl (by decide +kernel)
instance : CFn Tryz.prog 152 := CFn.of Tryz.func152 rfl (by decide +kernel)
instance : CFn Tryz.prog 153 := CFn.of Tryz.func153 rfl (by decide +kernel)
instance : CFn Tryz.prog 154 := CFn.of Tryz.func154 rfl (by decide +kernel)
instance : CFn Tryz.prog 155 := CFn.of Tryz.func155 rfl (by decide +kernel)
instance : CFn Tryz.prog 156 := CFn.of Tryz.func156 rfl (by decide +kernel)
instance : CFn Tryz.prog 157 := CFn.of Tryz.func157 rfl (by decide +kernel)
instance : CFn Tryz.prog 158 := CFn.of Tryz.func158 rfl (by decide +kernel)
instance : CFn Tryz.prog 159 := CFn.of Tryz.func159 rfl (by decide +kernel)
instance : CFn Tryz.prog 160 := CFn.of Tryz.func160 rfl (by decide +kernel)
instance : CFn Tryz.prog 161 := CFn.of Tryz.func161 rfl (by decide +kernel)
instance : CFn Tryz.prog 162 := CFn.of Tryz.func162 rfl (by decide +kernel)
instance : CFn Tryz.prog 163 := CFn.of Tryz.func163 rfl (by decide +kernel)
instance : CFn Tryz.prog 164 := CFn.of Tryz.func164 rfl (by decide +kernel)
instance : CFn Tryz.prog 165 := CFn.of Tryz.func165 rfl (by decide +kernel)
instance : CFn Tryz.prog 166 := CFn.of Tryz.func166 rfl (by decide +kernel)
instance : CFn Tryz.prog 167 := CFn.of Tryz.func167 rfl (by decide +kernel)
instance : CFn Tryz.prog 168 := CFn.of Tryz.func168 rfl (by decide +kernel)
instance : CFn Tryz.prog 169 := CFn.of Tryz.func169 rfl (by decide +kernel)
instance : CFn Tryz.prog 170 := CFn.of Tryz.func170 rfl (by decide +kernel)
instance : CFn Tryz.prog 171 := CFn.of Tryz.func171 rfl (by decide +kernel)
instance : CFn Tryz.prog 172 := CFn.of Tryz.func172 rfl (by decide +kernel)
instance : CFn Tryz.prog 173 := CFn.of Tryz.func173 rfl (by decide +kernel)
instance : CFn Tryz.prog 174 := CFn.of Tryz.func174 rfl (by decide +kernel)
instance : CFn Tryz.prog 175 := CFn.of Tryz.func175 rfl (by decide +kernel)
instance : CFn Tryz.prog 176 := CFn.of Tryz.func176 rfl (by decide +kernel)
instance : CFn Tryz.prog 177 := CFn.of Tryz.func177 rfl (by decide +kernel)
instance : CFn Tryz.prog 178 := CFn.of Tryz.func178 rfl (by decide +kernel)
instance : CFn Tryz.prog 179 := CFn.of Tryz.func179 rfl (by decide +kernel)
instance : CFn Tryz.prog 180 := CFn.of Tryz.func180 rfl (by decide +kernel)
instance : CFn Tryz.prog 181 := CFn.of Tryz.func181 rfl (by decide +kernel)
instance : CFn Tryz.prog 182 := CFn.of Tryz.func182 rfl (by decide +kernel)
instance : CFn Tryz.prog 185 := CFn.of Tryz.func185 rfl (by decide +kernel)
instance : CFn Tryz.prog 186 := CFn.of Tryz.func186 rfl (by decide +kernel)
instance : CFn Tryz.prog 187 := CFn.of Tryz.func187 rfl (by decide +kernel)
instance : CFn Tryz.prog 188 := CFn.of Tryz.func188 rfl (by decide +kernel)
instance : CFn Tryz.prog 189 := CFn.of Tryz.func189 rfl (by decide +kernel)
instance : CFn Tryz.prog 190 := CFn.of Tryz.func190 rfl (by decide +kernel)
instance : CFn Tryz.prog 191 := CFn.of Tryz.func191 rfl (by decide +kernel)
instance : CFn Tryz.prog 192 := CFn.of Tryz.func192 rfl (by decide +kernel)
instance : CFn Tryz.prog 193 := CFn.of Tryz.func193 rfl (by decide +kernel)
instance : CFn Tryz.prog 195 := CFn.of Tryz.func195 rfl (by decide +kernel)
instance : CFn Tryz.prog 196 := CFn.of Tryz.func196 rfl (by decide +kernel)
instance : CFn Tryz.prog 197 := CFn.of Tryz.func197 rfl (by decide +kernel)
instance : CFn Tryz.prog 198 := CFn.of Tryz.func198 rfl (by decide +kernel)
instance : CFn Tryz.prog 199 := CFn.of Tryz.func199 rfl (by decide +kernel)
instance : CFn Tryz.prog 200 := CFn.of Tryz.func200 rfl (by decide +kernel)
instance : CFn Tryz.prog 201 := CFn.of Tryz.func201 rfl (by decide +kernel)
instance : CFn Tryz.prog 202 := CFn.of Tryz.func202 rfl (by decide +kernel)
instance : CFn Tryz.prog 203 := CFn.of Tryz.func203 rfl (by decide +kernel)
instance : CFn Tryz.prog 204 := CFn.of Tryz.func204 rfl (by decide +kernel)
instance : CFn Tryz.prog 205 := CFn.of Tryz.func205 rfl (by decide +kernel)
instance : CFn Tryz.prog 206 := CFn.of Tryz.func206 rfl (by decide +kernel)
instance : CFn Tryz.prog 207 := CFn.of Tryz.func207 rfl (by decide +kernel)
instance : CFn Tryz.prog 208 := CFn.of Tryz.func208 rfl (by decide +kernel)
instance : CM Tryz.prog := ⟨by kernel_rfl⟩
instance : CKV Tryz.prog 182 (.int .i64 0) := ⟨_, _, Tryz.underlying182, Tryz.underlying3, by kernel_rfl⟩
instance : CKV Tryz.prog 183 (.slice none 0 0) := ⟨_, _, Tryz.underlying183, Tryz.underlying3, by kernel_rfl⟩
instance : CK Tryz.prog 194 kvI := CK.of Tryz.underlying194 Tryz.underlying3 (fun _ => rfl) (fun _ _ h => (Value.int.inj h).2) (by kernel_rfl)
instance : CK Tryz.prog 233 kvZ := CK.of Tryz.underlying233 Tryz.underlying9 (fun _ => trivial) (fun _ _ h => Value.string.inj h) (by kernel_rfl)
theorem qin102 (d : Nat) (a0 b0 : Int) (a1 b1 : ByteArray) (a2 b2 : Int) (a3 b3 : Int) (a4 b4 : Int) (a5 b5 : Int) (a6 b6 : Int) (a7 b7 : Int) (w : World) : (Op.equalIn (d + 3) 102 (.agg #[.int .i64 a0, .string a1, .int .i64 a2, .int .i64 a3, .int .i64 a4, .int .i64 a5, .int .i64 a6, .int .i64 a7]) (.agg #[.int .i64 b0, .string b1, .int .i64 b2, .int .i64 b3, .int .i64 b4, .int .i64 b5, .int .i64 b6, .int .i64 b7])).run Tryz.prog w = .ok (decide (a0 = b0 ∧ a1 = b1 ∧ a2 = b2 ∧ a3 = b3 ∧ a4 = b4 ∧ a5 = b5 ∧ a6 = b6 ∧ a7 = b7)) w := by
  rw [run_equalIn_agg w (d + 2) 102 _ _ (by kernel_rfl) (by kernel_rfl)]
  rw [show Tryz.prog.fieldsOf 102 = #[{ name := "Kind", type := 3, offset := 0, embedded := false, tag := "", pkgPath := "", byteOffset := 0 }, { name := "Name", type := 9, offset := 1, embedded := false, tag := "", pkgPath := "", byteOffset := 8 }, { name := "Parent", type := 3, offset := 2, embedded := false, tag := "", pkgPath := "", byteOffset := 24 }, { name := "Side", type := 3, offset := 3, embedded := false, tag := "", pkgPath := "", byteOffset := 32 }, { name := "Length", type := 3, offset := 4, embedded := false, tag := "", pkgPath := "", byteOffset := 40 }, { name := "Grade", type := 3, offset := 5, embedded := false, tag := "", pkgPath := "", byteOffset := 48 }, { name := "Curve", type := 3, offset := 6, embedded := false, tag := "", pkgPath := "", byteOffset := 56 }, { name := "Power", type := 3, offset := 7, embedded := false, tag := "", pkgPath := "", byteOffset := 64 }] from by kernel_rfl]
  have p3 : ∀ cs off v w, cs[off]? = some v → (part 3 cs off).run Tryz.prog w = .ok v w := fun cs off v w h => by simp [part, run_isAgg1, h]
  have q3 := fun d a b w => run_equalIn_int (P := Tryz.prog) w d 3 .i64 .i64 a b Tryz.underlying3
  have p9 : ∀ cs off v w, cs[off]? = some v → (part 9 cs off).run Tryz.prog w = .ok v w := fun cs off v w h => by simp [part, run_isAgg1, h]
  have q9 : ∀ (d : Nat) (a b : ByteArray) (w : World), (Op.equalIn (d + 1) 9 (.string a) (.string b)).run Tryz.prog w = .ok (decide (a = b)) w := fun d a b w => by rw [run_equalIn_string (P := Tryz.prog) w d 9 a b Tryz.underlying9]; rw [str_beq]
  simp [Op.eqFields, p3, q3, p9, q9]
  repeat (split <;> simp_all)
theorem yeq102 {N : Nat} {ρ : Env} {w : World} {d : Option Nat} {ty : TypeId} {ps : String} {af : Array Edge} {gd : Option (Nat × Bool)} {x y : Operand} {yt : TypeId} {a0 b0 : Int} {a1 b1 : ByteArray} {a2 b2 : Int} {a3 b3 : Int} {a4 b4 : Int} {a5 b5 : Int} {a6 b6 : Int} {a7 b7 : Int} (hx : evo ρ x = some (.agg #[.int .i64 a0, .string a1, .int .i64 a2, .int .i64 a3, .int .i64 a4, .int .i64 a5, .int .i64 a6, .int .i64 a7])) (hy : evo ρ y = some (.agg #[.int .i64 b0, .string b1, .int .i64 b2, .int .i64 b3, .int .i64 b4, .int .i64 b5, .int .i64 b6, .int .i64 b7])) : Yv Tryz.prog N ρ w ⟨d, .binOp .eql 102 x y yt, ty, ps, af, gd⟩ (.bool (decide (a0 = b0 ∧ a1 = b1 ∧ a2 = b2 ∧ a3 = b3 ∧ a4 = b4 ∧ a5 = b5 ∧ a6 = b6 ∧ a7 = b7))) := yv_eqS (by kernel_rfl) (qin102 9997 a0 b0 a1 b1 a2 b2 a3 b3 a4 b4 a5 b5 a6 b6 a7 b7 w) hx hy
theorem yne102 {N : Nat} {ρ : Env} {w : World} {d : Option Nat} {ty : TypeId} {ps : String} {af : Array Edge} {gd : Option (Nat × Bool)} {x y : Operand} {yt : TypeId} {a0 b0 : Int} {a1 b1 : ByteArray} {a2 b2 : Int} {a3 b3 : Int} {a4 b4 : Int} {a5 b5 : Int} {a6 b6 : Int} {a7 b7 : Int} (hx : evo ρ x = some (.agg #[.int .i64 a0, .string a1, .int .i64 a2, .int .i64 a3, .int .i64 a4, .int .i64 a5, .int .i64 a6, .int .i64 a7])) (hy : evo ρ y = some (.agg #[.int .i64 b0, .string b1, .int .i64 b2, .int .i64 b3, .int .i64 b4, .int .i64 b5, .int .i64 b6, .int .i64 b7])) : Yv Tryz.prog N ρ w ⟨d, .binOp .neq 102 x y yt, ty, ps, af, gd⟩ (.bool (decide (¬ (a0 = b0 ∧ a1 = b1 ∧ a2 = b2 ∧ a3 = b3 ∧ a4 = b4 ∧ a5 = b5 ∧ a6 = b6 ∧ a7 = b7)))) := yv_neS (by kernel_rfl) (qin102 9997 a0 b0 a1 b1 a2 b2 a3 b3 a4 b4 a5 b5 a6 b6 a7 b7 w) hx hy
theorem qin139 (d : Nat) (a0 b0 : Int) (a1 b1 : Int) (a2 b2 : Int) (a3 b3 : Int) (w : World) : (Op.equalIn (d + 3) 139 (.agg #[.int .i64 a0, .int .i64 a1, .int .i64 a2, .int .i64 a3]) (.agg #[.int .i64 b0, .int .i64 b1, .int .i64 b2, .int .i64 b3])).run Tryz.prog w = .ok (decide (a0 = b0 ∧ a1 = b1 ∧ a2 = b2 ∧ a3 = b3)) w := by
  rw [run_equalIn_agg w (d + 2) 139 _ _ (by kernel_rfl) (by kernel_rfl)]
  rw [show Tryz.prog.fieldsOf 139 = #[{ name := "Element", type := 3, offset := 0, embedded := false, tag := "", pkgPath := "", byteOffset := 0 }, { name := "Side", type := 3, offset := 1, embedded := false, tag := "", pkgPath := "", byteOffset := 8 }, { name := "From", type := 3, offset := 2, embedded := false, tag := "", pkgPath := "", byteOffset := 16 }, { name := "To", type := 3, offset := 3, embedded := false, tag := "", pkgPath := "", byteOffset := 24 }] from by kernel_rfl]
  have p3 : ∀ cs off v w, cs[off]? = some v → (part 3 cs off).run Tryz.prog w = .ok v w := fun cs off v w h => by simp [part, run_isAgg1, h]
  have q3 := fun d a b w => run_equalIn_int (P := Tryz.prog) w d 3 .i64 .i64 a b Tryz.underlying3
  simp [Op.eqFields, p3, q3]
  repeat (split <;> simp_all)
theorem yeq139 {N : Nat} {ρ : Env} {w : World} {d : Option Nat} {ty : TypeId} {ps : String} {af : Array Edge} {gd : Option (Nat × Bool)} {x y : Operand} {yt : TypeId} {a0 b0 : Int} {a1 b1 : Int} {a2 b2 : Int} {a3 b3 : Int} (hx : evo ρ x = some (.agg #[.int .i64 a0, .int .i64 a1, .int .i64 a2, .int .i64 a3])) (hy : evo ρ y = some (.agg #[.int .i64 b0, .int .i64 b1, .int .i64 b2, .int .i64 b3])) : Yv Tryz.prog N ρ w ⟨d, .binOp .eql 139 x y yt, ty, ps, af, gd⟩ (.bool (decide (a0 = b0 ∧ a1 = b1 ∧ a2 = b2 ∧ a3 = b3))) := yv_eqS (by kernel_rfl) (qin139 9997 a0 b0 a1 b1 a2 b2 a3 b3 w) hx hy
theorem yne139 {N : Nat} {ρ : Env} {w : World} {d : Option Nat} {ty : TypeId} {ps : String} {af : Array Edge} {gd : Option (Nat × Bool)} {x y : Operand} {yt : TypeId} {a0 b0 : Int} {a1 b1 : Int} {a2 b2 : Int} {a3 b3 : Int} (hx : evo ρ x = some (.agg #[.int .i64 a0, .int .i64 a1, .int .i64 a2, .int .i64 a3])) (hy : evo ρ y = some (.agg #[.int .i64 b0, .int .i64 b1, .int .i64 b2, .int .i64 b3])) : Yv Tryz.prog N ρ w ⟨d, .binOp .neq 139 x y yt, ty, ps, af, gd⟩ (.bool (decide (¬ (a0 = b0 ∧ a1 = b1 ∧ a2 = b2 ∧ a3 = b3)))) := yv_neS (by kernel_rfl) (qin139 9997 a0 b0 a1 b1 a2 b2 a3 b3 w) hx hy
theorem qin141 (d : Nat) (a0 b0 : Int) (a1 b1 : Int) (a2 b2 : Int) (a3 b3 : Int) (a4 b4 : Int) (w : World) : (Op.equalIn (d + 3) 141 (.agg #[.int .i64 a0, .int .i64 a1, .int .i64 a2, .int .i64 a3, .int .i64 a4]) (.agg #[.int .i64 b0, .int .i64 b1, .int .i64 b2, .int .i64 b3, .int .i64 b4])).run Tryz.prog w = .ok (decide (a0 = b0 ∧ a1 = b1 ∧ a2 = b2 ∧ a3 = b3 ∧ a4 = b4)) w := by
  rw [run_equalIn_agg w (d + 2) 141 _ _ (by kernel_rfl) (by kernel_rfl)]
  rw [show Tryz.prog.fieldsOf 141 = #[{ name := "Kind", type := 3, offset := 0, embedded := false, tag := "", pkgPath := "", byteOffset := 0 }, { name := "Cut", type := 3, offset := 1, embedded := false, tag := "", pkgPath := "", byteOffset := 8 }, { name := "Other", type := 3, offset := 2, embedded := false, tag := "", pkgPath := "", byteOffset := 16 }, { name := "Element", type := 3, offset := 3, embedded := false, tag := "", pkgPath := "", byteOffset := 24 }, { name := "Time", type := 3, offset := 4, embedded := false, tag := "", pkgPath := "", byteOffset := 32 }] from by kernel_rfl]
  have p3 : ∀ cs off v w, cs[off]? = some v → (part 3 cs off).run Tryz.prog w = .ok v w := fun cs off v w h => by simp [part, run_isAgg1, h]
  have q3 := fun d a b w => run_equalIn_int (P := Tryz.prog) w d 3 .i64 .i64 a b Tryz.underlying3
  simp [Op.eqFields, p3, q3]
  repeat (split <;> simp_all)
theorem yeq141 {N : Nat} {ρ : Env} {w : World} {d : Option Nat} {ty : TypeId} {ps : String} {af : Array Edge} {gd : Option (Nat × Bool)} {x y : Operand} {yt : TypeId} {a0 b0 : Int} {a1 b1 : Int} {a2 b2 : Int} {a3 b3 : Int} {a4 b4 : Int} (hx : evo ρ x = some (.agg #[.int .i64 a0, .int .i64 a1, .int .i64 a2, .int .i64 a3, .int .i64 a4])) (hy : evo ρ y = some (.agg #[.int .i64 b0, .int .i64 b1, .int .i64 b2, .int .i64 b3, .int .i64 b4])) : Yv Tryz.prog N ρ w ⟨d, .binOp .eql 141 x y yt, ty, ps, af, gd⟩ (.bool (decide (a0 = b0 ∧ a1 = b1 ∧ a2 = b2 ∧ a3 = b3 ∧ a4 = b4))) := yv_eqS (by kernel_rfl) (qin141 9997 a0 b0 a1 b1 a2 b2 a3 b3 a4 b4 w) hx hy
theorem yne141 {N : Nat} {ρ : Env} {w : World} {d : Option Nat} {ty : TypeId} {ps : String} {af : Array Edge} {gd : Option (Nat × Bool)} {x y : Operand} {yt : TypeId} {a0 b0 : Int} {a1 b1 : Int} {a2 b2 : Int} {a3 b3 : Int} {a4 b4 : Int} (hx : evo ρ x = some (.agg #[.int .i64 a0, .int .i64 a1, .int .i64 a2, .int .i64 a3, .int .i64 a4])) (hy : evo ρ y = some (.agg #[.int .i64 b0, .int .i64 b1, .int .i64 b2, .int .i64 b3, .int .i64 b4])) : Yv Tryz.prog N ρ w ⟨d, .binOp .neq 141 x y yt, ty, ps, af, gd⟩ (.bool (decide (¬ (a0 = b0 ∧ a1 = b1 ∧ a2 = b2 ∧ a3 = b3 ∧ a4 = b4)))) := yv_neS (by kernel_rfl) (qin141 9997 a0 b0 a1 b1 a2 b2 a3 b3 a4 b4 w) hx hy
theorem qin151 (d : Nat) (a0 b0 : Int) (a1 b1 : Int) (w : World) : (Op.equalIn (d + 3) 151 (.agg #[.int .i64 a0, .int .i64 a1]) (.agg #[.int .i64 b0, .int .i64 b1])).run Tryz.prog w = .ok (decide (a0 = b0 ∧ a1 = b1)) w := by
  rw [run_equalIn_agg w (d + 2) 151 _ _ (by kernel_rfl) (by kernel_rfl)]
  rw [show Tryz.prog.fieldsOf 151 = #[{ name := "section", type := 3, offset := 0, embedded := false, tag := "", pkgPath := "humpyard/section", byteOffset := 0 }, { name := "detector", type := 3, offset := 1, embedded := false, tag := "", pkgPath := "humpyard/section", byteOffset := 8 }] from by kernel_rfl]
  have p3 : ∀ cs off v w, cs[off]? = some v → (part 3 cs off).run Tryz.prog w = .ok v w := fun cs off v w h => by simp [part, run_isAgg1, h]
  have q3 := fun d a b w => run_equalIn_int (P := Tryz.prog) w d 3 .i64 .i64 a b Tryz.underlying3
  simp [Op.eqFields, p3, q3]
  by_cases h0 : a0 = b0 <;> by_cases h1 : a1 = b1 <;> simp [h0, h1]
theorem yeq151 {N : Nat} {ρ : Env} {w : World} {d : Option Nat} {ty : TypeId} {ps : String} {af : Array Edge} {gd : Option (Nat × Bool)} {x y : Operand} {yt : TypeId} {a0 b0 : Int} {a1 b1 : Int} (hx : evo ρ x = some (.agg #[.int .i64 a0, .int .i64 a1])) (hy : evo ρ y = some (.agg #[.int .i64 b0, .int .i64 b1])) : Yv Tryz.prog N ρ w ⟨d, .binOp .eql 151 x y yt, ty, ps, af, gd⟩ (.bool (decide (a0 = b0 ∧ a1 = b1))) := yv_eqS (by kernel_rfl) (qin151 9997 a0 b0 a1 b1 w) hx hy
theorem yne151 {N : Nat} {ρ : Env} {w : World} {d : Option Nat} {ty : TypeId} {ps : String} {af : Array Edge} {gd : Option (Nat × Bool)} {x y : Operand} {yt : TypeId} {a0 b0 : Int} {a1 b1 : Int} (hx : evo ρ x = some (.agg #[.int .i64 a0, .int .i64 a1])) (hy : evo ρ y = some (.agg #[.int .i64 b0, .int .i64 b1])) : Yv Tryz.prog N ρ w ⟨d, .binOp .neq 151 x y yt, ty, ps, af, gd⟩ (.bool (decide (¬ (a0 = b0 ∧ a1 = b1)))) := yv_neS (by kernel_rfl) (qin151 9997 a0 b0 a1 b1 w) hx hy
theorem qin237 (d : Nat) (a0 b0 : Int) (a1 b1 : Int) (w : World) : (Op.equalIn (d + 3) 237 (.agg #[.int .i64 a0, .int .i64 a1]) (.agg #[.int .i64 b0, .int .i64 b1])).run Tryz.prog w = .ok (decide (a0 = b0 ∧ a1 = b1)) w := by
  rw [run_equalIn_agg w (d + 2) 237 _ _ (by kernel_rfl) (by kernel_rfl)]
  rw [show Tryz.prog.fieldsOf 237 = #[{ name := "parent", type := 3, offset := 0, embedded := false, tag := "", pkgPath := "humpyard/layout", byteOffset := 0 }, { name := "side", type := 3, offset := 1, embedded := false, tag := "", pkgPath := "humpyard/layout", byteOffset := 8 }] from by kernel_rfl]
  have p3 : ∀ cs off v w, cs[off]? = some v → (part 3 cs off).run Tryz.prog w = .ok v w := fun cs off v w h => by simp [part, run_isAgg1, h]
  have q3 := fun d a b w => run_equalIn_int (P := Tryz.prog) w d 3 .i64 .i64 a b Tryz.underlying3
  simp [Op.eqFields, p3, q3]
  by_cases h0 : a0 = b0 <;> by_cases h1 : a1 = b1 <;> simp [h0, h1]
theorem yeq237 {N : Nat} {ρ : Env} {w : World} {d : Option Nat} {ty : TypeId} {ps : String} {af : Array Edge} {gd : Option (Nat × Bool)} {x y : Operand} {yt : TypeId} {a0 b0 : Int} {a1 b1 : Int} (hx : evo ρ x = some (.agg #[.int .i64 a0, .int .i64 a1])) (hy : evo ρ y = some (.agg #[.int .i64 b0, .int .i64 b1])) : Yv Tryz.prog N ρ w ⟨d, .binOp .eql 237 x y yt, ty, ps, af, gd⟩ (.bool (decide (a0 = b0 ∧ a1 = b1))) := yv_eqS (by kernel_rfl) (qin237 9997 a0 b0 a1 b1 w) hx hy
theorem yne237 {N : Nat} {ρ : Env} {w : World} {d : Option Nat} {ty : TypeId} {ps : String} {af : Array Edge} {gd : Option (Nat × Bool)} {x y : Operand} {yt : TypeId} {a0 b0 : Int} {a1 b1 : Int} (hx : evo ρ x = some (.agg #[.int .i64 a0, .int .i64 a1])) (hy : evo ρ y = some (.agg #[.int .i64 b0, .int .i64 b1])) : Yv Tryz.prog N ρ w ⟨d, .binOp .neq 237 x y yt, ty, ps, af, gd⟩ (.bool (decide (¬ (a0 = b0 ∧ a1 = b1)))) := yv_neS (by kernel_rfl) (qin237 9997 a0 b0 a1 b1 w) hx hy
end Go.Proofs.YtdgminllobhncaaGreat
