/-
  What the proof leans on, part 3: plain rules, plain models of the functions, and what they give. No condition.
-/
import Derived.Test.YtdgminllobhncaaGreatK2
import Derived.Test.YtdgminllobhncaaGreatProg
namespace Go.Proofs.YtdgminllobhncaaGreat
open Go.Hy
instance:C1 Tryz.prog 3:=⟨⟨_,Tryz.underlying3,trivial⟩⟩
instance:CN Tryz.prog 3 1:=⟨by kernel_rfl⟩
instance:CZ Tryz.prog 3 (.int .i64 0):=⟨by kernel_rfl⟩
instance:C1 Tryz.prog 4:=⟨⟨_,Tryz.underlying4,trivial⟩⟩
instance:CN Tryz.prog 4 1:=⟨by kernel_rfl⟩
instance:CZ Tryz.prog 4 (.bool false):=⟨by kernel_rfl⟩
instance:C1 Tryz.prog 9:=⟨⟨_,Tryz.underlying9,trivial⟩⟩
instance:CN Tryz.prog 9 1:=⟨by kernel_rfl⟩
instance:CZ Tryz.prog 9 (.string ⟨#[]⟩):=⟨by kernel_rfl⟩
instance:C1 Tryz.prog 22:=⟨⟨_,Tryz.underlying22,trivial⟩⟩
instance:CN Tryz.prog 22 1:=⟨by kernel_rfl⟩
instance:CZ Tryz.prog 22 (.slice none 0 0):=⟨by kernel_rfl⟩
instance:CS Tryz.prog 32 3:=⟨⟨_,Tryz.underlying32,trivial⟩,by kernel_rfl⟩
instance:CN Tryz.prog 32 3:=⟨by kernel_rfl⟩
instance:CZ Tryz.prog 32 (.agg #[.int .i64 0,.slice none 0 0,.slice none 0 0]):=⟨by kernel_rfl⟩
instance:CS Tryz.prog 35 2:=⟨⟨_,Tryz.underlying35,trivial⟩,by kernel_rfl⟩
instance:CN Tryz.prog 35 2:=⟨by kernel_rfl⟩
instance:CZ Tryz.prog 35 (.agg #[.int .i64 0,.int .i64 0]):=⟨by kernel_rfl⟩
instance:C1 Tryz.prog 36:=⟨⟨_,Tryz.underlying36,trivial⟩⟩
instance:CN Tryz.prog 36 1:=⟨by kernel_rfl⟩
instance:CZ Tryz.prog 36 (.slice none 0 0):=⟨by kernel_rfl⟩
instance:CS Tryz.prog 38 5:=⟨⟨_,Tryz.underlying38,trivial⟩,by kernel_rfl⟩
instance:CN Tryz.prog 38 5:=⟨by kernel_rfl⟩
instance:CZ Tryz.prog 38 (.agg #[.int .i64 0,.int .i64 0,.slice none 0 0,.int .i64 0,.slice none 0 0]):=⟨by kernel_rfl⟩
instance:CS Tryz.prog 44 2:=⟨⟨_,Tryz.underlying44,trivial⟩,by kernel_rfl⟩
instance:CN Tryz.prog 44 2:=⟨by kernel_rfl⟩
instance:CZ Tryz.prog 44 (.agg #[.int .i64 0,.int .i64 0]):=⟨by kernel_rfl⟩
instance:CS Tryz.prog 46 3:=⟨⟨_,Tryz.underlying46,trivial⟩,by kernel_rfl⟩
instance:CN Tryz.prog 46 3:=⟨by kernel_rfl⟩
instance:CZ Tryz.prog 46 (.agg #[.int .i64 0,.int .i64 0,.int .i64 0]):=⟨by kernel_rfl⟩
instance:C1 Tryz.prog 51:=⟨⟨_,Tryz.underlying51,trivial⟩⟩
instance:CN Tryz.prog 51 1:=⟨by kernel_rfl⟩
instance:CZ Tryz.prog 51 (.slice none 0 0):=⟨by kernel_rfl⟩
instance:C1 Tryz.prog 52:=⟨⟨_,Tryz.underlying52,trivial⟩⟩
instance:CN Tryz.prog 52 1:=⟨by kernel_rfl⟩
instance:CZ Tryz.prog 52 (.slice none 0 0):=⟨by kernel_rfl⟩
instance:C1 Tryz.prog 53:=⟨⟨_,Tryz.underlying53,trivial⟩⟩
instance:CN Tryz.prog 53 1:=⟨by kernel_rfl⟩
instance:CZ Tryz.prog 53 (.slice none 0 0):=⟨by kernel_rfl⟩
instance:C1 Tryz.prog 54:=⟨⟨_,Tryz.underlying54,trivial⟩⟩
instance:CN Tryz.prog 54 1:=⟨by kernel_rfl⟩
instance:CZ Tryz.prog 54 (.slice none 0 0):=⟨by kernel_rfl⟩
instance:CS Tryz.prog 56 5:=⟨⟨_,Tryz.underlying56,trivial⟩,by kernel_rfl⟩
instance:CN Tryz.prog 56 5:=⟨by kernel_rfl⟩
instance:CZ Tryz.prog 56 (.agg #[.slice none 0 0,.int .i64 0,.slice none 0 0,.slice none 0 0,.slice none 0 0]):=⟨by kernel_rfl⟩
instance:C1 Tryz.prog 57:=⟨⟨_,Tryz.underlying57,trivial⟩⟩
instance:CN Tryz.prog 57 1:=⟨by kernel_rfl⟩
instance:CZ Tryz.prog 57 (.slice none 0 0):=⟨by kernel_rfl⟩
instance:CS Tryz.prog 59 8:=⟨⟨_,Tryz.underlying59,trivial⟩,by kernel_rfl⟩
instance:CN Tryz.prog 59 8:=⟨by kernel_rfl⟩
instance:CZ Tryz.prog 59 (.agg #[.slice none 0 0,.int .i64 0,.slice none 0 0,.slice none 0 0,.slice none 0 0,.slice none 0 0,.slice none 0 0,.bool false]):=⟨by kernel_rfl⟩
instance:CS Tryz.prog 65 2:=⟨⟨_,Tryz.underlying65,trivial⟩,by kernel_rfl⟩
instance:CN Tryz.prog 65 2:=⟨by kernel_rfl⟩
instance:CZ Tryz.prog 65 (.agg #[.slice none 0 0,.int .i64 0]):=⟨by kernel_rfl⟩
instance:CS Tryz.prog 69 5:=⟨⟨_,Tryz.underlying69,trivial⟩,by kernel_rfl⟩
instance:CN Tryz.prog 69 5:=⟨by kernel_rfl⟩
instance:CZ Tryz.prog 69 (.agg #[.int .i64 0,.int .i64 0,.int .i64 0,.int .i64 0,.int .i64 0]):=⟨by kernel_rfl⟩
instance:CS Tryz.prog 78 3:=⟨⟨_,Tryz.underlying78,trivial⟩,by kernel_rfl⟩
instance:CN Tryz.prog 78 3:=⟨by kernel_rfl⟩
instance:CZ Tryz.prog 78 (.agg #[.int .i64 0,.int .i64 0,.int .i64 0]):=⟨by kernel_rfl⟩
instance:C1 Tryz.prog 81:=⟨⟨_,Tryz.underlying81,trivial⟩⟩
instance:CN Tryz.prog 81 1:=⟨by kernel_rfl⟩
instance:CZ Tryz.prog 81 (.slice none 0 0):=⟨by kernel_rfl⟩
instance:CS Tryz.prog 83 2:=⟨⟨_,Tryz.underlying83,trivial⟩,by kernel_rfl⟩
instance:CN Tryz.prog 83 2:=⟨by kernel_rfl⟩
instance:CZ Tryz.prog 83 (.agg #[.slice none 0 0,.int .i64 0]):=⟨by kernel_rfl⟩
instance:CS Tryz.prog 85 2:=⟨⟨_,Tryz.underlying85,trivial⟩,by kernel_rfl⟩
instance:CN Tryz.prog 85 2:=⟨by kernel_rfl⟩
instance:CZ Tryz.prog 85 (.agg #[.int .i64 0,.slice none 0 0]):=⟨by kernel_rfl⟩
instance:CS Tryz.prog 87 3:=⟨⟨_,Tryz.underlying87,trivial⟩,by kernel_rfl⟩
instance:CN Tryz.prog 87 3:=⟨by kernel_rfl⟩
instance:CZ Tryz.prog 87 (.agg #[.int .i64 0,.slice none 0 0,.slice none 0 0]):=⟨by kernel_rfl⟩
instance:CS Tryz.prog 89 6:=⟨⟨_,Tryz.underlying89,trivial⟩,by kernel_rfl⟩
instance:CN Tryz.prog 89 6:=⟨by kernel_rfl⟩
instance:CZ Tryz.prog 89 (.agg #[.slice none 0 0,.int .i64 0,.int .i64 0,.slice none 0 0,.slice none 0 0,.slice none 0 0]):=⟨by kernel_rfl⟩
instance:CS Tryz.prog 93 4:=⟨⟨_,Tryz.underlying93,trivial⟩,by kernel_rfl⟩
instance:CN Tryz.prog 93 4:=⟨by kernel_rfl⟩
instance:CZ Tryz.prog 93 (.agg #[.int .i64 0,.int .i64 0,.int .i64 0,.int .i64 0]):=⟨by kernel_rfl⟩
instance:C1 Tryz.prog 94:=⟨⟨_,Tryz.underlying94,trivial⟩⟩
instance:CN Tryz.prog 94 1:=⟨by kernel_rfl⟩
instance:CZ Tryz.prog 94 (.slice none 0 0):=⟨by kernel_rfl⟩
instance:CS Tryz.prog 96 2:=⟨⟨_,Tryz.underlying96,trivial⟩,by kernel_rfl⟩
instance:CN Tryz.prog 96 2:=⟨by kernel_rfl⟩
instance:CZ Tryz.prog 96 (.agg #[.slice none 0 0,.int .i64 0]):=⟨by kernel_rfl⟩
instance:CS Tryz.prog 102 8:=⟨⟨_,Tryz.underlying102,trivial⟩,by kernel_rfl⟩
instance:CN Tryz.prog 102 8:=⟨by kernel_rfl⟩
instance:CZ Tryz.prog 102 (.agg #[.int .i64 0,.string ⟨#[]⟩,.int .i64 0,.int .i64 0,.int .i64 0,.int .i64 0,.int .i64 0,.int .i64 0]):=⟨by kernel_rfl⟩
instance:CS Tryz.prog 104 6:=⟨⟨_,Tryz.underlying104,trivial⟩,by kernel_rfl⟩
instance:CN Tryz.prog 104 6:=⟨by kernel_rfl⟩
instance:CZ Tryz.prog 104 (.agg #[.int .i64 0,.int .i64 0,.int .i64 0,.int .i64 0,.slice none 0 0,.slice none 0 0]):=⟨by kernel_rfl⟩
instance:C1 Tryz.prog 112:=⟨⟨_,Tryz.underlying112,trivial⟩⟩
instance:CN Tryz.prog 112 1:=⟨by kernel_rfl⟩
instance:CZ Tryz.prog 112 (.slice none 0 0):=⟨by kernel_rfl⟩
instance:CS Tryz.prog 116 6:=⟨⟨_,Tryz.underlying116,trivial⟩,by kernel_rfl⟩
instance:CN Tryz.prog 116 6:=⟨by kernel_rfl⟩
instance:CZ Tryz.prog 116 (.agg #[.int .i64 0,.int .i64 0,.int .i64 0,.int .i64 0,.bool false,.bool false]):=⟨by kernel_rfl⟩
instance:CS Tryz.prog 119 2:=⟨⟨_,Tryz.underlying119,trivial⟩,by kernel_rfl⟩
instance:CN Tryz.prog 119 2:=⟨by kernel_rfl⟩
instance:CZ Tryz.prog 119 (.agg #[.int .i64 0,.int .i64 0]):=⟨by kernel_rfl⟩
instance:C1 Tryz.prog 124:=⟨⟨_,Tryz.underlying124,trivial⟩⟩
instance:CN Tryz.prog 124 1:=⟨by kernel_rfl⟩
instance:CZ Tryz.prog 124 (.slice none 0 0):=⟨by kernel_rfl⟩
instance:C1 Tryz.prog 125:=⟨⟨_,Tryz.underlying125,trivial⟩⟩
instance:CN Tryz.prog 125 1:=⟨by kernel_rfl⟩
instance:CZ Tryz.prog 125 (.slice none 0 0):=⟨by kernel_rfl⟩
instance:CS Tryz.prog 132 4:=⟨⟨_,Tryz.underlying132,trivial⟩,by kernel_rfl⟩
instance:CN Tryz.prog 132 4:=⟨by kernel_rfl⟩
instance:CZ Tryz.prog 132 (.agg #[.int .i64 0,.int .i64 0,.int .i64 0,.int .i64 0]):=⟨by kernel_rfl⟩
instance:CS Tryz.prog 137 2:=⟨⟨_,Tryz.underlying137,trivial⟩,by kernel_rfl⟩
instance:CN Tryz.prog 137 2:=⟨by kernel_rfl⟩
instance:CZ Tryz.prog 137 (.agg #[.int .i64 0,.slice none 0 0]):=⟨by kernel_rfl⟩
instance:CS Tryz.prog 139 4:=⟨⟨_,Tryz.underlying139,trivial⟩,by kernel_rfl⟩
instance:CN Tryz.prog 139 4:=⟨by kernel_rfl⟩
instance:CZ Tryz.prog 139 (.agg #[.int .i64 0,.int .i64 0,.int .i64 0,.int .i64 0]):=⟨by kernel_rfl⟩
instance:CS Tryz.prog 141 5:=⟨⟨_,Tryz.underlying141,trivial⟩,by kernel_rfl⟩
instance:CN Tryz.prog 141 5:=⟨by kernel_rfl⟩
instance:CZ Tryz.prog 141 (.agg #[.int .i64 0,.int .i64 0,.int .i64 0,.int .i64 0,.int .i64 0]):=⟨by kernel_rfl⟩
instance:CS Tryz.prog 151 2:=⟨⟨_,Tryz.underlying151,trivial⟩,by kernel_rfl⟩
instance:CN Tryz.prog 151 2:=⟨by kernel_rfl⟩
instance:CZ Tryz.prog 151 (.agg #[.int .i64 0,.int .i64 0]):=⟨by kernel_rfl⟩
instance:CS Tryz.prog 156 4:=⟨⟨_,Tryz.underlying156,trivial⟩,by kernel_rfl⟩
instance:CN Tryz.prog 156 4:=⟨by kernel_rfl⟩
instance:CZ Tryz.prog 156 (.agg #[.int .i64 0,.int .i64 0,.int .i64 0,.int .i64 0]):=⟨by kernel_rfl⟩
instance:CS Tryz.prog 162 8:=⟨⟨_,Tryz.underlying162,trivial⟩,by kernel_rfl⟩
instance:CN Tryz.prog 162 8:=⟨by kernel_rfl⟩
instance:CZ Tryz.prog 162 (.agg #[.slice none 0 0,.int .i64 0,.int .i64 0,.slice none 0 0,.slice none 0 0,.slice none 0 0,.int .i64 0,.int .i64 0]):=⟨by kernel_rfl⟩
instance:CS Tryz.prog 165 2:=⟨⟨_,Tryz.underlying165,trivial⟩,by kernel_rfl⟩
instance:CN Tryz.prog 165 2:=⟨by kernel_rfl⟩
instance:CZ Tryz.prog 165 (.agg #[.int .i64 0,.int .i64 0]):=⟨by kernel_rfl⟩
instance:C1 Tryz.prog 182:=⟨⟨_,Tryz.underlying182,trivial⟩⟩
instance:CN Tryz.prog 182 1:=⟨by kernel_rfl⟩
instance:CZ Tryz.prog 182 (.map none):=⟨by kernel_rfl⟩
instance:C1 Tryz.prog 183:=⟨⟨_,Tryz.underlying183,trivial⟩⟩
instance:CN Tryz.prog 183 1:=⟨by kernel_rfl⟩
instance:CZ Tryz.prog 183 (.map none):=⟨by kernel_rfl⟩
instance:CS Tryz.prog 185 9:=⟨⟨_,Tryz.underlying185,trivial⟩,by kernel_rfl⟩
instance:CN Tryz.prog 185 9:=⟨by kernel_rfl⟩
instance:CZ Tryz.prog 185 (.agg #[.slice none 0 0,.int .i64 0,.slice none 0 0,.slice none 0 0,.slice none 0 0,.map none,.map none,.slice none 0 0,.slice none 0 0]):=⟨by kernel_rfl⟩
instance:CS Tryz.prog 191 8:=⟨⟨_,Tryz.underlying191,trivial⟩,by kernel_rfl⟩
instance:CN Tryz.prog 191 8:=⟨by kernel_rfl⟩
instance:CZ Tryz.prog 191 (.agg #[.slice none 0 0,.int .i64 0,.slice none 0 0,.slice none 0 0,.slice none 0 0,.slice none 0 0,.slice none 0 0,.slice none 0 0]):=⟨by kernel_rfl⟩
instance:CS Tryz.prog 237 2:=⟨⟨_,Tryz.underlying237,trivial⟩,by kernel_rfl⟩
instance:CN Tryz.prog 237 2:=⟨by kernel_rfl⟩
instance:CZ Tryz.prog 237 (.agg #[.int .i64 0,.int .i64 0]):=⟨by kernel_rfl⟩
instance:C1 Tryz.prog 279:=⟨⟨_,Tryz.underlying279,trivial⟩⟩
instance:CN Tryz.prog 279 1:=⟨by kernel_rfl⟩
instance:CZ Tryz.prog 279 (.int .u64 0):=⟨by kernel_rfl⟩
instance:CF Tryz.prog 32 0 0:=⟨_,_,Tryz.underlying32,rfl,rfl,0,by kernel_rfl⟩
instance:CF Tryz.prog 32 1 1:=⟨_,_,Tryz.underlying32,rfl,rfl,0,by kernel_rfl⟩
instance:CF Tryz.prog 32 2 2:=⟨_,_,Tryz.underlying32,rfl,rfl,0,by kernel_rfl⟩
instance:CF Tryz.prog 35 0 0:=⟨_,_,Tryz.underlying35,rfl,rfl,0,by kernel_rfl⟩
instance:CF Tryz.prog 35 1 1:=⟨_,_,Tryz.underlying35,rfl,rfl,0,by kernel_rfl⟩
instance:CF Tryz.prog 38 0 0:=⟨_,_,Tryz.underlying38,rfl,rfl,1,by kernel_rfl⟩
instance:CF Tryz.prog 38 1 2:=⟨_,_,Tryz.underlying38,rfl,rfl,0,by kernel_rfl⟩
instance:CF Tryz.prog 38 2 3:=⟨_,_,Tryz.underlying38,rfl,rfl,0,by kernel_rfl⟩
instance:CF Tryz.prog 38 3 4:=⟨_,_,Tryz.underlying38,rfl,rfl,0,by kernel_rfl⟩
instance:CF Tryz.prog 44 0 0:=⟨_,_,Tryz.underlying44,rfl,rfl,0,by kernel_rfl⟩
instance:CF Tryz.prog 44 1 1:=⟨_,_,Tryz.underlying44,rfl,rfl,0,by kernel_rfl⟩
instance:CF Tryz.prog 46 0 0:=⟨_,_,Tryz.underlying46,rfl,rfl,0,by kernel_rfl⟩
instance:CF Tryz.prog 46 1 1:=⟨_,_,Tryz.underlying46,rfl,rfl,0,by kernel_rfl⟩
instance:CF Tryz.prog 46 2 2:=⟨_,_,Tryz.underlying46,rfl,rfl,0,by kernel_rfl⟩
instance:CF Tryz.prog 56 0 0:=⟨_,_,Tryz.underlying56,rfl,rfl,0,by kernel_rfl⟩
instance:CF Tryz.prog 56 1 1:=⟨_,_,Tryz.underlying56,rfl,rfl,0,by kernel_rfl⟩
instance:CF Tryz.prog 56 2 2:=⟨_,_,Tryz.underlying56,rfl,rfl,0,by kernel_rfl⟩
instance:CF Tryz.prog 56 3 3:=⟨_,_,Tryz.underlying56,rfl,rfl,0,by kernel_rfl⟩
instance:CF Tryz.prog 56 4 4:=⟨_,_,Tryz.underlying56,rfl,rfl,0,by kernel_rfl⟩
instance:CF Tryz.prog 59 0 0:=⟨_,_,Tryz.underlying59,rfl,rfl,4,by kernel_rfl⟩
instance:CF Tryz.prog 59 1 5:=⟨_,_,Tryz.underlying59,rfl,rfl,0,by kernel_rfl⟩
instance:CF Tryz.prog 59 2 6:=⟨_,_,Tryz.underlying59,rfl,rfl,0,by kernel_rfl⟩
instance:CF Tryz.prog 59 3 7:=⟨_,_,Tryz.underlying59,rfl,rfl,0,by kernel_rfl⟩
instance:CF Tryz.prog 65 0 0:=⟨_,_,Tryz.underlying65,rfl,rfl,0,by kernel_rfl⟩
instance:CF Tryz.prog 65 1 1:=⟨_,_,Tryz.underlying65,rfl,rfl,0,by kernel_rfl⟩
instance:CF Tryz.prog 69 0 0:=⟨_,_,Tryz.underlying69,rfl,rfl,0,by kernel_rfl⟩
instance:CF Tryz.prog 69 1 1:=⟨_,_,Tryz.underlying69,rfl,rfl,0,by kernel_rfl⟩
instance:CF Tryz.prog 69 2 2:=⟨_,_,Tryz.underlying69,rfl,rfl,0,by kernel_rfl⟩
instance:CF Tryz.prog 69 3 3:=⟨_,_,Tryz.underlying69,rfl,rfl,0,by kernel_rfl⟩
instance:CF Tryz.prog 69 4 4:=⟨_,_,Tryz.underlying69,rfl,rfl,0,by kernel_rfl⟩
instance:CF Tryz.prog 78 0 0:=⟨_,_,Tryz.underlying78,rfl,rfl,0,by kernel_rfl⟩
instance:CF Tryz.prog 78 1 1:=⟨_,_,Tryz.underlying78,rfl,rfl,0,by kernel_rfl⟩
instance:CF Tryz.prog 78 2 2:=⟨_,_,Tryz.underlying78,rfl,rfl,0,by kernel_rfl⟩
instance:CF Tryz.prog 83 0 0:=⟨_,_,Tryz.underlying83,rfl,rfl,0,by kernel_rfl⟩
instance:CF Tryz.prog 83 1 1:=⟨_,_,Tryz.underlying83,rfl,rfl,0,by kernel_rfl⟩
instance:CF Tryz.prog 85 0 0:=⟨_,_,Tryz.underlying85,rfl,rfl,0,by kernel_rfl⟩
instance:CF Tryz.prog 85 1 1:=⟨_,_,Tryz.underlying85,rfl,rfl,0,by kernel_rfl⟩
instance:CF Tryz.prog 87 0 0:=⟨_,_,Tryz.underlying87,rfl,rfl,1,by kernel_rfl⟩
instance:CF Tryz.prog 89 0 0:=⟨_,_,Tryz.underlying89,rfl,rfl,1,by kernel_rfl⟩
instance:CF Tryz.prog 89 1 2:=⟨_,_,Tryz.underlying89,rfl,rfl,2,by kernel_rfl⟩
instance:CF Tryz.prog 93 0 0:=⟨_,_,Tryz.underlying93,rfl,rfl,0,by kernel_rfl⟩
instance:CF Tryz.prog 93 1 1:=⟨_,_,Tryz.underlying93,rfl,rfl,0,by kernel_rfl⟩
instance:CF Tryz.prog 93 2 2:=⟨_,_,Tryz.underlying93,rfl,rfl,0,by kernel_rfl⟩
instance:CF Tryz.prog 93 3 3:=⟨_,_,Tryz.underlying93,rfl,rfl,0,by kernel_rfl⟩
instance:CF Tryz.prog 96 0 0:=⟨_,_,Tryz.underlying96,rfl,rfl,0,by kernel_rfl⟩
instance:CF Tryz.prog 96 1 1:=⟨_,_,Tryz.underlying96,rfl,rfl,0,by kernel_rfl⟩
instance:CF Tryz.prog 102 0 0:=⟨_,_,Tryz.underlying102,rfl,rfl,0,by kernel_rfl⟩
instance:CF Tryz.prog 102 1 1:=⟨_,_,Tryz.underlying102,rfl,rfl,0,by kernel_rfl⟩
instance:CF Tryz.prog 102 2 2:=⟨_,_,Tryz.underlying102,rfl,rfl,0,by kernel_rfl⟩
instance:CF Tryz.prog 102 3 3:=⟨_,_,Tryz.underlying102,rfl,rfl,0,by kernel_rfl⟩
instance:CF Tryz.prog 102 4 4:=⟨_,_,Tryz.underlying102,rfl,rfl,0,by kernel_rfl⟩
instance:CF Tryz.prog 102 5 5:=⟨_,_,Tryz.underlying102,rfl,rfl,0,by kernel_rfl⟩
instance:CF Tryz.prog 102 6 6:=⟨_,_,Tryz.underlying102,rfl,rfl,0,by kernel_rfl⟩
instance:CF Tryz.prog 102 7 7:=⟨_,_,Tryz.underlying102,rfl,rfl,0,by kernel_rfl⟩
instance:CF Tryz.prog 104 0 0:=⟨_,_,Tryz.underlying104,rfl,rfl,0,by kernel_rfl⟩
instance:CF Tryz.prog 104 1 1:=⟨_,_,Tryz.underlying104,rfl,rfl,0,by kernel_rfl⟩
instance:CF Tryz.prog 104 2 2:=⟨_,_,Tryz.underlying104,rfl,rfl,0,by kernel_rfl⟩
instance:CF Tryz.prog 104 3 3:=⟨_,_,Tryz.underlying104,rfl,rfl,0,by kernel_rfl⟩
instance:CF Tryz.prog 104 4 4:=⟨_,_,Tryz.underlying104,rfl,rfl,0,by kernel_rfl⟩
instance:CF Tryz.prog 104 5 5:=⟨_,_,Tryz.underlying104,rfl,rfl,0,by kernel_rfl⟩
instance:CF Tryz.prog 116 0 0:=⟨_,_,Tryz.underlying116,rfl,rfl,1,by kernel_rfl⟩
instance:CF Tryz.prog 116 1 2:=⟨_,_,Tryz.underlying116,rfl,rfl,1,by kernel_rfl⟩
instance:CF Tryz.prog 116 2 4:=⟨_,_,Tryz.underlying116,rfl,rfl,0,by kernel_rfl⟩
instance:CF Tryz.prog 116 3 5:=⟨_,_,Tryz.underlying116,rfl,rfl,0,by kernel_rfl⟩
instance:CF Tryz.prog 119 0 0:=⟨_,_,Tryz.underlying119,rfl,rfl,0,by kernel_rfl⟩
instance:CF Tryz.prog 119 1 1:=⟨_,_,Tryz.underlying119,rfl,rfl,0,by kernel_rfl⟩
instance:CF Tryz.prog 132 0 0:=⟨_,_,Tryz.underlying132,rfl,rfl,0,by kernel_rfl⟩
instance:CF Tryz.prog 132 1 1:=⟨_,_,Tryz.underlying132,rfl,rfl,0,by kernel_rfl⟩
instance:CF Tryz.prog 132 2 2:=⟨_,_,Tryz.underlying132,rfl,rfl,0,by kernel_rfl⟩
instance:CF Tryz.prog 132 3 3:=⟨_,_,Tryz.underlying132,rfl,rfl,0,by kernel_rfl⟩
instance:CF Tryz.prog 137 0 0:=⟨_,_,Tryz.underlying137,rfl,rfl,0,by kernel_rfl⟩
instance:CF Tryz.prog 137 1 1:=⟨_,_,Tryz.underlying137,rfl,rfl,0,by kernel_rfl⟩
instance:CF Tryz.prog 139 0 0:=⟨_,_,Tryz.underlying139,rfl,rfl,0,by kernel_rfl⟩
instance:CF Tryz.prog 139 1 1:=⟨_,_,Tryz.underlying139,rfl,rfl,0,by kernel_rfl⟩
instance:CF Tryz.prog 139 2 2:=⟨_,_,Tryz.underlying139,rfl,rfl,0,by kernel_rfl⟩
instance:CF Tryz.prog 139 3 3:=⟨_,_,Tryz.underlying139,rfl,rfl,0,by kernel_rfl⟩
instance:CF Tryz.prog 141 0 0:=⟨_,_,Tryz.underlying141,rfl,rfl,0,by kernel_rfl⟩
instance:CF Tryz.prog 156 0 0:=⟨_,_,Tryz.underlying156,rfl,rfl,0,by kernel_rfl⟩
instance:CF Tryz.prog 156 1 1:=⟨_,_,Tryz.underlying156,rfl,rfl,0,by kernel_rfl⟩
instance:CF Tryz.prog 156 2 2:=⟨_,_,Tryz.underlying156,rfl,rfl,0,by kernel_rfl⟩
instance:CF Tryz.prog 162 0 0:=⟨_,_,Tryz.underlying162,rfl,rfl,1,by kernel_rfl⟩
instance:CF Tryz.prog 162 1 2:=⟨_,_,Tryz.underlying162,rfl,rfl,1,by kernel_rfl⟩
instance:CF Tryz.prog 162 2 4:=⟨_,_,Tryz.underlying162,rfl,rfl,0,by kernel_rfl⟩
instance:CF Tryz.prog 162 3 5:=⟨_,_,Tryz.underlying162,rfl,rfl,0,by kernel_rfl⟩
instance:CF Tryz.prog 162 4 6:=⟨_,_,Tryz.underlying162,rfl,rfl,0,by kernel_rfl⟩
instance:CF Tryz.prog 162 5 7:=⟨_,_,Tryz.underlying162,rfl,rfl,0,by kernel_rfl⟩
instance:CF Tryz.prog 185 0 0:=⟨_,_,Tryz.underlying185,rfl,rfl,4,by kernel_rfl⟩
instance:CF Tryz.prog 185 1 5:=⟨_,_,Tryz.underlying185,rfl,rfl,0,by kernel_rfl⟩
instance:CF Tryz.prog 185 2 6:=⟨_,_,Tryz.underlying185,rfl,rfl,0,by kernel_rfl⟩
instance:CF Tryz.prog 185 3 7:=⟨_,_,Tryz.underlying185,rfl,rfl,0,by kernel_rfl⟩
instance:CF Tryz.prog 185 4 8:=⟨_,_,Tryz.underlying185,rfl,rfl,0,by kernel_rfl⟩
instance:CF Tryz.prog 191 0 0:=⟨_,_,Tryz.underlying191,rfl,rfl,4,by kernel_rfl⟩
instance:CF Tryz.prog 191 1 5:=⟨_,_,Tryz.underlying191,rfl,rfl,0,by kernel_rfl⟩
instance:CF Tryz.prog 191 2 6:=⟨_,_,Tryz.underlying191,rfl,rfl,0,by kernel_rfl⟩
instance:CF Tryz.prog 191 3 7:=⟨_,_,Tryz.underlying191,rfl,rfl,0,by kernel_rfl⟩
instance:CL Tryz.prog 22 3 1 8 (.int .i64 0):=CL.of Tryz.underlying22 (by kernel_rfl) rfl (by decide)
instance:CL Tryz.prog 25 69 5 40 (.agg #[.int .i64 0,.int .i64 0,.int .i64 0,.int .i64 0,.int .i64 0]):=CL.of Tryz.underlying25 (by kernel_rfl) rfl (by decide)
instance:CL Tryz.prog 27 44 2 16 (.agg #[.int .i64 0,.int .i64 0]):=CL.of Tryz.underlying27 (by kernel_rfl) rfl (by decide)
instance:CL Tryz.prog 36 35 2 16 (.agg #[.int .i64 0,.int .i64 0]):=CL.of Tryz.underlying36 (by kernel_rfl) rfl (by decide)
instance:CL Tryz.prog 40 78 3 24 (.agg #[.int .i64 0,.int .i64 0,.int .i64 0]):=CL.of Tryz.underlying40 (by kernel_rfl) rfl (by decide)
instance:CL Tryz.prog 42 46 3 24 (.agg #[.int .i64 0,.int .i64 0,.int .i64 0]):=CL.of Tryz.underlying42 (by kernel_rfl) rfl (by decide)
instance:CL Tryz.prog 51 102 8 72 (.agg #[.int .i64 0,.string ⟨#[]⟩,.int .i64 0,.int .i64 0,.int .i64 0,.int .i64 0,.int .i64 0,.int .i64 0]):=CL.of Tryz.underlying51 (by kernel_rfl) rfl (by decide)
instance:CL Tryz.prog 52 119 2 16 (.agg #[.int .i64 0,.int .i64 0]):=CL.of Tryz.underlying52 (by kernel_rfl) rfl (by decide)
instance:CL Tryz.prog 53 132 4 32 (.agg #[.int .i64 0,.int .i64 0,.int .i64 0,.int .i64 0]):=CL.of Tryz.underlying53 (by kernel_rfl) rfl (by decide)
instance:CL Tryz.prog 54 104 6 80 (.agg #[.int .i64 0,.int .i64 0,.int .i64 0,.int .i64 0,.slice none 0 0,.slice none 0 0]):=CL.of Tryz.underlying54 (by kernel_rfl) rfl (by decide)
instance:CL Tryz.prog 57 112 1 24 (.slice none 0 0):=CL.of Tryz.underlying57 (by kernel_rfl) rfl (by decide)
instance:CL Tryz.prog 81 93 4 32 (.agg #[.int .i64 0,.int .i64 0,.int .i64 0,.int .i64 0]):=CL.of Tryz.underlying81 (by kernel_rfl) rfl (by decide)
instance:CL Tryz.prog 94 22 1 24 (.slice none 0 0):=CL.of Tryz.underlying94 (by kernel_rfl) rfl (by decide)
instance:CL Tryz.prog 109 116 6 40 (.agg #[.int .i64 0,.int .i64 0,.int .i64 0,.int .i64 0,.bool false,.bool false]):=CL.of Tryz.underlying109 (by kernel_rfl) rfl (by decide)
instance:CL Tryz.prog 112 139 4 32 (.agg #[.int .i64 0,.int .i64 0,.int .i64 0,.int .i64 0]):=CL.of Tryz.underlying112 (by kernel_rfl) rfl (by decide)
instance:CL Tryz.prog 124 137 2 32 (.agg #[.int .i64 0,.slice none 0 0]):=CL.of Tryz.underlying124 (by kernel_rfl) rfl (by decide)
instance:CL Tryz.prog 125 141 5 40 (.agg #[.int .i64 0,.int .i64 0,.int .i64 0,.int .i64 0,.int .i64 0]):=CL.of Tryz.underlying125 (by kernel_rfl) rfl (by decide)
instance:CL Tryz.prog 152 156 4 32 (.agg #[.int .i64 0,.int .i64 0,.int .i64 0,.int .i64 0]):=CL.of Tryz.underlying152 (by kernel_rfl) rfl (by decide)
instance:CL Tryz.prog 166 165 2 16 (.agg #[.int .i64 0,.int .i64 0]):=CL.of Tryz.underlying166 (by kernel_rfl) rfl (by decide)
instance:CL Tryz.prog 199 9 1 16 (.string ⟨#[]⟩):=CL.of Tryz.underlying199 (by kernel_rfl) rfl (by decide)
instance:CL Tryz.prog 215 5 1 1 (.int .u8 0):=CL.of Tryz.underlying215 (by kernel_rfl) rfl (by decide)
instance:CL Tryz.prog 244 4 1 1 (.bool false):=CL.of Tryz.underlying244 (by kernel_rfl) rfl (by decide)
instance:CB Tryz.prog 32 [.int .i64 0,.slice none 0 0,.slice none 0 0] #[(0,1),(1,1),(2,1)]:=⟨.agg #[.int .i64 0,.slice none 0 0,.slice none 0 0],_,by kernel_rfl,rfl,Tryz.underlying32,fun _=>by kernel_rfl⟩
instance:CB Tryz.prog 35 [.int .i64 0,.int .i64 0] #[(0,1),(1,1)]:=⟨.agg #[.int .i64 0,.int .i64 0],_,by kernel_rfl,rfl,Tryz.underlying35,fun _=>by kernel_rfl⟩
instance:CB Tryz.prog 38 [.int .i64 0,.int .i64 0,.slice none 0 0,.int .i64 0,.slice none 0 0] #[(0,2),(2,1),(3,1),(4,1)]:=⟨.agg #[.int .i64 0,.int .i64 0,.slice none 0 0,.int .i64 0,.slice none 0 0],_,by kernel_rfl,rfl,Tryz.underlying38,fun _=>by kernel_rfl⟩
instance:CB Tryz.prog 44 [.int .i64 0,.int .i64 0] #[(0,1),(1,1)]:=⟨.agg #[.int .i64 0,.int .i64 0],_,by kernel_rfl,rfl,Tryz.underlying44,fun _=>by kernel_rfl⟩
instance:CB Tryz.prog 46 [.int .i64 0,.int .i64 0,.int .i64 0] #[(0,1),(1,1),(2,1)]:=⟨.agg #[.int .i64 0,.int .i64 0,.int .i64 0],_,by kernel_rfl,rfl,Tryz.underlying46,fun _=>by kernel_rfl⟩
instance:CB Tryz.prog 56 [.slice none 0 0,.int .i64 0,.slice none 0 0,.slice none 0 0,.slice none 0 0] #[(0,1),(1,1),(2,1),(3,1),(4,1)]:=⟨.agg #[.slice none 0 0,.int .i64 0,.slice none 0 0,.slice none 0 0,.slice none 0 0],_,by kernel_rfl,rfl,Tryz.underlying56,fun _=>by kernel_rfl⟩
instance:CB Tryz.prog 59 [.slice none 0 0,.int .i64 0,.slice none 0 0,.slice none 0 0,.slice none 0 0,.slice none 0 0,.slice none 0 0,.bool false] #[(0,5),(5,1),(6,1),(7,1)]:=⟨.agg #[.slice none 0 0,.int .i64 0,.slice none 0 0,.slice none 0 0,.slice none 0 0,.slice none 0 0,.slice none 0 0,.bool false],_,by kernel_rfl,rfl,Tryz.underlying59,fun _=>by kernel_rfl⟩
instance:CB Tryz.prog 65 [.slice none 0 0,.int .i64 0] #[(0,1),(1,1)]:=⟨.agg #[.slice none 0 0,.int .i64 0],_,by kernel_rfl,rfl,Tryz.underlying65,fun _=>by kernel_rfl⟩
instance:CB Tryz.prog 69 [.int .i64 0,.int .i64 0,.int .i64 0,.int .i64 0,.int .i64 0] #[(0,1),(1,1),(2,1),(3,1),(4,1)]:=⟨.agg #[.int .i64 0,.int .i64 0,.int .i64 0,.int .i64 0,.int .i64 0],_,by kernel_rfl,rfl,Tryz.underlying69,fun _=>by kernel_rfl⟩
instance:CB Tryz.prog 78 [.int .i64 0,.int .i64 0,.int .i64 0] #[(0,1),(1,1),(2,1)]:=⟨.agg #[.int .i64 0,.int .i64 0,.int .i64 0],_,by kernel_rfl,rfl,Tryz.underlying78,fun _=>by kernel_rfl⟩
instance:CB Tryz.prog 83 [.slice none 0 0,.int .i64 0] #[(0,1),(1,1)]:=⟨.agg #[.slice none 0 0,.int .i64 0],_,by kernel_rfl,rfl,Tryz.underlying83,fun _=>by kernel_rfl⟩
instance:CB Tryz.prog 85 [.int .i64 0,.slice none 0 0] #[(0,1),(1,1)]:=⟨.agg #[.int .i64 0,.slice none 0 0],_,by kernel_rfl,rfl,Tryz.underlying85,fun _=>by kernel_rfl⟩
instance:CB Tryz.prog 87 [.int .i64 0,.slice none 0 0,.slice none 0 0] #[(0,2),(2,1)]:=⟨.agg #[.int .i64 0,.slice none 0 0,.slice none 0 0],_,by kernel_rfl,rfl,Tryz.underlying87,fun _=>by kernel_rfl⟩
instance:CB Tryz.prog 89 [.slice none 0 0,.int .i64 0,.int .i64 0,.slice none 0 0,.slice none 0 0,.slice none 0 0] #[(0,2),(2,3),(5,1)]:=⟨.agg #[.slice none 0 0,.int .i64 0,.int .i64 0,.slice none 0 0,.slice none 0 0,.slice none 0 0],_,by kernel_rfl,rfl,Tryz.underlying89,fun _=>by kernel_rfl⟩
instance:CB Tryz.prog 93 [.int .i64 0,.int .i64 0,.int .i64 0,.int .i64 0] #[(0,1),(1,1),(2,1),(3,1)]:=⟨.agg #[.int .i64 0,.int .i64 0,.int .i64 0,.int .i64 0],_,by kernel_rfl,rfl,Tryz.underlying93,fun _=>by kernel_rfl⟩
instance:CB Tryz.prog 96 [.slice none 0 0,.int .i64 0] #[(0,1),(1,1)]:=⟨.agg #[.slice none 0 0,.int .i64 0],_,by kernel_rfl,rfl,Tryz.underlying96,fun _=>by kernel_rfl⟩
instance:CB Tryz.prog 102 [.int .i64 0,.string ⟨#[]⟩,.int .i64 0,.int .i64 0,.int .i64 0,.int .i64 0,.int .i64 0,.int .i64 0] #[(0,1),(1,1),(2,1),(3,1),(4,1),(5,1),(6,1),(7,1)]:=⟨.agg #[.int .i64 0,.string ⟨#[]⟩,.int .i64 0,.int .i64 0,.int .i64 0,.int .i64 0,.int .i64 0,.int .i64 0],_,by kernel_rfl,rfl,Tryz.underlying102,fun _=>by kernel_rfl⟩
instance:CB Tryz.prog 104 [.int .i64 0,.int .i64 0,.int .i64 0,.int .i64 0,.slice none 0 0,.slice none 0 0] #[(0,1),(1,1),(2,1),(3,1),(4,1),(5,1)]:=⟨.agg #[.int .i64 0,.int .i64 0,.int .i64 0,.int .i64 0,.slice none 0 0,.slice none 0 0],_,by kernel_rfl,rfl,Tryz.underlying104,fun _=>by kernel_rfl⟩
instance:CB Tryz.prog 116 [.int .i64 0,.int .i64 0,.int .i64 0,.int .i64 0,.bool false,.bool false] #[(0,2),(2,2),(4,1),(5,1)]:=⟨.agg #[.int .i64 0,.int .i64 0,.int .i64 0,.int .i64 0,.bool false,.bool false],_,by kernel_rfl,rfl,Tryz.underlying116,fun _=>by kernel_rfl⟩
instance:CB Tryz.prog 119 [.int .i64 0,.int .i64 0] #[(0,1),(1,1)]:=⟨.agg #[.int .i64 0,.int .i64 0],_,by kernel_rfl,rfl,Tryz.underlying119,fun _=>by kernel_rfl⟩
instance:CB Tryz.prog 132 [.int .i64 0,.int .i64 0,.int .i64 0,.int .i64 0] #[(0,1),(1,1),(2,1),(3,1)]:=⟨.agg #[.int .i64 0,.int .i64 0,.int .i64 0,.int .i64 0],_,by kernel_rfl,rfl,Tryz.underlying132,fun _=>by kernel_rfl⟩
instance:CB Tryz.prog 137 [.int .i64 0,.slice none 0 0] #[(0,1),(1,1)]:=⟨.agg #[.int .i64 0,.slice none 0 0],_,by kernel_rfl,rfl,Tryz.underlying137,fun _=>by kernel_rfl⟩
instance:CB Tryz.prog 139 [.int .i64 0,.int .i64 0,.int .i64 0,.int .i64 0] #[(0,1),(1,1),(2,1),(3,1)]:=⟨.agg #[.int .i64 0,.int .i64 0,.int .i64 0,.int .i64 0],_,by kernel_rfl,rfl,Tryz.underlying139,fun _=>by kernel_rfl⟩
instance:CB Tryz.prog 141 [.int .i64 0,.int .i64 0,.int .i64 0,.int .i64 0,.int .i64 0] #[(0,1),(1,1),(2,1),(3,1),(4,1)]:=⟨.agg #[.int .i64 0,.int .i64 0,.int .i64 0,.int .i64 0,.int .i64 0],_,by kernel_rfl,rfl,Tryz.underlying141,fun _=>by kernel_rfl⟩
instance:CB Tryz.prog 151 [.int .i64 0,.int .i64 0] #[(0,1),(1,1)]:=⟨.agg #[.int .i64 0,.int .i64 0],_,by kernel_rfl,rfl,Tryz.underlying151,fun _=>by kernel_rfl⟩
instance:CB Tryz.prog 156 [.int .i64 0,.int .i64 0,.int .i64 0,.int .i64 0] #[(0,1),(1,1),(2,1),(3,1)]:=⟨.agg #[.int .i64 0,.int .i64 0,.int .i64 0,.int .i64 0],_,by kernel_rfl,rfl,Tryz.underlying156,fun _=>by kernel_rfl⟩
instance:CB Tryz.prog 162 [.slice none 0 0,.int .i64 0,.int .i64 0,.slice none 0 0,.slice none 0 0,.slice none 0 0,.int .i64 0,.int .i64 0] #[(0,2),(2,2),(4,1),(5,1),(6,1),(7,1)]:=⟨.agg #[.slice none 0 0,.int .i64 0,.int .i64 0,.slice none 0 0,.slice none 0 0,.slice none 0 0,.int .i64 0,.int .i64 0],_,by kernel_rfl,rfl,Tryz.underlying162,fun _=>by kernel_rfl⟩
instance:CA Tryz.prog 165 2 3 1 [.int .i64 0,.int .i64 0]:=⟨Tryz.underlying165,by kernel_rfl,.agg #[.int .i64 0,.int .i64 0],by kernel_rfl,rfl⟩
instance:CB Tryz.prog 185 [.slice none 0 0,.int .i64 0,.slice none 0 0,.slice none 0 0,.slice none 0 0,.map none,.map none,.slice none 0 0,.slice none 0 0] #[(0,5),(5,1),(6,1),(7,1),(8,1)]:=⟨.agg #[.slice none 0 0,.int .i64 0,.slice none 0 0,.slice none 0 0,.slice none 0 0,.map none,.map none,.slice none 0 0,.slice none 0 0],_,by kernel_rfl,rfl,Tryz.underlying185,fun _=>by kernel_rfl⟩
instance:CB Tryz.prog 191 [.slice none 0 0,.int .i64 0,.slice none 0 0,.slice none 0 0,.slice none 0 0,.slice none 0 0,.slice none 0 0,.slice none 0 0] #[(0,5),(5,1),(6,1),(7,1)]:=⟨.agg #[.slice none 0 0,.int .i64 0,.slice none 0 0,.slice none 0 0,.slice none 0 0,.slice none 0 0,.slice none 0 0,.slice none 0 0],_,by kernel_rfl,rfl,Tryz.underlying191,fun _=>by kernel_rfl⟩
instance:CA Tryz.prog 203 4 3 1 [.int .i64 0,.int .i64 0,.int .i64 0,.int .i64 0]:=⟨Tryz.underlying203,by kernel_rfl,.agg #[.int .i64 0,.int .i64 0,.int .i64 0,.int .i64 0],by kernel_rfl,rfl⟩
instance:CB Tryz.prog 237 [.int .i64 0,.int .i64 0] #[(0,1),(1,1)]:=⟨.agg #[.int .i64 0,.int .i64 0],_,by kernel_rfl,rfl,Tryz.underlying237,fun _=>by kernel_rfl⟩
instance:CFn Tryz.prog 5:=CFn.of Tryz.func5 rfl (by decide +kernel)
instance:CFn Tryz.prog 6:=CFn.of Tryz.func6 rfl (by decide +kernel)
instance:CFn Tryz.prog 7:=CFn.of Tryz.func7 rfl (by decide +kernel)
instance:CFn Tryz.prog 8:=CFn.of Tryz.func8 rfl (by decide +kernel)
instance:CFn Tryz.prog 9:=CFn.of Tryz.func9 rfl (by decide +kernel)
instance:CFn Tryz.prog 10:=CFn.of Tryz.func10 rfl (by decide +kernel)
instance:CFn Tryz.prog 11:=CFn.of Tryz.func11 rfl (by decide +kernel)
instance:CFn Tryz.prog 12:=CFn.of Tryz.func12 rfl (by decide +kernel)
instance:CFn Tryz.prog 13:=CFn.of Tryz.func13 rfl (by decide +kernel)
instance:CFn Tryz.prog 14:=CFn.of Tryz.func14 rfl (by decide +kernel)
instance:CFn Tryz.prog 15:=CFn.of Tryz.func15 rfl (by decide +kernel)
instance:CFn Tryz.prog 16:=CFn.of Tryz.func16 rfl (by decide +kernel)
instance:CFn Tryz.prog 17:=CFn.of Tryz.func17 rfl (by decide +kernel)
instance:CFn Tryz.prog 18:=CFn.of Tryz.func18 rfl (by decide +kernel)
instance:CFn Tryz.prog 19:=CFn.of Tryz.func19 rfl (by decide +kernel)
instance:CFn Tryz.prog 20:=CFn.of Tryz.func20 rfl (by decide +kernel)
instance:CFn Tryz.prog 21:=CFn.of Tryz.func21 rfl (by decide +kernel)
instance:CFn Tryz.prog 22:=CFn.of Tryz.func22 rfl (by decide +kernel)
instance:CFn Tryz.prog 23:=CFn.of Tryz.func23 rfl (by decide +kernel)
instance:CFn Tryz.prog 24:=CFn.of Tryz.func24 rfl (by decide +kernel)
instance:CFn Tryz.prog 25:=CFn.of Tryz.func25 rfl (by decide +kernel)
instance:CFn Tryz.prog 26:=CFn.of Tryz.func26 rfl (by decide +kernel)
instance:CFn Tryz.prog 27:=CFn.of Tryz.func27 rfl (by decide +kernel)
instance:CFn Tryz.prog 28:=CFn.of Tryz.func28 rfl (by decide +kernel)
instance:CFn Tryz.prog 29:=CFn.of Tryz.func29 rfl (by decide +kernel)
instance:CFn Tryz.prog 30:=CFn.of Tryz.func30 rfl (by decide +kernel)
instance:CFn Tryz.prog 31:=CFn.of Tryz.func31 rfl (by decide +kernel)
instance:CFn Tryz.prog 32:=CFn.of Tryz.func32 rfl (by decide +kernel)
instance:CFn Tryz.prog 33:=CFn.of Tryz.func33 rfl (by decide +kernel)
instance:CFn Tryz.prog 34:=CFn.of Tryz.func34 rfl (by decide +kernel)
instance:CFn Tryz.prog 35:=CFn.of Tryz.func35 rfl (by decide +kernel)
instance:CFn Tryz.prog 36:=CFn.of Tryz.func36 rfl (by decide +kernel)
instance:CFn Tryz.prog 37:=CFn.of Tryz.func37 rfl (by decide +kernel)
instance:CFn Tryz.prog 38:=CFn.of Tryz.func38 rfl (by decide +kernel)
instance:CFn Tryz.prog 39:=CFn.of Tryz.func39 rfl (by decide +kernel)
instance:CFn Tryz.prog 40:=CFn.of Tryz.func40 rfl (by decide +kernel)
instance:CFn Tryz.prog 41:=CFn.of Tryz.func41 rfl (by decide +kernel)
instance:CFn Tryz.prog 42:=CFn.of Tryz.func42 rfl (by decide +kernel)
instance:CFn Tryz.prog 43:=CFn.of Tryz.func43 rfl (by decide +kernel)
instance:CFn Tryz.prog 44:=CFn.of Tryz.func44 rfl (by decide +kernel)
instance:CFn Tryz.prog 45:=CFn.of Tryz.func45 rfl (by decide +kernel)
instance:CFn Tryz.prog 46:=CFn.of Tryz.func46 rfl (by decide +kernel)
instance:CFn Tryz.prog 47:=CFn.of Tryz.func47 rfl (by decide +kernel)
instance:CFn Tryz.prog 48:=CFn.of Tryz.func48 rfl (by decide +kernel)
instance:CFn Tryz.prog 49:=CFn.of Tryz.func49 rfl (by decide +kernel)
instance:CFn Tryz.prog 50:=CFn.of Tryz.func50 rfl (by decide +kernel)
instance:CFn Tryz.prog 51:=CFn.of Tryz.func51 rfl (by decide +kernel)
instance:CFn Tryz.prog 52:=CFn.of Tryz.func52 rfl (by decide +kernel)
instance:CFn Tryz.prog 53:=CFn.of Tryz.func53 rfl (by decide +kernel)
instance:CFn Tryz.prog 54:=CFn.of Tryz.func54 rfl (by decide +kernel)
instance:CFn Tryz.prog 55:=CFn.of Tryz.func55 rfl (by decide +kernel)
instance:CFn Tryz.prog 56:=CFn.of Tryz.func56 rfl (by decide +kernel)
instance:CFn Tryz.prog 57:=CFn.of Tryz.func57 rfl (by decide +kernel)
instance:CFn Tryz.prog 58:=CFn.of Tryz.func58 rfl (by decide +kernel)
instance:CFn Tryz.prog 59:=CFn.of Tryz.func59 rfl (by decide +kernel)
instance:CFn Tryz.prog 60:=CFn.of Tryz.func60 rfl (by decide +kernel)
instance:CFn Tryz.prog 61:=CFn.of Tryz.func61 rfl (by decide +kernel)
instance:CFn Tryz.prog 62:=CFn.of Tryz.func62 rfl (by decide +kernel)
instance:CFn Tryz.prog 63:=CFn.of Tryz.func63 rfl (by decide +kernel)
instance:CFn Tryz.prog 64:=CFn.of Tryz.func64 rfl (by decide +kernel)
instance:CFn Tryz.prog 65:=CFn.of Tryz.func65 rfl (by decide +kernel)
instance:CFn Tryz.prog 66:=CFn.of Tryz.func66 rfl (by decide +kernel)
instance:CFn Tryz.prog 67:=CFn.of Tryz.func67 rfl (by decide +kernel)
instance:CFn Tryz.prog 68:=CFn.of Tryz.func68 rfl (by decide +kernel)
instance:CFn Tryz.prog 69:=CFn.of Tryz.func69 rfl (by decide +kernel)
instance:CFn Tryz.prog 70:=CFn.of Tryz.func70 rfl (by decide +kernel)
instance:CFn Tryz.prog 71:=CFn.of Tryz.func71 rfl (by decide +kernel)
instance:CFn Tryz.prog 72:=CFn.of Tryz.func72 rfl (by decide +kernel)
instance:CFn Tryz.prog 73:=CFn.of Tryz.func73 rfl (by decide +kernel)
instance:CFn Tryz.prog 74:=CFn.of Tryz.func74 rfl (by decide +kernel)
instance:CFn Tryz.prog 75:=CFn.of Tryz.func75 rfl (by decide +kernel)
instance:CFn Tryz.prog 76:=CFn.of Tryz.func76 rfl (by decide +kernel)
instance:CFn Tryz.prog 77:=CFn.of Tryz.func77 rfl (by decide +kernel)
instance:CFn Tryz.prog 78:=CFn.of Tryz.func78 rfl (by decide +kernel)
instance:CFn Tryz.prog 79:=CFn.of Tryz.func79 rfl (by decide +kernel)
instance:CFn Tryz.prog 80:=CFn.of Tryz.func80 rfl (by decide +kernel)
instance:CFn Tryz.prog 81:=CFn.of Tryz.func81 rfl (by decide +kernel)
instance:CFn Tryz.prog 82:=CFn.of Tryz.func82 rfl (by decide +kernel)
instance:CFn Tryz.prog 83:=CFn.of Tryz.func83 rfl (by decide +kernel)
instance:CFn Tryz.prog 84:=CFn.of Tryz.func84 rfl (by decide +kernel)
instance:CFn Tryz.prog 85:=CFn.of Tryz.func85 rfl (by decide +kernel)
instance:CFn Tryz.prog 86:=CFn.of Tryz.func86 rfl (by decide +kernel)
instance:CFn Tryz.prog 87:=CFn.of Tryz.func87 rfl (by decide +kernel)
instance:CFn Tryz.prog 88:=CFn.of Tryz.func88 rfl (by decide +kernel)
instance:CFn Tryz.prog 89:=CFn.of Tryz.func89 rfl (by decide +kernel)
instance:CFn Tryz.prog 90:=CFn.of Tryz.func90 rfl (by decide +kernel)
instance:CFn Tryz.prog 91:=CFn.of Tryz.func91 rfl (by decide +kernel)
instance:CFn Tryz.prog 92:=CFn.of Tryz.func92 rfl (by decide +kernel)
instance:CFn Tryz.prog 93:=CFn.of Tryz.func93 rfl (by decide +kernel)
instance:CFn Tryz.prog 94:=CFn.of Tryz.func94 rfl (by decide +kernel)
instance:CFn Tryz.prog 95:=CFn.of Tryz.func95 rfl (by decide +kernel)
instance:CFn Tryz.prog 96:=CFn.of Tryz.func96 rfl (by decide +kernel)
instance:CFn Tryz.prog 97:=CFn.of Tryz.func97 rfl (by decide +kernel)
instance:CFn Tryz.prog 98:=CFn.of Tryz.func98 rfl (by decide +kernel)
instance:CFn Tryz.prog 99:=CFn.of Tryz.func99 rfl (by decide +kernel)
instance:CFn Tryz.prog 100:=CFn.of Tryz.func100 rfl (by decide +kernel)
instance:CFn Tryz.prog 101:=CFn.of Tryz.func101 rfl (by decide +kernel)
instance:CFn Tryz.prog 102:=CFn.of Tryz.func102 rfl (by decide +kernel)
instance:CFn Tryz.prog 103:=CFn.of Tryz.func103 rfl (by decide +kernel)
instance:CFn Tryz.prog 104:=CFn.of Tryz.func104 rfl (by decide +kernel)
instance:CFn Tryz.prog 105:=CFn.of Tryz.func105 rfl (by decide +kernel)
instance:CFn Tryz.prog 106:=CFn.of Tryz.func106 rfl (by decide +kernel)
instance:CFn Tryz.prog 107:=CFn.of Tryz.func107 rfl (by decide +kernel)
instance:CFn Tryz.prog 108:=CFn.of Tryz.func108 rfl (by decide +kernel)
instance:CFn Tryz.prog 109:=CFn.of Tryz.func109 rfl (by decide +kernel)
instance:CFn Tryz.prog 110:=CFn.of Tryz.func110 rfl (by decide +kernel)
instance:CFn Tryz.prog 111:=CFn.of Tryz.func111 rfl (by decide +kernel)
instance:CFn Tryz.prog 112:=CFn.of Tryz.func112 rfl (by decide +kernel)
instance:CFn Tryz.prog 113:=CFn.of Tryz.func113 rfl (by decide +kernel)
instance:CFn Tryz.prog 114:=CFn.of Tryz.func114 rfl (by decide +kernel)
instance:CFn Tryz.prog 115:=CFn.of Tryz.func115 rfl (by decide +kernel)
instance:CFn Tryz.prog 116:=CFn.of Tryz.func116 rfl (by decide +kernel)
instance:CFn Tryz.prog 117:=CFn.of Tryz.func117 rfl (by decide +kernel)
instance:CFn Tryz.prog 118:=CFn.of Tryz.func118 rfl (by decide +kernel)
instance:CFn Tryz.prog 119:=CFn.of Tryz.func119 rfl (by decide +kernel)
instance:CFn Tryz.prog 120:=CFn.of Tryz.func120 rfl (by decide +kernel)
instance:CFn Tryz.prog 121:=CFn.of Tryz.func121 rfl (by decide +kernel)
instance:CFn Tryz.prog 122:=CFn.of Tryz.func122 rfl (by decide +kernel)
instance:CFn Tryz.prog 123:=CFn.of Tryz.func123 rfl (by decide +kernel)
instance:CFn Tryz.prog 124:=CFn.of Tryz.func124 rfl (by decide +kernel)
instance:CFn Tryz.prog 125:=CFn.of Tryz.func125 rfl (by decide +kernel)
instance:CFn Tryz.prog 126:=CFn.of Tryz.func126 rfl (by decide +kernel)
instance:CFn Tryz.prog 127:=CFn.of Tryz.func127 rfl (by decide +kernel)
instance:CFn Tryz.prog 128:=CFn.of Tryz.func128 rfl (by decide +kernel)
instance:CFn Tryz.prog 129:=CFn.of Tryz.func129 rfl (by decide +kernel)
instance:CFn Tryz.prog 130:=CFn.of Tryz.func130 rfl (by decide +kernel)
instance:CFn Tryz.prog 131:=CFn.of Tryz.func131 rfl (by decide +kernel)
instance:CFn Tryz.prog 132:=CFn.of Tryz.func132 rfl (by decide +kernel)
instance:CFn Tryz.prog 133:=CFn.of Tryz.func133 rfl (by decide +kernel)
instance:CFn Tryz.prog 134:=CFn.of Tryz.func134 rfl (by decide +kernel)
instance:CFn Tryz.prog 135:=CFn.of Tryz.func135 rfl (by decide +kernel)
instance:CFn Tryz.prog 136:=CFn.of Tryz.func136 rfl (by decide +kernel)
instance:CFn Tryz.prog 137:=CFn.of Tryz.func137 rfl (by decide +kernel)
instance:CFn Tryz.prog 138:=CFn.of Tryz.func138 rfl (by decide +kernel)
instance:CFn Tryz.prog 139:=CFn.of Tryz.func139 rfl (by decide +kernel)
instance:CFn Tryz.prog 140:=CFn.of Tryz.func140 rfl (by decide +kernel)
instance:CFn Tryz.prog 141:=CFn.of Tryz.func141 rfl (by decide +kernel)
instance:CFn Tryz.prog 142:=CFn.of Tryz.func142 rfl (by decide +kernel)
instance:CFn Tryz.prog 143:=CFn.of Tryz.func143 rfl (by decide +kernel)
instance:CFn Tryz.prog 144:=CFn.of Tryz.func144 rfl (by decide +kernel)
instance:CFn Tryz.prog 145:=CFn.of Tryz.func145 rfl (by decide +kernel)
instance:CFn Tryz.prog 146:=CFn.of Tryz.func146 rfl (by decide +kernel)
instance:CFn Tryz.prog 147:=CFn.of Tryz.func147 rfl (by decide +kernel)
instance:CFn Tryz.prog 148:=CFn.of Tryz.func148 rfl (by decide +kernel)
instance:CFn Tryz.prog 149:=CFn.of Tryz.func149 rfl (by decide +kernel)
instance:CFn Tryz.prog 150:=CFn.of Tryz.func150 rfl (by decide +kernel)
instance:CFn Tryz.prog 151:=CFn.of Tryz.func151 rfl (by decide +kernel)
instance:CFn Tryz.prog 152:=CFn.of Tryz.func152 rfl (by decide +kernel)
instance:CFn Tryz.prog 153:=CFn.of Tryz.func153 rfl (by decide +kernel)
instance:CFn Tryz.prog 154:=CFn.of Tryz.func154 rfl (by decide +kernel)
instance:CFn Tryz.prog 155:=CFn.of Tryz.func155 rfl (by decide +kernel)
instance:CFn Tryz.prog 156:=CFn.of Tryz.func156 rfl (by decide +kernel)
instance:CFn Tryz.prog 157:=CFn.of Tryz.func157 rfl (by decide +kernel)
instance:CFn Tryz.prog 158:=CFn.of Tryz.func158 rfl (by decide +kernel)
instance:CFn Tryz.prog 159:=CFn.of Tryz.func159 rfl (by decide +kernel)
instance:CFn Tryz.prog 160:=CFn.of Tryz.func160 rfl (by decide +kernel)
instance:CFn Tryz.prog 161:=CFn.of Tryz.func161 rfl (by decide +kernel)
instance:CFn Tryz.prog 162:=CFn.of Tryz.func162 rfl (by decide +kernel)
instance:CFn Tryz.prog 163:=CFn.of Tryz.func163 rfl (by decide +kernel)
instance:CFn Tryz.prog 164:=CFn.of Tryz.func164 rfl (by decide +kernel)
instance:CFn Tryz.prog 165:=CFn.of Tryz.func165 rfl (by decide +kernel)
instance:CFn Tryz.prog 166:=CFn.of Tryz.func166 rfl (by decide +kernel)
instance:CFn Tryz.prog 167:=CFn.of Tryz.func167 rfl (by decide +kernel)
instance:CFn Tryz.prog 168:=CFn.of Tryz.func168 rfl (by decide +kernel)
instance:CFn Tryz.prog 169:=CFn.of Tryz.func169 rfl (by decide +kernel)
instance:CFn Tryz.prog 170:=CFn.of Tryz.func170 rfl (by decide +kernel)
instance:CFn Tryz.prog 171:=CFn.of Tryz.func171 rfl (by decide +kernel)
instance:CFn Tryz.prog 172:=CFn.of Tryz.func172 rfl (by decide +kernel)
instance:CFn Tryz.prog 173:=CFn.of Tryz.func173 rfl (by decide +kernel)
instance:CFn Tryz.prog 174:=CFn.of Tryz.func174 rfl (by decide +kernel)
instance:CFn Tryz.prog 175:=CFn.of Tryz.func175 rfl (by decide +kernel)
instance:CFn Tryz.prog 176:=CFn.of Tryz.func176 rfl (by decide +kernel)
instance:CFn Tryz.prog 177:=CFn.of Tryz.func177 rfl (by decide +kernel)
instance:CFn Tryz.prog 178:=CFn.of Tryz.func178 rfl (by decide +kernel)
instance:CFn Tryz.prog 179:=CFn.of Tryz.func179 rfl (by decide +kernel)
instance:CFn Tryz.prog 180:=CFn.of Tryz.func180 rfl (by decide +kernel)
instance:CFn Tryz.prog 181:=CFn.of Tryz.func181 rfl (by decide +kernel)
instance:CFn Tryz.prog 182:=CFn.of Tryz.func182 rfl (by decide +kernel)
instance:CFn Tryz.prog 185:=CFn.of Tryz.func185 rfl (by decide +kernel)
instance:CFn Tryz.prog 186:=CFn.of Tryz.func186 rfl (by decide +kernel)
instance:CFn Tryz.prog 187:=CFn.of Tryz.func187 rfl (by decide +kernel)
instance:CFn Tryz.prog 188:=CFn.of Tryz.func188 rfl (by decide +kernel)
instance:CFn Tryz.prog 189:=CFn.of Tryz.func189 rfl (by decide +kernel)
instance:CFn Tryz.prog 190:=CFn.of Tryz.func190 rfl (by decide +kernel)
instance:CFn Tryz.prog 191:=CFn.of Tryz.func191 rfl (by decide +kernel)
instance:CFn Tryz.prog 192:=CFn.of Tryz.func192 rfl (by decide +kernel)
instance:CFn Tryz.prog 193:=CFn.of Tryz.func193 rfl (by decide +kernel)
instance:CFn Tryz.prog 195:=CFn.of Tryz.func195 rfl (by decide +kernel)
instance:CFn Tryz.prog 196:=CFn.of Tryz.func196 rfl (by decide +kernel)
instance:CFn Tryz.prog 197:=CFn.of Tryz.func197 rfl (by decide +kernel)
instance:CFn Tryz.prog 198:=CFn.of Tryz.func198 rfl (by decide +kernel)
instance:CFn Tryz.prog 199:=CFn.of Tryz.func199 rfl (by decide +kernel)
instance:CFn Tryz.prog 200:=CFn.of Tryz.func200 rfl (by decide +kernel)
instance:CFn Tryz.prog 201:=CFn.of Tryz.func201 rfl (by decide +kernel)
instance:CFn Tryz.prog 202:=CFn.of Tryz.func202 rfl (by decide +kernel)
instance:CFn Tryz.prog 203:=CFn.of Tryz.func203 rfl (by decide +kernel)
instance:CFn Tryz.prog 204:=CFn.of Tryz.func204 rfl (by decide +kernel)
instance:CFn Tryz.prog 205:=CFn.of Tryz.func205 rfl (by decide +kernel)
instance:CFn Tryz.prog 206:=CFn.of Tryz.func206 rfl (by decide +kernel)
instance:CFn Tryz.prog 207:=CFn.of Tryz.func207 rfl (by decide +kernel)
instance:CFn Tryz.prog 208:=CFn.of Tryz.func208 rfl (by decide +kernel)
instance:CM Tryz.prog:=⟨by kernel_rfl⟩
instance:CKV Tryz.prog 182 (.int .i64 0):=⟨_,_,Tryz.underlying182,Tryz.underlying3,by kernel_rfl⟩
instance:CKV Tryz.prog 183 (.slice none 0 0):=⟨_,_,Tryz.underlying183,Tryz.underlying3,by kernel_rfl⟩
instance:CK Tryz.prog 194 kvI:=CK.of Tryz.underlying194 Tryz.underlying3 (fun _=>rfl) (fun _ _ h=>(Value.int.inj h).2) (by kernel_rfl)
instance:CK Tryz.prog 233 kvZ:=CK.of Tryz.underlying233 Tryz.underlying9 (fun _=>trivial) (fun _ _ h=>Value.string.inj h) (by kernel_rfl)
theorem qin102 (d:Nat) (a0 b0:Int) (a1 b1:ByteArray) (a2 b2:Int) (a3 b3:Int) (a4 b4:Int) (a5 b5:Int) (a6 b6:Int) (a7 b7:Int) (w:World):(Op.equalIn (d + 3) 102 (.agg #[.int .i64 a0,.string a1,.int .i64 a2,.int .i64 a3,.int .i64 a4,.int .i64 a5,.int .i64 a6,.int .i64 a7]) (.agg #[.int .i64 b0,.string b1,.int .i64 b2,.int .i64 b3,.int .i64 b4,.int .i64 b5,.int .i64 b6,.int .i64 b7])).run Tryz.prog w = .ok (decide (a0 = b0∧a1 = b1∧a2 = b2∧a3 = b3∧a4 = b4∧a5 = b5∧a6 = b6∧a7 = b7)) w:=by
 rw [run_equalIn_agg w (d + 2) 102 _ _ (by kernel_rfl) (by kernel_rfl)]
 rw [show Tryz.prog.fieldsOf 102 = #[{ name := "Kind", type := 3, offset := 0, embedded := false, tag := "", pkgPath := "", byteOffset := 0 }, { name := "Name", type := 9, offset := 1, embedded := false, tag := "", pkgPath := "", byteOffset := 8 }, { name := "Parent", type := 3, offset := 2, embedded := false, tag := "", pkgPath := "", byteOffset := 24 }, { name := "Side", type := 3, offset := 3, embedded := false, tag := "", pkgPath := "", byteOffset := 32 }, { name := "Length", type := 3, offset := 4, embedded := false, tag := "", pkgPath := "", byteOffset := 40 }, { name := "Grade", type := 3, offset := 5, embedded := false, tag := "", pkgPath := "", byteOffset := 48 }, { name := "Curve", type := 3, offset := 6, embedded := false, tag := "", pkgPath := "", byteOffset := 56 }, { name := "Power", type := 3, offset := 7, embedded := false, tag := "", pkgPath := "", byteOffset := 64 }] from by kernel_rfl]
 have p3:∀ cs off v w,cs[off]? = some v→(part 3 cs off).run Tryz.prog w = .ok v w:=fun cs off v w h=>by simp [part,Zdb,h]
 have q3:=fun d a b w=>run_equalIn_int (P:=Tryz.prog) w d 3 .i64 .i64 a b Tryz.underlying3
 have p9:∀ cs off v w,cs[off]? = some v→(part 9 cs off).run Tryz.prog w = .ok v w:=fun cs off v w h=>by simp [part,Zdb,h]
 have q9:∀ (d:Nat) (a b:ByteArray) (w:World),(Op.equalIn (d + 1) 9 (.string a) (.string b)).run Tryz.prog w = .ok (decide (a = b)) w:=fun d a b w=>by rw [run_equalIn_string (P:=Tryz.prog) w d 9 a b Tryz.underlying9]; rw [ZjB]
 simp [Op.eqFields,p3,q3,p9,q9]
 repeat (split <;> simp_all)
theorem yeq102 {N:Nat}{ρ:Env}{w:World}{d:Option Nat}{ty:TypeId}{ps:String}{af:Array Edge}{gd:Option (Nat×Bool)}{x y:Operand}{yt:TypeId}{a0 b0:Int}{a1 b1:ByteArray}{a2 b2:Int}{a3 b3:Int}{a4 b4:Int}{a5 b5:Int}{a6 b6:Int}{a7 b7:Int}(hx:evo ρ x = some (.agg #[.int .i64 a0,.string a1,.int .i64 a2,.int .i64 a3,.int .i64 a4,.int .i64 a5,.int .i64 a6,.int .i64 a7])) (hy:evo ρ y = some (.agg #[.int .i64 b0,.string b1,.int .i64 b2,.int .i64 b3,.int .i64 b4,.int .i64 b5,.int .i64 b6,.int .i64 b7])):Yv Tryz.prog N ρ w ⟨d,.binOp .eql 102 x y yt,ty,ps,af,gd⟩ (.bool (decide (a0 = b0∧a1 = b1∧a2 = b2∧a3 = b3∧a4 = b4∧a5 = b5∧a6 = b6∧a7 = b7))):=yv_eqS (by kernel_rfl) (qin102 9997 a0 b0 a1 b1 a2 b2 a3 b3 a4 b4 a5 b5 a6 b6 a7 b7 w) hx hy
theorem qin139 (d:Nat) (a0 b0:Int) (a1 b1:Int) (a2 b2:Int) (a3 b3:Int) (w:World):(Op.equalIn (d + 3) 139 (.agg #[.int .i64 a0,.int .i64 a1,.int .i64 a2,.int .i64 a3]) (.agg #[.int .i64 b0,.int .i64 b1,.int .i64 b2,.int .i64 b3])).run Tryz.prog w = .ok (decide (a0 = b0∧a1 = b1∧a2 = b2∧a3 = b3)) w:=by
 rw [run_equalIn_agg w (d + 2) 139 _ _ (by kernel_rfl) (by kernel_rfl)]
 rw [show Tryz.prog.fieldsOf 139 = #[{ name := "Element", type := 3, offset := 0, embedded := false, tag := "", pkgPath := "", byteOffset := 0 }, { name := "Side", type := 3, offset := 1, embedded := false, tag := "", pkgPath := "", byteOffset := 8 }, { name := "From", type := 3, offset := 2, embedded := false, tag := "", pkgPath := "", byteOffset := 16 }, { name := "To", type := 3, offset := 3, embedded := false, tag := "", pkgPath := "", byteOffset := 24 }] from by kernel_rfl]
 have p3:∀ cs off v w,cs[off]? = some v→(part 3 cs off).run Tryz.prog w = .ok v w:=fun cs off v w h=>by simp [part,Zdb,h]
 have q3:=fun d a b w=>run_equalIn_int (P:=Tryz.prog) w d 3 .i64 .i64 a b Tryz.underlying3
 simp [Op.eqFields,p3,q3]
 repeat (split <;> simp_all)
theorem yne139 {N:Nat}{ρ:Env}{w:World}{d:Option Nat}{ty:TypeId}{ps:String}{af:Array Edge}{gd:Option (Nat×Bool)}{x y:Operand}{yt:TypeId}{a0 b0:Int}{a1 b1:Int}{a2 b2:Int}{a3 b3:Int}(hx:evo ρ x = some (.agg #[.int .i64 a0,.int .i64 a1,.int .i64 a2,.int .i64 a3])) (hy:evo ρ y = some (.agg #[.int .i64 b0,.int .i64 b1,.int .i64 b2,.int .i64 b3])):Yv Tryz.prog N ρ w ⟨d,.binOp .neq 139 x y yt,ty,ps,af,gd⟩ (.bool (decide (¬ (a0 = b0∧a1 = b1∧a2 = b2∧a3 = b3)))):=yv_neS (by kernel_rfl) (qin139 9997 a0 b0 a1 b1 a2 b2 a3 b3 w) hx hy
theorem qin141 (d:Nat) (a0 b0:Int) (a1 b1:Int) (a2 b2:Int) (a3 b3:Int) (a4 b4:Int) (w:World):(Op.equalIn (d + 3) 141 (.agg #[.int .i64 a0,.int .i64 a1,.int .i64 a2,.int .i64 a3,.int .i64 a4]) (.agg #[.int .i64 b0,.int .i64 b1,.int .i64 b2,.int .i64 b3,.int .i64 b4])).run Tryz.prog w = .ok (decide (a0 = b0∧a1 = b1∧a2 = b2∧a3 = b3∧a4 = b4)) w:=by
 rw [run_equalIn_agg w (d + 2) 141 _ _ (by kernel_rfl) (by kernel_rfl)]
 rw [show Tryz.prog.fieldsOf 141 = #[{ name := "Kind", type := 3, offset := 0, embedded := false, tag := "", pkgPath := "", byteOffset := 0 }, { name := "Cut", type := 3, offset := 1, embedded := false, tag := "", pkgPath := "", byteOffset := 8 }, { name := "Other", type := 3, offset := 2, embedded := false, tag := "", pkgPath := "", byteOffset := 16 }, { name := "Element", type := 3, offset := 3, embedded := false, tag := "", pkgPath := "", byteOffset := 24 }, { name := "Time", type := 3, offset := 4, embedded := false, tag := "", pkgPath := "", byteOffset := 32 }] from by kernel_rfl]
 have p3:∀ cs off v w,cs[off]? = some v→(part 3 cs off).run Tryz.prog w = .ok v w:=fun cs off v w h=>by simp [part,Zdb,h]
 have q3:=fun d a b w=>run_equalIn_int (P:=Tryz.prog) w d 3 .i64 .i64 a b Tryz.underlying3
 simp [Op.eqFields,p3,q3]
 repeat (split <;> simp_all)
theorem yeq141 {N:Nat}{ρ:Env}{w:World}{d:Option Nat}{ty:TypeId}{ps:String}{af:Array Edge}{gd:Option (Nat×Bool)}{x y:Operand}{yt:TypeId}{a0 b0:Int}{a1 b1:Int}{a2 b2:Int}{a3 b3:Int}{a4 b4:Int}(hx:evo ρ x = some (.agg #[.int .i64 a0,.int .i64 a1,.int .i64 a2,.int .i64 a3,.int .i64 a4])) (hy:evo ρ y = some (.agg #[.int .i64 b0,.int .i64 b1,.int .i64 b2,.int .i64 b3,.int .i64 b4])):Yv Tryz.prog N ρ w ⟨d,.binOp .eql 141 x y yt,ty,ps,af,gd⟩ (.bool (decide (a0 = b0∧a1 = b1∧a2 = b2∧a3 = b3∧a4 = b4))):=yv_eqS (by kernel_rfl) (qin141 9997 a0 b0 a1 b1 a2 b2 a3 b3 a4 b4 w) hx hy
theorem yne141 {N:Nat}{ρ:Env}{w:World}{d:Option Nat}{ty:TypeId}{ps:String}{af:Array Edge}{gd:Option (Nat×Bool)}{x y:Operand}{yt:TypeId}{a0 b0:Int}{a1 b1:Int}{a2 b2:Int}{a3 b3:Int}{a4 b4:Int}(hx:evo ρ x = some (.agg #[.int .i64 a0,.int .i64 a1,.int .i64 a2,.int .i64 a3,.int .i64 a4])) (hy:evo ρ y = some (.agg #[.int .i64 b0,.int .i64 b1,.int .i64 b2,.int .i64 b3,.int .i64 b4])):Yv Tryz.prog N ρ w ⟨d,.binOp .neq 141 x y yt,ty,ps,af,gd⟩ (.bool (decide (¬ (a0 = b0∧a1 = b1∧a2 = b2∧a3 = b3∧a4 = b4)))):=yv_neS (by kernel_rfl) (qin141 9997 a0 b0 a1 b1 a2 b2 a3 b3 a4 b4 w) hx hy
theorem qin237 (d:Nat) (a0 b0:Int) (a1 b1:Int) (w:World):(Op.equalIn (d + 3) 237 (.agg #[.int .i64 a0,.int .i64 a1]) (.agg #[.int .i64 b0,.int .i64 b1])).run Tryz.prog w = .ok (decide (a0 = b0∧a1 = b1)) w:=by
 rw [run_equalIn_agg w (d + 2) 237 _ _ (by kernel_rfl) (by kernel_rfl)]
 rw [show Tryz.prog.fieldsOf 237 = #[{ name := "parent", type := 3, offset := 0, embedded := false, tag := "", pkgPath := "humpyard/layout", byteOffset := 0 }, { name := "side", type := 3, offset := 1, embedded := false, tag := "", pkgPath := "humpyard/layout", byteOffset := 8 }] from by kernel_rfl]
 have p3:∀ cs off v w,cs[off]? = some v→(part 3 cs off).run Tryz.prog w = .ok v w:=fun cs off v w h=>by simp [part,Zdb,h]
 have q3:=fun d a b w=>run_equalIn_int (P:=Tryz.prog) w d 3 .i64 .i64 a b Tryz.underlying3
 simp [Op.eqFields,p3,q3]
 by_cases h0:a0 = b0 <;> by_cases h1:a1 = b1 <;> simp [h0,h1]
end Go.Proofs.YtdgminllobhncaaGreat
namespace Go.Hy
theorem e.{u}{α:Sort u}{a:α}:a = a:=rfl
section
variable {β:Type}{P:Program}{N:Nat}{ρ:Env}{w0:World}{K:Kont}{M L:List Res}{m:Option β}{r:β}{ops:Array Oper}{rest:List Oper}{d:Nat}{ty:TypeId}{ps:String}{af:Array Edge}{gd:Option (Nat×Bool)}{op:Op}
theorem jgl (i:Nat){g off:Nat}{t T:TypeId}{cs:List Value}{v:Value}{x:Operand} [C1 P T] (hx:evo ρ x = some (.pointer (some ⟨g,off,none⟩))) (hi:L[i]? = some (.blk g t cs)) (hv:cs[off]? = some v) (hg:want ops ρ gd = some true) (hd:Nat.blt d N = true) (hk:Jg P N w0 M L ops rest ((d,v) :: ρ) m r K):Jg P N w0 M L ops (⟨some d,.load T x,ty,ps,af,gd⟩ :: rest) ρ m r K:=jg_y (fun _ hs=>ZaJ hx (ld1B (hs.blkL hi) hv)) hg hd hk
theorem jdl {D0:List Nat}{i:Nat}{ph:List Nat}{π:List (Nat×Bool)}(j:Nat){L':List Res}{g off:Nat}{t T:TypeId}{cs:List Value}{v:Value}{x:Operand} [C1 P T] (hi:ops[i]? = some ⟨some d,.load T x,ty,ps,af,gd⟩) (hx:evo ρ x = some (.pointer (some ⟨g,off,none⟩))) (hj:L'[j]? = some (.blk g t cs)) (hv:cs[off]? = some v) (hg:want ops ρ gd = some true) (hd:Nat.blt d N = true) (hk:Jd P N w0 M L ops (fun w=>Sx w0 w D0 L') ph π ((d,v) :: ρ) m r K):Jd P N w0 M L ops (fun w=>Sx w0 w D0 L') ph ((i,true) :: π) ρ m r K:=jd_y hi (fun _ hs=>ZaJ hx (ld1B (hs.blk hj) hv)) hg hd hk
theorem jdy {D0:List Nat}{i:Nat}{ph:List Nat}{π:List (Nat×Bool)}{L':List Res}{v:Value}(hi:ops[i]? = some ⟨some d,op,ty,ps,af,gd⟩) (hy:∀ {w:World},Yv P N ρ w ⟨some d,op,ty,ps,af,gd⟩ v) (hg:want ops ρ gd = some true) (hd:Nat.blt d N = true) (hk:Jd P N w0 M L ops (fun w=>Sx w0 w D0 L') ph π ((d,v) :: ρ) m r K):Jd P N w0 M L ops (fun w=>Sx w0 w D0 L') ph ((i,true) :: π) ρ m r K:=jd_y hi (fun _ _=>hy) hg hd hk
theorem jqr (id:Nat){l:List Oper}{y:Code}(h:Jg P N w0 M L l.toArray l ρ m r (kSeq P N y K)):Jn P N w0 M L (.seq (.region id l.toArray false) y) ρ m r K:=Zak (Zar id h)
theorem jsr (id:Nat){l:List Oper}{y:Code}(h:Jg P N w0 M L l.toArray l ρ m r (kSeq P N y K)):Jk w0 M L .normal ρ m r (kSeq P N (.seq (.region id l.toArray false) y) K):=Zad (Zak (Zar id h))
theorem jks {y:Code}(h:Jn P N w0 M L y ρ m r K):Jn P N w0 M L .skip ρ m r (kSeq P N y K):=ZaK (Zad h)
theorem jdr (id:Nat){l:List Oper}{L':List Res}(is:List Nat) (ph:List Nat) (phm full:Nat) (ds ms:List Nat) (π:List (Nat×Bool)) [hm:CM P] (hsel:selL (L ++ M) is = some L') (hp:NoPanic K) (h:Jd P N w0 M L l.toArray (fun w=>Sx w0 w (idsM M) L') ph π ρ m r K) (hn:Region.noSelect l.toArray = true:=by kernel_rfl) (hl:Nat.beq π.length l.length = true:=by kernel_rfl)
    (hds:l.map dmask = ds:=by kernel_rfl) (hms:okAnc ds ms = true:=by kernel_rfl) (hml:Nat.beq ms.length ds.length = true:=by kernel_rfl) (hfull:Nat.beq full (2 ^ ds.length - 1) = true:=by kernel_rfl) (hph:((List.range ds.length).all fun j=>!phm.testBit j || ph.contains j) = true:=by kernel_rfl) (hB:linM l.toArray ds ms phm full π 0 = true:=by kernel_rfl):Jn P N w0 M L (.region id l.toArray true) ρ m r K:=jn_draw id is ph phm full ds ms π hsel hp hn hl hds hms hml hfull hph hB h
theorem jy {v:Value}(hy:∀ {w:World},Yv P N ρ w ⟨some d,op,ty,ps,af,gd⟩ v) (hg:want ops ρ gd = some true) (hd:Nat.blt d N = true) (hk:Jg P N w0 M L ops rest ((d,v) :: ρ) m r K):Jg P N w0 M L ops (⟨some d,op,ty,ps,af,gd⟩ :: rest) ρ m r K:=jg_y (fun _ _=>hy) hg hd hk
theorem gz1 (k0:Nat){v0:Value}(q:[look ρ k0] = [some v0]) (h:Jk w0 M L .normal [(k0,v0)] m r K):Jg P N w0 M L ops [] ρ m r K:=Zcl _ (by
  injection q with h0 q
  exact ⟨h0,trivial⟩) h
theorem gz2 (k0 k1:Nat){v0 v1:Value}(q:[look ρ k0,look ρ k1] = [some v0,some v1]) (h:Jk w0 M L .normal [(k0,v0),(k1,v1)] m r K):Jg P N w0 M L ops [] ρ m r K:=Zcl _ (by
  injection q with h0 q
  injection q with h1 q
  exact ⟨h0,h1,trivial⟩) h
theorem gz3 (k0 k1 k2:Nat){v0 v1 v2:Value}(q:[look ρ k0,look ρ k1,look ρ k2] = [some v0,some v1,some v2]) (h:Jk w0 M L .normal [(k0,v0),(k1,v1),(k2,v2)] m r K):Jg P N w0 M L ops [] ρ m r K:=Zcl _ (by
  injection q with h0 q
  injection q with h1 q
  injection q with h2 q
  exact ⟨h0,h1,h2,trivial⟩) h
theorem gz4 (k0 k1 k2 k3:Nat){v0 v1 v2 v3:Value}(q:[look ρ k0,look ρ k1,look ρ k2,look ρ k3] = [some v0,some v1,some v2,some v3]) (h:Jk w0 M L .normal [(k0,v0),(k1,v1),(k2,v2),(k3,v3)] m r K):Jg P N w0 M L ops [] ρ m r K:=Zcl _ (by
  injection q with h0 q
  injection q with h1 q
  injection q with h2 q
  injection q with h3 q
  exact ⟨h0,h1,h2,h3,trivial⟩) h
theorem gz5 (k0 k1 k2 k3 k4:Nat){v0 v1 v2 v3 v4:Value}(q:[look ρ k0,look ρ k1,look ρ k2,look ρ k3,look ρ k4] = [some v0,some v1,some v2,some v3,some v4]) (h:Jk w0 M L .normal [(k0,v0),(k1,v1),(k2,v2),(k3,v3),(k4,v4)] m r K):Jg P N w0 M L ops [] ρ m r K:=Zcl _ (by
  injection q with h0 q
  injection q with h1 q
  injection q with h2 q
  injection q with h3 q
  injection q with h4 q
  exact ⟨h0,h1,h2,h3,h4,trivial⟩) h
theorem gz6 (k0 k1 k2 k3 k4 k5:Nat){v0 v1 v2 v3 v4 v5:Value}(q:[look ρ k0,look ρ k1,look ρ k2,look ρ k3,look ρ k4,look ρ k5] = [some v0,some v1,some v2,some v3,some v4,some v5]) (h:Jk w0 M L .normal [(k0,v0),(k1,v1),(k2,v2),(k3,v3),(k4,v4),(k5,v5)] m r K):Jg P N w0 M L ops [] ρ m r K:=Zcl _ (by
  injection q with h0 q
  injection q with h1 q
  injection q with h2 q
  injection q with h3 q
  injection q with h4 q
  injection q with h5 q
  exact ⟨h0,h1,h2,h3,h4,h5,trivial⟩) h
theorem gz7 (k0 k1 k2 k3 k4 k5 k6:Nat){v0 v1 v2 v3 v4 v5 v6:Value}(q:[look ρ k0,look ρ k1,look ρ k2,look ρ k3,look ρ k4,look ρ k5,look ρ k6] = [some v0,some v1,some v2,some v3,some v4,some v5,some v6]) (h:Jk w0 M L .normal [(k0,v0),(k1,v1),(k2,v2),(k3,v3),(k4,v4),(k5,v5),(k6,v6)] m r K):Jg P N w0 M L ops [] ρ m r K:=Zcl _ (by
  injection q with h0 q
  injection q with h1 q
  injection q with h2 q
  injection q with h3 q
  injection q with h4 q
  injection q with h5 q
  injection q with h6 q
  exact ⟨h0,h1,h2,h3,h4,h5,h6,trivial⟩) h
theorem gz8 (k0 k1 k2 k3 k4 k5 k6 k7:Nat){v0 v1 v2 v3 v4 v5 v6 v7:Value}(q:[look ρ k0,look ρ k1,look ρ k2,look ρ k3,look ρ k4,look ρ k5,look ρ k6,look ρ k7] = [some v0,some v1,some v2,some v3,some v4,some v5,some v6,some v7]) (h:Jk w0 M L .normal [(k0,v0),(k1,v1),(k2,v2),(k3,v3),(k4,v4),(k5,v5),(k6,v6),(k7,v7)] m r K):Jg P N w0 M L ops [] ρ m r K:=Zcl _ (by
  injection q with h0 q
  injection q with h1 q
  injection q with h2 q
  injection q with h3 q
  injection q with h4 q
  injection q with h5 q
  injection q with h6 q
  injection q with h7 q
  exact ⟨h0,h1,h2,h3,h4,h5,h6,h7,trivial⟩) h
theorem gz9 (k0 k1 k2 k3 k4 k5 k6 k7 k8:Nat){v0 v1 v2 v3 v4 v5 v6 v7 v8:Value}(q:[look ρ k0,look ρ k1,look ρ k2,look ρ k3,look ρ k4,look ρ k5,look ρ k6,look ρ k7,look ρ k8] = [some v0,some v1,some v2,some v3,some v4,some v5,some v6,some v7,some v8]) (h:Jk w0 M L .normal [(k0,v0),(k1,v1),(k2,v2),(k3,v3),(k4,v4),(k5,v5),(k6,v6),(k7,v7),(k8,v8)] m r K):Jg P N w0 M L ops [] ρ m r K:=Zcl _ (by
  injection q with h0 q
  injection q with h1 q
  injection q with h2 q
  injection q with h3 q
  injection q with h4 q
  injection q with h5 q
  injection q with h6 q
  injection q with h7 q
  injection q with h8 q
  exact ⟨h0,h1,h2,h3,h4,h5,h6,h7,h8,trivial⟩) h
theorem gz10 (k0 k1 k2 k3 k4 k5 k6 k7 k8 k9:Nat){v0 v1 v2 v3 v4 v5 v6 v7 v8 v9:Value}(q:[look ρ k0,look ρ k1,look ρ k2,look ρ k3,look ρ k4,look ρ k5,look ρ k6,look ρ k7,look ρ k8,look ρ k9] = [some v0,some v1,some v2,some v3,some v4,some v5,some v6,some v7,some v8,some v9]) (h:Jk w0 M L .normal [(k0,v0),(k1,v1),(k2,v2),(k3,v3),(k4,v4),(k5,v5),(k6,v6),(k7,v7),(k8,v8),(k9,v9)] m r K):Jg P N w0 M L ops [] ρ m r K:=Zcl _ (by
  injection q with h0 q
  injection q with h1 q
  injection q with h2 q
  injection q with h3 q
  injection q with h4 q
  injection q with h5 q
  injection q with h6 q
  injection q with h7 q
  injection q with h8 q
  injection q with h9 q
  exact ⟨h0,h1,h2,h3,h4,h5,h6,h7,h8,h9,trivial⟩) h
theorem gz11 (k0 k1 k2 k3 k4 k5 k6 k7 k8 k9 k10:Nat){v0 v1 v2 v3 v4 v5 v6 v7 v8 v9 v10:Value}(q:[look ρ k0,look ρ k1,look ρ k2,look ρ k3,look ρ k4,look ρ k5,look ρ k6,look ρ k7,look ρ k8,look ρ k9,look ρ k10] = [some v0,some v1,some v2,some v3,some v4,some v5,some v6,some v7,some v8,some v9,some v10]) (h:Jk w0 M L .normal [(k0,v0),(k1,v1),(k2,v2),(k3,v3),(k4,v4),(k5,v5),(k6,v6),(k7,v7),(k8,v8),(k9,v9),(k10,v10)] m r K):Jg P N w0 M L ops [] ρ m r K:=Zcl _ (by
  injection q with h0 q
  injection q with h1 q
  injection q with h2 q
  injection q with h3 q
  injection q with h4 q
  injection q with h5 q
  injection q with h6 q
  injection q with h7 q
  injection q with h8 q
  injection q with h9 q
  injection q with h10 q
  exact ⟨h0,h1,h2,h3,h4,h5,h6,h7,h8,h9,h10,trivial⟩) h
theorem gz12 (k0 k1 k2 k3 k4 k5 k6 k7 k8 k9 k10 k11:Nat){v0 v1 v2 v3 v4 v5 v6 v7 v8 v9 v10 v11:Value}(q:[look ρ k0,look ρ k1,look ρ k2,look ρ k3,look ρ k4,look ρ k5,look ρ k6,look ρ k7,look ρ k8,look ρ k9,look ρ k10,look ρ k11] = [some v0,some v1,some v2,some v3,some v4,some v5,some v6,some v7,some v8,some v9,some v10,some v11]) (h:Jk w0 M L .normal [(k0,v0),(k1,v1),(k2,v2),(k3,v3),(k4,v4),(k5,v5),(k6,v6),(k7,v7),(k8,v8),(k9,v9),(k10,v10),(k11,v11)] m r K):Jg P N w0 M L ops [] ρ m r K:=Zcl _ (by
  injection q with h0 q
  injection q with h1 q
  injection q with h2 q
  injection q with h3 q
  injection q with h4 q
  injection q with h5 q
  injection q with h6 q
  injection q with h7 q
  injection q with h8 q
  injection q with h9 q
  injection q with h10 q
  injection q with h11 q
  exact ⟨h0,h1,h2,h3,h4,h5,h6,h7,h8,h9,h10,h11,trivial⟩) h
theorem gz13 (k0 k1 k2 k3 k4 k5 k6 k7 k8 k9 k10 k11 k12:Nat){v0 v1 v2 v3 v4 v5 v6 v7 v8 v9 v10 v11 v12:Value}(q:[look ρ k0,look ρ k1,look ρ k2,look ρ k3,look ρ k4,look ρ k5,look ρ k6,look ρ k7,look ρ k8,look ρ k9,look ρ k10,look ρ k11,look ρ k12] = [some v0,some v1,some v2,some v3,some v4,some v5,some v6,some v7,some v8,some v9,some v10,some v11,some v12]) (h:Jk w0 M L .normal [(k0,v0),(k1,v1),(k2,v2),(k3,v3),(k4,v4),(k5,v5),(k6,v6),(k7,v7),(k8,v8),(k9,v9),(k10,v10),(k11,v11),(k12,v12)] m r K):Jg P N w0 M L ops [] ρ m r K:=Zcl _ (by
  injection q with h0 q
  injection q with h1 q
  injection q with h2 q
  injection q with h3 q
  injection q with h4 q
  injection q with h5 q
  injection q with h6 q
  injection q with h7 q
  injection q with h8 q
  injection q with h9 q
  injection q with h10 q
  injection q with h11 q
  injection q with h12 q
  exact ⟨h0,h1,h2,h3,h4,h5,h6,h7,h8,h9,h10,h11,h12,trivial⟩) h
theorem gz14 (k0 k1 k2 k3 k4 k5 k6 k7 k8 k9 k10 k11 k12 k13:Nat){v0 v1 v2 v3 v4 v5 v6 v7 v8 v9 v10 v11 v12 v13:Value}(q:[look ρ k0,look ρ k1,look ρ k2,look ρ k3,look ρ k4,look ρ k5,look ρ k6,look ρ k7,look ρ k8,look ρ k9,look ρ k10,look ρ k11,look ρ k12,look ρ k13] = [some v0,some v1,some v2,some v3,some v4,some v5,some v6,some v7,some v8,some v9,some v10,some v11,some v12,some v13]) (h:Jk w0 M L .normal [(k0,v0),(k1,v1),(k2,v2),(k3,v3),(k4,v4),(k5,v5),(k6,v6),(k7,v7),(k8,v8),(k9,v9),(k10,v10),(k11,v11),(k12,v12),(k13,v13)] m r K):Jg P N w0 M L ops [] ρ m r K:=Zcl _ (by
  injection q with h0 q
  injection q with h1 q
  injection q with h2 q
  injection q with h3 q
  injection q with h4 q
  injection q with h5 q
  injection q with h6 q
  injection q with h7 q
  injection q with h8 q
  injection q with h9 q
  injection q with h10 q
  injection q with h11 q
  injection q with h12 q
  injection q with h13 q
  exact ⟨h0,h1,h2,h3,h4,h5,h6,h7,h8,h9,h10,h11,h12,h13,trivial⟩) h
theorem gz15 (k0 k1 k2 k3 k4 k5 k6 k7 k8 k9 k10 k11 k12 k13 k14:Nat){v0 v1 v2 v3 v4 v5 v6 v7 v8 v9 v10 v11 v12 v13 v14:Value}(q:[look ρ k0,look ρ k1,look ρ k2,look ρ k3,look ρ k4,look ρ k5,look ρ k6,look ρ k7,look ρ k8,look ρ k9,look ρ k10,look ρ k11,look ρ k12,look ρ k13,look ρ k14] = [some v0,some v1,some v2,some v3,some v4,some v5,some v6,some v7,some v8,some v9,some v10,some v11,some v12,some v13,some v14]) (h:Jk w0 M L .normal [(k0,v0),(k1,v1),(k2,v2),(k3,v3),(k4,v4),(k5,v5),(k6,v6),(k7,v7),(k8,v8),(k9,v9),(k10,v10),(k11,v11),(k12,v12),(k13,v13),(k14,v14)] m r K):Jg P N w0 M L ops [] ρ m r K:=Zcl _ (by
  injection q with h0 q
  injection q with h1 q
  injection q with h2 q
  injection q with h3 q
  injection q with h4 q
  injection q with h5 q
  injection q with h6 q
  injection q with h7 q
  injection q with h8 q
  injection q with h9 q
  injection q with h10 q
  injection q with h11 q
  injection q with h12 q
  injection q with h13 q
  injection q with h14 q
  exact ⟨h0,h1,h2,h3,h4,h5,h6,h7,h8,h9,h10,h11,h12,h13,h14,trivial⟩) h
theorem gz16 (k0 k1 k2 k3 k4 k5 k6 k7 k8 k9 k10 k11 k12 k13 k14 k15:Nat){v0 v1 v2 v3 v4 v5 v6 v7 v8 v9 v10 v11 v12 v13 v14 v15:Value}(q:[look ρ k0,look ρ k1,look ρ k2,look ρ k3,look ρ k4,look ρ k5,look ρ k6,look ρ k7,look ρ k8,look ρ k9,look ρ k10,look ρ k11,look ρ k12,look ρ k13,look ρ k14,look ρ k15] = [some v0,some v1,some v2,some v3,some v4,some v5,some v6,some v7,some v8,some v9,some v10,some v11,some v12,some v13,some v14,some v15]) (h:Jk w0 M L .normal [(k0,v0),(k1,v1),(k2,v2),(k3,v3),(k4,v4),(k5,v5),(k6,v6),(k7,v7),(k8,v8),(k9,v9),(k10,v10),(k11,v11),(k12,v12),(k13,v13),(k14,v14),(k15,v15)] m r K):Jg P N w0 M L ops [] ρ m r K:=Zcl _ (by
  injection q with h0 q
  injection q with h1 q
  injection q with h2 q
  injection q with h3 q
  injection q with h4 q
  injection q with h5 q
  injection q with h6 q
  injection q with h7 q
  injection q with h8 q
  injection q with h9 q
  injection q with h10 q
  injection q with h11 q
  injection q with h12 q
  injection q with h13 q
  injection q with h14 q
  injection q with h15 q
  exact ⟨h0,h1,h2,h3,h4,h5,h6,h7,h8,h9,h10,h11,h12,h13,h14,h15,trivial⟩) h
theorem u1 {k0:Nat}{v0:Value}(q:[look ρ k0] = [some v0]):Sub [(k0,v0)] ρ:=by
  injection q with h0 q
  exact ⟨h0,trivial⟩
theorem u2 {k0 k1:Nat}{v0 v1:Value}(q:[look ρ k0,look ρ k1] = [some v0,some v1]):Sub [(k0,v0),(k1,v1)] ρ:=by
  injection q with h0 q
  injection q with h1 q
  exact ⟨h0,h1,trivial⟩
theorem u3 {k0 k1 k2:Nat}{v0 v1 v2:Value}(q:[look ρ k0,look ρ k1,look ρ k2] = [some v0,some v1,some v2]):Sub [(k0,v0),(k1,v1),(k2,v2)] ρ:=by
  injection q with h0 q
  injection q with h1 q
  injection q with h2 q
  exact ⟨h0,h1,h2,trivial⟩
theorem u4 {k0 k1 k2 k3:Nat}{v0 v1 v2 v3:Value}(q:[look ρ k0,look ρ k1,look ρ k2,look ρ k3] = [some v0,some v1,some v2,some v3]):Sub [(k0,v0),(k1,v1),(k2,v2),(k3,v3)] ρ:=by
  injection q with h0 q
  injection q with h1 q
  injection q with h2 q
  injection q with h3 q
  exact ⟨h0,h1,h2,h3,trivial⟩
theorem u5 {k0 k1 k2 k3 k4:Nat}{v0 v1 v2 v3 v4:Value}(q:[look ρ k0,look ρ k1,look ρ k2,look ρ k3,look ρ k4] = [some v0,some v1,some v2,some v3,some v4]):Sub [(k0,v0),(k1,v1),(k2,v2),(k3,v3),(k4,v4)] ρ:=by
  injection q with h0 q
  injection q with h1 q
  injection q with h2 q
  injection q with h3 q
  injection q with h4 q
  exact ⟨h0,h1,h2,h3,h4,trivial⟩
theorem u6 {k0 k1 k2 k3 k4 k5:Nat}{v0 v1 v2 v3 v4 v5:Value}(q:[look ρ k0,look ρ k1,look ρ k2,look ρ k3,look ρ k4,look ρ k5] = [some v0,some v1,some v2,some v3,some v4,some v5]):Sub [(k0,v0),(k1,v1),(k2,v2),(k3,v3),(k4,v4),(k5,v5)] ρ:=by
  injection q with h0 q
  injection q with h1 q
  injection q with h2 q
  injection q with h3 q
  injection q with h4 q
  injection q with h5 q
  exact ⟨h0,h1,h2,h3,h4,h5,trivial⟩
theorem u7 {k0 k1 k2 k3 k4 k5 k6:Nat}{v0 v1 v2 v3 v4 v5 v6:Value}(q:[look ρ k0,look ρ k1,look ρ k2,look ρ k3,look ρ k4,look ρ k5,look ρ k6] = [some v0,some v1,some v2,some v3,some v4,some v5,some v6]):Sub [(k0,v0),(k1,v1),(k2,v2),(k3,v3),(k4,v4),(k5,v5),(k6,v6)] ρ:=by
  injection q with h0 q
  injection q with h1 q
  injection q with h2 q
  injection q with h3 q
  injection q with h4 q
  injection q with h5 q
  injection q with h6 q
  exact ⟨h0,h1,h2,h3,h4,h5,h6,trivial⟩
theorem u8 {k0 k1 k2 k3 k4 k5 k6 k7:Nat}{v0 v1 v2 v3 v4 v5 v6 v7:Value}(q:[look ρ k0,look ρ k1,look ρ k2,look ρ k3,look ρ k4,look ρ k5,look ρ k6,look ρ k7] = [some v0,some v1,some v2,some v3,some v4,some v5,some v6,some v7]):Sub [(k0,v0),(k1,v1),(k2,v2),(k3,v3),(k4,v4),(k5,v5),(k6,v6),(k7,v7)] ρ:=by
  injection q with h0 q
  injection q with h1 q
  injection q with h2 q
  injection q with h3 q
  injection q with h4 q
  injection q with h5 q
  injection q with h6 q
  injection q with h7 q
  exact ⟨h0,h1,h2,h3,h4,h5,h6,h7,trivial⟩
theorem u9 {k0 k1 k2 k3 k4 k5 k6 k7 k8:Nat}{v0 v1 v2 v3 v4 v5 v6 v7 v8:Value}(q:[look ρ k0,look ρ k1,look ρ k2,look ρ k3,look ρ k4,look ρ k5,look ρ k6,look ρ k7,look ρ k8] = [some v0,some v1,some v2,some v3,some v4,some v5,some v6,some v7,some v8]):Sub [(k0,v0),(k1,v1),(k2,v2),(k3,v3),(k4,v4),(k5,v5),(k6,v6),(k7,v7),(k8,v8)] ρ:=by
  injection q with h0 q
  injection q with h1 q
  injection q with h2 q
  injection q with h3 q
  injection q with h4 q
  injection q with h5 q
  injection q with h6 q
  injection q with h7 q
  injection q with h8 q
  exact ⟨h0,h1,h2,h3,h4,h5,h6,h7,h8,trivial⟩
theorem u10 {k0 k1 k2 k3 k4 k5 k6 k7 k8 k9:Nat}{v0 v1 v2 v3 v4 v5 v6 v7 v8 v9:Value}(q:[look ρ k0,look ρ k1,look ρ k2,look ρ k3,look ρ k4,look ρ k5,look ρ k6,look ρ k7,look ρ k8,look ρ k9] = [some v0,some v1,some v2,some v3,some v4,some v5,some v6,some v7,some v8,some v9]):Sub [(k0,v0),(k1,v1),(k2,v2),(k3,v3),(k4,v4),(k5,v5),(k6,v6),(k7,v7),(k8,v8),(k9,v9)] ρ:=by
  injection q with h0 q
  injection q with h1 q
  injection q with h2 q
  injection q with h3 q
  injection q with h4 q
  injection q with h5 q
  injection q with h6 q
  injection q with h7 q
  injection q with h8 q
  injection q with h9 q
  exact ⟨h0,h1,h2,h3,h4,h5,h6,h7,h8,h9,trivial⟩
theorem u11 {k0 k1 k2 k3 k4 k5 k6 k7 k8 k9 k10:Nat}{v0 v1 v2 v3 v4 v5 v6 v7 v8 v9 v10:Value}(q:[look ρ k0,look ρ k1,look ρ k2,look ρ k3,look ρ k4,look ρ k5,look ρ k6,look ρ k7,look ρ k8,look ρ k9,look ρ k10] = [some v0,some v1,some v2,some v3,some v4,some v5,some v6,some v7,some v8,some v9,some v10]):Sub [(k0,v0),(k1,v1),(k2,v2),(k3,v3),(k4,v4),(k5,v5),(k6,v6),(k7,v7),(k8,v8),(k9,v9),(k10,v10)] ρ:=by
  injection q with h0 q
  injection q with h1 q
  injection q with h2 q
  injection q with h3 q
  injection q with h4 q
  injection q with h5 q
  injection q with h6 q
  injection q with h7 q
  injection q with h8 q
  injection q with h9 q
  injection q with h10 q
  exact ⟨h0,h1,h2,h3,h4,h5,h6,h7,h8,h9,h10,trivial⟩
theorem u12 {k0 k1 k2 k3 k4 k5 k6 k7 k8 k9 k10 k11:Nat}{v0 v1 v2 v3 v4 v5 v6 v7 v8 v9 v10 v11:Value}(q:[look ρ k0,look ρ k1,look ρ k2,look ρ k3,look ρ k4,look ρ k5,look ρ k6,look ρ k7,look ρ k8,look ρ k9,look ρ k10,look ρ k11] = [some v0,some v1,some v2,some v3,some v4,some v5,some v6,some v7,some v8,some v9,some v10,some v11]):Sub [(k0,v0),(k1,v1),(k2,v2),(k3,v3),(k4,v4),(k5,v5),(k6,v6),(k7,v7),(k8,v8),(k9,v9),(k10,v10),(k11,v11)] ρ:=by
  injection q with h0 q
  injection q with h1 q
  injection q with h2 q
  injection q with h3 q
  injection q with h4 q
  injection q with h5 q
  injection q with h6 q
  injection q with h7 q
  injection q with h8 q
  injection q with h9 q
  injection q with h10 q
  injection q with h11 q
  exact ⟨h0,h1,h2,h3,h4,h5,h6,h7,h8,h9,h10,h11,trivial⟩
theorem u13 {k0 k1 k2 k3 k4 k5 k6 k7 k8 k9 k10 k11 k12:Nat}{v0 v1 v2 v3 v4 v5 v6 v7 v8 v9 v10 v11 v12:Value}(q:[look ρ k0,look ρ k1,look ρ k2,look ρ k3,look ρ k4,look ρ k5,look ρ k6,look ρ k7,look ρ k8,look ρ k9,look ρ k10,look ρ k11,look ρ k12] = [some v0,some v1,some v2,some v3,some v4,some v5,some v6,some v7,some v8,some v9,some v10,some v11,some v12]):Sub [(k0,v0),(k1,v1),(k2,v2),(k3,v3),(k4,v4),(k5,v5),(k6,v6),(k7,v7),(k8,v8),(k9,v9),(k10,v10),(k11,v11),(k12,v12)] ρ:=by
  injection q with h0 q
  injection q with h1 q
  injection q with h2 q
  injection q with h3 q
  injection q with h4 q
  injection q with h5 q
  injection q with h6 q
  injection q with h7 q
  injection q with h8 q
  injection q with h9 q
  injection q with h10 q
  injection q with h11 q
  injection q with h12 q
  exact ⟨h0,h1,h2,h3,h4,h5,h6,h7,h8,h9,h10,h11,h12,trivial⟩
theorem u14 {k0 k1 k2 k3 k4 k5 k6 k7 k8 k9 k10 k11 k12 k13:Nat}{v0 v1 v2 v3 v4 v5 v6 v7 v8 v9 v10 v11 v12 v13:Value}(q:[look ρ k0,look ρ k1,look ρ k2,look ρ k3,look ρ k4,look ρ k5,look ρ k6,look ρ k7,look ρ k8,look ρ k9,look ρ k10,look ρ k11,look ρ k12,look ρ k13] = [some v0,some v1,some v2,some v3,some v4,some v5,some v6,some v7,some v8,some v9,some v10,some v11,some v12,some v13]):Sub [(k0,v0),(k1,v1),(k2,v2),(k3,v3),(k4,v4),(k5,v5),(k6,v6),(k7,v7),(k8,v8),(k9,v9),(k10,v10),(k11,v11),(k12,v12),(k13,v13)] ρ:=by
  injection q with h0 q
  injection q with h1 q
  injection q with h2 q
  injection q with h3 q
  injection q with h4 q
  injection q with h5 q
  injection q with h6 q
  injection q with h7 q
  injection q with h8 q
  injection q with h9 q
  injection q with h10 q
  injection q with h11 q
  injection q with h12 q
  injection q with h13 q
  exact ⟨h0,h1,h2,h3,h4,h5,h6,h7,h8,h9,h10,h11,h12,h13,trivial⟩
theorem u15 {k0 k1 k2 k3 k4 k5 k6 k7 k8 k9 k10 k11 k12 k13 k14:Nat}{v0 v1 v2 v3 v4 v5 v6 v7 v8 v9 v10 v11 v12 v13 v14:Value}(q:[look ρ k0,look ρ k1,look ρ k2,look ρ k3,look ρ k4,look ρ k5,look ρ k6,look ρ k7,look ρ k8,look ρ k9,look ρ k10,look ρ k11,look ρ k12,look ρ k13,look ρ k14] = [some v0,some v1,some v2,some v3,some v4,some v5,some v6,some v7,some v8,some v9,some v10,some v11,some v12,some v13,some v14]):Sub [(k0,v0),(k1,v1),(k2,v2),(k3,v3),(k4,v4),(k5,v5),(k6,v6),(k7,v7),(k8,v8),(k9,v9),(k10,v10),(k11,v11),(k12,v12),(k13,v13),(k14,v14)] ρ:=by
  injection q with h0 q
  injection q with h1 q
  injection q with h2 q
  injection q with h3 q
  injection q with h4 q
  injection q with h5 q
  injection q with h6 q
  injection q with h7 q
  injection q with h8 q
  injection q with h9 q
  injection q with h10 q
  injection q with h11 q
  injection q with h12 q
  injection q with h13 q
  injection q with h14 q
  exact ⟨h0,h1,h2,h3,h4,h5,h6,h7,h8,h9,h10,h11,h12,h13,h14,trivial⟩
theorem u16 {k0 k1 k2 k3 k4 k5 k6 k7 k8 k9 k10 k11 k12 k13 k14 k15:Nat}{v0 v1 v2 v3 v4 v5 v6 v7 v8 v9 v10 v11 v12 v13 v14 v15:Value}(q:[look ρ k0,look ρ k1,look ρ k2,look ρ k3,look ρ k4,look ρ k5,look ρ k6,look ρ k7,look ρ k8,look ρ k9,look ρ k10,look ρ k11,look ρ k12,look ρ k13,look ρ k14,look ρ k15] = [some v0,some v1,some v2,some v3,some v4,some v5,some v6,some v7,some v8,some v9,some v10,some v11,some v12,some v13,some v14,some v15]):Sub [(k0,v0),(k1,v1),(k2,v2),(k3,v3),(k4,v4),(k5,v5),(k6,v6),(k7,v7),(k8,v8),(k9,v9),(k10,v10),(k11,v11),(k12,v12),(k13,v13),(k14,v14),(k15,v15)] ρ:=by
  injection q with h0 q
  injection q with h1 q
  injection q with h2 q
  injection q with h3 q
  injection q with h4 q
  injection q with h5 q
  injection q with h6 q
  injection q with h7 q
  injection q with h8 q
  injection q with h9 q
  injection q with h10 q
  injection q with h11 q
  injection q with h12 q
  injection q with h13 q
  injection q with h14 q
  injection q with h15 q
  exact ⟨h0,h1,h2,h3,h4,h5,h6,h7,h8,h9,h10,h11,h12,h13,h14,h15,trivial⟩
end
end Go.Hy
namespace Go.Proofs.YtdgminllobhncaaGreat
open Go.Hy
set_option linter.unusedVariables false
set_option linter.unusedSimpArgs false
set_option maxHeartbeats 2000000
set_option maxRecDepth 100000
instance:CK Tryz.prog 234 LayoutPlace.kv:=CK.ofS Tryz.underlying234 Tryz.underlying237 (fun k e w=>by cases k; kernel_rfl)
  (fun a b w=>by
    unfold Op.equal
    rw [show Op.maxDepth = 9997 + 3 from rfl]
    unfold LayoutPlace.kv
    rw [qin237]
    congr 1
    exact decide_eq_decide.2 (by cases a; cases b; simp)) (by kernel_rfl)
theorem Zkf {w:World}{a0:(List Int)}{ha0:Hd}{v:HumpgenMaker}(hm:Zhq a0 = some v) (Rha0:Sl w ha0 encI a0):Calls Tryz.prog 5 ([ha0.v]:List Value).toArray w (fun e w'=>∃ g:Nat,e = .returned (.pointer (some ⟨g,0,none⟩))∧St w w' [] [(Res.blk g 65 [ha0.v,.int .i64 v.fn])]):=by
 refine ZbN (vs:=[ha0.v]) (R:=fun (v:HumpgenMaker) (e:Ending) (w':World)=>∃ g:Nat,e = .returned (.pointer (some ⟨g,0,none⟩))∧St w w' [] [(Res.blk g 65 [ha0.v,.int .i64 v.fn])]) Tryz.func5 e Tryz.ntmps5 e e (St.refl w) hm ?_
 unfold Zhq
 clear hm
 refine jqr 0 (Zaf e e e (gz1 0 e (jsr 1 (Zac e e e (jy (ZaX e (o2 e)) e e (ZbD e (l2 e) e e fun g1=>Zaf e e e (gz1 2 e (Zad (Zam (Zaj e (fun w hs=>.tmp e) (fun w hs=>⟨g1,e,hs.sel (is:=[0]) e e⟩)))))))))))
theorem ZgW {w:World}{a0:Int}  {v:ByteArray}(hm:Zem a0 = some v):Gives Tryz.prog 62 [.int .i64 a0] w (.string v):=by
 refine Za4 (vs:=[.int .i64 a0]) (U:=fun (v:ByteArray)=>.string v) Tryz.func62 e Tryz.ntmps62 e e hm ?_
 unfold Zem
 clear hm
 refine jqr 0 (Zaf e e e (gz1 0 e (jsr 1 (Zac e e e (jy (Zch e e (by decide)) e e (Zc6 (fun w hs=>ZdG e e (by decide)) e e fun x1=>jy (Zal e e) e e (Zc6 (fun w hs=>Zh4 Tryz.underlying3 Tryz.underlying5 e) e e fun x2=>Zac e e e (jy (Zch e e (by decide)) e e (Zc6 (fun w hs=>ZdG e e (by decide)) e e fun x3=>jy (Zal e e) e e (Zc6 (fun w hs=>Zh4 Tryz.underlying3 Tryz.underlying5 e) e e fun x4=>Zac e e e (jy (ZdG e e (by decide)) e e (jy (Zal e e) e e ?_))))))))))))
 refine Zc6 (fun w hs=>Zh4 Tryz.underlying3 Tryz.underlying5 e) e e fun x5=>ZaT (enc:=(encK .u8)) [101,x2,x4,x5] e e e e e e e e fun hd6=>jg_y (fun w hs=>yv_b2s Tryz.underlying215 Tryz.underlying5 Tryz.underlying9 e (hs.row 0 e)) e e (Zaf e e e (gz1 2 e (Zad (Zam (Zaj e (fun w hs=>.tmp e) (fun w hs=>⟨e,hs.drop⟩))))))
theorem ZaP {w:World}{a0:HumpgenMaker}{a1:Int}{ha0A:Hd}{b0:Nat}{v:(Int×Int)}(hm:ZaW a0 a1 = some v) (Hb:Blk w b0 65 [ha0A.v,.int .i64 a0.fn]) (Rha0_fl:Sl w ha0A encI a0.fl) (Oha0_fl:Offs ha0A [b0]):Calls Tryz.prog 18 ([.pointer (some ⟨b0,0,none⟩),.int .i64 a1]:List Value).toArray w (fun e w'=>∃ g:Unit,e = .returned (.int .i64 v.1)∧St w w' [.blk b0 65 [ha0A.v,.int .i64 v.2]] []):=by
 refine ZbN (vs:=[.pointer (some ⟨b0,0,none⟩),.int .i64 a1]) (R:=fun (v:(Int×Int)) (e:Ending) (w':World)=>∃ g:Unit,e = .returned (.int .i64 v.1)∧St w w' [.blk b0 65 [ha0A.v,.int .i64 v.2]] []) Tryz.func18 e Tryz.ntmps18 e e (ZhS Hb) hm ?_
 unfold ZaW
 clear hm
 refine jqr 0 (Zaf e e e (gz2 0 1 e (jsr 1 (Zaf e e e (gz3 0 1 5 e (Zad (Za2 (fun (s:Int) (g:Unit)=>[(0,.pointer (some ⟨b0,0,none⟩)),(1,.int .i64 a1),(5,.int .i64 s)]) (fun s g=>[(Res.blk b0 65 [ha0A.v,.int .i64 a0.fn])]) (fun s g=>[]) ?_ ?_)))))))
 rotate_left
 ·intro k3 H4
  refine jqr 2 (Zac e e e (jy (Zbg e) e e (jy (Zab e) e e (jg_y (fun w hs=>ZaJ e (ld1B (hs.blkM (i:=0) e) e)) e e (jg_y (fun w hs=>ZaV e (hs.argM Rha0_fl Oha0_fl)) e e (jy (Zbh e e) e e (gz4 0 1 5 11 e (Zad (Zai e ?_ ?_)))))))))
  rotate_left
  ·refine ZaK (Zap H4 0 () [] (u3 e) e e e)
  refine jdr (L':=[_]) 3 [0] [0,1,2,3,4,5,6,7,8,9,10,11,12,13,14,15,16,17,18,19,20,21,22,23,24,25,26,27,28] 536870911 536870911 [0,1,2,4,0,16,32,64,0,256,512,1024,2048,4224,8200,16384,0,65536,131072,262144,0,1048576,2097152,4194304,8388608,17301504,33554432,67141632,268435455] [0,1,3,7,0,16,48,112,0,256,768,1792,3840,8176,16383,32767,0,65536,196608,458752,0,1048576,3145728,7340032,15728640,33488896,67043328,134217727,268435455] [(0,true),(1,true),(2,true),(3,true),(4,true),(5,true),(6,true),(7,true),(8,true),(9,true),(10,true),(11,true),(12,true),(13,true),(14,true),(15,true),(16,true),(17,true),(18,true),(19,true),(20,true),(21,true),(22,true),(23,true),(24,true),(25,true),(26,true),(27,true),(28,true)] e (Zas Zbb) (Zau e e e e (jdy e (Zbg e) e e (jdy e (Zab e) e e (jdl 0 e e e e e e (Zau e e e e (jdy e (Zbg e) e e (jdy e (Zab e) e e (jdl 0 e e e e e e (Zau e e e e (jdy e (Zbg e) e e (jdy e (Zab e) e e (jdl 0 e e e e e e (jd_y e (fun w hs=>ZaV e (hs.argM Rha0_fl Oha0_fl)) e e (ZdV fun h6=>ZdP e (fun w hs=>ZdG e e (of_decide_eq_true h6)) e e fun x7=>Zbk fun x8 h9=>?_))))))))))))))
  refine jd_y e (fun w hs=>ZaC e e (hs.argM Rha0_fl Oha0_fl) h9) e e (jd_y e (fun w hs=>ZaQ e (hs.argM Rha0_fl Oha0_fl) h9.1 e) e e (Zau e e e e (jdy e (Zbg e) e e (jdy e (Zab e) e e (jdl 0 e e e e e e (Zau e e e e (jdy e (Zbg e) e e (jdy e (Zab e) e e (jdl 0 e e e e e e (jd_y e (fun w hs=>ZaV e (hs.argM Rha0_fl Oha0_fl)) e e (ZdV fun h10=>ZdP e (fun w hs=>Zch e e (of_decide_eq_true h10)) e e fun x11=>jdy e (ZbI e e) e e (jdy e (Zal e e) e e (Zbz e e e e (ZaU [(0,_),(1,_),(5,_)] ⟨e,e,e,trivial⟩ ?_))))))))))))))
  exact Zap H4 (w64 (x8 + (w64 (x11 * 7919)))) () [] (u3 e) e e e
 intro z1 q2
 refine jqr 4 (Zac e e e (jy (Zbg e) e e (jy (Zab e) e e (jg_y (fun w hs=>ZaJ e (ld1B (hs.blkM (i:=0) e) e)) e e (jy (Zal e e) e e (jy (Zbg e) e e (jy (Zab e) e e (Zj9 0 e e e (l1 e) e e e e (l2 e) (r1 e) (gz2 1 5 e (jsr 5 (Zac e e e (Zac e e e (Zgs fun h5=>jy (ZdG e e (of_decide_eq_true h5)) e e (Zaf e e e (gz2 1 5 e ?_)))))))))))))))
 refine Zad (Zak (jqr 6 (Zac e e e (jy (ZaD e e) e e (gz3 1 5 51 e (Zad (Zai e ?_ ?_)))))))
 rotate_left
 ·refine jks (jqr 8 (Zac e e e (Zaf e e e (gz1 4 e (Zad (Zam (Zaj e (fun w hs=>.tmp e) (fun w hs=>⟨(),e,hs.sel (is:=[]) e e⟩))))))))
 refine Zar 7 (Zac e e e (Zac e e e (jy (Zal e e) e e (Zaf e e e (gz1 5 e (jsr 8 (Zac e e e (Zaf e e e (gz1 4 e (Zad (Zam (Zaj e (fun w hs=>.tmp e) (fun w hs=>⟨(),e,hs.sel (is:=[]) e e⟩)))))))))))))
theorem ZaB {w:World}{a0:HumpgenMaker}{a1:(List Int)}{ha0A:Hd}{b0:Nat}{ha1:Hd}{v:(Int×Int)}(hm:ZaM a0 a1 = some v) (Hb:Blk w b0 65 [ha0A.v,.int .i64 a0.fn]) (Rha0_fl:Sl w ha0A encI a0.fl) (Oha0_fl:Offs ha0A [b0]) (Rha1:Sl w ha1 encI a1) (Oha1:Offs ha1 [b0]):Calls Tryz.prog 19 ([.pointer (some ⟨b0,0,none⟩),ha1.v]:List Value).toArray w (fun e w'=>∃ g:Unit,e = .returned (.int .i64 v.1)∧St w w' [.blk b0 65 [ha0A.v,.int .i64 v.2]] []):=by
 refine ZbN (vs:=[.pointer (some ⟨b0,0,none⟩),ha1.v]) (R:=fun (v:(Int×Int)) (e:Ending) (w':World)=>∃ g:Unit,e = .returned (.int .i64 v.1)∧St w w' [.blk b0 65 [ha0A.v,.int .i64 v.2]] []) Tryz.func19 e Tryz.ntmps19 e e (ZhS Hb) hm ?_
 unfold ZaM
 clear hm
 refine jqr 0 (Zaf e e e (gz2 0 1 e (jsr 1 (Zac e e e (Zac e e e (Zac e e e (jg_y (fun w hs=>ZaV e (hs.argM Rha1 Oha1)) e e (jm_c e (fun v w hs hm=>ZaP hm (hs.blkM (i:=0) e) (hs.argM Rha0_fl Oha0_fl) Oha0_fl) (fun _=>e) e e fun v1 q2=>Za6 fun x3 h4=>jg_y (fun w hs=>ZaC e e (hs.argM Rha1 Oha1) h4) e e (jg_y (fun w hs=>ZaQ e (hs.argM Rha1 Oha1) h4.1 e) e e (Zaf e e e (gz1 4 e (Zad (Zam (Zaj e (fun w hs=>.tmp e) (fun w hs=>⟨(),e,hs.sel (is:=[]) e e⟩)))))))))))))))
theorem Zcz {w:World}{a0:HumpgenMaker}{a1:Int}{a2:Int}{a3:Int}{a4:Int}{ha0A:Hd}{b0:Nat}{v:(Element×Int)}(hm:ZbK a0 a1 a2 a3 a4 = some v) (Hb:Blk w b0 65 [ha0A.v,.int .i64 a0.fn]) (Rha0_fl:Sl w ha0A encI a0.fl) (Oha0_fl:Offs ha0A [b0]):Calls Tryz.prog 63 ([.pointer (some ⟨b0,0,none⟩),.int .i64 a1,.int .i64 a2,.int .i64 a3,.int .i64 a4]:List Value).toArray w (fun e w'=>∃ g:Unit,e = .returned (.agg #[.int .i64 v.1.Kind,.string v.1.Name,.int .i64 v.1.Parent,.int .i64 v.1.Side,.int .i64 v.1.Length,.int .i64 v.1.Grade,.int .i64 v.1.Curve,.int .i64 v.1.Power])∧St w w' [.blk b0 65 [ha0A.v,.int .i64 v.2]] []):=by
 refine ZbN (vs:=[.pointer (some ⟨b0,0,none⟩),.int .i64 a1,.int .i64 a2,.int .i64 a3,.int .i64 a4]) (R:=fun (v:(Element×Int)) (e:Ending) (w':World)=>∃ g:Unit,e = .returned (.agg #[.int .i64 v.1.Kind,.string v.1.Name,.int .i64 v.1.Parent,.int .i64 v.1.Side,.int .i64 v.1.Length,.int .i64 v.1.Grade,.int .i64 v.1.Curve,.int .i64 v.1.Power])∧St w w' [.blk b0 65 [ha0A.v,.int .i64 v.2]] []) Tryz.func63 e Tryz.ntmps63 e e (ZhS Hb) hm ?_
 unfold ZbK
 clear hm
 refine jqr 0 (ZaR (l8 e) e e fun g1=>gz6 0 1 2 3 4 10 e (jsr 1 (Zac e e e (Zac e e e (Zbc e (fun v w hs hm=>ZgW hm ) e e fun v2=>Zac e e e (Zac e e e (Zac e e e (ZaT (enc:=encI) [1000,5000,9000,12000,30000,100000] e e e e e e e e fun hd3=>jm_c e (fun v w hs hm=>ZaB hm (hs.blkM (i:=0) e) (hs.argM Rha0_fl Oha0_fl) Oha0_fl (hs.row 0 e) (hs.offML 0 0 e e)) (fun _=>e) e e fun v4 q5=>Zac e e e (ZaT (enc:=encI) [0,100,(-150),400,1000,3500,5000] e e e e e e e e fun hd6=>jm_c e (fun v w hs hm=>ZaB hm (hs.blkM (i:=0) e) (hs.argM Rha0_fl Oha0_fl) Oha0_fl (hs.row 0 e) (hs.offML 0 0 e e)) (fun _=>e) e e fun v7 q8=>Zac e e e (ZaT (enc:=encI) [0,0,20,150] e e e e e e e e fun hd9=>?_))))))))))
 refine jm_c e (fun v w hs hm=>ZaB hm (hs.blkM (i:=0) e) (hs.argM Rha0_fl Oha0_fl) Oha0_fl (hs.row 0 e) (hs.offML 0 0 e e)) (fun _=>e) e e fun v10 q11=>jy (ZaX e (o8 e)) e e (ZaR (l8 e) e e fun g12=>Zav 0 e e e (l8 e) e e e e (l8 e) (r5 e) (gz4 0 1 10 11 e (ZaF (is:=[0,4]) (s2 e) e (Zad (Zak (jqr 2 (Zac e e e (gz4 0 10 11 27 e (Zad (Zao (jqr 3 (jy (ZaL e e) e e (Zaf e e e (gz5 0 10 11 27 28 e ?_))))))))))))))
 refine Zad (Zai e ?_ ?_)
 ·refine Zar 4 (Zac e e e (ZaT (enc:=encI) [500000,2000000,8000000,30000000] e e e e e e e e fun hd13=>jm_c e (fun v w hs hm=>ZaB hm (hs.blkM (i:=0) e) (hs.argM Rha0_fl Oha0_fl) Oha0_fl (hs.row 0 e) (hs.offML 0 0 e e)) (fun _=>e) e e fun v14 q15=>jy (Zab e) e e (Zav 1 e e e (l1 e) e e e e (l8 e) (r3 e) (gz2 10 11 e (ZaG (Zad ?_))))))
  refine jqr 7 (jg_y (fun w hs=>ZaJ e (ldBB (hs.blkL (i:=1) e) e)) e e (Zav 2 e e e (l8 e) e e e e (l8 e) (r3 e) (gz1 10 e (ZaF (is:=[2]) (s1 e) e (Zad (Zam (Zaj e (fun w hs=>.cell e (ldBB (hs.blkL (i:=0) e) e)) (fun w hs=>⟨(),e,hs.sel (is:=[]) e e⟩))))))))
 refine jqr 5 (jy (ZaL e e) e e (Zaf e e e (gz4 0 10 11 34 e (Zad (Zai e ?_ ?_)))))
 rotate_left
 ·refine ZaK (ZaG (Zad ?_))
  refine jqr 7 (jg_y (fun w hs=>ZaJ e (ldBB (hs.blkL (i:=0) e) e)) e e (Zav 1 e e e (l8 e) e e e e (l8 e) (r2 e) (gz1 10 e (Zad (Zam (Zaj e (fun w hs=>.cell e (ldBB (hs.blkL (i:=1) e) e)) (fun w hs=>⟨(),e,hs.sel (is:=[]) e e⟩)))))))
 refine Zar 6 (Zac e e e (ZaT (enc:=encI) [100000,400000,700000] e e e e e e e e fun hd16=>jm_c e (fun v w hs hm=>ZaB hm (hs.blkM (i:=0) e) (hs.argM Rha0_fl Oha0_fl) Oha0_fl (hs.row 0 e) (hs.offML 0 0 e e)) (fun _=>e) e e fun v17 q18=>Zac e e e (ZaT (enc:=encI) [(-100),0,50,150] e e e e e e e e fun hd19=>jm_c e (fun v w hs hm=>ZaB hm (hs.blkM (i:=0) e) (hs.argM Rha0_fl Oha0_fl) Oha0_fl (hs.row 0 e) (hs.offML 0 0 e e)) (fun _=>e) e e fun v20 q21=>jy (Zab e) e e (Zav 2 e e e (l1 e) e e e e (l8 e) (r4 e) (jy (Zab e) e e (Zav 2 e e e (l1 e) e e e e (l8 e) (r4 e) (gz2 10 11 e (ZaF (is:=[2,3]) (s2 e) e (ZaG (Zad ?_))))))))))
 refine jqr 7 (jg_y (fun w hs=>ZaJ e (ldBB (hs.blkL (i:=0) e) e)) e e (Zav 1 e e e (l8 e) e e e e (l8 e) (r2 e) (gz1 10 e (Zad (Zam (Zaj e (fun w hs=>.cell e (ldBB (hs.blkL (i:=1) e) e)) (fun w hs=>⟨(),e,hs.sel (is:=[]) e e⟩)))))))
theorem Ze4 {w:World}{a0:HumpgenMaker}{a1:Int}{ha0A:Hd}{b0:Nat}{v:((List Element)×Int)}(hm:Zce a0 a1 = some v) (Hb:Blk w b0 65 [ha0A.v,.int .i64 a0.fn]) (Rha0_fl:Sl w ha0A encI a0.fl) (Oha0_fl:Offs ha0A [b0]):Calls Tryz.prog 33 ([.pointer (some ⟨b0,0,none⟩),.int .i64 a1]:List Value).toArray w (fun e w'=>∃ g:Hd,e = .returned (g.v)∧St w w' [.blk b0 65 [ha0A.v,.int .i64 v.2]] [(rowH g 102 8 Element.enc v.1)]):=by
 refine ZbN (vs:=[.pointer (some ⟨b0,0,none⟩),.int .i64 a1]) (R:=fun (v:((List Element)×Int)) (e:Ending) (w':World)=>∃ g:Hd,e = .returned (g.v)∧St w w' [.blk b0 65 [ha0A.v,.int .i64 v.2]] [(rowH g 102 8 Element.enc v.1)]) Tryz.func33 e Tryz.ntmps33 e e (ZhS Hb) hm ?_
 unfold Zce
 clear hm
 refine jqr 0 (Zaf e e e (gz2 0 1 e (jsr 1 (Zbc e (fun v w hs hm=>ZgW hm ) e e fun v1=>jy (ZaX e (o8 e)) e e (ZaT (enc:=Element.enc) [(Element.mk 0 v1 (-1) 0 0 0 0 0)] e e e e e e e e fun hd2=>Zaf e e e (gz3 0 1 5 e (jsr 2 (jy (ZeJ e (o2 e)) e e (ZaT (enc:=Arr2Int.enc) [(Arr2Int.mk 0 0)] e e e e e e e e fun hd3=>Zaf e e e (gz4 0 1 5 6 e (jsr 3 (Zac e e e (Zac e e e ?_)))))))))))))
 refine jy (Zal e e) e e (jm_c e (fun v w hs hm=>ZaP hm (hs.blkM (i:=0) e) (hs.argM Rha0_fl Oha0_fl) Oha0_fl) (fun _=>e) e e fun v4 q5=>Zaf e e e (gz4 0 5 6 7 e (Zad (Zak (Zao (Zbj (n:=big) (fun (s:((List Element)×(List Arr2Int)×Int×Int)) (g:(Hd×Hd))=>[(0,.pointer (some ⟨b0,0,none⟩)),(5,g.1.v),(6,g.2.v),(7,.int .i64 s.2.2.1)]) (fun s g=>[(Res.blk b0 65 [ha0A.v,.int .i64 s.2.2.2])]) (fun s g=>[(rowH g.1 102 8 Element.enc s.1),(rowH g.2 165 2 Arr2Int.enc s.2.1)]) (([(Element.mk 0 v1 (-1) 0 0 0 0 0)]:List Element),([(Arr2Int.mk 0 0)]:List Arr2Int),v4.1,v4.2) (hd2,hd3) [1,0] (u4 e) e e e ?_))))))
 intro z6 q7 n10 k8 H9
 refine Zak (jqr 4 (Zac e e e (jg_y (fun w hs=>ZaV e (hs.row 1 e)) e e (jy (Zbh e e) e e (gz5 0 5 6 7 22 e (Zad (Zai e ?_ ?_)))))))
 rotate_left
 ·refine ZaE (Za9 (Zbe (Zba (Zad ?_))))
  refine jqr 18 (Zac e e e (Zaf e e e (gz1 4 e (Zad (Zam (Zaj e (fun w hs=>.tmp e) (fun w hs=>⟨q7.1,e,hs.sel (is:=[0]) e e⟩)))))))
 refine jks (Zao (jqr 5 (Zac e e e (Za6 fun x11 h12=>jg_y (fun w hs=>ZaC e e (hs.row 1 e) h12) e e (jg_y (fun w hs=>ZbJ e (hs.row 1 e) h12.1 (l2 e) e) e e (ZaR (l2 e) e e fun g13=>Zav 0 e e e (l2 e) e e e e (l2 e) (r3 e) (gz5 0 5 6 7 8 e (jsr 6 (Zac e e e (Zgs fun h14=>jg_y (fun w hs=>Zkq e e (hs.row 2 e) (of_decide_eq_true h14)) e e (Zaf e e e (gz5 0 5 6 7 8 e (jk_rlo 2 e (of_decide_eq_true h14) (r3 e) ?_)))))))))))))
 refine Zad (Za2 (fun (s:((List Element)×Int×Int×Int)) (g:Hd)=>[(0,.pointer (some ⟨b0,0,none⟩)),(5,g.v),(6,(q7.2.lo (Int.toNat 1) 2).v),(7,.int .i64 z6.2.2.1),(8,.pointer (some ⟨g13,0,none⟩))]) (fun s g=>[(Res.blk b0 65 [ha0A.v,.int .i64 s.2.2.2])]) (fun s g=>[(rowH g 102 8 Element.enc s.1),(rowH (q7.2.lo (Int.toNat 1) 2) 165 2 Arr2Int.enc (z6.2.1.drop (Int.toNat 1))),(Res.blk g13 165 [.int .i64 s.2.1,.int .i64 s.2.2.1])]) ?_ ?_)
 rotate_left
 ·intro k17 H18
  refine jqr 7 (Zac e e e (jm_c e (fun v w hs hm=>ZaP hm (hs.blkM (i:=0) e) (hs.argM Rha0_fl Oha0_fl) Oha0_fl) (fun _=>e) e e fun v32 q33=>Zaf e e e (gz6 0 5 6 7 8 9 e (Zad (Zao (Zbj (n:=big) (fun (s:((List Element)×Int×Int×Int×Int)) (g:Hd)=>[(0,.pointer (some ⟨b0,0,none⟩)),(5,g.v),(6,(q7.2.lo (Int.toNat 1) 2).v),(7,.int .i64 z6.2.2.1),(8,.pointer (some ⟨g13,0,none⟩)),(9,.int .i64 s.2.2.2.1)]) (fun s g=>[(Res.blk b0 65 [ha0A.v,.int .i64 s.2.2.2.2])]) (fun s g=>[(rowH g 102 8 Element.enc s.1),(rowH (q7.2.lo (Int.toNat 1) 2) 165 2 Arr2Int.enc (z6.2.1.drop (Int.toNat 1))),(Res.blk g13 165 [.int .i64 s.2.1,.int .i64 s.2.2.1])]) (z6.1,x11.a0,x11.a1,v32.1,v32.2) q7.1 [1,2,0] (u6 e) e e e ?_))))))
  intro z34 q35 n38 k36 H37
  refine Zak (jqr 8 (Zac e e e (jy (Zbh e e) e e (gz7 0 5 6 7 8 9 31 e (Zad (Zai e ?_ ?_))))))
  rotate_left
  ·refine ZaE (Za9 (Zbe (Zba ?_)))
   exact Zap H18 (z34.1,z34.2.1,z34.2.2.1,z34.2.2.2.2) q35 [0,1,2] (u5 e) e e e
  refine jks (Zak (Zao (jqr 10 (Zac e e e (ZaT (enc:=encI) [1,1,2] e e e e e e e e fun hd39=>jm_c e (fun v w hs hm=>ZaB hm (hs.blkM (i:=0) e) (hs.argM Rha0_fl Oha0_fl) Oha0_fl (hs.row 0 e) (hs.offML 0 0 e e)) (fun _=>e) e e fun v40 q41=>Zaf e e e (gz7 0 5 6 7 8 9 10 e (jsr 11 (Zac e e e (Zac e e e (Zac e e e (Zac e e e (jg_y (fun w hs=>ZaV e (hs.row 1 e)) e e (jy (Zgx e e (by decide)) e e (jgl 3 e e e e e ?_))))))))))))))
  refine jy (Zgx e e (by decide)) e e (jgl 3 e e e e e (jm_c e (fun v w hs hm=>Zcz hm (hs.blkM (i:=0) e) (hs.argM Rha0_fl Oha0_fl) Oha0_fl) (fun _=>e) e e fun v42 q43=>ZaT (enc:=Element.enc) [v42.1] e e e e e e e e fun hd44=>ZaO 2 e e e (fun w hs=>(hs.row 0 e)) e e e fun y45 hd46=>jg_L (r5 e) (Zaf e e e (gz6 0 5 6 7 8 9 e (ZaF (is:=[2,3,4]) (s3 e) e (Zad (Zar 12 (Zac e e e (jg_y (fun w hs=>ZaV e (hs.row 0 e)) e e (jy (ZaZ e e) e e (jy (ZeJ e (o2 e)) e e (Zav 2 e e e (l2 e) e e e e (l2 e) (r3 e) (gz6 0 5 6 7 8 9 e ?_)))))))))))))
  refine ZaG (Zad ?_)
  refine Zar 9 (Zac e e e (jy (ZaZ e e) e e (Zaf e e e (gz6 0 5 6 7 8 9 e (Zap H37 (y45,w64 ((y45.length:Int) - 1),0,w64 (z34.2.2.2.1 - 1),v42.2) hd46 [0,1,2] (u6 e) e e e)))))
 intro z15 q16
 refine Zak (jqr 13 (Zac e e e (jy (Zbh e e) e e (gz6 0 5 6 7 8 54 e (Zad (Zai e ?_ ?_))))))
 rotate_left
 ·refine jks (Zar 17 (Zac e e e (Zac e e e (Zac e e e (jg_y (fun w hs=>ZaV e (hs.row 0 e)) e e (jy (Zgx e e (by decide)) e e (jgl 2 e e e e e (jy (Zgx e e (by decide)) e e (jgl 2 e e e e e (jm_c e (fun v w hs hm=>Zcz hm (hs.blkM (i:=0) e) (hs.argM Rha0_fl Oha0_fl) Oha0_fl) (fun _=>e) e e fun v27 q28=>ZaT (enc:=Element.enc) [v27.1] e e e e e e e e fun hd29=>ZaO 1 e e e (fun w hs=>(hs.row 0 e)) e e e fun y30 hd31=>jg_L (r4 e) (Zaf e e e (gz4 0 5 6 7 e (ZaF (is:=[1,2]) (s2 e) e ?_)))))))))))))
  refine ZaG (Zap H9 (y30,z6.2.1.drop (Int.toNat 1),z6.2.2.1,v27.2) (hd31,(q7.2.lo (Int.toNat 1) 2)) [0,1] (u4 e) e e e)
 refine jqr 14 (Zac e e e (jy (ZaZ e e) e e (Zaf e e e (gz5 0 5 6 7 8 e (jsr 15 (Zac e e e (Zac e e e (Zac e e e (jg_y (fun w hs=>ZaV e (hs.row 0 e)) e e (jy (Zgx e e (by decide)) e e (jgl 2 e e e e e (jy (Zgx e e (by decide)) e e (jgl 2 e e e e e (jm_c e (fun v w hs hm=>Zcz hm (hs.blkM (i:=0) e) (hs.argM Rha0_fl Oha0_fl) Oha0_fl) (fun _=>e) e e fun v19 q20=>ZaT (enc:=Element.enc) [v19.1] e e e e e e e e fun hd21=>ZaO 1 e e e (fun w hs=>(hs.row 0 e)) e e e fun y22 hd23=>?_))))))))))))))
 refine jg_L (r4 e) (Zaf e e e (gz4 0 5 6 7 e (ZaF (is:=[1,2]) (s2 e) e (jsr 16 (Zac e e e (Zac e e e (jg_y (fun w hs=>ZaV e (hs.row 0 e)) e e (jy (ZaZ e e) e e (jy (ZeJ e (o2 e)) e e (Zac e e e (jg_y (fun w hs=>ZaV e (hs.row 0 e)) e e (jy (ZaZ e e) e e (jy (ZeJ e (o2 e)) e e (ZaT (enc:=Arr2Int.enc) [(Arr2Int.mk (w64 ((y22.length:Int) - 1)) 1),(Arr2Int.mk (w64 ((y22.length:Int) - 1)) 2)] e e e e e e e e fun hd24=>ZaO 2 e e e (fun w hs=>(hs.row 0 e)) e e e fun y25 hd26=>jg_L (r3 e) ?_))))))))))))))
 refine Zaf e e e (gz4 0 5 6 7 e (Zad (ZaE (Za9 (Zba ?_)))))
 exact Zap H9 (y22,y25,w64 (z6.2.2.1 - 1),v19.2) (hd23,hd26) [1,2] (u4 e) e e e
theorem Zcf {w:World}{a0:(List Element)}{ha0:Hd}{v:Int}(hm:Zb7 a0 = some v) (Rha0:Sl w ha0 Element.enc a0):Gives Tryz.prog 34 [ha0.v] w (.int .i64 v):=by
 refine Za4 (vs:=[ha0.v]) (U:=fun (v:Int)=>.int .i64 v) Tryz.func34 e Tryz.ntmps34 e e hm ?_
 unfold Zb7
 clear hm
 refine jqr 0 (Zaf e e e (gz1 0 e (jsr 1 (Zaf e e e (gz2 0 3 e (Zad (Zak (jqr 2 (Zaf e e e (gz3 0 3 4 e (Zad (Zao (Zbj (n:=big) (fun (s:(Int×Int)) (g:Unit)=>[(0,ha0.v),(3,.int .i64 s.1),(4,.int .i64 s.2)]) (fun s g=>[]) (fun s g=>[]) (1000000,0) () [] (u3 e) e e e ?_)))))))))))))
 intro z1 q2 n5 k3 H4
 refine Zak (jqr 3 (Zac e e e (Zac e e e (jg_y (fun w hs=>ZaV e (hs.arg Rha0)) e e (jy (ZaD e e) e e (gz4 0 3 4 8 e (Zad (Zai e ?_ ?_))))))))
 rotate_left
 ·refine ZaE (Za9 (Zbe (Zba (Zad ?_))))
  refine jqr 7 (Zac e e e (Zaf e e e (gz1 2 e (Zad (Zam (Zaj e (fun w hs=>.tmp e) (fun w hs=>⟨e,hs.drop⟩)))))))
 refine jks (Zak (Zao (jqr 5 (Zac e e e (Zac e e e (Za6 fun x6 h7=>jg_y (fun w hs=>ZaC e e (hs.arg Rha0) h7) e e (jg_y (fun w hs=>ZaS e (hs.arg Rha0) h7.1) e e (jg_y (fun w hs=>ZaQ e (hs.arg Rha0) h7.1 e) e e (jy (ZaL e e) e e (gz4 0 3 4 16 e (Zad (Zai e ?_ ?_))))))))))))
 rotate_left
 ·refine ZaK (ZaG (Zad ?_))
  refine Zar 4 (Zac e e e (jy (Zal e e) e e (Zaf e e e (gz3 0 3 4 e (Zap H4 (z1.1,w64 (z1.2 + 1)) () [] (u3 e) e e e)))))
 refine Zar 6 (Zac e e e (Zac e e e (Zac e e e (Za6 fun x8 h9=>jg_y (fun w hs=>ZaC e e (hs.arg Rha0) h9) e e (jg_y (fun w hs=>ZaS e (hs.arg Rha0) h9.1) e e (jg_y (fun w hs=>ZaQ e (hs.arg Rha0) h9.1 e) e e (jy (ZdW e e) e e (Zaf e e e (gz3 0 3 4 e (ZaG (Zad ?_)))))))))))
 refine Zar 4 (Zac e e e (jy (Zal e e) e e (Zaf e e e (gz3 0 3 4 e (Zap H4 (min z1.1 x8.Length,w64 (z1.2 + 1)) () [] (u3 e) e e e)))))
theorem Zji {w:World}{a0:ByteArray}  {v:Bool}(hm:ZeW a0 = some v):Gives Tryz.prog 167 [.string a0] w (.bool v):=by
 refine Za4 (vs:=[.string a0]) (U:=fun (v:Bool)=>.bool v) Tryz.func167 e Tryz.ntmps167 e e hm ?_
 unfold ZeW
 clear hm
 refine jqr 0 (Zaf e e e (gz1 0 e (Zad (Za2 (fun (s:Unit) (g:Unit)=>[(0,.string a0)]) (fun s g=>[]) (fun s g=>[]) ?_ ?_))))
 ·intro z1 q2
  refine jqr 6 (Zac e e e (jy (Zgw Tryz.underlying9 e) e e (jy (Zbv e e) e e (Zac e e e (Zaq 36 e ?_ ?_)))))
  ·refine Zac e e e (jy (Zgw Tryz.underlying9 e) e e (jy (ZbR e e) e e (jy (Zah e e) e e (Zaf e e e (gz1 2 e (Zad (Zam (Zaj e (fun w hs=>.tmp e) (fun w hs=>⟨e,hs.drop⟩)))))))))
  refine Zaa e e (Zaa e e (Zaa e e (jy (Zae e e) e e (Zaf e e e (gz1 2 e (Zad (Zam (Zaj e (fun w hs=>.tmp e) (fun w hs=>⟨e,hs.drop⟩)))))))))
 intro k3 H4
 refine jqr 1 (Zaf e e e (gz2 0 3 e (Zad (Zao (Zbj (n:=big) (fun (s:Int) (g:Unit)=>[(0,.string a0),(3,.int .i64 s)]) (fun s g=>[]) (fun s g=>[]) 0 () [] (u2 e) e e e ?_)))))
 intro z5 q6 n9 k7 H8
 refine Zak (jqr 2 (Zac e e e (Zac e e e (jy (Zgw Tryz.underlying9 e) e e (jy (ZaD e e) e e (gz3 0 3 7 e (Zad (Zai e ?_ ?_))))))))
 rotate_left
 ·refine ZaE (Za9 (Zbe (Zba ?_)))
  exact Zap H4 () () [] (u1 e) e e e
 refine jks (Zak (Zao (jqr 4 (Zac e e e (Zac e e e (Zgs fun h10=>jy (ZfC Tryz.underlying9 e e (of_decide_eq_true h10)) e e (jy (Zbv e e) e e (Zac e e e (Zaq 14 e ?_ ?_)))))))))
 rotate_left
 ·refine Zaa e e (Zaa e e (Zaa e e (Zaa e e (jy (Zae e e) e e (Zac e e e (Zac e e e (Zac e e e (Zgs fun h14=>jy (ZfC Tryz.underlying9 e e (of_decide_eq_true h14)) e e (jy (Zbv e e) e e (Zac e e e (Zaq 25 e ?_ ?_)))))))))))
  rotate_left
  ·refine Zaa e e (Zaa e e (Zaa e e (Zaa e e (jy (Zae e e) e e (jy (Zae e e) e e (jy (Zbl e) e e (gz3 0 3 32 e (Zad (Zai e ?_ ?_)))))))))
   ·refine jqr 5 (Zaf e e e (gz1 2 e (Zad (Zam (ZaI (Zaw (Zbd (ZaI (Zaw ?_)))))))))
    exact Zaj e (fun w hs=>.tmp e) (fun w hs=>⟨e,hs.drop⟩)
   refine ZaK (ZaG (Zad ?_))
   refine Zar 3 (Zac e e e (jy (Zal e e) e e (Zaf e e e (gz2 0 3 e (Zap H8 (w64 (z5 + 1)) () [] (u2 e) e e e)))))
  refine Zac e e e (Zac e e e (Zgs fun h15=>jy (ZfC Tryz.underlying9 e e (of_decide_eq_true h15)) e e (jy (ZbR e e) e e (jy (Zah e e) e e (jy (Zae e e) e e (jy (Zbl e) e e (gz3 0 3 32 e (Zad (Zai e ?_ ?_)))))))))
  ·refine jqr 5 (Zaf e e e (gz1 2 e (Zad (Zam (ZaI (Zaw (Zbd (ZaI (Zaw ?_)))))))))
   exact Zaj e (fun w hs=>.tmp e) (fun w hs=>⟨e,hs.drop⟩)
  refine ZaK (ZaG (Zad ?_))
  refine Zar 3 (Zac e e e (jy (Zal e e) e e (Zaf e e e (gz2 0 3 e (Zap H8 (w64 (z5 + 1)) () [] (u2 e) e e e)))))
 refine Zac e e e (Zac e e e (Zgs fun h11=>jy (ZfC Tryz.underlying9 e e (of_decide_eq_true h11)) e e (jy (ZbR e e) e e (jy (Zah e e) e e (Zac e e e (Zaq 20 e ?_ ?_))))))
 ·refine Zaa e e (Zaa e e (Zaa e e (Zaa e e (Zaa e e (Zaa e e (Zaa e e (Zaa e e (Zaa e e (Zaa e e (jy (Zah e e) e e (jy (Zbl e) e e (gz3 0 3 32 e (Zad (Zai e ?_ ?_))))))))))))))
  ·refine jqr 5 (Zaf e e e (gz1 2 e (Zad (Zam (ZaI (Zaw (Zbd (ZaI (Zaw ?_)))))))))
   exact Zaj e (fun w hs=>.tmp e) (fun w hs=>⟨e,hs.drop⟩)
  refine ZaK (ZaG (Zad ?_))
  refine Zar 3 (Zac e e e (jy (Zal e e) e e (Zaf e e e (gz2 0 3 e (Zap H8 (w64 (z5 + 1)) () [] (u2 e) e e e)))))
 refine Zac e e e (Zac e e e (Zgs fun h12=>jy (ZfC Tryz.underlying9 e e (of_decide_eq_true h12)) e e (jy (Zbv e e) e e (Zac e e e (Zaq 25 e ?_ ?_)))))
 rotate_left
 ·refine Zaa e e (Zaa e e (Zaa e e (Zaa e e (jy (Zae e e) e e (jy (Zae e e) e e (jy (Zbl e) e e (gz3 0 3 32 e (Zad (Zai e ?_ ?_)))))))))
  ·refine jqr 5 (Zaf e e e (gz1 2 e (Zad (Zam (ZaI (Zaw (Zbd (ZaI (Zaw ?_)))))))))
   exact Zaj e (fun w hs=>.tmp e) (fun w hs=>⟨e,hs.drop⟩)
  refine ZaK (ZaG (Zad ?_))
  refine Zar 3 (Zac e e e (jy (Zal e e) e e (Zaf e e e (gz2 0 3 e (Zap H8 (w64 (z5 + 1)) () [] (u2 e) e e e)))))
 refine Zac e e e (Zac e e e (Zgs fun h13=>jy (ZfC Tryz.underlying9 e e (of_decide_eq_true h13)) e e (jy (ZbR e e) e e (jy (Zah e e) e e (jy (Zae e e) e e (jy (Zbl e) e e (gz3 0 3 32 e (Zad (Zai e ?_ ?_)))))))))
 ·refine jqr 5 (Zaf e e e (gz1 2 e (Zad (Zam (ZaI (Zaw (Zbd (ZaI (Zaw ?_)))))))))
  exact Zaj e (fun w hs=>.tmp e) (fun w hs=>⟨e,hs.drop⟩)
 refine ZaK (ZaG (Zad ?_))
 refine Zar 3 (Zac e e e (jy (Zal e e) e e (Zaf e e e (gz2 0 3 e (Zap H8 (w64 (z5 + 1)) () [] (u2 e) e e e)))))
theorem Zij {w:World}{a0:Element}  {v:Bool}(hm:Zd5 a0 = some v):Gives Tryz.prog 148 [.agg #[.int .i64 a0.Kind,.string a0.Name,.int .i64 a0.Parent,.int .i64 a0.Side,.int .i64 a0.Length,.int .i64 a0.Grade,.int .i64 a0.Curve,.int .i64 a0.Power]] w (.bool v):=by
 refine Za4 (vs:=[.agg #[.int .i64 a0.Kind,.string a0.Name,.int .i64 a0.Parent,.int .i64 a0.Side,.int .i64 a0.Length,.int .i64 a0.Grade,.int .i64 a0.Curve,.int .i64 a0.Power]]) (U:=fun (v:Bool)=>.bool v) Tryz.func148 e Tryz.ntmps148 e e hm ?_
 unfold Zd5
 clear hm
 refine jqr 0 (ZbD e (l8 e) e e fun g1=>Zaf e e e (gz1 1 e (Zad (Zak (jqr 1 (jy (Zab e) e e (jgl 0 e e e e e (Zbc e (fun v w hs hm=>Zji hm ) e e fun v2=>jy (Zbl e) e e (gz2 1 6 e (Zad (Zai e ?_ ?_)))))))))))
 ·refine jqr 2 (Zaf e e e (gz1 2 e (Zad (Zam (Zaw (Zaj e (fun w hs=>.tmp e) (fun w hs=>⟨e,hs.drop⟩)))))))
 refine jks (Zak (jqr 3 (jy (Zab e) e e (jgl 0 e e e e e (jy (ZaL e e) e e (gz2 1 9 e (Zad (Zai e ?_ ?_))))))))
 ·refine jqr 4 (jy (Zab e) e e (jgl 0 e e e e e (jy (ZaL e e) e e (Zac e e e (Zaq 13 e ?_ ?_)))))
  rotate_left
  ·refine Zaa e e (Zaa e e (Zaa e e (jy (Zae e e) e e (Zac e e e (Zaa e e (Zaa e e (Zaa e e (jy (Zae e e) e e (Zac e e e (Zaa e e (Zaa e e (Zaa e e (jy (Zae e e) e e (Zac e e e (Zaa e e (Zaa e e ?_))))))))))))))))
   refine Zaa e e (jy (Zae e e) e e (Zac e e e (Zaa e e (Zaa e e (Zaa e e (jy (Zae e e) e e (Zaf e e e (gz1 2 e (Zad (Zam (Zaw (Zaj e (fun w hs=>.tmp e) (fun w hs=>⟨e,hs.drop⟩)))))))))))))
  refine jy (Zab e) e e (jgl 0 e e e e e (jy (ZaL e e) e e (jy (Zah e e) e e (Zac e e e (Zaq 18 e ?_ ?_)))))
  rotate_left
  ·refine Zaa e e (Zaa e e (Zaa e e (jy (Zae e e) e e (Zac e e e (Zaa e e (Zaa e e (Zaa e e (jy (Zae e e) e e (Zac e e e (Zaa e e (Zaa e e (Zaa e e (jy (Zae e e) e e (Zac e e e (Zaa e e (Zaa e e ?_))))))))))))))))
   refine Zaa e e (jy (Zae e e) e e (Zaf e e e (gz1 2 e (Zad (Zam (Zaw (Zaj e (fun w hs=>.tmp e) (fun w hs=>⟨e,hs.drop⟩))))))))
  refine jy (Zab e) e e (jgl 0 e e e e e (jy (ZaL e e) e e (jy (Zah e e) e e (Zac e e e (Zaq 23 e ?_ ?_)))))
  rotate_left
  ·refine Zaa e e (Zaa e e (Zaa e e (jy (Zae e e) e e (Zac e e e (Zaa e e (Zaa e e (Zaa e e (jy (Zae e e) e e (Zac e e e (Zaa e e (Zaa e e (Zaa e e (jy (Zae e e) e e (Zaf e e e (gz1 2 e (Zad ?_))))))))))))))))
   refine Zam (Zaw (Zaj e (fun w hs=>.tmp e) (fun w hs=>⟨e,hs.drop⟩)))
  refine jy (Zab e) e e (jgl 0 e e e e e (jy (ZaL e e) e e (jy (Zah e e) e e (Zac e e e (Zaq 28 e ?_ ?_)))))
  rotate_left
  ·refine Zaa e e (Zaa e e (Zaa e e (jy (Zae e e) e e (Zac e e e (Zaa e e (Zaa e e (Zaa e e (jy (Zae e e) e e (Zaf e e e (gz1 2 e (Zad (Zam (Zaw (Zaj e (fun w hs=>.tmp e) (fun w hs=>⟨e,hs.drop⟩)))))))))))))))
  refine jy (Zab e) e e (jgl 0 e e e e e (jy (ZaL e e) e e (jy (Zah e e) e e (Zac e e e (Zaq 33 e ?_ ?_)))))
  ·refine jy (Zab e) e e (jgl 0 e e e e e (jy (ZaL e e) e e (jy (Zah e e) e e (Zaf e e e (gz1 2 e (Zad (Zam (Zaw (Zaj e (fun w hs=>.tmp e) (fun w hs=>⟨e,hs.drop⟩))))))))))
  refine Zaa e e (Zaa e e (Zaa e e (jy (Zae e e) e e (Zaf e e e (gz1 2 e (Zad (Zam (Zaw (Zaj e (fun w hs=>.tmp e) (fun w hs=>⟨e,hs.drop⟩))))))))))
 refine jks (Zak (jqr 5 (jy (Zab e) e e (jgl 0 e e e e e (jy (ZaD e e) e e (Zac e e e (Zaq 41 e ?_ ?_)))))))
 ·refine Zaa e e (Zaa e e (Zaa e e (jy (Zah e e) e e (Zac e e e (Zaa e e (Zaa e e (Zaa e e (jy (Zah e e) e e (Zac e e e (Zaa e e (Zaa e e (Zaa e e (jy (Zah e e) e e (Zac e e e (Zaa e e (Zaa e e ?_))))))))))))))))
  refine Zaa e e (jy (Zah e e) e e (Zac e e e (Zaa e e (Zaa e e (Zaa e e (jy (Zah e e) e e (Zac e e e (Zaa e e (Zaa e e (Zaa e e (jy (Zah e e) e e (Zac e e e (Zaa e e (Zaa e e (Zaa e e (jy (Zah e e) e e ?_))))))))))))))))
  refine Zac e e e (Zaa e e (Zaa e e (Zaa e e (jy (Zah e e) e e (Zac e e e (Zaa e e (Zaa e e (Zaa e e (jy (Zah e e) e e (gz2 1 85 e (Zad (Zbo e (jqr 6 (Zaf e e e (gz1 2 e (Zad ?_))))))))))))))))
  refine Zam (Zaw (Zaj e (fun w hs=>.tmp e) (fun w hs=>⟨e,hs.drop⟩)))
 refine jy (Zab e) e e (jgl 0 e e e e e (jy (Zbh e e) e e (jy (Zae e e) e e (Zac e e e (Zaq 46 e ?_ ?_)))))
 ·refine Zaa e e (Zaa e e (Zaa e e (jy (Zah e e) e e (Zac e e e (Zaa e e (Zaa e e (Zaa e e (jy (Zah e e) e e (Zac e e e (Zaa e e (Zaa e e (Zaa e e (jy (Zah e e) e e (Zac e e e (Zaa e e (Zaa e e ?_))))))))))))))))
  refine Zaa e e (jy (Zah e e) e e (Zac e e e (Zaa e e (Zaa e e (Zaa e e (jy (Zah e e) e e (Zac e e e (Zaa e e (Zaa e e (Zaa e e (jy (Zah e e) e e (Zac e e e (Zaa e e (Zaa e e (Zaa e e (jy (Zah e e) e e ?_))))))))))))))))
  refine Zac e e e (Zaa e e (Zaa e e (Zaa e e (jy (Zah e e) e e (gz2 1 85 e (Zad (Zbo e (jqr 6 (Zaf e e e (gz1 2 e (Zad (Zam (Zaw (Zaj e (fun w hs=>.tmp e) (fun w hs=>⟨e,hs.drop⟩)))))))))))))))
 refine jy (Zab e) e e (jgl 0 e e e e e (jy (ZaD e e) e e (jy (Zae e e) e e (Zac e e e (Zaq 51 e ?_ ?_)))))
 ·refine Zaa e e (Zaa e e (Zaa e e (jy (Zah e e) e e (Zac e e e (Zaa e e (Zaa e e (Zaa e e (jy (Zah e e) e e (Zac e e e (Zaa e e (Zaa e e (Zaa e e (jy (Zah e e) e e (Zac e e e (Zaa e e (Zaa e e ?_))))))))))))))))
  refine Zaa e e (jy (Zah e e) e e (Zac e e e (Zaa e e (Zaa e e (Zaa e e (jy (Zah e e) e e (Zac e e e (Zaa e e (Zaa e e (Zaa e e (jy (Zah e e) e e (Zac e e e (Zaa e e (Zaa e e (Zaa e e (jy (Zah e e) e e ?_))))))))))))))))
  refine gz2 1 85 e (Zad (Zbo e (jqr 6 (Zaf e e e (gz1 2 e (Zad (Zam (Zaw (Zaj e (fun w hs=>.tmp e) (fun w hs=>⟨e,hs.drop⟩))))))))))
 refine jy (Zab e) e e (jgl 0 e e e e e (jy (Zbh e e) e e (jy (Zae e e) e e (Zac e e e (Zaq 56 e ?_ ?_)))))
 ·refine Zaa e e (Zaa e e (Zaa e e (jy (Zah e e) e e (Zac e e e (Zaa e e (Zaa e e (Zaa e e (jy (Zah e e) e e (Zac e e e (Zaa e e (Zaa e e (Zaa e e (jy (Zah e e) e e (Zac e e e (Zaa e e (Zaa e e ?_))))))))))))))))
  refine Zaa e e (jy (Zah e e) e e (Zac e e e (Zaa e e (Zaa e e (Zaa e e (jy (Zah e e) e e (Zac e e e (Zaa e e (Zaa e e (Zaa e e (jy (Zah e e) e e (gz2 1 85 e (Zad (Zbo e (jqr 6 (Zaf e e e ?_))))))))))))))))
  refine gz1 2 e (Zad (Zam (Zaw (Zaj e (fun w hs=>.tmp e) (fun w hs=>⟨e,hs.drop⟩)))))
 refine jy (Zab e) e e (jgl 0 e e e e e (jy (ZaD e e) e e (jy (Zae e e) e e (Zac e e e (Zaq 61 e ?_ ?_)))))
 ·refine Zaa e e (Zaa e e (Zaa e e (jy (Zah e e) e e (Zac e e e (Zaa e e (Zaa e e (Zaa e e (jy (Zah e e) e e (Zac e e e (Zaa e e (Zaa e e (Zaa e e (jy (Zah e e) e e (Zac e e e (Zaa e e (Zaa e e ?_))))))))))))))))
  refine Zaa e e (jy (Zah e e) e e (Zac e e e (Zaa e e (Zaa e e (Zaa e e (jy (Zah e e) e e (gz2 1 85 e (Zad (Zbo e (jqr 6 (Zaf e e e (gz1 2 e (Zad (Zam (Zaw (Zaj e (fun w hs=>.tmp e) (fun w hs=>⟨e,hs.drop⟩)))))))))))))))))
 refine jy (Zab e) e e (jgl 0 e e e e e (jy (Zbh e e) e e (jy (Zae e e) e e (Zac e e e (Zaq 66 e ?_ ?_)))))
 ·refine Zaa e e (Zaa e e (Zaa e e (jy (Zah e e) e e (Zac e e e (Zaa e e (Zaa e e (Zaa e e (jy (Zah e e) e e (Zac e e e (Zaa e e (Zaa e e (Zaa e e (jy (Zah e e) e e (Zac e e e (Zaa e e (Zaa e e ?_))))))))))))))))
  refine Zaa e e (jy (Zah e e) e e (gz2 1 85 e (Zad (Zbo e (jqr 6 (Zaf e e e (gz1 2 e (Zad (Zam (Zaw (Zaj e (fun w hs=>.tmp e) (fun w hs=>⟨e,hs.drop⟩))))))))))))
 refine jy (Zab e) e e (jgl 0 e e e e e (jy (ZaD e e) e e (jy (Zae e e) e e (Zac e e e (Zaq 71 e ?_ ?_)))))
 ·refine Zaa e e (Zaa e e (Zaa e e (jy (Zah e e) e e (Zac e e e (Zaa e e (Zaa e e (Zaa e e (jy (Zah e e) e e (Zac e e e (Zaa e e (Zaa e e (Zaa e e (jy (Zah e e) e e (gz2 1 85 e (Zad (Zbo e ?_))))))))))))))))
  refine jqr 6 (Zaf e e e (gz1 2 e (Zad (Zam (Zaw (Zaj e (fun w hs=>.tmp e) (fun w hs=>⟨e,hs.drop⟩)))))))
 refine jy (Zab e) e e (jgl 0 e e e e e (jy (Zbh e e) e e (jy (Zae e e) e e (Zac e e e (Zaq 76 e ?_ ?_)))))
 ·refine Zaa e e (Zaa e e (Zaa e e (jy (Zah e e) e e (Zac e e e (Zaa e e (Zaa e e (Zaa e e (jy (Zah e e) e e (gz2 1 85 e (Zad (Zbo e (jqr 6 (Zaf e e e (gz1 2 e (Zad (Zam ?_))))))))))))))))
  refine Zaw (Zaj e (fun w hs=>.tmp e) (fun w hs=>⟨e,hs.drop⟩))
 refine jy (Zab e) e e (jgl 0 e e e e e (jy (ZaD e e) e e (jy (Zae e e) e e (Zac e e e (Zaq 81 e ?_ ?_)))))
 ·refine Zaa e e (Zaa e e (Zaa e e (jy (Zah e e) e e (gz2 1 85 e (Zad (Zbo e (jqr 6 (Zaf e e e (gz1 2 e (Zad (Zam (Zaw (Zaj e (fun w hs=>.tmp e) (fun w hs=>⟨e,hs.drop⟩))))))))))))))
 refine jy (Zab e) e e (jgl 0 e e e e e (jy (Zbh e e) e e (jy (Zae e e) e e (gz2 1 85 e (Zad (Zai e ?_ ?_))))))
 ·refine jqr 6 (Zaf e e e (gz1 2 e (Zad (Zam (Zaw (Zaj e (fun w hs=>.tmp e) (fun w hs=>⟨e,hs.drop⟩)))))))
 refine jks (Zak (jqr 7 (jy (Zab e) e e (jgl 0 e e e e e (jy (ZaL e e) e e (gz2 1 88 e (Zad (Zai e ?_ ?_))))))))
 rotate_left
 ·refine jks (jqr 9 (jy (Zab e) e e (jgl 0 e e e e e (jy (ZaL e e) e e (Zaf e e e (gz1 2 e (Zad (Zam (Zaj e (fun w hs=>.tmp e) (fun w hs=>⟨e,hs.drop⟩))))))))))
 refine jqr 8 (jy (Zab e) e e (jgl 0 e e e e e (jy (Zbv e e) e e (Zac e e e (Zaq 92 e ?_ ?_)))))
 ·refine jy (Zab e) e e (jgl 0 e e e e e (jy (ZbR e e) e e (jy (Zah e e) e e (Zaf e e e (gz1 2 e (Zad (Zam (Zaw (Zaj e (fun w hs=>.tmp e) (fun w hs=>⟨e,hs.drop⟩))))))))))
 refine Zaa e e (Zaa e e (Zaa e e (jy (Zae e e) e e (Zaf e e e (gz1 2 e (Zad (Zam (Zaw (Zaj e (fun w hs=>.tmp e) (fun w hs=>⟨e,hs.drop⟩))))))))))
theorem Zjh {w:World}{a0:(List Element)}{a1:Int}{ha0:Hd}{v:Int}(hm:ZeV a0 a1 = some v) (Rha0:Sl w ha0 Element.enc a0):Gives Tryz.prog 110 [ha0.v,.int .i64 a1] w (.int .i64 v):=by
 refine Za4 (vs:=[ha0.v,.int .i64 a1]) (U:=fun (v:Int)=>.int .i64 v) Tryz.func110 e Tryz.ntmps110 e e hm ?_
 unfold ZeV
 clear hm
 refine jqr 0 (Zaf e e e (gz2 0 1 e (jsr 1 (Zac e e e (Zac e e e (Za6 fun x1 h2=>jg_y (fun w hs=>ZaC e e (hs.arg Rha0) h2) e e (jg_y (fun w hs=>ZbJ e (hs.arg Rha0) h2.1 (l8 e) e) e e (ZaR (l8 e) e e fun g3=>Zav 0 e e e (l8 e) e e e e (l8 e) (r1 e) (gz3 0 1 5 e (Zad (Zak (jqr 2 (jg_y (fun w hs=>ZaJ e (ldBB (hs.blkL (i:=0) e) e)) e e (Zbc e (fun v w hs hm=>Zij (a0:=x1) hm ) e e fun v4=>?_))))))))))))))
 refine jy (Zbl e) e e (Zac e e e (Zaq 16 e ?_ ?_))
 ·refine Zaa e e (Zaa e e (Zaa e e (Zaa e e (Zaa e e (Zaa e e (jy (Zah e e) e e (gz4 0 1 5 23 e (Zad (Zbo e (jqr 3 (Zaf e e e (gz1 4 e (Zad (Zam (Zaw (Zaj e (fun w hs=>.tmp e) (fun w hs=>⟨e,hs.drop⟩)))))))))))))))))
 refine jy (Zab e) e e (jgl 0 e e e e e (jy (ZaL e e) e e (Zac e e e (jy (ZaL e e) e e (jy (ZfA Tryz.underlying4 e e) e e (jy (Zae e e) e e (gz4 0 1 5 23 e (Zad (Zai e ?_ ?_)))))))))
 ·refine jqr 3 (Zaf e e e (gz1 4 e (Zad (Zam (Zaw (Zaj e (fun w hs=>.tmp e) (fun w hs=>⟨e,hs.drop⟩)))))))
 refine jks (Za2 (fun (s:Unit) (g:Unit)=>[(0,ha0.v),(1,.int .i64 a1),(5,.pointer (some ⟨g3,0,none⟩))]) (fun s g=>[]) (fun s g=>[(Res.blk g3 102 [.int .i64 x1.Kind,.string x1.Name,.int .i64 x1.Parent,.int .i64 x1.Side,.int .i64 x1.Length,.int .i64 x1.Grade,.int .i64 x1.Curve,.int .i64 x1.Power])]) ?_ ?_)
 rotate_left
 ·intro k7 H8
  refine jqr 4 (Zaf e e e (gz4 0 1 5 6 e (Zad (Zao (Zbj (n:=big) (fun (s:Int) (g:Unit)=>[(0,ha0.v),(1,.int .i64 a1),(5,.pointer (some ⟨g3,0,none⟩)),(6,.int .i64 s)]) (fun s g=>[]) (fun s g=>[(Res.blk g3 102 [.int .i64 x1.Kind,.string x1.Name,.int .i64 x1.Parent,.int .i64 x1.Side,.int .i64 x1.Length,.int .i64 x1.Grade,.int .i64 x1.Curve,.int .i64 x1.Power])]) 0 () [0] (u4 e) e e e ?_)))))
  intro z20 q21 n24 k22 H23
  refine Zak (jqr 5 (Zac e e e (Zac e e e (jy (ZaD e e) e e (gz5 0 1 5 6 26 e (Zad (Zai e ?_ ?_)))))))
  rotate_left
  ·refine ZaE (Za9 (Zbe (Zba ?_)))
   exact Zap H8 () () [0] (u3 e) e e e
  refine jks (Zak (Zao (Zak (jdr (L':=[_]) 7 [0] [0,1,2,3,4,5,6,7] 255 255 [0,0,3,4,8,0,32,80] [0,0,3,7,15,0,32,127] [(0,true),(1,true),(2,true),(3,true),(4,true),(5,true),(6,true),(7,true)] e (Zas (Zay (Zas (Za0 (Zay (Zas Zbb)))))) (Zau e e e e (Zau e e e e (Zbk fun x25 h26=>jd_y e (fun w hs=>ZaC e e (hs.arg Rha0) h26) e e (jd_y e (fun w hs=>ZaS e (hs.arg Rha0) h26.1) e e (jd_y e (fun w hs=>ZaQ e (hs.arg Rha0) h26.1 e) e e (jdy e (Zab e) e e (jdl 0 e e e e e e (jdy e (yv_eqlz Tryz.underlying9 e e) e e (ZaU [(0,_),(1,_),(5,_),(6,_),(36,_)] ⟨e,e,e,e,e,trivial⟩ (Zad (Zai e ?_ ?_)))))))))))))))
  ·refine jqr 8 (Zaf e e e (gz1 4 e (Zad (Zam (ZaI (Zaw (Zbd (ZaI (Zaw ?_)))))))))
   exact Zaj e (fun w hs=>.tmp e) (fun w hs=>⟨e,hs.drop⟩)
  refine ZaK (ZaG (Zad ?_))
  refine Zar 6 (Zac e e e (jy (Zal e e) e e (Zaf e e e (gz4 0 1 5 6 e (Zap H23 (w64 (z20 + 1)) () [0] (u4 e) e e e)))))
 intro z5 q6
 refine Zak (jqr 9 (Zac e e e (jy (ZaL e e) e e (gz4 0 1 5 38 e (Zad (Zai e ?_ ?_))))))
 ·refine jqr 10 (Zaf e e e (gz1 4 e (Zad (Zam (Zaw (Zaj e (fun w hs=>.tmp e) (fun w hs=>⟨e,hs.drop⟩)))))))
 refine jks (Zak (jqr 11 (jy (Zab e) e e (jgl 0 e e e e e (jy (ZaD e e) e e (Zac e e e (Zaq 42 e ?_ ?_)))))))
 ·refine Zaa e e (Zaa e e (Zaa e e (Zaa e e (jy (Zah e e) e e (gz4 0 1 5 47 e (Zad (Zbo e (jqr 12 (Zaf e e e (gz1 4 e (Zad (Zam (Zaw (Zaj e (fun w hs=>.tmp e) (fun w hs=>⟨e,hs.drop⟩)))))))))))))))
 refine jy (Zab e) e e (jgl 0 e e e e e (Zac e e e (jy (Zbv e e) e e (jy (Zae e e) e e (gz4 0 1 5 47 e (Zad (Zai e ?_ ?_)))))))
 ·refine jqr 12 (Zaf e e e (gz1 4 e (Zad (Zam (Zaw (Zaj e (fun w hs=>.tmp e) (fun w hs=>⟨e,hs.drop⟩)))))))
 refine jks (jqr 13 (Zac e e e (jy (Zab e) e e (jgl 0 e e e e e (Za6 fun x9 h10=>jg_y (fun w hs=>ZaC e e (hs.arg Rha0) h10) e e (jg_y (fun w hs=>ZaS e (hs.arg Rha0) h10.1) e e (jg_y (fun w hs=>ZaQ e (hs.arg Rha0) h10.1 e) e e (Zaf e e e (gz4 0 1 5 7 e (Zad (Zak (jqr 14 (Zac e e e (jy (ZaL e e) e e (Zac e e e ?_)))))))))))))))
 refine Zaq 56 e ?_ ?_
 ·refine Zaa e e (Zaa e e (Zaa e e (Zaa e e (Zaa e e (Zaa e e (jy (Zah e e) e e (gz4 0 1 5 63 e (Zad (Zbo e (jqr 15 (Zaf e e e (gz1 4 e (Zad (Zam (Zaw (Zaj e (fun w hs=>.tmp e) (fun w hs=>⟨e,hs.drop⟩)))))))))))))))))
 refine Zac e e e (jy (ZaL e e) e e (jy (Zab e) e e (jgl 0 e e e e e (jy (ZaL e e) e e (jy (Zh3 Tryz.underlying4 e e) e e (jy (Zae e e) e e (gz4 0 1 5 63 e (Zad (Zai e ?_ ?_)))))))))
 ·refine jqr 15 (Zaf e e e (gz1 4 e (Zad (Zam (Zaw (Zaj e (fun w hs=>.tmp e) (fun w hs=>⟨e,hs.drop⟩)))))))
 refine jks (Zak (jqr 16 (Zaf e e e (gz4 0 1 5 8 e (Zad (Zao (Zbj (n:=big) (fun (s:Int) (g:Unit)=>[(0,ha0.v),(1,.int .i64 a1),(5,.pointer (some ⟨g3,0,none⟩)),(8,.int .i64 s)]) (fun s g=>[]) (fun s g=>[(Res.blk g3 102 [.int .i64 x1.Kind,.string x1.Name,.int .i64 x1.Parent,.int .i64 x1.Side,.int .i64 x1.Length,.int .i64 x1.Grade,.int .i64 x1.Curve,.int .i64 x1.Power])]) 1 () [0] (u4 e) e e e ?_)))))))
 intro z11 q12 n15 k13 H14
 refine Zak (jqr 17 (Zac e e e (Zac e e e (jy (ZaD e e) e e (gz5 0 1 5 8 66 e (Zad (Zai e ?_ ?_)))))))
 rotate_left
 ·refine ZaE (Za9 (Zbe (Zba (Zad ?_))))
  refine jqr 21 (Zaf e e e (gz1 4 e (Zad (Zam (Zaj e (fun w hs=>.tmp e) (fun w hs=>⟨e,hs.drop⟩))))))
 refine jks (Zak (Zao (Zak (jdr (L':=[_]) 19 [0] [0,1,2,3,4,5,6,7,8,9,10,11,12,13,14,15,16,17] 262143 262143 [0,0,3,4,8,0,32,80,128,256,256,1792,2304,4352,256,16640,41216,65792] [0,0,3,7,15,0,32,127,255,511,511,2047,4095,8191,511,16895,65535,131071] [(0,true),(1,true),(2,true),(3,true),(4,true),(5,true),(6,true),(7,true),(8,true),(9,true),(10,true),(11,true),(12,true),(13,true),(14,true),(15,true),(16,true),(17,true)] e (Zas (Zay (Zas (Za0 (Zay (Zas Zbb)))))) (Zau e e e e (Zau e e e e (Zbk fun x16 h17=>jd_y e (fun w hs=>ZaC e e (hs.arg Rha0) h17) e e (jd_y e (fun w hs=>ZaS e (hs.arg Rha0) h17.1) e e (jd_y e (fun w hs=>ZaQ e (hs.arg Rha0) h17.1 e) e e (jdy e (Zab e) e e (jdl 0 e e e e e e (jdy e (ZaL e e) e e (Zau e e e e (Zbp 77 e ?_ ?_))))))))))))))
 rotate_left
 ·refine Zag e e e (Zag e e e (Zag e e e (Zag e e e (Zag e e e (Zag e e e (Zag e e e (Zag e e e (jdy e (Zae e e) e e (ZaU [(0,_),(1,_),(5,_),(8,_),(86,_)] ⟨e,e,e,e,e,trivial⟩ (Zad (ZdC e (ZaK (ZaG (Zad ?_))))))))))))))
  refine Zar 18 (Zac e e e (jy (Zal e e) e e (Zaf e e e (gz4 0 1 5 8 e (Zap H14 (w64 (z11 + 1)) () [0] (u4 e) e e e)))))
 refine Zau e e e e (Zau e e e e (Zbk fun x18 h19=>jd_y e (fun w hs=>ZaC e e (hs.arg Rha0) h19) e e (jd_y e (fun w hs=>ZaS e (hs.arg Rha0) h19.1) e e (jd_y e (fun w hs=>ZaQ e (hs.arg Rha0) h19.1 e) e e (jdy e (Zab e) e e (jdl 0 e e e e e e (jdy e (ZaL e e) e e (jdy e (Zah e e) e e (ZaU [(0,_),(1,_),(5,_),(8,_),(86,_)] ⟨e,e,e,e,e,trivial⟩ (Zad (Zai e ?_ ?_)))))))))))
 ·refine jqr 20 (Zaf e e e (gz1 4 e (Zad (Zam (ZaI (Zaw (Zbd (ZaI (Zaw ?_)))))))))
  exact Zaj e (fun w hs=>.tmp e) (fun w hs=>⟨e,hs.drop⟩)
 refine ZaK (ZaG (Zad ?_))
 refine Zar 18 (Zac e e e (jy (Zal e e) e e (Zaf e e e (gz4 0 1 5 8 e (Zap H14 (w64 (z11 + 1)) () [0] (u4 e) e e e)))))
theorem ZfX {w:World}{a0:(List Element)}{ha0:Hd}{v:Int}(hm:ZdA a0 = some v) (Rha0:Sl w ha0 Element.enc a0):Gives Tryz.prog 64 [ha0.v] w (.int .i64 v):=by
 refine Za4 (vs:=[ha0.v]) (U:=fun (v:Int)=>.int .i64 v) Tryz.func64 e Tryz.ntmps64 e e hm ?_
 unfold ZdA
 clear hm
 refine jqr 0 (Zaf e e e (gz1 0 e (Zad (Zak (jqr 1 (Zac e e e (jg_y (fun w hs=>ZaV e (hs.arg Rha0)) e e (jy (Zbh e e) e e (gz2 0 12 e (Zad (Zai e ?_ ?_)))))))))))
 ·refine jqr 2 (Zaf e e e (gz1 2 e (Zad (Zam (Zaw (Zaj e (fun w hs=>.tmp e) (fun w hs=>⟨e,hs.drop⟩)))))))
 refine jks (Zak (jqr 3 (Zac e e e (jg_y (fun w hs=>ZaV e (hs.arg Rha0)) e e (jy (ZaL e e) e e (gz2 0 15 e (Zad (Zai e ?_ ?_))))))))
 ·refine jqr 4 (Zaf e e e (gz1 2 e (Zad (Zam (Zaw (Zaj e (fun w hs=>.tmp e) (fun w hs=>⟨e,hs.drop⟩)))))))
 refine jks (jqr 5 (Zaf e e e (gz2 0 3 e (Zad (Za2 (fun (s:Int) (g:Unit)=>[(0,ha0.v),(3,.int .i64 s)]) (fun s g=>[]) (fun s g=>[]) ?_ ?_)))))
 rotate_left
 ·intro k3 H4
  refine jqr 6 (Zaf e e e (gz3 0 3 4 e (Zad (Zao (Zbj (n:=big) (fun (s:(Int×Int)) (g:Unit)=>[(0,ha0.v),(3,.int .i64 s.1),(4,.int .i64 s.2)]) (fun s g=>[]) (fun s g=>[]) (0,0) () [] (u3 e) e e e ?_)))))
  intro z23 q24 n27 k25 H26
  refine Zak (jqr 7 (Zac e e e (Zac e e e (jg_y (fun w hs=>ZaV e (hs.arg Rha0)) e e (jy (ZaD e e) e e (gz4 0 3 4 19 e (Zad (Zai e ?_ ?_))))))))
  rotate_left
  ·refine ZaE (Za9 (Zbe (Zba ?_)))
   exact Zap H4 z23.1 () [] (u2 e) e e e
  refine jks (Zak (Zao (Zak (jqr 9 (Zac e e e (Zac e e e (Zbc e (fun v w hs hm=>Zjh hm (hs.arg Rha0)) e e fun v28=>Zaf e e e (gz4 0 3 4 5 e (jsr 10 (Zac e e e (jy (Zbt e e) e e (gz5 0 3 4 5 26 e (Zad (Zai e ?_ ?_))))))))))))))
  ·refine jqr 11 (Zac e e e (Zaf e e e (gz1 2 e (Zad (Zam (Zaw (ZaI (Zaw (Zbd (ZaI (Zaw ?_)))))))))))
   exact Zaj e (fun w hs=>.tmp e) (fun w hs=>⟨e,hs.drop⟩)
  refine jks (jqr 12 (Zac e e e (Zac e e e (Za6 fun x29 h30=>jg_y (fun w hs=>ZaC e e (hs.arg Rha0) h30) e e (jg_y (fun w hs=>ZaS e (hs.arg Rha0) h30.1) e e (jg_y (fun w hs=>ZaQ e (hs.arg Rha0) h30.1 e) e e (jy (ZaL e e) e e (gz4 0 3 4 33 e (Zad (Zai e ?_ ?_))))))))))
  rotate_left
  ·refine ZaK (ZaG (Zad ?_))
   refine Zar 8 (Zac e e e (jy (Zal e e) e e (Zaf e e e (gz3 0 3 4 e (Zap H26 (z23.1,w64 (z23.2 + 1)) () [] (u3 e) e e e)))))
  refine Zar 13 (Zac e e e (jy (Zal e e) e e (Zaf e e e (gz3 0 3 4 e (ZaG (Zad ?_))))))
  refine Zar 8 (Zac e e e (jy (Zal e e) e e (Zaf e e e (gz3 0 3 4 e (Zap H26 (w64 (z23.1 + 1),w64 (z23.2 + 1)) () [] (u3 e) e e e)))))
 intro z1 q2
 refine Zak (jqr 14 (Zaf e e e (gz3 0 3 6 e (Zad (Zao (Zbj (n:=big) (fun (s:Int) (g:Unit)=>[(0,ha0.v),(3,.int .i64 z1),(6,.int .i64 s)]) (fun s g=>[]) (fun s g=>[]) 0 () [] (u3 e) e e e ?_))))))
 intro z5 q6 n9 k7 H8
 refine Zak (jqr 15 (Zac e e e (Zac e e e (jg_y (fun w hs=>ZaV e (hs.arg Rha0)) e e (jy (ZaD e e) e e (gz4 0 3 6 39 e (Zad (Zai e ?_ ?_))))))))
 rotate_left
 ·refine ZaE (Za9 (Zbe (Zba (Zad ?_))))
  refine Zak (jqr 31 (Zac e e e (jy (Zbh e e) e e (gz1 70 e (Zad (Zai e ?_ ?_))))))
  ·refine jqr 32 (Zaf e e e (gz1 2 e (Zad (Zam (Zaw (Zaj e (fun w hs=>.tmp e) (fun w hs=>⟨e,hs.drop⟩)))))))
  refine jks (jqr 33 (Zaf e e e (gz1 2 e (Zad (Zam (Zaj e (fun w hs=>.tmp e) (fun w hs=>⟨e,hs.drop⟩)))))))
 refine jks (Zak (Zao (jqr 17 (Zaf e e e (gz4 0 3 6 7 e (Zad (Za2 (fun (s:Int) (g:Unit)=>[(0,ha0.v),(3,.int .i64 z1),(6,.int .i64 z5),(7,.int .i64 s)]) (fun s g=>[]) (fun s g=>[]) ?_ ?_)))))))
 rotate_left
 ·intro k12 H13
  refine jqr 18 (Zaf e e e (gz5 0 3 6 7 8 e (Zad (Zao (Zbj (n:=big) (fun (s:(Int×Int)) (g:Unit)=>[(0,ha0.v),(3,.int .i64 z1),(6,.int .i64 z5),(7,.int .i64 s.1),(8,.int .i64 s.2)]) (fun s g=>[]) (fun s g=>[]) (0,1) () [] (u5 e) e e e ?_)))))
  intro z16 q17 n20 k18 H19
  refine Zak (jqr 19 (Zac e e e (Zac e e e (jg_y (fun w hs=>ZaV e (hs.arg Rha0)) e e (jy (ZaD e e) e e (gz6 0 3 6 7 8 45 e (Zad (Zai e ?_ ?_))))))))
  rotate_left
  ·refine ZaE (Za9 (Zbe (Zba ?_)))
   exact Zap H13 z16.1 () [] (u4 e) e e e
  refine jks (Zak (Zao (jqr 21 (Zac e e e (Zac e e e (Za6 fun x21 h22=>jg_y (fun w hs=>ZaC e e (hs.arg Rha0) h22) e e (jg_y (fun w hs=>ZaS e (hs.arg Rha0) h22.1) e e (jg_y (fun w hs=>ZaQ e (hs.arg Rha0) h22.1 e) e e (Zac e e e (jy (ZaL e e) e e (gz6 0 3 6 7 8 54 e (Zad (Zai e ?_ ?_)))))))))))))
  rotate_left
  ·refine ZaK (ZaG (Zad ?_))
   refine Zar 20 (Zac e e e (jy (Zal e e) e e (Zaf e e e (gz5 0 3 6 7 8 e (Zap H19 (z16.1,w64 (z16.2 + 1)) () [] (u5 e) e e e)))))
  refine Zar 22 (Zac e e e (jy (Zal e e) e e (Zaf e e e (gz5 0 3 6 7 8 e (ZaG (Zad ?_))))))
  refine Zar 20 (Zac e e e (jy (Zal e e) e e (Zaf e e e (gz5 0 3 6 7 8 e (Zap H19 (w64 (z16.1 + 1),w64 (z16.2 + 1)) () [] (u5 e) e e e)))))
 intro z10 q11
 refine jqr 23 (Zaf e e e (gz5 0 3 6 7 9 e (Zad (Zak (jqr 24 (Zac e e e (Zac e e e (Za6 fun x14 h15=>jg_y (fun w hs=>ZaC e e (hs.arg Rha0) h15) e e (jg_y (fun w hs=>ZaS e (hs.arg Rha0) h15.1) e e (jg_y (fun w hs=>ZaQ e (hs.arg Rha0) h15.1 e) e e (gz6 0 3 6 7 9 61 e (Zad (Zao (jqr 25 (jy (ZaL e e) e e ?_)))))))))))))))
 refine Zaf e e e (gz7 0 3 6 7 9 61 62 e (Zad (Zai e ?_ ?_)))
 ·refine Zar 26 (Zaf e e e (gz5 0 3 6 7 9 e (ZaG (Zad ?_))))
  refine jqr 29 (Zac e e e (Zac e e e (jy (ZaD e e) e e (gz4 0 3 6 68 e (Zad (Zai e ?_ ?_))))))
  ·refine jqr 30 (Zaf e e e (gz1 2 e (Zad (Zam (ZaI (Zaw (Zbd (ZaI (Zaw ?_)))))))))
   exact Zaj e (fun w hs=>.tmp e) (fun w hs=>⟨e,hs.drop⟩)
  refine ZaK (ZaG (Zad ?_))
  refine Zar 16 (Zac e e e (jy (Zal e e) e e (Zaf e e e (gz3 0 3 6 e (Zap H8 (w64 (z5 + 1)) () [] (u3 e) e e e)))))
 refine jqr 27 (jy (ZaL e e) e e (Zaf e e e (gz6 0 3 6 7 9 64 e (Zad (Zai e ?_ ?_)))))
 rotate_left
 ·refine ZaK (ZaG (Zad ?_))
  refine jqr 29 (Zac e e e (Zac e e e (jy (ZaD e e) e e (gz4 0 3 6 68 e (Zad (Zai e ?_ ?_))))))
  ·refine jqr 30 (Zaf e e e (gz1 2 e (Zad (Zam (ZaI (Zaw (Zbd (ZaI (Zaw ?_)))))))))
   exact Zaj e (fun w hs=>.tmp e) (fun w hs=>⟨e,hs.drop⟩)
  refine ZaK (ZaG (Zad ?_))
  refine Zar 16 (Zac e e e (jy (Zal e e) e e (Zaf e e e (gz3 0 3 6 e (Zap H8 (w64 (z5 + 1)) () [] (u3 e) e e e)))))
 refine Zar 28 (Zaf e e e (gz5 0 3 6 7 9 e (ZaG (Zad ?_))))
 refine jqr 29 (Zac e e e (Zac e e e (jy (ZaD e e) e e (gz4 0 3 6 68 e (Zad (Zai e ?_ ?_))))))
 ·refine jqr 30 (Zaf e e e (gz1 2 e (Zad (Zam (ZaI (Zaw (Zbd (ZaI (Zaw ?_)))))))))
  exact Zaj e (fun w hs=>.tmp e) (fun w hs=>⟨e,hs.drop⟩)
 refine ZaK (ZaG (Zad ?_))
 refine Zar 16 (Zac e e e (jy (Zal e e) e e (Zaf e e e (gz3 0 3 6 e (Zap H8 (w64 (z5 + 1)) () [] (u3 e) e e e)))))
theorem Zjg (n:Nat):∀ {w:World}{a0:(List Element)}{a1:Int}{ha0:Hd}{v:(List Int)}(hm:Zc3 n a0 a1 = some v) (Rha0:Sl w ha0 Element.enc a0),Calls Tryz.prog 65 ([ha0.v,.int .i64 a1]:List Value).toArray w (fun e w'=>∃ g:Hd,e = .returned (g.v)∧St w w' [] [(rowH g 3 1 encI v)]):=by
 induction n with
 | zero=>intro w a0 a1 ha0 v hm Rha0; exact absurd hm (by simp [Zc3])
 | succ n ih=>
 intro w a0 a1 ha0 v hm Rha0
 refine ZbN (vs:=[ha0.v,.int .i64 a1]) (R:=fun (v:(List Int)) (e:Ending) (w':World)=>∃ g:Hd,e = .returned (g.v)∧St w w' [] [(rowH g 3 1 encI v)]) Tryz.func65 e Tryz.ntmps65 e e (St.refl w) hm ?_
 rw [Zc3]
 clear hm
 refine jqr 0 (Zaf e e e (gz2 0 1 e (Zad (Zak (jqr 1 (Zac e e e (jy (ZaD e e) e e (gz3 0 1 6 e (Zad (Zai e ?_ ?_))))))))))
 ·refine jqr 2 (Zaf e e e (gz1 4 e (Zad (Zam (Zaw (Za3 3 1 encI (Zaj e (fun w hs=>.tmp e) (fun w hs=>⟨(Hd.mk none 0 0),e,hs.sel (is:=[0]) e e⟩))))))))
 refine jks (jqr 3 (Zac e e e (Zac e e e (Zac e e e (Za6 fun x1 h2=>jg_y (fun w hs=>ZaC e e (hs.arg Rha0) h2) e e (jg_y (fun w hs=>ZaS e (hs.arg Rha0) h2.1) e e (jg_y (fun w hs=>ZaQ e (hs.arg Rha0) h2.1 e) e e (jg_c e (fun v w hs hm=>ih hm (hs.arg Rha0)) e e fun v3 q4=>jg_L (r1 e) (Zac e e e (ZaT (enc:=encI) [a1] e e e e e e e e fun hd5=>ZaO 1 e e e (fun w hs=>(hs.row 0 e)) e e e fun y6 hd7=>jg_L (r2 e) (Zaf e e e (gz1 4 e ?_))))))))))))
 refine Zad (Zam (Zaj e (fun w hs=>.tmp e) (fun w hs=>⟨hd7,e,hs.sel (is:=[1]) e e⟩)))
theorem ZjV {w:World}{a0:(List Element)}{a1:Int}{ha0:Hd}{v:(List Int)}(hm:Zhf a0 a1 = some v) (Rha0:Sl w ha0 Element.enc a0):Calls Tryz.prog 65 ([ha0.v,.int .i64 a1]:List Value).toArray w (fun e w'=>∃ g:Hd,e = .returned (g.v)∧St w w' [] [(rowH g 3 1 encI v)]):=
 Zjg big hm Rha0
theorem Zje {w:World}{a0:(List Element)}{a1:Int}{ha0:Hd}{v:((List Piece)×Int)}(hm:ZeT a0 a1 = some v) (Rha0:Sl w ha0 Element.enc a0):Calls Tryz.prog 35 ([ha0.v,.int .i64 a1]:List Value).toArray w (fun e w'=>∃ g:Hd,e = .returned (.tuple #[g.v,.int .i64 v.2])∧St w w' [] [(rowH g 69 5 Piece.enc v.1)]):=by
 refine ZbN (vs:=[ha0.v,.int .i64 a1]) (R:=fun (v:((List Piece)×Int)) (e:Ending) (w':World)=>∃ g:Hd,e = .returned (.tuple #[g.v,.int .i64 v.2])∧St w w' [] [(rowH g 69 5 Piece.enc v.1)]) Tryz.func35 e Tryz.ntmps35 e e (St.refl w) hm ?_
 unfold ZeT
 clear hm
 refine jqr 0 (Zaf e e e (Zaf e e e (gz2 0 1 e (Zad (Zak (jqr 1 (Zac e e e (Zbc e (fun v w hs hm=>ZfX hm (hs.arg Rha0)) e e fun v1=>Zaf e e e (gz3 0 1 6 e (jsr 2 (Zac e e e (jy (Zbt e e) e e (gz4 0 1 6 14 e (Zad (Zai e ?_ ?_)))))))))))))))
 ·refine jqr 3 (Zac e e e (Zaf e e e (Zaf e e e (gz2 4 5 e (Zad (Zam (Zaw (Za3 69 5 Piece.enc (Za7 e (fun w hs=>.tmp e) (fun w hs=>.tmp e) (fun w hs=>⟨(Hd.mk none 0 0),e,hs.sel (is:=[0]) e e⟩))))))))))
 refine jks (Zak (jqr 4 (Zac e e e (jy (ZaD e e) e e (Zac e e e (Zaq 18 e ?_ ?_))))))
 ·refine Zaa e e (Zaa e e (Zaa e e (Zaa e e (jy (Zah e e) e e (Zac e e e (Zaa e e (Zaa e e (Zaa e e (Zaa e e (Zaa e e (Zaa e e (jy (Zah e e) e e (gz3 0 1 31 e (Zad (Zbo e (jqr 5 ?_))))))))))))))))
  refine Zaf e e e (Zaf e e e (gz2 4 5 e (Zad (Zam (Zaw (Za3 69 5 Piece.enc (Za7 e (fun w hs=>.tmp e) (fun w hs=>.tmp e) (fun w hs=>⟨(Hd.mk none 0 0),e,hs.sel (is:=[0]) e e⟩))))))))
 refine Zac e e e (Zac e e e (jg_y (fun w hs=>ZaV e (hs.arg Rha0)) e e (jy (Zbv e e) e e (jy (Zae e e) e e (Zac e e e (Zaq 24 e ?_ ?_))))))
 ·refine Zaa e e (Zaa e e (Zaa e e (Zaa e e (Zaa e e (Zaa e e (jy (Zah e e) e e (gz3 0 1 31 e (Zad (Zbo e (jqr 5 (Zaf e e e (Zaf e e e (gz2 4 5 e (Zad (Zam (Zaw ?_))))))))))))))))
  refine Za3 69 5 Piece.enc (Za7 e (fun w hs=>.tmp e) (fun w hs=>.tmp e) (fun w hs=>⟨(Hd.mk none 0 0),e,hs.sel (is:=[0]) e e⟩))
 refine Zac e e e (Zac e e e (Za6 fun x2 h3=>jg_y (fun w hs=>ZaC e e (hs.arg Rha0) h3) e e (jg_y (fun w hs=>ZaS e (hs.arg Rha0) h3.1) e e (jg_y (fun w hs=>ZaQ e (hs.arg Rha0) h3.1 e) e e (jy (Zbt e e) e e (jy (Zae e e) e e (gz3 0 1 31 e (Zad (Zai e ?_ ?_)))))))))
 ·refine jqr 5 (Zaf e e e (Zaf e e e (gz2 4 5 e (Zad (Zam (Zaw (Za3 69 5 Piece.enc (Za7 e (fun w hs=>.tmp e) (fun w hs=>.tmp e) (fun w hs=>⟨(Hd.mk none 0 0),e,hs.sel (is:=[0]) e e⟩)))))))))
 refine jks (jqr 6 (Zaf e e e (gz3 0 1 7 e (jsr 7 (Zac e e e (Zac e e e (jg_c e (fun v w hs hm=>ZjV hm (hs.arg Rha0)) e e fun v4 q5=>jg_L (r1 e) (Zaf e e e (gz3 0 7 8 e (Zad (Zak (jqr 8 (Zaf e e e (gz4 0 7 8 9 e (Zad ?_)))))))))))))))
 refine Zao (Zbm 69 5 Piece.enc (Zbj (n:=big) (fun (s:((List Piece)×Int)) (g:Hd)=>[(0,ha0.v),(7,g.v),(8,q5.v),(9,.int .i64 s.2)]) (fun s g=>[]) (fun s g=>[(rowH g 69 5 Piece.enc s.1),(rowH q5 3 1 encI v4)]) (([]:List Piece),1) (Hd.mk none 0 0) [0,1] (u4 e) e e e ?_))
 intro z6 q7 n10 k8 H9
 refine Zak (jqr 9 (Zac e e e (Zac e e e (jg_y (fun w hs=>ZaV e (hs.row 1 e)) e e (jy (ZaD e e) e e (gz5 0 7 8 9 38 e (Zad (Zai e ?_ ?_))))))))
 rotate_left
 ·refine ZaE (Za9 (Zbe (Zba (Zad ?_))))
  refine jqr 13 (Zac e e e (Zaf e e e (Zaf e e e (gz2 4 5 e (Zad (Zam (Za7 e (fun w hs=>.tmp e) (fun w hs=>.tmp e) (fun w hs=>⟨q7,e,hs.sel (is:=[0]) e e⟩))))))))
 refine jks (Zak (Zao (jqr 11 (Zac e e e (Zac e e e (Zac e e e (Za6 fun x11 h12=>jg_y (fun w hs=>ZaC e e (hs.row 1 e) h12) e e (jg_y (fun w hs=>ZaQ e (hs.row 1 e) h12.1 e) e e (Za6 fun x13 h14=>jg_y (fun w hs=>ZaC e e (hs.arg Rha0) h14) e e (jg_y (fun w hs=>ZbJ e (hs.arg Rha0) h14.1 (l8 e) e) e e (ZaR (l8 e) e e fun g15=>Zav 0 e e e (l8 e) e e e e (l8 e) (r3 e) (gz5 0 7 8 9 10 e (Zad ?_)))))))))))))
 refine jdr (L':=[_,_]) 12 [0,2] [0,1,2,3,4,5,6,7,8,9,10,11,12,13,14,15,16] 131071 131071 [0,0,0,6,8,0,32,0,128,0,512,0,2048,5456,8192,16385,65535] [0,0,0,6,14,0,32,0,128,0,512,0,2048,8190,16382,32767,65535] [(0,true),(1,true),(2,true),(3,true),(4,true),(5,true),(6,true),(7,true),(8,true),(9,true),(10,true),(11,true),(12,true),(13,true),(14,false),(15,false),(16,true)] e (Zay (Zas (Za0 (Zay (Zas Zbb))))) (Zau e e e e (Zau e e e e (Zau e e e e (Zbk fun x16 h17=>jd_y e (fun w hs=>ZaC e e (hs.row 1 e) h17) e e (jd_y e (fun w hs=>ZaQ e (hs.row 1 e) h17.1 e) e e (jdy e (Zab e) e e (jdl 0 e e e e e e (jdy e (Zab e) e e (jdl 0 e e e e e e (jdy e (Zab e) e e (jdl 0 e e e e e e (jdy e (Zab e) e e (jdl 0 e e e e e e (jdy e (ZaX e (o5 e)) e e (jd_h e ?_)))))))))))))))
 refine ZaT (enc:=Piece.enc) [(Piece.mk x16 x13.Length x13.Grade x13.Curve x13.Power)] e e e e e e e e fun hd18=>ZaA (Zbs [1,3] e (jd_h e (ZaO 2 e e e (fun w hs=>(hs.row 0 e)) e e e fun y19 hd20=>jg_L (r4 e) (ZaA (Zbs [1,3] e (Zbz e e e e (ZaU [(0,_),(7,_),(8,_),(9,_)] ⟨e,e,e,e,trivial⟩ (ZaF (is:=[2,3]) (s2 e) e (ZaG (Zad ?_))))))))))
 refine Zar 10 (Zac e e e (jy (Zal e e) e e (Zaf e e e (gz4 0 7 8 9 e (Zap H9 (y19,w64 (z6.2 + 1)) hd20 [0,1] (u4 e) e e e)))))
theorem ZdM {w:World}{a0:(List Piece)}{ha0:Hd}{v:Int}(hm:Zc2 a0 = some v) (Rha0:Sl w ha0 Piece.enc a0):Gives Tryz.prog 66 [ha0.v] w (.int .i64 v):=by
 refine Za4 (vs:=[ha0.v]) (U:=fun (v:Int)=>.int .i64 v) Tryz.func66 e Tryz.ntmps66 e e hm ?_
 unfold Zc2
 clear hm
 refine jqr 0 (Zaf e e e (gz1 0 e (Zad (Zak (jqr 1 (Zac e e e (jg_y (fun w hs=>ZaV e (hs.arg Rha0)) e e (jy (ZaD e e) e e (Zac e e e (Zaq 8 e ?_ ?_))))))))))
 ·refine Zaa e e (Zaa e e (Zaa e e (jy (Zah e e) e e (gz2 0 12 e (Zad (Zbo e (jqr 2 (Zaf e e e (gz1 2 e (Zad (Zam (Zaw (Zaj e (fun w hs=>.tmp e) (fun w hs=>⟨e,hs.drop⟩))))))))))))))
 refine Zac e e e (jg_y (fun w hs=>ZaV e (hs.arg Rha0)) e e (jy (Zbh e e) e e (jy (Zae e e) e e (gz2 0 12 e (Zad (Zai e ?_ ?_))))))
 ·refine jqr 2 (Zaf e e e (gz1 2 e (Zad (Zam (Zaw (Zaj e (fun w hs=>.tmp e) (fun w hs=>⟨e,hs.drop⟩)))))))
 refine jks (Zak (jqr 3 (Zaf e e e (gz2 0 3 e (Zad (Zao (Zbj (n:=big) (fun (s:Int) (g:Unit)=>[(0,ha0.v),(3,.int .i64 s)]) (fun s g=>[]) (fun s g=>[]) 0 () [] (u2 e) e e e ?_)))))))
 intro z1 q2 n5 k3 H4
 refine Zak (jqr 4 (Zac e e e (Zac e e e (jg_y (fun w hs=>ZaV e (hs.arg Rha0)) e e (jy (ZaD e e) e e (gz3 0 3 16 e (Zad (Zai e ?_ ?_))))))))
 rotate_left
 ·refine ZaE (Za9 (Zbe (Zba (Zad ?_))))
  refine jqr 9 (Zaf e e e (gz1 2 e (Zad (Zam (Zaj e (fun w hs=>.tmp e) (fun w hs=>⟨e,hs.drop⟩))))))
 refine jks (Zak (Zao (jqr 6 (Zac e e e (Zac e e e (Za6 fun x6 h7=>jg_y (fun w hs=>ZaC e e (hs.arg Rha0) h7) e e (jg_y (fun w hs=>ZbJ e (hs.arg Rha0) h7.1 (l5 e) e) e e (ZaR (l5 e) e e fun g8=>Zav 0 e e e (l5 e) e e e e (l5 e) (r1 e) (gz3 0 3 4 e (jsr 7 (jy (Zab e) e e (jgl 0 e e e e e (jy (ZaD e e) e e (Zac e e e ?_))))))))))))))
 refine Zaq 26 e ?_ ?_
 ·refine Zaa e e (Zaa e e (Zaa e e (jy (Zah e e) e e (Zac e e e (Zaa e e (Zaa e e (Zaa e e (jy (Zah e e) e e (Zac e e e (Zaa e e (Zaa e e (Zaa e e (jy (Zah e e) e e (Zac e e e (Zaa e e (Zaa e e ?_))))))))))))))))
  refine Zaa e e (jy (Zah e e) e e (Zac e e e (Zaa e e (Zaa e e (Zaa e e (jy (Zah e e) e e (Zac e e e (Zaa e e (Zaa e e (Zaa e e (jy (Zah e e) e e (Zac e e e (Zaa e e (Zaa e e (Zaa e e (jy (Zah e e) e e ?_))))))))))))))))
  refine Zac e e e (Zaa e e (Zaa e e (Zaa e e (jy (Zah e e) e e (Zac e e e (Zaa e e (Zaa e e (Zaa e e (jy (Zah e e) e e (gz3 0 3 70 e (Zad (Zbo e (jqr 8 (Zaf e e e (gz1 2 e (Zad ?_))))))))))))))))
  refine Zam (ZaI (Zaw (Zbd (ZaI (Zaw ?_)))))
  exact Zaj e (fun w hs=>.tmp e) (fun w hs=>⟨e,hs.drop⟩)
 refine jy (Zab e) e e (jgl 0 e e e e e (jy (Zbv e e) e e (jy (Zae e e) e e (Zac e e e (Zaq 31 e ?_ ?_)))))
 ·refine Zaa e e (Zaa e e (Zaa e e (jy (Zah e e) e e (Zac e e e (Zaa e e (Zaa e e (Zaa e e (jy (Zah e e) e e (Zac e e e (Zaa e e (Zaa e e (Zaa e e (jy (Zah e e) e e (Zac e e e (Zaa e e (Zaa e e ?_))))))))))))))))
  refine Zaa e e (jy (Zah e e) e e (Zac e e e (Zaa e e (Zaa e e (Zaa e e (jy (Zah e e) e e (Zac e e e (Zaa e e (Zaa e e (Zaa e e (jy (Zah e e) e e (Zac e e e (Zaa e e (Zaa e e (Zaa e e (jy (Zah e e) e e ?_))))))))))))))))
  refine Zac e e e (Zaa e e (Zaa e e (Zaa e e (jy (Zah e e) e e (gz3 0 3 70 e (Zad (Zbo e (jqr 8 (Zaf e e e (gz1 2 e (Zad (Zam (ZaI (Zaw (Zbd (ZaI (Zaw ?_)))))))))))))))))
  exact Zaj e (fun w hs=>.tmp e) (fun w hs=>⟨e,hs.drop⟩)
 refine jy (Zab e) e e (jgl 0 e e e e e (jy (ZaD e e) e e (jy (Zae e e) e e (Zac e e e (Zaq 36 e ?_ ?_)))))
 ·refine Zaa e e (Zaa e e (Zaa e e (jy (Zah e e) e e (Zac e e e (Zaa e e (Zaa e e (Zaa e e (jy (Zah e e) e e (Zac e e e (Zaa e e (Zaa e e (Zaa e e (jy (Zah e e) e e (Zac e e e (Zaa e e (Zaa e e ?_))))))))))))))))
  refine Zaa e e (jy (Zah e e) e e (Zac e e e (Zaa e e (Zaa e e (Zaa e e (jy (Zah e e) e e (Zac e e e (Zaa e e (Zaa e e (Zaa e e (jy (Zah e e) e e (Zac e e e (Zaa e e (Zaa e e (Zaa e e (jy (Zah e e) e e ?_))))))))))))))))
  refine gz3 0 3 70 e (Zad (Zbo e (jqr 8 (Zaf e e e (gz1 2 e (Zad (Zam (ZaI (Zaw (Zbd (ZaI (Zaw ?_))))))))))))
  exact Zaj e (fun w hs=>.tmp e) (fun w hs=>⟨e,hs.drop⟩)
 refine jy (Zab e) e e (jgl 0 e e e e e (jy (Zbh e e) e e (jy (Zae e e) e e (Zac e e e (Zaq 41 e ?_ ?_)))))
 ·refine Zaa e e (Zaa e e (Zaa e e (jy (Zah e e) e e (Zac e e e (Zaa e e (Zaa e e (Zaa e e (jy (Zah e e) e e (Zac e e e (Zaa e e (Zaa e e (Zaa e e (jy (Zah e e) e e (Zac e e e (Zaa e e (Zaa e e ?_))))))))))))))))
  refine Zaa e e (jy (Zah e e) e e (Zac e e e (Zaa e e (Zaa e e (Zaa e e (jy (Zah e e) e e (Zac e e e (Zaa e e (Zaa e e (Zaa e e (jy (Zah e e) e e (gz3 0 3 70 e (Zad (Zbo e (jqr 8 (Zaf e e e ?_))))))))))))))))
  refine gz1 2 e (Zad (Zam (ZaI (Zaw (Zbd (ZaI (Zaw ?_)))))))
  exact Zaj e (fun w hs=>.tmp e) (fun w hs=>⟨e,hs.drop⟩)
 refine jy (Zab e) e e (jgl 0 e e e e e (jy (ZaD e e) e e (jy (Zae e e) e e (Zac e e e (Zaq 46 e ?_ ?_)))))
 ·refine Zaa e e (Zaa e e (Zaa e e (jy (Zah e e) e e (Zac e e e (Zaa e e (Zaa e e (Zaa e e (jy (Zah e e) e e (Zac e e e (Zaa e e (Zaa e e (Zaa e e (jy (Zah e e) e e (Zac e e e (Zaa e e (Zaa e e ?_))))))))))))))))
  refine Zaa e e (jy (Zah e e) e e (Zac e e e (Zaa e e (Zaa e e (Zaa e e (jy (Zah e e) e e (gz3 0 3 70 e (Zad (Zbo e (jqr 8 (Zaf e e e (gz1 2 e (Zad (Zam (ZaI (Zaw (Zbd (ZaI (Zaw ?_)))))))))))))))))))
  exact Zaj e (fun w hs=>.tmp e) (fun w hs=>⟨e,hs.drop⟩)
 refine jy (Zab e) e e (jgl 0 e e e e e (jy (Zbh e e) e e (jy (Zae e e) e e (Zac e e e (Zaq 51 e ?_ ?_)))))
 ·refine Zaa e e (Zaa e e (Zaa e e (jy (Zah e e) e e (Zac e e e (Zaa e e (Zaa e e (Zaa e e (jy (Zah e e) e e (Zac e e e (Zaa e e (Zaa e e (Zaa e e (jy (Zah e e) e e (Zac e e e (Zaa e e (Zaa e e ?_))))))))))))))))
  refine Zaa e e (jy (Zah e e) e e (gz3 0 3 70 e (Zad (Zbo e (jqr 8 (Zaf e e e (gz1 2 e (Zad (Zam (ZaI (Zaw (Zbd (ZaI (Zaw ?_))))))))))))))
  exact Zaj e (fun w hs=>.tmp e) (fun w hs=>⟨e,hs.drop⟩)
 refine jy (Zab e) e e (jgl 0 e e e e e (jy (ZaD e e) e e (jy (Zae e e) e e (Zac e e e (Zaq 56 e ?_ ?_)))))
 ·refine Zaa e e (Zaa e e (Zaa e e (jy (Zah e e) e e (Zac e e e (Zaa e e (Zaa e e (Zaa e e (jy (Zah e e) e e (Zac e e e (Zaa e e (Zaa e e (Zaa e e (jy (Zah e e) e e (gz3 0 3 70 e (Zad (Zbo e ?_))))))))))))))))
  refine jqr 8 (Zaf e e e (gz1 2 e (Zad (Zam (ZaI (Zaw (Zbd (ZaI (Zaw ?_)))))))))
  exact Zaj e (fun w hs=>.tmp e) (fun w hs=>⟨e,hs.drop⟩)
 refine jy (Zab e) e e (jgl 0 e e e e e (jy (Zbh e e) e e (jy (Zae e e) e e (Zac e e e (Zaq 61 e ?_ ?_)))))
 ·refine Zaa e e (Zaa e e (Zaa e e (jy (Zah e e) e e (Zac e e e (Zaa e e (Zaa e e (Zaa e e (jy (Zah e e) e e (gz3 0 3 70 e (Zad (Zbo e (jqr 8 (Zaf e e e (gz1 2 e (Zad (Zam ?_))))))))))))))))
  refine ZaI (Zaw (Zbd (ZaI (Zaw ?_))))
  exact Zaj e (fun w hs=>.tmp e) (fun w hs=>⟨e,hs.drop⟩)
 refine jy (Zab e) e e (jgl 0 e e e e e (jy (ZaD e e) e e (jy (Zae e e) e e (Zac e e e (Zaq 66 e ?_ ?_)))))
 ·refine Zaa e e (Zaa e e (Zaa e e (jy (Zah e e) e e (gz3 0 3 70 e (Zad (Zbo e (jqr 8 (Zaf e e e (gz1 2 e (Zad (Zam (ZaI (Zaw (Zbd (ZaI (Zaw ?_))))))))))))))))
  exact Zaj e (fun w hs=>.tmp e) (fun w hs=>⟨e,hs.drop⟩)
 refine jy (Zab e) e e (jgl 0 e e e e e (jy (Zbh e e) e e (jy (Zae e e) e e (gz3 0 3 70 e (Zad (Zai e ?_ ?_))))))
 ·refine jqr 8 (Zaf e e e (gz1 2 e (Zad (Zam (ZaI (Zaw (Zbd (ZaI (Zaw ?_)))))))))
  exact Zaj e (fun w hs=>.tmp e) (fun w hs=>⟨e,hs.drop⟩)
 refine ZaK (ZaG (Zad ?_))
 refine Zar 5 (Zac e e e (jy (Zal e e) e e (Zaf e e e (gz2 0 3 e (Zap H4 (w64 (z1 + 1)) () [] (u2 e) e e e)))))
theorem Zgp {w:World}{a0:(List Piece)}{a1:Int}{ha0:Hd}{v:((List Piece)×Int)}(hm:Zc1 a0 a1 = some v) (Rha0:Sl w ha0 Piece.enc a0):Calls Tryz.prog 36 ([ha0.v,.int .i64 a1]:List Value).toArray w (fun e w'=>∃ g:Hd,e = .returned (.tuple #[g.v,.int .i64 v.2])∧St w w' [] [(rowH g 69 5 Piece.enc v.1)]):=by
 refine ZbN (vs:=[ha0.v,.int .i64 a1]) (R:=fun (v:((List Piece)×Int)) (e:Ending) (w':World)=>∃ g:Hd,e = .returned (.tuple #[g.v,.int .i64 v.2])∧St w w' [] [(rowH g 69 5 Piece.enc v.1)]) Tryz.func36 e Tryz.ntmps36 e e (St.refl w) hm ?_
 unfold Zc1
 clear hm
 refine jqr 0 (Zaf e e e (Zaf e e e (gz2 0 1 e (Zad (Zak (jqr 1 (Zac e e e (Zbc e (fun v w hs hm=>ZdM hm (hs.arg Rha0)) e e fun v1=>Zaf e e e (gz3 0 1 6 e (jsr 2 (Zac e e e (jy (Zbt e e) e e (gz4 0 1 6 12 e (Zad (Zai e ?_ ?_)))))))))))))))
 ·refine jqr 3 (Zac e e e (Zaf e e e (Zaf e e e (gz2 4 5 e (Zad (Zam (Zaw (Za3 69 5 Piece.enc (Za7 e (fun w hs=>.tmp e) (fun w hs=>.tmp e) (fun w hs=>⟨(Hd.mk none 0 0),e,hs.sel (is:=[0]) e e⟩))))))))))
 refine jks (Zak (jqr 4 (Zac e e e (jy (ZaD e e) e e (Zac e e e (Zaq 16 e ?_ ?_))))))
 ·refine Zaa e e (Zaa e e (jy (Zah e e) e e (gz3 0 1 19 e (Zad (Zbo e (jqr 5 (Zaf e e e (Zaf e e e (gz2 4 5 e (Zad (Zam (Zaw (Za3 69 5 Piece.enc (Za7 e (fun w hs=>.tmp e) (fun w hs=>.tmp e) (fun w hs=>⟨(Hd.mk none 0 0),e,hs.sel (is:=[0]) e e⟩)))))))))))))))
 refine Zac e e e (jy (Zbh e e) e e (jy (Zae e e) e e (gz3 0 1 19 e (Zad (Zai e ?_ ?_)))))
 ·refine jqr 5 (Zaf e e e (Zaf e e e (gz2 4 5 e (Zad (Zam (Zaw (Za3 69 5 Piece.enc (Za7 e (fun w hs=>.tmp e) (fun w hs=>.tmp e) (fun w hs=>⟨(Hd.mk none 0 0),e,hs.sel (is:=[0]) e e⟩)))))))))
 refine jks (jqr 6 (Zac e e e (jg_y (fun w hs=>ZaV e (hs.arg Rha0)) e e (jy (ZaZ e e) e e (Zaf e e e (gz3 0 1 7 e (Zad (Zak (jqr 7 (Zac e e e (Zac e e e (Za6 fun x2 h3=>jg_y (fun w hs=>ZaC e e (hs.arg Rha0) h3) e e (jg_y (fun w hs=>ZaS e (hs.arg Rha0) h3.1) e e (jg_y (fun w hs=>ZaQ e (hs.arg Rha0) h3.1 e) e e (Zac e e e ?_)))))))))))))))
 refine jy (ZaD e e) e e (gz4 0 1 7 29 e (Zad (Zai e ?_ ?_)))
 ·refine jqr 8 (Zaf e e e (Zaf e e e (gz2 4 5 e (Zad (Zam (Zaw (Za3 69 5 Piece.enc (Za7 e (fun w hs=>.tmp e) (fun w hs=>.tmp e) (fun w hs=>⟨(Hd.mk none 0 0),e,hs.sel (is:=[0]) e e⟩)))))))))
 refine jks (jqr 9 (ZdO (enc:=Piece.enc) e e fun hd4=>Zac e e e (ZaO 0 e e e (fun w hs=>(hs.arg Rha0)) e e e fun y5 hd6=>jg_L (r1 e) (Zaf e e e (gz3 1 7 8 e (jsr 10 (Zac e e e (Zac e e e (Zac e e e (Za6 fun x7 h8=>jg_y (fun w hs=>ZaC e e (hs.row 0 e) h8) e e (jg_y (fun w hs=>ZaS e (hs.row 0 e) h8.1) e e (Zbr 0 (a':=(Piece.mk x7.Element a1 x7.Grade x7.Curve x7.Power)) e e h8.1 e (l1 e) e e e e fun y9=>jg_L (r1 e) ?_))))))))))))
 refine gz1 8 e (jsr 11 (Zac e e e (Zaf e e e (Zaf e e e (gz2 4 5 e (Zad (Zam (Za7 e (fun w hs=>.tmp e) (fun w hs=>.tmp e) (fun w hs=>⟨hd6,e,hs.sel (is:=[0]) e e⟩)))))))))
theorem ZfY {w:World}{a0:Interval}  {v:Bool}(hm:ZdB a0 = some v):Gives Tryz.prog 111 [.agg #[.int .i64 a0.Lo,.int .i64 a0.Hi]] w (.bool v):=by
 refine Za4 (vs:=[.agg #[.int .i64 a0.Lo,.int .i64 a0.Hi]]) (U:=fun (v:Bool)=>.bool v) Tryz.func111 e Tryz.ntmps111 e e hm ?_
 unfold ZdB
 clear hm
 refine jqr 0 (ZbD e (l2 e) e e fun g1=>Zaf e e e (gz1 1 e (jsr 1 (jy (Zab e) e e (jgl 0 e e e e e (jy (Zab e) e e (jgl 0 e e e e e (jy (ZbR e e) e e (Zac e e e (Zaq 8 e ?_ ?_))))))))))
 rotate_left
 ·refine Zaa e e (Zaa e e (Zaa e e (jy (Zae e e) e e (Zac e e e (Zaa e e (Zaa e e (Zaa e e (jy (Zae e e) e e (Zaf e e e (gz1 2 e (Zad (Zam (Zaj e (fun w hs=>.tmp e) (fun w hs=>⟨e,hs.drop⟩))))))))))))))
 refine jy (Zab e) e e (jgl 0 e e e e e (jy (Zbv e e) e e (jy (Zah e e) e e (Zac e e e (Zaq 13 e ?_ ?_)))))
 ·refine jy (Zab e) e e (jgl 0 e e e e e (jy (ZbR e e) e e (jy (Zah e e) e e (Zaf e e e (gz1 2 e (Zad (Zam (Zaj e (fun w hs=>.tmp e) (fun w hs=>⟨e,hs.drop⟩)))))))))
 refine Zaa e e (Zaa e e (Zaa e e (jy (Zae e e) e e (Zaf e e e (gz1 2 e (Zad (Zam (Zaj e (fun w hs=>.tmp e) (fun w hs=>⟨e,hs.drop⟩)))))))))
theorem Zd3 {w:World}{a0:(List Piece)}{ha0:Hd}{v:Int}(hm:ZcJ a0 = some v) (Rha0:Sl w ha0 Piece.enc a0):Gives Tryz.prog 27 [ha0.v] w (.int .i64 v):=by
 refine Za4 (vs:=[ha0.v]) (U:=fun (v:Int)=>.int .i64 v) Tryz.func27 e Tryz.ntmps27 e e hm ?_
 unfold ZcJ
 clear hm
 refine jqr 0 (Zaf e e e (gz1 0 e (jsr 1 (Zaf e e e (gz2 0 3 e (Zad (Zak (jqr 2 (Zaf e e e (gz3 0 3 4 e (Zad (Zao (Zbj (n:=big) (fun (s:(Int×Int)) (g:Unit)=>[(0,ha0.v),(3,.int .i64 s.1),(4,.int .i64 s.2)]) (fun s g=>[]) (fun s g=>[]) (0,0) () [] (u3 e) e e e ?_)))))))))))))
 intro z1 q2 n5 k3 H4
 refine Zak (jqr 3 (Zac e e e (Zac e e e (jg_y (fun w hs=>ZaV e (hs.arg Rha0)) e e (jy (ZaD e e) e e (gz4 0 3 4 8 e (Zad (Zai e ?_ ?_))))))))
 rotate_left
 ·refine ZaE (Za9 (Zbe (Zba (Zad ?_))))
  refine jqr 7 (Zac e e e (Zaf e e e (gz1 2 e (Zad (Zam (Zaj e (fun w hs=>.tmp e) (fun w hs=>⟨e,hs.drop⟩)))))))
 refine jks (Zak (Zao (jqr 5 (Zac e e e (Zac e e e (Za6 fun x6 h7=>jg_y (fun w hs=>ZaC e e (hs.arg Rha0) h7) e e (jg_y (fun w hs=>ZaS e (hs.arg Rha0) h7.1) e e (jg_y (fun w hs=>ZaQ e (hs.arg Rha0) h7.1 e) e e (jy (Zbh e e) e e (gz4 0 3 4 16 e (Zad (Zai e ?_ ?_))))))))))))
 rotate_left
 ·refine ZaK (ZaG (Zad ?_))
  refine Zar 4 (Zac e e e (jy (Zal e e) e e (Zaf e e e (gz3 0 3 4 e (Zap H4 (z1.1,w64 (z1.2 + 1)) () [] (u3 e) e e e)))))
 refine Zar 6 (Zac e e e (jy (Zal e e) e e (Zaf e e e (gz3 0 3 4 e (ZaG (Zad ?_))))))
 refine Zar 4 (Zac e e e (jy (Zal e e) e e (Zaf e e e (gz3 0 3 4 e (Zap H4 (w64 (z1.1 + 1),w64 (z1.2 + 1)) () [] (u3 e) e e e)))))
theorem ZeR {w:World}{a0:(List Int)}{ha0:Hd}{v:Bool}(hm:ZcU a0 = some v) (Rha0:Sl w ha0 encI a0):Gives Tryz.prog 112 [ha0.v] w (.bool v):=by
 refine Za4 (vs:=[ha0.v]) (U:=fun (v:Bool)=>.bool v) Tryz.func112 e Tryz.ntmps112 e e hm ?_
 unfold ZcU
 clear hm
 refine jqr 0 (Zaf e e e (gz1 0 e (Zad (Zak (jqr 1 (Zaf e e e (gz2 0 3 e (Zad (Zao (Zbj (n:=big) (fun (s:Int) (g:Unit)=>[(0,ha0.v),(3,.int .i64 s)]) (fun s g=>[]) (fun s g=>[]) 0 () [] (u2 e) e e e ?_))))))))))
 intro z1 q2 n5 k3 H4
 refine Zak (jqr 2 (Zac e e e (Zac e e e (jg_y (fun w hs=>ZaV e (hs.arg Rha0)) e e (jy (ZaD e e) e e (gz3 0 3 7 e (Zad (Zai e ?_ ?_))))))))
 rotate_left
 ·refine ZaE (Za9 (Zbe (Zba (Zad ?_))))
  refine jqr 6 (Zaf e e e (gz1 2 e (Zad (Zam (Zaj e (fun w hs=>.tmp e) (fun w hs=>⟨e,hs.drop⟩))))))
 refine jks (Zak (Zao (jqr 4 (Zac e e e (Zac e e e (Za6 fun x6 h7=>jg_y (fun w hs=>ZaC e e (hs.arg Rha0) h7) e e (jg_y (fun w hs=>ZaQ e (hs.arg Rha0) h7.1 e) e e (jy (ZaD e e) e e (Zac e e e (Zaq 15 e ?_ ?_))))))))))
 ·refine Zaa e e (Zaa e e (Zaa e e (Zaa e e (Zaa e e (jy (Zah e e) e e (gz3 0 3 21 e (Zad (Zbo e (jqr 5 (Zaf e e e (gz1 2 e (Zad (Zam (ZaI (Zaw (Zbd (ZaI (Zaw ?_))))))))))))))))))
  exact Zaj e (fun w hs=>.tmp e) (fun w hs=>⟨e,hs.drop⟩)
 refine Zac e e e (Zac e e e (Za6 fun x8 h9=>jg_y (fun w hs=>ZaC e e (hs.arg Rha0) h9) e e (jg_y (fun w hs=>ZaQ e (hs.arg Rha0) h9.1 e) e e (jy (Zbh e e) e e (jy (Zae e e) e e (gz3 0 3 21 e (Zad (Zai e ?_ ?_))))))))
 ·refine jqr 5 (Zaf e e e (gz1 2 e (Zad (Zam (ZaI (Zaw (Zbd (ZaI (Zaw ?_)))))))))
  exact Zaj e (fun w hs=>.tmp e) (fun w hs=>⟨e,hs.drop⟩)
 refine ZaK (ZaG (Zad ?_))
 refine Zar 3 (Zac e e e (jy (Zal e e) e e (Zaf e e e (gz2 0 3 e (Zap H4 (w64 (z1 + 1)) () [] (u2 e) e e e)))))
end Go.Proofs.YtdgminllobhncaaGreat
namespace Go.Proofs.YtdgminllobhncaaGreat
open Go.Hy
set_option linter.unusedVariables false
set_option linter.unusedSimpArgs false
set_option maxHeartbeats 2000000
set_option maxRecDepth 100000
theorem ZhP {w:World}{a0:(List Piece)}{a1:Motion}{ha0:Hd}{ha1A:Hd}{ha1B:Hd}{v:Int}(hm:Zdz a0 a1 = some v) (Rha0:Sl w ha0 Piece.enc a0) (Rha1_Class:Sl w ha1A Interval.enc a1.Class) (Rha1_Targets:Sl w ha1B encI a1.Targets):Gives Tryz.prog 67 [ha0.v,.agg #[.int .i64 a1.Speed.Lo,.int .i64 a1.Speed.Hi,ha1A.v,.int .i64 a1.Error,ha1B.v]] w (.int .i64 v):=by
 refine Za4 (vs:=[ha0.v,.agg #[.int .i64 a1.Speed.Lo,.int .i64 a1.Speed.Hi,ha1A.v,.int .i64 a1.Error,ha1B.v]]) (U:=fun (v:Int)=>.int .i64 v) Tryz.func67 e Tryz.ntmps67 e e hm ?_
 unfold Zdz
 clear hm
 refine jqr 0 (ZbD e (l5 e) e e fun g1=>Zaf e e e (gz2 0 3 e (Zad (Zak (Zak (jdr (L':=[_]) 1 [0] [0,1,2,3,4,5,6,7,8,9,10,11,12,13,14,15,16,17,18,19] 1048575 1048575 [0,1,2,4,12,16,48,80,16,272,656,1040,2064,4096,12288,20480,4096,69632,167936,266240] [0,1,3,7,15,31,63,127,31,287,1023,2047,4095,8191,16383,32767,8191,73727,262143,524287] [(0,true),(1,true),(2,true),(3,true),(4,true),(5,true),(6,true),(7,true),(8,true),(9,true),(10,true),(11,true),(12,true),(13,true),(14,true),(15,true),(16,true),(17,true),(18,true),(19,true)] e (Zas (Zas Zbb)) (jdy e (Zab e) e e (jd_y e (fun w hs=>ZaJ e (ldPB (hs.blk (i:=0) e) (l2 e) e)) e e (Zcc e e (fun v w hs hm=>ZfY (a0:=a1.Speed) hm ) e e fun v2=>jdy e (Zbl e) e e (Zau e e e e (Zbp 12 e ?_ ?_)))))))))))
 ·refine Zag e e e (Zag e e e (Zag e e e (Zag e e e (Zag e e e (Zag e e e (jdy e (Zah e e) e e (Zau e e e e (Zag e e e (Zag e e e (Zag e e e (Zag e e e (Zag e e e (Zag e e e (jdy e (Zah e e) e e (ZaU [(3,_),(27,_)] ⟨e,e,trivial⟩ (Zad ?_))))))))))))))))
  refine Zbo e (jqr 2 (Zaf e e e (gz1 4 e (Zad (Zam (Zaw (Zaj e (fun w hs=>.tmp e) (fun w hs=>⟨e,hs.drop⟩))))))))
 refine jdy e (Zab e) e e (jdl 0 e e e e e e (jd_y e (fun w hs=>ZaV e (hs.arg Rha1_Class)) e e (Zau e e e e (jd_y e (fun w hs=>ZaV e (hs.arg Rha0)) e e (jdy e (Zbt e e) e e (jdy e (Zae e e) e e (Zau e e e e (Zbp 20 e ?_ ?_))))))))
 ·refine Zag e e e (Zag e e e (Zag e e e (Zag e e e (Zag e e e (Zag e e e (jdy e (Zah e e) e e (ZaU [(3,_),(27,_)] ⟨e,e,trivial⟩ (Zad (Zbo e (jqr 2 (Zaf e e e (gz1 4 e (Zad (Zam (Zaw (Zaj e (fun w hs=>.tmp e) (fun w hs=>⟨e,hs.drop⟩)))))))))))))))))
 refine jdy e (Zab e) e e (jdl 0 e e e e e e (jd_y e (fun w hs=>ZaV e (hs.arg Rha1_Targets)) e e (Zau e e e e (Zcc e e (fun v w hs hm=>Zd3 hm (hs.arg Rha0)) e e fun v3=>jdy e (Zbt e e) e e (jdy e (Zae e e) e e (ZaU [(3,_),(27,_)] ⟨e,e,trivial⟩ (Zad (Zai e ?_ ?_))))))))
 ·refine jqr 2 (Zaf e e e (gz1 4 e (Zad (Zam (Zaw (Zaj e (fun w hs=>.tmp e) (fun w hs=>⟨e,hs.drop⟩)))))))
 refine jks (Za2 (fun (s:Unit) (g:Unit)=>[(3,.pointer (some ⟨g1,0,none⟩))]) (fun s g=>[]) (fun s g=>[(Res.blk g1 38 [.int .i64 a1.Speed.Lo,.int .i64 a1.Speed.Hi,ha1A.v,.int .i64 a1.Error,ha1B.v])]) ?_ ?_)
 rotate_left
 ·intro k6 H7
  refine jqr 3 (Zaf e e e (gz2 3 5 e (Zad (Zao (Zbj (n:=big) (fun (s:Int) (g:Unit)=>[(3,.pointer (some ⟨g1,0,none⟩)),(5,.int .i64 s)]) (fun s g=>[]) (fun s g=>[(Res.blk g1 38 [.int .i64 a1.Speed.Lo,.int .i64 a1.Speed.Hi,ha1A.v,.int .i64 a1.Error,ha1B.v])]) 0 () [0] (u2 e) e e e ?_)))))
  intro z22 q23 n26 k24 H25
  refine Zak (jqr 4 (Zac e e e (jy (Zab e) e e (jgl 0 e e e e e (jg_y (fun w hs=>ZaV e (hs.arg Rha1_Class)) e e (jy (ZaD e e) e e (gz3 3 5 32 e (Zad (Zai e ?_ ?_)))))))))
  rotate_left
  ·refine ZaE (Za9 (Zbe (Zba ?_)))
   exact Zap H7 () () [0] (u1 e) e e e
  refine jks (Zak (Zao (jqr 6 (jy (Zab e) e e (jgl 0 e e e e e (Zac e e e (Za6 fun x27 h28=>jg_y (fun w hs=>ZaC e e (hs.arg Rha1_Class) h28) e e (jg_y (fun w hs=>ZbJ e (hs.arg Rha1_Class) h28.1 (l2 e) e) e e (Zbc e (fun v w hs hm=>ZfY (a0:=x27) hm ) e e fun v29=>jy (Zbl e) e e (gz3 3 5 41 e (Zad (Zai e ?_ ?_))))))))))))
  ·refine jqr 7 (Zaf e e e (gz1 4 e (Zad (Zam (ZaI (Zaw (Zbd (ZaI (Zaw ?_)))))))))
   exact Zaj e (fun w hs=>.tmp e) (fun w hs=>⟨e,hs.drop⟩)
  refine ZaK (ZaG (Zad ?_))
  refine Zar 5 (Zac e e e (jy (Zal e e) e e (Zaf e e e (gz2 3 5 e (Zap H25 (w64 (z22 + 1)) () [0] (u2 e) e e e)))))
 intro z4 q5
 refine Za2 (fun (s:Bool) (g:Unit)=>[(3,.pointer (some ⟨g1,0,none⟩)),(6,.bool s)]) (fun s g=>[]) (fun s g=>[(Res.blk g1 38 [.int .i64 a1.Speed.Lo,.int .i64 a1.Speed.Hi,ha1A.v,.int .i64 a1.Error,ha1B.v])]) ?_ ?_
 rotate_left
 ·intro k10 H11
  refine Zar 8 (jy (Zab e) e e (jy (Zab e) e e (jgl 0 e e e e e (jy (Zbv e e) e e (Zac e e e (Zaq 46 e ?_ ?_))))))
  rotate_left
  ·refine Zaa e e (Zaa e e (Zaa e e (Zaa e e (jy (Zae e e) e e (Zac e e e (Zaa e e (Zaa e e (Zaa e e (jy (Zae e e) e e (Zac e e e (Zaa e e (Zaa e e (Zaa e e (jy (Zae e e) e e (Zac e e e (Zaa e e ?_))))))))))))))))
   refine Zaa e e (Zaa e e (jy (Zae e e) e e (Zaf e e e (gz2 3 6 e (Zap H11 false () [0] (u2 e) e e e)))))
  refine jy (Zab e) e e (jy (Zab e) e e (jgl 0 e e e e e (jy (ZbR e e) e e (jy (Zah e e) e e (Zac e e e (Zaq 52 e ?_ ?_))))))
  rotate_left
  ·refine Zaa e e (Zaa e e (Zaa e e (jy (Zae e e) e e (Zac e e e (Zaa e e (Zaa e e (Zaa e e (jy (Zae e e) e e (Zac e e e (Zaa e e (Zaa e e (Zaa e e (jy (Zae e e) e e (Zaf e e e (gz2 3 6 e (Zap H11 false () [0] (u2 e) e e e))))))))))))))))
  refine jy (Zab e) e e (jgl 0 e e e e e (jy (Zbv e e) e e (jy (Zah e e) e e (Zac e e e (Zaq 57 e ?_ ?_)))))
  rotate_left
  ·refine Zaa e e (Zaa e e (Zaa e e (jy (Zae e e) e e (Zac e e e (Zaa e e (Zaa e e (Zaa e e (jy (Zae e e) e e (Zaf e e e (gz2 3 6 e (Zap H11 false () [0] (u2 e) e e e)))))))))))
  refine jy (Zab e) e e (jgl 0 e e e e e (jy (ZbR e e) e e (jy (Zah e e) e e (Zac e e e (Zaq 62 e ?_ ?_)))))
  ·refine jy (Zab e) e e (jgl 0 e e e e e (Zbc e (fun v w hs hm=>ZeR hm (hs.arg Rha1_Targets)) e e fun v21=>jy (Zah e e) e e (Zaf e e e (gz2 3 6 e (Zap H11 v21 () [0] (u2 e) e e e)))))
  refine Zaa e e (Zaa e e (Zaa e e (jy (Zae e e) e e (Zaf e e e (gz2 3 6 e (Zap H11 false () [0] (u2 e) e e e))))))
 intro z8 q9
 refine Zak (jqr 9 (Zaf e e e (gz3 3 6 7 e (Zad (Zao (Zbj (n:=big) (fun (s:(Bool×Int)) (g:Unit)=>[(3,.pointer (some ⟨g1,0,none⟩)),(6,.bool s.1),(7,.int .i64 s.2)]) (fun s g=>[]) (fun s g=>[(Res.blk g1 38 [.int .i64 a1.Speed.Lo,.int .i64 a1.Speed.Hi,ha1A.v,.int .i64 a1.Error,ha1B.v])]) (z8,0) () [0] (u3 e) e e e ?_))))))
 intro z12 q13 n16 k14 H15
 refine Zak (jqr 10 (Zac e e e (jy (Zab e) e e (jgl 0 e e e e e (jg_y (fun w hs=>ZaV e (hs.arg Rha1_Class)) e e (jy (ZaD e e) e e (gz4 3 6 7 71 e (Zad (Zai e ?_ ?_)))))))))
 rotate_left
 ·refine ZaE (Za9 (Zbe (Zba (Zad ?_))))
  refine Zak (jqr 13 (Zac e e e (jy (Zbl e) e e (gz1 94 e (Zad (Zai e ?_ ?_))))))
  ·refine jqr 14 (Zaf e e e (gz1 4 e (Zad (Zam (Zaw (Zaj e (fun w hs=>.tmp e) (fun w hs=>⟨e,hs.drop⟩)))))))
  refine jks (jqr 15 (Zaf e e e (gz1 4 e (Zad (Zam (Zaj e (fun w hs=>.tmp e) (fun w hs=>⟨e,hs.drop⟩)))))))
 refine jks (Zak (Zao (Zar 12 (Zac e e e (Zac e e e (Zaq 75 e ?_ ?_))))))
 rotate_left
 ·refine Zaa e e (Zaa e e (Zaa e e (Zaa e e (Zaa e e (Zaa e e (Zaa e e (jy (Zae e e) e e (Zac e e e (Zaa e e (Zaa e e (Zaa e e (Zaa e e (Zaa e e (Zaa e e (Zaa e e (jy (Zae e e) e e ?_))))))))))))))))
  refine Zaf e e e (gz3 3 6 7 e (ZaG (Zad ?_)))
  refine Zar 11 (Zac e e e (jy (Zal e e) e e (Zaf e e e (gz3 3 6 7 e (Zap H15 (false,w64 (z12.2 + 1)) () [0] (u3 e) e e e)))))
 refine jy (Zab e) e e (jgl 0 e e e e e (Zac e e e (Za6 fun x17 h18=>jg_y (fun w hs=>ZaC e e (hs.arg Rha1_Class) h18) e e (jg_y (fun w hs=>ZaS e (hs.arg Rha1_Class) h18.1) e e (jg_y (fun w hs=>ZaQ e (hs.arg Rha1_Class) h18.1 e) e e (jy (Zbv e e) e e (jy (Zah e e) e e (Zac e e e (Zaq 84 e ?_ ?_)))))))))
 rotate_left
 ·refine Zaa e e (Zaa e e (Zaa e e (Zaa e e (Zaa e e (Zaa e e (Zaa e e (jy (Zae e e) e e (Zaf e e e (gz3 3 6 7 e (ZaG (Zad ?_)))))))))))
  refine Zar 11 (Zac e e e (jy (Zal e e) e e (Zaf e e e (gz3 3 6 7 e (Zap H15 (false,w64 (z12.2 + 1)) () [0] (u3 e) e e e)))))
 refine jy (Zab e) e e (jgl 0 e e e e e (Zac e e e (Za6 fun x19 h20=>jg_y (fun w hs=>ZaC e e (hs.arg Rha1_Class) h20) e e (jg_y (fun w hs=>ZaS e (hs.arg Rha1_Class) h20.1) e e (jg_y (fun w hs=>ZaQ e (hs.arg Rha1_Class) h20.1 e) e e (jy (ZbR e e) e e (jy (Zah e e) e e (Zaf e e e (gz3 3 6 7 e (ZaG (Zad ?_)))))))))))
 refine Zar 11 (Zac e e e (jy (Zal e e) e e (Zaf e e e (gz3 3 6 7 e (Zap H15 (decide (x19.Hi ≤ 10000),w64 (z12.2 + 1)) () [0] (u3 e) e e e)))))
theorem Ze8 {w:World}{a0:Piece}{a1:Int}  {v:Int}(hm:ZdL a0 a1 = some v):Gives Tryz.prog 114 [.agg #[.int .i64 a0.Element,.int .i64 a0.Length,.int .i64 a0.Grade,.int .i64 a0.Curve,.int .i64 a0.Power],.int .i64 a1] w (.int .i64 v):=by
 refine Za4 (vs:=[.agg #[.int .i64 a0.Element,.int .i64 a0.Length,.int .i64 a0.Grade,.int .i64 a0.Curve,.int .i64 a0.Power],.int .i64 a1]) (U:=fun (v:Int)=>.int .i64 v) Tryz.func114 e Tryz.ntmps114 e e hm ?_
 unfold ZdL
 clear hm
 refine jqr 0 (ZbD e (l5 e) e e fun g1=>Zaf e e e (gz2 1 2 e (jsr 1 (jy (Zab e) e e (jgl 0 e e e e e (Zac e e e (jy (ZaZ e e) e e (Zc6 (fun w hs=>ZbI e e) e e fun x2=>jy (Zab e) e e (jgl 0 e e e e e (jy (ZbI e e) e e (Zaf e e e (gz1 4 e (Zad (Zam ?_))))))))))))))
 exact Zaj e (fun w hs=>.tmp e) (fun w hs=>⟨e,hs.drop⟩)
theorem ZgM {w:World}{a0:Int}{a1:Int}  {v:Int}(hm:Zeg a0 a1 = some v):Gives Tryz.prog 113 [.int .i64 a0,.int .i64 a1] w (.int .i64 v):=by
 refine Za4 (vs:=[.int .i64 a0,.int .i64 a1]) (U:=fun (v:Int)=>.int .i64 v) Tryz.func113 e Tryz.ntmps113 e e hm ?_
 unfold Zeg
 clear hm
 refine jqr 0 (Zaf e e e (gz2 0 1 e (Zad (Zak (jdr (L':=[]) 1 [] [0,1,2,3,4,5,6,7] 255 255 [0,0,3,0,0,24,7,127] [0,0,3,0,0,24,7,127] [(0,true),(1,true),(2,true),(3,true),(4,true),(5,true),(6,true),(7,true)] e (Zas Zbb) (Zau e e e e (Zau e e e e (ZdV fun h1=>jdy e (Zch e e (of_decide_eq_true h1)) e e (Zau e e e e (Zau e e e e (ZdV fun h2=>jdy e (ZdG e e (of_decide_eq_true h2)) e e (Zbz e e e e (Zbz e e e e (ZaU [(1,_),(5,_),(6,_)] ⟨e,e,e,trivial⟩ ?_))))))))))))))
 refine Zad (Zak (jqr 2 (Zac e e e (jy (Zbt e e) e e (Zac e e e (Zaq 15 e ?_ ?_))))))
 rotate_left
 ·refine Zaa e e (Zaa e e (Zaa e e (Zaa e e (Zaa e e (jy (Zae e e) e e (gz2 5 21 e (Zad (ZdC e (jks (jqr 4 (Zac e e e (Zaf e e e (gz1 4 e (Zad (Zam (Zaj e (fun w hs=>.tmp e) (fun w hs=>⟨e,hs.drop⟩)))))))))))))))))
 refine Zac e e e (jy (ZaD e e) e e (Zac e e e (jy (ZaD e e) e e (jy (ZfA Tryz.underlying4 e e) e e (jy (Zah e e) e e (gz2 5 21 e (Zad (Zai e ?_ ?_))))))))
 rotate_left
 ·refine jks (jqr 4 (Zac e e e (Zaf e e e (gz1 4 e (Zad (Zam (Zaj e (fun w hs=>.tmp e) (fun w hs=>⟨e,hs.drop⟩))))))))
 refine Zar 3 (Zac e e e (Zc6 (fun w hs=>ZaZ e e) e e fun x3=>Zaf e e e (gz1 5 e (jsr 4 (Zac e e e (Zaf e e e (gz1 4 e (Zad (Zam (Zaj e (fun w hs=>.tmp e) (fun w hs=>⟨e,hs.drop⟩)))))))))))
theorem Zhg {w:World}{a0:Int}{a1:Int}  {v:Int}(hm:ZfZ a0 a1 = some v):Gives Tryz.prog 115 [.int .i64 a0,.int .i64 a1] w (.int .i64 v):=by
 refine Za4 (vs:=[.int .i64 a0,.int .i64 a1]) (U:=fun (v:Int)=>.int .i64 v) Tryz.func115 e Tryz.ntmps115 e e hm ?_
 unfold ZfZ
 clear hm
 refine jqr 0 (Zaf e e e (gz2 0 1 e (Zad (Zak (jdr (L':=[]) 1 [] [0,1,2,3,4,5,6,7] 255 255 [0,0,3,0,0,24,7,127] [0,0,3,0,0,24,7,127] [(0,true),(1,true),(2,true),(3,true),(4,true),(5,true),(6,true),(7,true)] e (Zas Zbb) (Zau e e e e (Zau e e e e (ZdV fun h1=>jdy e (Zch e e (of_decide_eq_true h1)) e e (Zau e e e e (Zau e e e e (ZdV fun h2=>jdy e (ZdG e e (of_decide_eq_true h2)) e e (Zbz e e e e (Zbz e e e e (ZaU [(1,_),(5,_),(6,_)] ⟨e,e,e,trivial⟩ ?_))))))))))))))
 refine Zad (Zak (jqr 2 (Zac e e e (jy (Zbt e e) e e (Zac e e e (Zaq 15 e ?_ ?_))))))
 rotate_left
 ·refine Zaa e e (Zaa e e (Zaa e e (Zaa e e (Zaa e e (jy (Zae e e) e e (gz2 5 21 e (Zad (ZdC e (jks (jqr 4 (Zac e e e (Zaf e e e (gz1 4 e (Zad (Zam (Zaj e (fun w hs=>.tmp e) (fun w hs=>⟨e,hs.drop⟩)))))))))))))))))
 refine Zac e e e (jy (ZaD e e) e e (Zac e e e (jy (ZaD e e) e e (jy (Zh3 Tryz.underlying4 e e) e e (jy (Zah e e) e e (gz2 5 21 e (Zad (Zai e ?_ ?_))))))))
 rotate_left
 ·refine jks (jqr 4 (Zac e e e (Zaf e e e (gz1 4 e (Zad (Zam (Zaj e (fun w hs=>.tmp e) (fun w hs=>⟨e,hs.drop⟩))))))))
 refine Zar 3 (Zac e e e (Zc6 (fun w hs=>Zal e e) e e fun x3=>Zaf e e e (gz1 5 e (jsr 4 (Zac e e e (Zaf e e e (gz1 4 e (Zad (Zam (Zaj e (fun w hs=>.tmp e) (fun w hs=>⟨e,hs.drop⟩)))))))))))
theorem Zct {w:World}{a0:Int}  {v:Int}(hm:ZbV a0 = some v):Gives Tryz.prog 117 [.int .i64 a0] w (.int .i64 v):=by
 refine Za4 (vs:=[.int .i64 a0]) (U:=fun (v:Int)=>.int .i64 v) Tryz.func117 e Tryz.ntmps117 e e hm ?_
 unfold ZbV
 clear hm
 refine jqr 0 (Zaf e e e (gz1 0 e (jsr 1 (Zaf e e e (Zaf e e e (gz3 0 3 4 e (Zad (Zak (Zao (Zbj (n:=big) (fun (s:(Int×Int)) (g:Unit)=>[(0,.int .i64 a0),(3,.int .i64 s.1),(4,.int .i64 s.2)]) (fun s g=>[]) (fun s g=>[]) (0,1073741824) () [] (u3 e) e e e ?_))))))))))
 intro z1 q2 n5 k3 H4
 refine Zak (jqr 2 (Zac e e e (Zac e e e (jy (ZaD e e) e e (gz4 0 3 4 8 e (Zad (Zai e ?_ ?_)))))))
 rotate_left
 ·refine ZaE (Za9 (Zbe (Zba (Zad ?_))))
  refine jqr 7 (Zac e e e (Zaf e e e (gz1 2 e (Zad (Zam (Zaj e (fun w hs=>.tmp e) (fun w hs=>⟨e,hs.drop⟩)))))))
 refine jks (Zao (jqr 3 (Zac e e e (Zac e e e (jy (Zal e e) e e (jy (Zal e e) e e (Zc6 (fun w hs=>Zch e e (by decide)) e e fun x6=>Zaf e e e (gz4 0 3 4 5 e (jsr 4 (Zac e e e (Zac e e e (jy (ZbI e e) e e (Zac e e e (jy (ZbR e e) e e (gz5 0 3 4 5 18 e ?_)))))))))))))))
 refine Zad (Zai e ?_ ?_)
 ·refine Zar 5 (Zac e e e (Zaf e e e (gz3 0 3 4 e (ZaG (Zap H4 (x6,z1.2) () [] (u3 e) e e e)))))
 refine Zar 6 (Zac e e e (jy (ZaZ e e) e e (Zaf e e e (gz3 0 3 4 e (ZaG (Zap H4 (z1.1,w64 (x6 - 1)) () [] (u3 e) e e e))))))
theorem Zfl {w:World}{a0:Int}  {v:Int}(hm:Zdc a0 = some v):Gives Tryz.prog 116 [.int .i64 a0] w (.int .i64 v):=by
 refine Za4 (vs:=[.int .i64 a0]) (U:=fun (v:Int)=>.int .i64 v) Tryz.func116 e Tryz.ntmps116 e e hm ?_
 unfold Zdc
 clear hm
 refine jqr 0 (Zaf e e e (gz1 0 e (jsr 1 (Zac e e e (Zbc e (fun v w hs hm=>Zct hm ) e e fun v1=>Zaf e e e (gz2 0 3 e (Zad (Zak (jqr 2 (Zac e e e (Zac e e e (jy (ZbI e e) e e (Zac e e e (jy (ZaD e e) e e (gz2 3 10 e ?_)))))))))))))))
 refine Zad (Zai e ?_ ?_)
 rotate_left
 ·refine jks (jqr 4 (Zac e e e (Zaf e e e (gz1 2 e (Zad (Zam (Zaj e (fun w hs=>.tmp e) (fun w hs=>⟨e,hs.drop⟩))))))))
 refine Zar 3 (Zac e e e (jy (Zal e e) e e (Zaf e e e (gz1 3 e (jsr 4 (Zac e e e (Zaf e e e (gz1 2 e (Zad (Zam (Zaj e (fun w hs=>.tmp e) (fun w hs=>⟨e,hs.drop⟩))))))))))))
theorem Zjd {w:World}{a0:Passage}{a1:Piece}{a2:Interval}  {v:Passage}(hm:ZeS a0 a1 a2 = some v):Gives Tryz.prog 68 [.agg #[.int .i64 a0.Time.Lo,.int .i64 a0.Time.Hi,.int .i64 a0.Energy.Lo,.int .i64 a0.Energy.Hi,.bool a0.Slow,.bool a0.Stops],.agg #[.int .i64 a1.Element,.int .i64 a1.Length,.int .i64 a1.Grade,.int .i64 a1.Curve,.int .i64 a1.Power],.agg #[.int .i64 a2.Lo,.int .i64 a2.Hi]] w (.agg #[.int .i64 v.Time.Lo,.int .i64 v.Time.Hi,.int .i64 v.Energy.Lo,.int .i64 v.Energy.Hi,.bool v.Slow,.bool v.Stops]):=by
 refine Za4 (vs:=[.agg #[.int .i64 a0.Time.Lo,.int .i64 a0.Time.Hi,.int .i64 a0.Energy.Lo,.int .i64 a0.Energy.Hi,.bool a0.Slow,.bool a0.Stops],.agg #[.int .i64 a1.Element,.int .i64 a1.Length,.int .i64 a1.Grade,.int .i64 a1.Curve,.int .i64 a1.Power],.agg #[.int .i64 a2.Lo,.int .i64 a2.Hi]]) (U:=fun (v:Passage)=>.agg #[.int .i64 v.Time.Lo,.int .i64 v.Time.Hi,.int .i64 v.Energy.Lo,.int .i64 v.Energy.Hi,.bool v.Slow,.bool v.Stops]) Tryz.func68 e Tryz.ntmps68 e e hm ?_
 unfold ZeS
 clear hm
 refine jqr 0 (ZbD e (l6 e) e e fun g1=>ZbD e (l5 e) e e fun g2=>ZbD e (l2 e) e e fun g3=>ZaR (l6 e) e e fun g4=>gz4 3 4 5 6 e (Zad (Zak (jdr (L':=[_,_,_,_]) 1 [0,1,2,3] [0,1,2,3,4,5,6,7,8,9,10,11,12,13,14,15,16,17,18,19] 1048575 1048575 [0,1,2,0,0,16,40,64,132,0,512,1024,0,0,8192,20608,32768,67584,66047,524287] [0,1,3,0,0,16,56,120,255,0,512,1536,0,0,8192,28920,61688,130808,127487,524287] [(0,true),(1,true),(2,true),(3,true),(4,true),(5,true),(6,true),(7,true),(8,true),(9,true),(10,true),(11,true),(12,true),(13,true),(14,true),(15,true),(16,true),(17,true),(18,true),(19,true)] e (Zas Zbb) (jdy e (Zab e) e e (jdy e (Zab e) e e (jdl 3 e e e e e e (jd_y e (fun w hs=>ZaJ e (ldBB (hs.blk (i:=2) e) e)) e e (jdy e (Zab e) e e (jdl 1 e e e e e e (Zcc e e (fun v w hs hm=>Ze8 (a0:=a1) hm ) e e fun v5=>Zcc e e (fun v w hs hm=>ZgM hm ) e e fun v6=>?_)))))))))))
 refine jdy e (Zal e e) e e (jdy e (Zab e) e e (jdy e (Zab e) e e (jdl 3 e e e e e e (jd_y e (fun w hs=>ZaJ e (ldBB (hs.blk (i:=2) e) e)) e e (jdy e (Zab e) e e (jdl 1 e e e e e e (Zcc e e (fun v w hs hm=>Ze8 (a0:=a1) hm ) e e fun v7=>Zcc e e (fun v w hs hm=>Zhg hm ) e e fun v8=>jdy e (Zal e e) e e (Zbz e e e e (Zbz e e e e (ZaU [(3,_),(4,_),(6,_),(7,_),(8,_)] ⟨e,e,e,e,e,trivial⟩ (Zad (Zak (jqr 2 (Zac e e e ?_))))))))))))))
 refine jy (ZaD e e) e e (gz6 3 4 6 7 8 31 e (Zad (Zai e ?_ ?_)))
 ·refine jqr 3 (jy (ZaX e (o6 e)) e e (Zav 0 e e e (l6 e) e e e e (l6 e) (r4 e) (gz1 6 e (ZaF (is:=[0]) (s1 e) e (Zad (Zam (Zaw (Zaj e (fun w hs=>.cell e (ldBB (hs.blkL (i:=0) e) e)) (fun w hs=>⟨e,hs.drop⟩)))))))))
 refine jks (jqr 4 (jy (Zab e) e e (jy (Zab e) e e (jgl 3 e e e e e (Zbc e (fun v w hs hm=>Zfl hm ) e e fun v9=>Zac e e e (Zbc e (fun v w hs hm=>Zfl hm ) e e fun v10=>jy (Zal e e) e e (Zaf e e e (gz6 3 4 6 7 8 9 e (Zad (Zak (jqr 5 (Zac e e e (jy (ZaL e e) e e (gz7 3 4 6 7 8 9 41 e ?_))))))))))))))
 refine Zad (Zai e ?_ ?_)
 ·refine jqr 6 (jy (ZaX e (o6 e)) e e (Zav 0 e e e (l6 e) e e e e (l6 e) (r4 e) (gz1 6 e (ZaF (is:=[0]) (s1 e) e (Zad (Zam (Zaw (Zaj e (fun w hs=>.cell e (ldBB (hs.blkL (i:=0) e) e)) (fun w hs=>⟨e,hs.drop⟩)))))))))
 refine jks (Za2 (fun (s:Bool) (g:Nat)=>[(3,.pointer (some ⟨g1,0,none⟩)),(4,.pointer (some ⟨g2,0,none⟩)),(6,.pointer (some ⟨g4,0,none⟩)),(7,.int .i64 (w64 (a0.Energy.Lo + v6))),(8,.int .i64 (w64 (a0.Energy.Hi + v8))),(9,.int .i64 (w64 (v9 + v10))),(10,.pointer (some ⟨g,0,none⟩))]) (fun s g=>[]) (fun s g=>[(Res.blk g1 116 [.int .i64 a0.Time.Lo,.int .i64 a0.Time.Hi,.int .i64 a0.Energy.Lo,.int .i64 a0.Energy.Hi,.bool a0.Slow,.bool a0.Stops]),(Res.blk g2 69 [.int .i64 a1.Element,.int .i64 a1.Length,.int .i64 a1.Grade,.int .i64 a1.Curve,.int .i64 a1.Power]),(Res.blk g4 116 [.int .i64 0,.int .i64 0,.int .i64 0,.int .i64 0,.bool false,.bool false]),(Res.blk g 116 [.int .i64 0,.int .i64 0,.int .i64 0,.int .i64 0,.bool s,.bool false])]) ?_ ?_)
 rotate_left
 ·intro k13 H14
  refine Zar 7 (jy (Zab e) e e (jgl 3 e e e e e (Zac e e e (Zaq 45 e ?_ ?_))))
  ·refine Zaa e e (Zaa e e (jy (Zah e e) e e (jy (ZaX e (o6 e)) e e (ZaR (l6 e) e e fun g27=>Zav 0 e e e (l6 e) e e e e (l6 e) (r5 e) (gz7 3 4 6 7 8 9 10 e (Zap H14 true g27 [4,3,1,0] (u7 e) e e e))))))
  refine Zac e e e (jy (ZaD e e) e e (jy (Zae e e) e e (jy (ZaX e (o6 e)) e e (ZaR (l6 e) e e fun g28=>Zav 0 e e e (l6 e) e e e e (l6 e) (r5 e) (gz7 3 4 6 7 8 9 10 e (Zap H14 (decide ((w64 (a0.Energy.Lo + v6)) < 0)) g28 [4,3,1,0] (u7 e) e e e))))))
 intro z11 q12
 refine jqr 8 (Zac e e e (Zc6 (fun w hs=>ZeI e e) e e fun x15=>Zaf e e e (gz7 3 4 6 7 8 9 10 e (jsr 9 (jy (Zab e) e e (jy (Zab e) e e (jgl 0 e e e e e (Zbc e (fun v w hs hm=>Zct hm ) e e fun v16=>Zac e e e (Zbc e (fun v w hs hm=>Zct hm ) e e fun v17=>jy (Zal e e) e e (Zaf e e e (gz8 3 4 6 7 8 9 10 11 e (Zad (Za2 (fun (s:Bool) (g:Unit)=>[(3,.pointer (some ⟨g1,0,none⟩)),(4,.pointer (some ⟨g2,0,none⟩)),(6,.pointer (some ⟨g4,0,none⟩)),(7,.int .i64 x15),(8,.int .i64 (w64 (a0.Energy.Hi + v8))),(9,.int .i64 (w64 (v9 + v10))),(10,.pointer (some ⟨q12,0,none⟩)),(11,.int .i64 (w64 (v16 + v17)))]) (fun s g=>[]) (fun s g=>[(Res.blk g1 116 [.int .i64 a0.Time.Lo,.int .i64 a0.Time.Hi,.int .i64 a0.Energy.Lo,.int .i64 a0.Energy.Hi,.bool a0.Slow,.bool a0.Stops]),(Res.blk g2 69 [.int .i64 a1.Element,.int .i64 a1.Length,.int .i64 a1.Grade,.int .i64 a1.Curve,.int .i64 a1.Power]),(Res.blk g4 116 [.int .i64 0,.int .i64 0,.int .i64 0,.int .i64 0,.bool false,.bool false]),(Res.blk q12 116 [.int .i64 0,.int .i64 0,.int .i64 0,.int .i64 0,.bool s,.bool false])]) ?_ ?_)))))))))))))
 rotate_left
 ·intro k20 H21
  refine Zar 10 (jy (Zab e) e e (jgl 3 e e e e e (Zac e e e (Zaq 61 e ?_ ?_))))
  ·refine Zaa e e (Zaa e e (jy (Zah e e) e e (jy (Zab e) e e (Zav 3 e e e (l1 e) e e e e (l6 e) (r4 e) (gz8 3 4 6 7 8 9 10 11 e (Zap H21 true () [0,1,2,3] (u8 e) e e e))))))
  refine Zac e e e (jy (ZaL e e) e e (jy (Zae e e) e e (jy (Zab e) e e (Zav 3 e e e (l1 e) e e e e (l6 e) (r4 e) (gz8 3 4 6 7 8 9 10 11 e (Zap H21 (decide ((w64 (v16 + v17)) = 0)) () [0,1,2,3] (u8 e) e e e))))))
 intro z18 q19
 refine jqr 11 (Zac e e e (Zac e e e (jy (ZaX e (o2 e)) e e (jy (Zab e) e e (Zav 3 e e e (l2 e) e e e e (l6 e) (r4 e) (gz6 3 4 6 9 10 11 e (Zad (Zak (jdr (L':=[_,_,_,_]) 12 [0,1,2,3] [0,1,2,3,4,5,6,7,8,9,10,11] 4095 8191 [0,1,2,0,8,16,0,96,132,256,512,2047,4095] [0,1,3,0,8,24,0,120,255,511,1023,2047,4095] [(0,true),(1,true),(2,true),(3,true),(4,true),(5,true),(6,true),(7,true),(8,true),(9,true),(10,true),(11,true),(12,false)] e (Zas Zbb) (jdy e (Zab e) e e (jdy e (Zab e) e e (jdl 0 e e e e e e (jdy e (Zab e) e e (jdl 1 e e e e e e (jdy e (ZbI e e) e e (Zau e e e e ?_))))))))))))))))
 refine ZdV fun h22=>ZdP e (fun w hs=>Zch e e (of_decide_eq_true h22)) e e fun x23=>jdy e (Zal e e) e e (ZdP e (fun w hs=>ZdW e e) e e fun x24=>jdy e (ZaX e (o2 e)) e e (jdy e (Zab e) e e (jd_h e (Zav 3 e e e (l2 e) e e e e (l6 e) (r4 e) (ZaA (ZbG e (Zbf [(3,_),(4,_),(6,_),(10,_),(11,_)] ⟨e,e,e,e,e,trivial⟩ (Zad (Zak (jqr 13 (jy (Zab e) e e (jgl 3 e e e e e (jy (Zbl e) e e ?_)))))))))))))
 refine gz6 3 4 6 10 11 84 e (Zad (Zai e ?_ ?_))
 rotate_left
 ·refine jks (jqr 15 (jg_y (fun w hs=>ZaJ e (ldBB (hs.blkL (i:=3) e) e)) e e (Zav 2 e e e (l6 e) e e e e (l6 e) (r4 e) (gz1 6 e (ZaF (is:=[2]) (s1 e) e (Zad (Zam (Zaj e (fun w hs=>.cell e (ldBB (hs.blkL (i:=0) e) e)) (fun w hs=>⟨e,hs.drop⟩)))))))))
 refine jdr (L':=[_,_,_,_]) 14 [0,1,2,3] [0,1,2,3,4,5,6,7,8,9,10,11] 4095 8191 [0,1,2,0,8,16,0,96,132,256,1023,2047,3071] [0,1,3,0,8,24,0,120,255,511,1023,2047,4095] [(0,true),(1,true),(2,true),(3,true),(4,true),(5,true),(6,true),(7,true),(8,true),(9,true),(10,true),(11,true),(12,false)] e (Zas Zbb) (jdy e (Zab e) e e (jdy e (Zab e) e e (jdl 0 e e e e e e (jdy e (Zab e) e e (jdl 1 e e e e e e (jdy e (ZbI e e) e e (Zau e e e e (Zcc e e (fun v w hs hm=>Zhg hm ) e e fun v25=>jdy e (Zal e e) e e (ZdP e (fun w hs=>ZdW e e) e e fun x26=>jdy e (Zab e) e e (jdy e (Zab e) e e (jd_h e (Zav 3 e e e (l1 e) e e e e (l6 e) (r4 e) (ZaA (ZbG e ?_))))))))))))))
 refine Zbf [(6,_),(10,_)] ⟨e,e,trivial⟩ (ZaF (is:=[2,3]) (s2 e) e (jsr 15 (jg_y (fun w hs=>ZaJ e (ldBB (hs.blkL (i:=1) e) e)) e e (Zav 0 e e e (l6 e) e e e e (l6 e) (r2 e) (gz1 6 e (Zad (Zam (Zaj e (fun w hs=>.cell e (ldBB (hs.blkL (i:=0) e) e)) (fun w hs=>⟨e,hs.drop⟩)))))))))
theorem Zih {w:World}{a0:Interval}{a1:Int}{a2:Int}{a3:Int}  {v:Interval}(hm:Zd2 a0 a1 a2 a3 = some v):Gives Tryz.prog 69 [.agg #[.int .i64 a0.Lo,.int .i64 a0.Hi],.int .i64 a1,.int .i64 a2,.int .i64 a3] w (.agg #[.int .i64 v.Lo,.int .i64 v.Hi]):=by
 refine Za4 (vs:=[.agg #[.int .i64 a0.Lo,.int .i64 a0.Hi],.int .i64 a1,.int .i64 a2,.int .i64 a3]) (U:=fun (v:Interval)=>.agg #[.int .i64 v.Lo,.int .i64 v.Hi]) Tryz.func69 e Tryz.ntmps69 e e hm ?_
 unfold Zd2
 clear hm
 refine jqr 0 (ZbD e (l2 e) e e fun g1=>ZaR (l2 e) e e fun g2=>gz5 1 2 3 4 8 e (jsr 1 (Zac e e e (Zac e e e (jy (ZaZ e e) e e (jy (ZeI e e) e e (Zac e e e (Zac e e e (jy (Zal e e) e e (Zaf e e e (Zaf e e e (gz5 1 4 8 9 10 e (jsr 2 (jy (Zab e) e e ?_))))))))))))))
 refine jgl 1 e e e e e (Zac e e e (Zac e e e (Zc6 (fun w hs=>ZbI e e) e e fun x3=>jy (ZdW e e) e e (jy (Zab e) e e (jgl 1 e e e e e (Zac e e e (Zac e e e (Zc6 (fun w hs=>ZbI e e) e e fun x4=>jy (ZdW e e) e e (jy (Zab e) e e (jgl 1 e e e e e (Zac e e e (jy (ZaZ e e) e e (Zc6 (fun w hs=>ZeI e e) e e fun x5=>jy (ZaX e (o2 e)) e e ?_)))))))))))))
 refine Zav 0 e e e (l2 e) e e e e (l2 e) (r2 e) (gz1 8 e (Zad (Zam (Zaj e (fun w hs=>.cell e (ldBB (hs.blkL (i:=0) e) e)) (fun w hs=>⟨e,hs.drop⟩)))))
theorem Zjf {w:World}{a0:(List Piece)}{a1:Motion}{ha0:Hd}{ha1A:Hd}{ha1B:Hd}{v:((List Passage)×Int)}(hm:ZeU a0 a1 = some v) (Rha0:Sl w ha0 Piece.enc a0) (Rha1_Class:Sl w ha1A Interval.enc a1.Class) (Rha1_Targets:Sl w ha1B encI a1.Targets):Calls Tryz.prog 37 ([ha0.v,.agg #[.int .i64 a1.Speed.Lo,.int .i64 a1.Speed.Hi,ha1A.v,.int .i64 a1.Error,ha1B.v]]:List Value).toArray w (fun e w'=>∃ g:Hd,e = .returned (.tuple #[g.v,.int .i64 v.2])∧St w w' [] [(rowH g 116 6 Passage.enc v.1)]):=by
 refine ZbN (vs:=[ha0.v,.agg #[.int .i64 a1.Speed.Lo,.int .i64 a1.Speed.Hi,ha1A.v,.int .i64 a1.Error,ha1B.v]]) (R:=fun (v:((List Passage)×Int)) (e:Ending) (w':World)=>∃ g:Hd,e = .returned (.tuple #[g.v,.int .i64 v.2])∧St w w' [] [(rowH g 116 6 Passage.enc v.1)]) Tryz.func37 e Tryz.ntmps37 e e (St.refl w) hm ?_
 unfold ZeU
 clear hm
 refine jqr 0 (ZbD e (l5 e) e e fun g1=>Zaf e e e (Zaf e e e (gz2 0 3 e (Zad (Zak (jqr 1 (Zac e e e (Zbc e (fun v w hs hm=>ZdM hm (hs.arg Rha0)) e e fun v2=>Zaf e e e (gz3 0 3 6 e (jsr 2 (Zac e e e (jy (Zbt e e) e e (gz4 0 3 6 15 e (Zad ?_))))))))))))))
 refine Zai e ?_ ?_
 ·refine jqr 3 (Zac e e e (Zaf e e e (Zaf e e e (gz2 4 5 e (Zad (Zam (Zaw (Za3 116 6 Passage.enc (Za7 e (fun w hs=>.tmp e) (fun w hs=>.tmp e) (fun w hs=>⟨(Hd.mk none 0 0),e,hs.sel (is:=[0]) e e⟩))))))))))
 refine jks (Zak (jqr 4 (Zac e e e (jg_y (fun w hs=>ZaJ e (ldBB (hs.blkL (i:=0) e) e)) e e (Zbc e (fun v w hs hm=>ZhP (a1:=a1) hm (hs.arg Rha0) (hs.arg Rha1_Class) (hs.arg Rha1_Targets)) e e fun v3=>Zaf e e e (gz3 0 3 7 e (jsr 5 (Zac e e e (jy (Zbt e e) e e (gz4 0 3 7 21 e (Zad (Zai e ?_ ?_))))))))))))
 ·refine jqr 6 (Zac e e e (Zaf e e e (Zaf e e e (gz2 4 5 e (Zad (Zam (Zaw (Za3 116 6 Passage.enc (Za7 e (fun w hs=>.tmp e) (fun w hs=>.tmp e) (fun w hs=>⟨(Hd.mk none 0 0),e,hs.sel (is:=[0]) e e⟩))))))))))
 refine jks (jqr 7 (jy (Zab e) e e (jy (Zab e) e e (jgl 0 e e e e e (jy (Zab e) e e (jy (Zab e) e e (jgl 0 e e e e e (Zc6 (fun w hs=>ZbI e e) e e fun x4=>jy (Zab e) e e (jy (Zab e) e e (jgl 0 e e e e e (jy (Zab e) e e (jy (Zab e) e e (jgl 0 e e e e e (Zc6 (fun w hs=>ZbI e e) e e fun x5=>jy (ZaX e (o2 e)) e e ?_))))))))))))))
 refine jy (ZaX e (o6 e)) e e (ZaR (l6 e) e e fun g6=>Zav 0 e e e (l6 e) e e e e (l6 e) (r2 e) (gz3 0 3 8 e (jsr 8 (jg_y (fun w hs=>ZaJ e (ldBB (hs.blkL (i:=0) e) e)) e e (ZaT (enc:=Passage.enc) [(Passage.mk (Interval.mk 0 0) (Interval.mk x4 x5) false false)] e e e e e e e e fun hd7=>Zaf e e e (gz4 0 3 8 9 e (jsr 9 (Zaf e e e (gz5 0 3 8 9 10 e (Zad (Zak (jqr 10 (Zaf e e e (gz6 0 3 8 9 10 11 e ?_))))))))))))))
 refine Zad (Zao (Zbj (n:=big) (fun (s:(Int×Int×Int×Int×Bool×Bool×(List Passage)×Int×Int)) (g:Hd)=>[(0,ha0.v),(3,.pointer (some ⟨g1,0,none⟩)),(8,.pointer (some ⟨g6,0,none⟩)),(9,g.v),(10,.int .i64 s.2.2.2.2.2.2.2.1),(11,.int .i64 s.2.2.2.2.2.2.2.2)]) (fun s g=>[]) (fun s g=>[(Res.blk g1 38 [.int .i64 a1.Speed.Lo,.int .i64 a1.Speed.Hi,ha1A.v,.int .i64 a1.Error,ha1B.v]),(Res.blk g6 116 [.int .i64 s.1,.int .i64 s.2.1,.int .i64 s.2.2.1,.int .i64 s.2.2.2.1,.bool s.2.2.2.2.1,.bool s.2.2.2.2.2.1]),(rowH g 116 6 Passage.enc s.2.2.2.2.2.2.1)]) (0,0,x4,x5,false,false,([(Passage.mk (Interval.mk 0 0) (Interval.mk x4 x5) false false)]:List Passage),0,0) hd7 [2,1,0] (u6 e) e e e ?_))
 intro z8 q9 n12 k10 H11
 refine Zak (jqr 11 (Zac e e e (Zac e e e (jg_y (fun w hs=>ZaV e (hs.arg Rha0)) e e (jy (ZaD e e) e e (gz7 0 3 8 9 10 11 44 e (Zad (Zai e ?_ ?_))))))))
 rotate_left
 ·refine ZaE (Za9 (Zbe (Zba (Zad ?_))))
  refine jqr 20 (Zac e e e (Zaf e e e (Zaf e e e (gz2 4 5 e (ZaF (is:=[2]) (s1 e) e (Zad (Zam (Za7 e (fun w hs=>.tmp e) (fun w hs=>.tmp e) (fun w hs=>⟨q9,e,hs.sel (is:=[0]) e e⟩)))))))))
 refine jks (Zak (Zao (Za2 (fun (s:(Int×Int×Int×Int×Bool×Bool)) (g:Unit)=>[(0,ha0.v),(3,.pointer (some ⟨g1,0,none⟩)),(8,.pointer (some ⟨g6,0,none⟩)),(9,q9.v),(10,.int .i64 z8.2.2.2.2.2.2.2.1),(11,.int .i64 z8.2.2.2.2.2.2.2.2)]) (fun s g=>[]) (fun s g=>[(Res.blk g1 38 [.int .i64 a1.Speed.Lo,.int .i64 a1.Speed.Hi,ha1A.v,.int .i64 a1.Error,ha1B.v]),(Res.blk g6 116 [.int .i64 s.1,.int .i64 s.2.1,.int .i64 s.2.2.1,.int .i64 s.2.2.2.1,.bool s.2.2.2.2.1,.bool s.2.2.2.2.2]),(rowH q9 116 6 Passage.enc z8.2.2.2.2.2.2.1)]) ?_ ?_)))
 rotate_left
 ·intro k15 H16
  refine jqr 13 (jy (Zab e) e e (jgl 1 e e e e e (jy (Zbl e) e e (gz7 0 3 8 9 10 11 49 e (Zad (Zai e ?_ ?_))))))
  rotate_left
  ·refine ZaK (Zap H16 (z8.1,z8.2.1,z8.2.2.1,z8.2.2.2.1,z8.2.2.2.2.1,z8.2.2.2.2.2.1) () [0,1,2] (u6 e) e e e)
  refine jdr (L':=[_,_,_]) 14 [0,1,2] [0,1,2,3,4,5,6,7,8,9,10] 2047 4095 [0,0,0,6,8,0,32,0,192,256,529,2047] [0,0,0,6,14,0,32,0,224,480,1023,2047] [(0,true),(1,true),(2,true),(3,true),(4,true),(5,true),(6,true),(7,true),(8,true),(9,true),(10,true),(11,false)] e (Zas (Zay (Zas (Za0 (Zay (Zas Zbb)))))) (jd_y e (fun w hs=>ZaJ e (ldBB (hs.blk (i:=1) e) e)) e e (Zau e e e e (Zau e e e e (Zbk fun x39 h40=>jd_y e (fun w hs=>ZaC e e (hs.arg Rha0) h40) e e (jd_y e (fun w hs=>ZbJ e (hs.arg Rha0) h40.1 (l5 e) e) e e (jdy e (Zab e) e e (jdl 0 e e e e e e (Zau e e e e (Zbk fun x41 h42=>jd_y e (fun w hs=>ZaC e e (hs.arg Rha1_Class) h42) e e (jd_y e (fun w hs=>ZbJ e (hs.arg Rha1_Class) h42.1 (l2 e) e) e e (Zcc e e (fun v w hs hm=>Zjd (a0:=(Passage.mk (Interval.mk z8.1 z8.2.1) (Interval.mk z8.2.2.1 z8.2.2.2.1) z8.2.2.2.2.1 z8.2.2.2.2.2.1)) (a1:=x39) (a2:=x41) hm ) e e fun v43=>jd_h e (Zav 1 e e e (l6 e) e e e e (l6 e) (r3 e) (ZaA ?_)))))))))))))
  refine ZbG e (Zbf [(0,_),(3,_),(8,_),(9,_),(10,_),(11,_)] ⟨e,e,e,e,e,e,trivial⟩ (Zap H16 (v43.Time.Lo,v43.Time.Hi,v43.Energy.Lo,v43.Energy.Hi,v43.Slow,v43.Stops) () [0,1,2] (u6 e) e e e))
 intro z13 q14
 refine Zak (jqr 15 (Zac e e e (Zac e e e (Za6 fun x17 h18=>jg_y (fun w hs=>ZaC e e (hs.arg Rha0) h18) e e (jg_y (fun w hs=>ZaS e (hs.arg Rha0) h18.1) e e (jg_y (fun w hs=>ZaQ e (hs.arg Rha0) h18.1 e) e e (jy (Zbh e e) e e (gz7 0 3 8 9 10 11 66 e (Zad (Zai e ?_ ?_))))))))))
 rotate_left
 ·refine jks (Zar 19 (Zac e e e (jg_y (fun w hs=>ZaJ e (ldBB (hs.blkL (i:=1) e) e)) e e (ZaT (enc:=Passage.enc) [(Passage.mk (Interval.mk z13.1 z13.2.1) (Interval.mk z13.2.2.1 z13.2.2.2.1) z13.2.2.2.2.1 z13.2.2.2.2.2)] e e e e e e e e fun hd36=>ZaO 3 e e e (fun w hs=>(hs.row 0 e)) e e e fun y37 hd38=>jg_L (r4 e) (Zaf e e e (gz6 0 3 8 9 10 11 e (ZaG (Zad ?_))))))))
  refine Zar 12 (Zac e e e (jy (Zal e e) e e (Zaf e e e (gz6 0 3 8 9 10 11 e (Zap H11 (z13.1,z13.2.1,z13.2.2.1,z13.2.2.2.1,z13.2.2.2.2.1,z13.2.2.2.2.2,y37,z8.2.2.2.2.2.2.2.1,w64 (z8.2.2.2.2.2.2.2.2 + 1)) hd38 [1,2,3] (u6 e) e e e)))))
 refine Zak (Za2 (fun (s:Bool) (g:Unit)=>[(0,ha0.v),(3,.pointer (some ⟨g1,0,none⟩)),(8,.pointer (some ⟨g6,0,none⟩)),(9,q9.v),(10,.int .i64 z8.2.2.2.2.2.2.2.1),(11,.int .i64 z8.2.2.2.2.2.2.2.2),(77,.bool s)]) (fun s g=>[]) (fun s g=>[(Res.blk g1 38 [.int .i64 a1.Speed.Lo,.int .i64 a1.Speed.Hi,ha1A.v,.int .i64 a1.Error,ha1B.v]),(Res.blk g6 116 [.int .i64 z13.1,.int .i64 z13.2.1,.int .i64 z13.2.2.1,.int .i64 z13.2.2.2.1,.bool z13.2.2.2.2.1,.bool z13.2.2.2.2.2]),(rowH q9 116 6 Passage.enc z8.2.2.2.2.2.2.1)]) ?_ ?_)
 rotate_left
 ·intro k21 H22
  refine Zar 16 (jy (Zab e) e e (jgl 1 e e e e e (jy (Zbl e) e e (Zac e e e (Zaq 70 e ?_ ?_)))))
  rotate_left
  ·refine Zaa e e (Zaa e e (Zaa e e (Zaa e e (Zaa e e (Zaa e e (jy (Zae e e) e e (gz7 0 3 8 9 10 11 77 e (Zap H22 false () [0,1,2] (u7 e) e e e))))))))
  refine jy (Zab e) e e (jgl 0 e e e e e (Zac e e e (Za6 fun x34 h35=>jg_y (fun w hs=>ZaC e e (hs.arg Rha1_Targets) h35) e e (jg_y (fun w hs=>ZaQ e (hs.arg Rha1_Targets) h35.1 e) e e (jy (Zbv e e) e e (jy (Zah e e) e e (gz7 0 3 8 9 10 11 77 e (Zap H22 (decide (0 ≤ x34)) () [0,1,2] (u7 e) e e e))))))))
 intro z19 q20
 refine Zai e ?_ ?_
 rotate_left
 ·refine jks (Zar 18 (Zac e e e (jy (Zal e e) e e (Zaf e e e (gz6 0 3 8 9 10 11 e (Zad (Zar 19 (Zac e e e (jg_y (fun w hs=>ZaJ e (ldBB (hs.blkL (i:=1) e) e)) e e (ZaT (enc:=Passage.enc) [(Passage.mk (Interval.mk z13.1 z13.2.1) (Interval.mk z13.2.2.1 z13.2.2.2.1) z13.2.2.2.2.1 z13.2.2.2.2.2)] e e e e e e e e fun hd31=>ZaO 3 e e e (fun w hs=>(hs.row 0 e)) e e e fun y32 hd33=>jg_L (r4 e) (Zaf e e e (gz6 0 3 8 9 10 11 e (ZaG (Zad ?_))))))))))))))
  refine Zar 12 (Zac e e e (jy (Zal e e) e e (Zaf e e e (gz6 0 3 8 9 10 11 e (Zap H11 (z13.1,z13.2.1,z13.2.2.1,z13.2.2.2.1,z13.2.2.2.2.1,z13.2.2.2.2.2,y32,w64 (z8.2.2.2.2.2.2.2.1 + 1),w64 (z8.2.2.2.2.2.2.2.2 + 1)) hd33 [1,2,3] (u6 e) e e e)))))
 refine jdr (L':=[_,_,_]) 17 [0,1,2] [0,1,2,3,4,5,6,7,8,9,10,11,12,13,14,15] 65535 131071 [0,1,0,0,12,16,32,0,128,0,768,1024,0,4096,10306,32767,65535] [0,1,0,0,12,28,60,0,128,0,896,1920,0,4096,16383,32767,65535] [(0,true),(1,true),(2,true),(3,true),(4,true),(5,true),(6,true),(7,true),(8,true),(9,true),(10,true),(11,true),(12,true),(13,true),(14,true),(15,true),(16,false)] e (Zas (Zas (Zay (Zas (Za0 (Zay (Zas Zbb))))))) (jdy e (Zab e) e e (jd_y e (fun w hs=>ZaJ e (ldPB (hs.blk (i:=1) e) (l2 e) e)) e e (Zau e e e e (Zau e e e e (Zbk fun x23 h24=>jd_y e (fun w hs=>ZaC e e (hs.arg Rha0) h24) e e (jd_y e (fun w hs=>ZaS e (hs.arg Rha0) h24.1) e e (jd_y e (fun w hs=>ZaQ e (hs.arg Rha0) h24.1 e) e e (jdy e (Zab e) e e (jdl 0 e e e e e e (Zau e e e e (Zbk fun x25 h26=>jd_y e (fun w hs=>ZaC e e (hs.arg Rha1_Targets) h26) e e (jd_y e (fun w hs=>ZaQ e (hs.arg Rha1_Targets) h26.1 e) e e (jdy e (Zab e) e e (jdl 0 e e e e e e ?_))))))))))))))
 refine Zcc e e (fun v w hs hm=>Zih (a0:=(Interval.mk z13.2.2.1 z13.2.2.2.1)) hm ) e e fun v27=>jdy e (Zab e) e e (jd_h e (Zav 1 e e e (l2 e) e e e e (l6 e) (r3 e) (ZaA (ZbG e (Zbf [(0,_),(3,_),(8,_),(9,_),(10,_),(11,_)] ⟨e,e,e,e,e,e,trivial⟩ (Zad (Zar 18 (Zac e e e (jy (Zal e e) e e (Zaf e e e (gz6 0 3 8 9 10 11 e (Zad (Zar 19 (Zac e e e (jg_y (fun w hs=>ZaJ e (ldBB (hs.blkL (i:=1) e) e)) e e ?_)))))))))))))))
 refine ZaT (enc:=Passage.enc) [(Passage.mk (Interval.mk z13.1 z13.2.1) v27 z13.2.2.2.2.1 z13.2.2.2.2.2)] e e e e e e e e fun hd28=>ZaO 3 e e e (fun w hs=>(hs.row 0 e)) e e e fun y29 hd30=>jg_L (r4 e) (Zaf e e e (gz6 0 3 8 9 10 11 e (ZaG (Zad ?_))))
 refine Zar 12 (Zac e e e (jy (Zal e e) e e (Zaf e e e (gz6 0 3 8 9 10 11 e (Zap H11 (z13.1,z13.2.1,v27.Lo,v27.Hi,z13.2.2.2.2.1,z13.2.2.2.2.2,y29,w64 (z8.2.2.2.2.2.2.2.1 + 1),w64 (z8.2.2.2.2.2.2.2.2 + 1)) hd30 [1,2,3] (u6 e) e e e)))))
theorem ZeD {w:World}{a0:(List Piece)}{a1:Int}{a2:Int}{ha0:Hd}{v:Int}(hm:Zdk a0 a1 a2 = some v) (Rha0:Sl w ha0 Piece.enc a0):Gives Tryz.prog 72 [ha0.v,.int .i64 a1,.int .i64 a2] w (.int .i64 v):=by
 refine Za4 (vs:=[ha0.v,.int .i64 a1,.int .i64 a2]) (U:=fun (v:Int)=>.int .i64 v) Tryz.func72 e Tryz.ntmps72 e e hm ?_
 unfold Zdk
 clear hm
 refine jqr 0 (Zaf e e e (gz3 0 1 2 e (Zad (Zak (jqr 1 (Zac e e e (jy (ZaD e e) e e (Zac e e e (Zaq 12 e ?_ ?_)))))))))
 ·refine Zaa e e (Zaa e e (Zaa e e (Zaa e e (jy (Zah e e) e e (Zac e e e (Zaa e e (Zaa e e (jy (Zah e e) e e (Zac e e e (Zaa e e (Zaa e e (jy (Zah e e) e e (gz4 0 1 2 25 e (Zad (Zbo e (jqr 2 ?_))))))))))))))))
  refine Zaf e e e (gz1 6 e (Zad (Zam (Zaw (Zaj e (fun w hs=>.tmp e) (fun w hs=>⟨e,hs.drop⟩))))))
 refine Zac e e e (Zac e e e (jg_y (fun w hs=>ZaV e (hs.arg Rha0)) e e (jy (Zbv e e) e e (jy (Zae e e) e e (Zac e e e (Zaq 18 e ?_ ?_))))))
 ·refine Zaa e e (Zaa e e (jy (Zah e e) e e (Zac e e e (Zaa e e (Zaa e e (jy (Zah e e) e e (gz4 0 1 2 25 e (Zad (Zbo e (jqr 2 (Zaf e e e (gz1 6 e (Zad (Zam (Zaw (Zaj e (fun w hs=>.tmp e) (fun w hs=>⟨e,hs.drop⟩)))))))))))))))))
 refine Zac e e e (jy (ZaD e e) e e (jy (Zae e e) e e (Zac e e e (Zaq 22 e ?_ ?_))))
 ·refine Zaa e e (Zaa e e (jy (Zah e e) e e (gz4 0 1 2 25 e (Zad (Zbo e (jqr 2 (Zaf e e e (gz1 6 e (Zad (Zam (Zaw (Zaj e (fun w hs=>.tmp e) (fun w hs=>⟨e,hs.drop⟩)))))))))))))
 refine Zac e e e (jy (Zbh e e) e e (jy (Zae e e) e e (gz4 0 1 2 25 e (Zad (Zai e ?_ ?_)))))
 ·refine jqr 2 (Zaf e e e (gz1 6 e (Zad (Zam (Zaw (Zaj e (fun w hs=>.tmp e) (fun w hs=>⟨e,hs.drop⟩)))))))
 refine jks (Za2 (fun (s:Unit) (g:Unit)=>[(0,ha0.v),(1,.int .i64 a1),(2,.int .i64 a2)]) (fun s g=>[]) (fun s g=>[]) ?_ ?_)
 rotate_left
 ·intro k3 H4
  refine jqr 3 (Zaf e e e (gz4 0 1 2 7 e (Zad (Zao (Zbj (n:=big) (fun (s:Int) (g:Unit)=>[(0,ha0.v),(1,.int .i64 a1),(2,.int .i64 a2),(7,.int .i64 s)]) (fun s g=>[]) (fun s g=>[]) 0 () [] (u4 e) e e e ?_)))))
  intro z12 q13 n16 k14 H15
  refine Zak (jqr 4 (Zac e e e (Zac e e e (jg_y (fun w hs=>ZaV e (hs.arg Rha0)) e e (jy (ZaD e e) e e (gz5 0 1 2 7 29 e (Zad (Zai e ?_ ?_))))))))
  rotate_left
  ·refine ZaE (Za9 (Zbe (Zba ?_)))
   exact Zap H4 () () [] (u3 e) e e e
  refine jks (Zak (Zao (jqr 6 (Zac e e e (Zac e e e (Za6 fun x17 h18=>jg_y (fun w hs=>ZaC e e (hs.arg Rha0) h18) e e (jg_y (fun w hs=>ZaS e (hs.arg Rha0) h18.1) e e (jg_y (fun w hs=>ZaQ e (hs.arg Rha0) h18.1 e) e e (jy (ZaD e e) e e (Zac e e e (Zaq 38 e ?_ ?_)))))))))))
  ·refine Zaa e e (Zaa e e (Zaa e e (Zaa e e (Zaa e e (Zaa e e (jy (Zah e e) e e (gz5 0 1 2 7 45 e (Zad (Zbo e (jqr 7 (Zaf e e e (gz1 6 e (Zad (Zam (ZaI (Zaw (Zbd (ZaI (Zaw ?_)))))))))))))))))))
   exact Zaj e (fun w hs=>.tmp e) (fun w hs=>⟨e,hs.drop⟩)
  refine Zac e e e (Zac e e e (Za6 fun x19 h20=>jg_y (fun w hs=>ZaC e e (hs.arg Rha0) h20) e e (jg_y (fun w hs=>ZaS e (hs.arg Rha0) h20.1) e e (jg_y (fun w hs=>ZaQ e (hs.arg Rha0) h20.1 e) e e (jy (Zbh e e) e e (jy (Zae e e) e e (gz5 0 1 2 7 45 e (Zad (Zai e ?_ ?_)))))))))
  ·refine jqr 7 (Zaf e e e (gz1 6 e (Zad (Zam (ZaI (Zaw (Zbd (ZaI (Zaw ?_)))))))))
   exact Zaj e (fun w hs=>.tmp e) (fun w hs=>⟨e,hs.drop⟩)
  refine ZaK (ZaG (Zad ?_))
  refine Zar 5 (Zac e e e (jy (Zal e e) e e (Zaf e e e (gz4 0 1 2 7 e (Zap H15 (w64 (z12 + 1)) () [] (u4 e) e e e)))))
 intro z1 q2
 refine jqr 8 (Zaf e e e (gz4 0 1 2 8 e (Zad (Zak (jqr 9 (Zac e e e (Zaf e e e (gz5 0 1 2 8 9 e (Zad (Zao (Zbj (n:=big) (fun (s:(Int×Int)) (g:Unit)=>[(0,ha0.v),(1,.int .i64 a1),(2,.int .i64 a2),(8,.int .i64 s.1),(9,.int .i64 s.2)]) (fun s g=>[]) (fun s g=>[]) (0,a1) () [] (u5 e) e e e ?_)))))))))))
 intro z5 q6 n9 k7 H8
 refine Zak (jqr 10 (Zac e e e (Zac e e e (jg_y (fun w hs=>ZaV e (hs.arg Rha0)) e e (jy (ZaD e e) e e (gz6 0 1 2 8 9 50 e (Zad (Zai e ?_ ?_))))))))
 rotate_left
 ·refine ZaE (Za9 (Zbe (Zba (Zad ?_))))
  refine jqr 16 (Zaf e e e (gz1 6 e (Zad (Zam (Zaj e (fun w hs=>.tmp e) (fun w hs=>⟨e,hs.drop⟩))))))
 refine jks (Zak (Zao (Zak (jqr 12 (Zac e e e (Zac e e e (jy (Zbh e e) e e (gz6 0 1 2 8 9 55 e (Zad (Zai e ?_ ?_))))))))))
 rotate_left
 ·refine jks (jqr 14 (Zac e e e (Zac e e e (jy (Zbv e e) e e (gz6 0 1 2 8 9 65 e (Zad (Zai e ?_ ?_)))))))
  rotate_left
  ·refine ZaK (ZaG (Zad ?_))
   refine Zar 11 (Zac e e e (jy (Zal e e) e e (Zaf e e e (gz5 0 1 2 8 9 e (Zap H8 (z5.1,w64 (z5.2 + 1)) () [] (u5 e) e e e)))))
  refine jqr 15 (Zac e e e (Zaf e e e (gz1 6 e (Zad (Zam (ZaI (Zaw (Zbd (ZaI (Zaw ?_))))))))))
  exact Zaj e (fun w hs=>.tmp e) (fun w hs=>⟨e,hs.drop⟩)
 refine Zar 13 (Zac e e e (Zac e e e (Zac e e e (Za6 fun x10 h11=>jg_y (fun w hs=>ZaC e e (hs.arg Rha0) h11) e e (jg_y (fun w hs=>ZaS e (hs.arg Rha0) h11.1) e e (jg_y (fun w hs=>ZaQ e (hs.arg Rha0) h11.1 e) e e (jy (Zal e e) e e (Zaf e e e (gz5 0 1 2 8 9 e (jsr 14 (Zac e e e (Zac e e e (jy (Zbv e e) e e (gz6 0 1 2 8 9 65 e (Zad ?_)))))))))))))))
 refine Zai e ?_ ?_
 rotate_left
 ·refine ZaK (ZaG (Zad ?_))
  refine Zar 11 (Zac e e e (jy (Zal e e) e e (Zaf e e e (gz5 0 1 2 8 9 e (Zap H8 (w64 (z5.1 + x10.Length),w64 (z5.2 + 1)) () [] (u5 e) e e e)))))
 refine jqr 15 (Zac e e e (Zaf e e e (gz1 6 e (Zad (Zam (ZaI (Zaw (Zbd (ZaI (Zaw ?_))))))))))
 exact Zaj e (fun w hs=>.tmp e) (fun w hs=>⟨e,hs.drop⟩)
theorem ZeC {w:World}{a0:(List Element)}{a1:(List Piece)}{a2:Bool}{a3:Int}{ha0:Hd}{ha1:Hd}{v:Int}(hm:Zdj a0 a1 a2 a3 = some v) (Rha0:Sl w ha0 Element.enc a0) (Rha1:Sl w ha1 Piece.enc a1):Gives Tryz.prog 70 [ha0.v,ha1.v,.bool a2,.int .i64 a3] w (.int .i64 v):=by
 refine Za4 (vs:=[ha0.v,ha1.v,.bool a2,.int .i64 a3]) (U:=fun (v:Int)=>.int .i64 v) Tryz.func70 e Tryz.ntmps70 e e hm ?_
 unfold Zdj
 clear hm
 refine jqr 0 (Zaf e e e (gz4 0 1 2 3 e (Zad (Zak (jqr 1 (Zac e e e (Zbc e (fun v w hs hm=>ZdM hm (hs.arg Rha1)) e e fun v1=>Zaf e e e (gz5 0 1 2 3 9 e (jsr 2 (Zac e e e (jy (Zbt e e) e e (gz6 0 1 2 3 9 15 e (Zad (Zai e ?_ ?_))))))))))))))
 ·refine jqr 3 (Zac e e e (Zaf e e e (gz1 8 e (Zad (Zam (Zaw (Zaj e (fun w hs=>.tmp e) (fun w hs=>⟨e,hs.drop⟩))))))))
 refine jks (Zak (jqr 4 (Zac e e e (jy (ZaD e e) e e (Zac e e e (Zaq 19 e ?_ ?_))))))
 ·refine Zaa e e (Zaa e e (jy (Zah e e) e e (gz5 0 1 2 3 22 e (Zad (Zbo e (jqr 5 (Zaf e e e (gz1 8 e (Zad (Zam (Zaw (Zaj e (fun w hs=>.tmp e) (fun w hs=>⟨e,hs.drop⟩)))))))))))))
 refine Zac e e e (jy (Zbh e e) e e (jy (Zae e e) e e (gz5 0 1 2 3 22 e (Zad (Zai e ?_ ?_)))))
 ·refine jqr 5 (Zaf e e e (gz1 8 e (Zad (Zam (Zaw (Zaj e (fun w hs=>.tmp e) (fun w hs=>⟨e,hs.drop⟩)))))))
 refine jks (Za2 (fun (s:Bool) (g:Unit)=>[(1,ha1.v),(2,.bool s),(3,.int .i64 a3)]) (fun s g=>[]) (fun s g=>[]) ?_ ?_)
 rotate_left
 ·intro k4 H5
  refine jqr 6 (Zaf e e e (gz5 0 1 2 3 10 e (Zad (Zao (Zbj (n:=big) (fun (s:(Bool×Int)) (g:Unit)=>[(0,ha0.v),(1,ha1.v),(2,.bool s.1),(3,.int .i64 a3),(10,.int .i64 s.2)]) (fun s g=>[]) (fun s g=>[]) (a2,0) () [] (u5 e) e e e ?_)))))
  intro z12 q13 n16 k14 H15
  refine Zak (jqr 7 (Zac e e e (Zac e e e (jg_y (fun w hs=>ZaV e (hs.arg Rha1)) e e (jy (ZaD e e) e e (gz6 0 1 2 3 10 26 e (Zad (Zai e ?_ ?_))))))))
  rotate_left
  ·refine ZaE (Za9 (Zbe (Zba ?_)))
   exact Zap H5 z12.1 () [] (u3 e) e e e
  refine jks (Zak (Zao (Zar 9 (Zac e e e (Zac e e e (Zaq 30 e ?_ ?_))))))
  rotate_left
  ·refine Zaa e e (Zaa e e (Zaa e e (Zaa e e (Zaa e e (Zaa e e (Zaa e e (Zaa e e (jy (Zae e e) e e (Zaf e e e (gz5 0 1 2 3 10 e (ZaG (Zad ?_))))))))))))
   refine Zar 8 (Zac e e e (jy (Zal e e) e e (Zaf e e e (gz5 0 1 2 3 10 e (Zap H15 (false,w64 (z12.2 + 1)) () [] (u5 e) e e e)))))
  refine Zac e e e (Zac e e e (Za6 fun x17 h18=>jg_y (fun w hs=>ZaC e e (hs.arg Rha1) h18) e e (jg_y (fun w hs=>ZaS e (hs.arg Rha1) h18.1) e e (jg_y (fun w hs=>ZaQ e (hs.arg Rha1) h18.1 e) e e (Zac e e e (jg_y (fun w hs=>ZaV e (hs.arg Rha0)) e e (jy (ZaD e e) e e (jy (Zah e e) e e (Zaf e e e (gz5 0 1 2 3 10 e (ZaG (Zad ?_))))))))))))
  refine Zar 8 (Zac e e e (jy (Zal e e) e e (Zaf e e e (gz5 0 1 2 3 10 e (Zap H15 (decide (x17.Element < (a0.length:Int)),w64 (z12.2 + 1)) () [] (u5 e) e e e)))))
 intro z2 q3
 refine Zak (jqr 10 (Zac e e e (jy (Zbl e) e e (gz3 1 3 41 e (Zad (Zai e ?_ ?_))))))
 ·refine jqr 11 (Zaf e e e (gz1 8 e (Zad (Zam (Zaw (Zaj e (fun w hs=>.tmp e) (fun w hs=>⟨e,hs.drop⟩)))))))
 refine jks (Zak (jqr 12 (Zaf e e e (gz3 1 3 11 e (Zad (Zao (Zbj (n:=big) (fun (s:Int) (g:Unit)=>[(1,ha1.v),(3,.int .i64 a3),(11,.int .i64 s)]) (fun s g=>[]) (fun s g=>[]) 0 () [] (u3 e) e e e ?_)))))))
 intro z6 q7 n10 k8 H9
 refine Zak (jqr 13 (Zac e e e (jy (Zal e e) e e (Zac e e e (jg_y (fun w hs=>ZaV e (hs.arg Rha1)) e e (jy (ZaD e e) e e (gz4 1 3 11 46 e (Zad (Zai e ?_ ?_)))))))))
 rotate_left
 ·refine ZaE (Za9 (Zbe (Zba (Zad ?_))))
  refine jqr 17 (Zaf e e e (gz1 8 e (Zad (Zam (Zaj e (fun w hs=>.tmp e) (fun w hs=>⟨e,hs.drop⟩))))))
 refine jks (Zak (Zao (jqr 15 (Zac e e e (Zac e e e (Zac e e e (Zbc e (fun v w hs hm=>ZeD hm (hs.arg Rha1)) e e fun v11=>jy (ZaD e e) e e (gz4 1 3 11 53 e (Zad (Zai e ?_ ?_))))))))))
 ·refine jqr 16 (Zaf e e e (gz1 8 e (Zad (Zam (ZaI (Zaw (Zbd (ZaI (Zaw ?_)))))))))
  exact Zaj e (fun w hs=>.tmp e) (fun w hs=>⟨e,hs.drop⟩)
 refine ZaK (ZaG (Zad ?_))
 refine Zar 14 (Zac e e e (jy (Zal e e) e e (Zaf e e e (gz3 1 3 11 e (Zap H9 (w64 (z6 + 1)) () [] (u3 e) e e e)))))
theorem ZgL {w:World}{a0:(List Element)}{a1:(List Piece)}{a2:Int}{ha0:Hd}{ha1:Hd}{v:Int}(hm:Zee a0 a1 a2 = some v) (Rha0:Sl w ha0 Element.enc a0) (Rha1:Sl w ha1 Piece.enc a1):Gives Tryz.prog 71 [ha0.v,ha1.v,.int .i64 a2] w (.int .i64 v):=by
 refine Za4 (vs:=[ha0.v,ha1.v,.int .i64 a2]) (U:=fun (v:Int)=>.int .i64 v) Tryz.func71 e Tryz.ntmps71 e e hm ?_
 unfold Zee
 clear hm
 refine jqr 0 (Zaf e e e (gz3 0 1 2 e (Zad (Zak (jqr 1 (Zac e e e (Zac e e e (Zac e e e (Za6 fun x1 h2=>jg_y (fun w hs=>ZaC e e (hs.arg Rha1) h2) e e (jg_y (fun w hs=>ZaS e (hs.arg Rha1) h2.1) e e (jg_y (fun w hs=>ZaQ e (hs.arg Rha1) h2.1 e) e e (Za6 fun x3 h4=>jg_y (fun w hs=>ZaC e e (hs.arg Rha0) h4) e e (jg_y (fun w hs=>ZaS e (hs.arg Rha0) h4.1) e e (jg_y (fun w hs=>ZaQ e (hs.arg Rha0) h4.1 e) e e ?_))))))))))))))
 refine jy (Zbt e e) e e (gz4 0 1 2 16 e (Zad (Zai e ?_ ?_)))
 ·refine jqr 2 (Zaf e e e (gz1 6 e (Zad (Zam (Zaw (Zaj e (fun w hs=>.tmp e) (fun w hs=>⟨e,hs.drop⟩)))))))
 refine jks (jqr 3 (Zac e e e (Zac e e e (Zac e e e (jy (Zal e e) e e (Za6 fun x5 h6=>jg_y (fun w hs=>ZaC e e (hs.arg Rha1) h6) e e (jg_y (fun w hs=>ZaS e (hs.arg Rha1) h6.1) e e (jg_y (fun w hs=>ZaQ e (hs.arg Rha1) h6.1 e) e e (Za6 fun x7 h8=>jg_y (fun w hs=>ZaC e e (hs.arg Rha0) h8) e e (jg_y (fun w hs=>ZaS e (hs.arg Rha0) h8.1) e e (jg_y (fun w hs=>ZaQ e (hs.arg Rha0) h8.1 e) e e (Zaf e e e (gz1 6 e (Zad ?_))))))))))))))
 refine Zam (Zaj e (fun w hs=>.tmp e) (fun w hs=>⟨e,hs.drop⟩))
theorem Zif {w:World}{a0:(List Element)}{a1:(List Piece)}{a2:(List Passage)}{a3:Int}{ha0:Hd}{ha1:Hd}{ha2:Hd}{v:((List Span)×Int)}(hm:Zd0 a0 a1 a2 a3 = some v) (Rha0:Sl w ha0 Element.enc a0) (Rha1:Sl w ha1 Piece.enc a1) (Rha2:Sl w ha2 Passage.enc a2):Calls Tryz.prog 38 ([ha0.v,ha1.v,ha2.v,.int .i64 a3]:List Value).toArray w (fun e w'=>∃ g:Hd,e = .returned (.tuple #[g.v,.int .i64 v.2])∧St w w' [] [(rowH g 139 4 Span.enc v.1)]):=by
 refine ZbN (vs:=[ha0.v,ha1.v,ha2.v,.int .i64 a3]) (R:=fun (v:((List Span)×Int)) (e:Ending) (w':World)=>∃ g:Hd,e = .returned (.tuple #[g.v,.int .i64 v.2])∧St w w' [] [(rowH g 139 4 Span.enc v.1)]) Tryz.func38 e Tryz.ntmps38 e e (St.refl w) hm ?_
 unfold Zd0
 clear hm
 refine jqr 0 (Zaf e e e (Zaf e e e (gz4 0 1 2 3 e (Zad (Zak (jqr 1 (Zac e e e (Zac e e e (Zac e e e (jg_y (fun w hs=>ZaV e (hs.arg Rha2)) e e (Zac e e e (jg_y (fun w hs=>ZaV e (hs.arg Rha1)) e e (jy (Zal e e) e e (jy (ZaL e e) e e (Zac e e e (Zbc e (fun v w hs hm=>ZeC hm (hs.arg Rha0) (hs.arg Rha1)) e e fun v1=>?_))))))))))))))))
 refine Zaf e e e (gz5 0 1 2 3 10 e (jsr 2 (Zac e e e (jy (Zbt e e) e e (gz6 0 1 2 3 10 26 e (Zad (Zai e ?_ ?_)))))))
 ·refine jqr 3 (Zac e e e (Zaf e e e (Zaf e e e (gz2 8 9 e (Zad (Zam (Zaw (Za3 139 4 Span.enc (Za7 e (fun w hs=>.tmp e) (fun w hs=>.tmp e) (fun w hs=>⟨(Hd.mk none 0 0),e,hs.sel (is:=[0]) e e⟩))))))))))
 refine jks (jqr 4 (Zaf e e e (gz5 0 1 2 3 11 e (Zad (Zak (jqr 5 (Zaf e e e (gz6 0 1 2 3 11 12 e (Zad (Zao (Zbm 139 4 Span.enc (Zbj (n:=big) (fun (s:((List Span)×Int)) (g:Hd)=>[(0,ha0.v),(1,ha1.v),(2,ha2.v),(3,.int .i64 a3),(11,g.v),(12,.int .i64 s.2)]) (fun s g=>[]) (fun s g=>[(rowH g 139 4 Span.enc s.1)]) (([]:List Span),0) (Hd.mk none 0 0) [0] (u6 e) e e e ?_))))))))))))
 intro z2 q3 n6 k4 H5
 refine Zak (jqr 6 (Zac e e e (jy (Zal e e) e e (Zac e e e (jg_y (fun w hs=>ZaV e (hs.arg Rha1)) e e (jy (ZaD e e) e e (Zac e e e (Zaq 33 e ?_ ?_))))))))
 rotate_left
 ·refine Zaa e e (Zaa e e (Zaa e e (Zaa e e (Zaa e e (Zaa e e (jy (Zae e e) e e (gz7 0 1 2 3 11 12 40 e (Zad (ZdC e (ZaE (Za9 (Zbe (Zba (Zad ?_))))))))))))))
  refine jqr 13 (Zac e e e (Zaf e e e (Zaf e e e (gz2 8 9 e (Zad (Zam (Za7 e (fun w hs=>.tmp e) (fun w hs=>.tmp e) (fun w hs=>⟨q3,e,hs.sel (is:=[0]) e e⟩))))))))
 refine Zac e e e (Zac e e e (Za6 fun x7 h8=>jg_y (fun w hs=>ZaC e e (hs.arg Rha2) h8) e e (jg_y (fun w hs=>ZaS e (hs.arg Rha2) h8.1) e e (jg_y (fun w hs=>ZaQ e (hs.arg Rha2) h8.1 e) e e (jy (Zbl e) e e (jy (Zah e e) e e (gz7 0 1 2 3 11 12 40 e (Zad (Zai e ?_ ?_)))))))))
 rotate_left
 ·refine ZaE (Za9 (Zbe (Zba (Zad ?_))))
  refine jqr 13 (Zac e e e (Zaf e e e (Zaf e e e (gz2 8 9 e (Zad (Zam (Za7 e (fun w hs=>.tmp e) (fun w hs=>.tmp e) (fun w hs=>⟨q3,e,hs.sel (is:=[0]) e e⟩))))))))
 refine jks (Zak (Zao (Zak (jdr (L':=[_]) 8 [0] [0,1,2,3,4,5,6,7,8,9,10,11,12,13,14,15,16] 131071 262143 [0,0,3,4,8,0,0,0,224,0,0,1536,2048,4096,8192,16656,0,131071] [0,0,3,7,15,0,0,0,224,0,0,1536,3584,7680,15872,32767,0,131071] [(0,true),(1,true),(2,true),(3,true),(4,true),(5,true),(6,true),(7,true),(8,true),(9,true),(10,true),(11,true),(12,true),(13,true),(14,true),(15,true),(16,false),(17,false)] e (Zas (Zay (Zas (Za0 (Zay (Zas Zbb)))))) (Zau e e e e (Zau e e e e (Zbk fun x9 h10=>jd_y e (fun w hs=>ZaC e e (hs.arg Rha1) h10) e e (jd_y e (fun w hs=>ZaS e (hs.arg Rha1) h10.1) e e (jd_y e (fun w hs=>ZaQ e (hs.arg Rha1) h10.1 e) e e (Zau e e e e (Zau e e e e (Zau e e e e (Zcc e e (fun v w hs hm=>ZgL hm (hs.arg Rha0) (hs.arg Rha1)) e e fun v11=>Zau e e e e (Zau e e e e ?_))))))))))))))
 refine Zbk fun x12 h13=>jd_y e (fun w hs=>ZaC e e (hs.arg Rha2) h13) e e (jd_y e (fun w hs=>ZaS e (hs.arg Rha2) h13.1) e e (jd_y e (fun w hs=>ZaS e (hs.arg Rha2) h13.1) e e (jd_y e (fun w hs=>ZaQ e (hs.arg Rha2) h13.1 e) e e (jdy e (ZaX e (o4 e)) e e (jd_h e (ZaR (l4 e) e e fun g14=>ZaA (Zbs [1] e (jd_h e (Zav 0 e e e (l4 e) e e e e (l4 e) (r2 e) (ZaA (ZbG e (Zbf [(0,_),(1,_),(2,_),(3,_),(11,_),(12,_),(13,_)] ⟨e,e,e,e,e,e,e,trivial⟩ (Zad (Zak ?_))))))))))))))
 refine jqr 9 (Zac e e e (Zac e e e (Zac e e e (Zac e e e (Zbc e (fun v w hs hm=>ZeD hm (hs.arg Rha1)) e e fun v15=>jy (Zal e e) e e (Za6 fun x16 h17=>jg_y (fun w hs=>ZaC e e (hs.arg Rha2) h17) e e (jg_y (fun w hs=>ZbJ e (hs.arg Rha2) h17.1 (l6 e) e) e e (ZaR (l6 e) e e fun g18=>Zav 0 e e e (l6 e) e e e e (l6 e) (r3 e) (gz8 0 1 2 3 11 12 13 14 e (jsr 10 (jy (Zab e) e e (jgl 0 e e e e e (jy (Zbl e) e e ?_)))))))))))))
 refine gz9 0 1 2 3 11 12 13 14 69 e (Zad (Zai e ?_ ?_))
 rotate_left
 ·refine jks (Zar 12 (Zac e e e (jg_y (fun w hs=>ZaJ e (ldBB (hs.blkL (i:=1) e) e)) e e (ZaT (enc:=Span.enc) [(Span.mk x9.Element v11 x12.Time.Lo 1000000000)] e e e e e e e e fun hd22=>ZaO 3 e e e (fun w hs=>(hs.row 0 e)) e e e fun y23 hd24=>jg_L (r4 e) (Zaf e e e (gz6 0 1 2 3 11 12 e (ZaF (is:=[3]) (s1 e) e (ZaG (Zad ?_)))))))))
  refine Zar 7 (Zac e e e (jy (Zal e e) e e (Zaf e e e (gz6 0 1 2 3 11 12 e (Zap H5 (y23,w64 (z2.2 + 1)) hd24 [0] (u6 e) e e e)))))
 refine Zar 11 (jy (Zab e) e e (jy (Zab e) e e (jgl 0 e e e e e (jy (Zab e) e e (Zav 1 e e e (l1 e) e e e e (l4 e) (r3 e) (gz7 0 1 2 3 11 12 13 e (Zad (Zar 12 (Zac e e e (jg_y (fun w hs=>ZaJ e (ldBB (hs.blkL (i:=1) e) e)) e e (ZaT (enc:=Span.enc) [(Span.mk x9.Element v11 x12.Time.Lo x16.Time.Hi)] e e e e e e e e fun hd19=>ZaO 3 e e e (fun w hs=>(hs.row 0 e)) e e e fun y20 hd21=>jg_L (r4 e) (Zaf e e e (gz6 0 1 2 3 11 12 e (ZaF (is:=[3]) (s1 e) e ?_))))))))))))))
 refine ZaG (Zad ?_)
 refine Zar 7 (Zac e e e (jy (Zal e e) e e (Zaf e e e (gz6 0 1 2 3 11 12 e (Zap H5 (y20,w64 (z2.2 + 1)) hd21 [0] (u6 e) e e e)))))
theorem ZfU {w:World}{a0:(List Span)}{ha0:Hd}{v:Bool}(hm:Zdi a0 = some v) (Rha0:Sl w ha0 Span.enc a0):Gives Tryz.prog 39 [ha0.v] w (.bool v):=by
 refine Za4 (vs:=[ha0.v]) (U:=fun (v:Bool)=>.bool v) Tryz.func39 e Tryz.ntmps39 e e hm ?_
 unfold Zdi
 clear hm
 refine jqr 0 (Zaf e e e (gz1 0 e (Zad (Zak (jqr 1 (Zac e e e (jg_y (fun w hs=>ZaV e (hs.arg Rha0)) e e (jy (Zbh e e) e e (gz2 0 8 e (Zad (Zai e ?_ ?_)))))))))))
 ·refine jqr 2 (Zaf e e e (gz1 2 e (Zad (Zam (Zaw (Zaj e (fun w hs=>.tmp e) (fun w hs=>⟨e,hs.drop⟩)))))))
 refine jks (Zak (jqr 3 (Zaf e e e (gz2 0 3 e (Zad (Zao (Zbj (n:=big) (fun (s:Int) (g:Unit)=>[(0,ha0.v),(3,.int .i64 s)]) (fun s g=>[]) (fun s g=>[]) 0 () [] (u2 e) e e e ?_)))))))
 intro z1 q2 n5 k3 H4
 refine Zak (jqr 4 (Zac e e e (Zac e e e (jg_y (fun w hs=>ZaV e (hs.arg Rha0)) e e (jy (ZaD e e) e e (gz3 0 3 12 e (Zad (Zai e ?_ ?_))))))))
 rotate_left
 ·refine ZaE (Za9 (Zbe (Zba (Zad ?_))))
  refine jqr 14 (Zaf e e e (gz1 2 e (Zad (Zam (Zaj e (fun w hs=>.tmp e) (fun w hs=>⟨e,hs.drop⟩))))))
 refine jks (Zak (Zao (jqr 6 (Zac e e e (Zac e e e (Za6 fun x6 h7=>jg_y (fun w hs=>ZaC e e (hs.arg Rha0) h7) e e (jg_y (fun w hs=>ZbJ e (hs.arg Rha0) h7.1 (l4 e) e) e e (ZaR (l4 e) e e fun g8=>Zav 0 e e e (l4 e) e e e e (l4 e) (r1 e) (gz3 0 3 4 e (Zad (Zak (jqr 7 (jy (Zab e) e e (jgl 0 e e e e e ?_))))))))))))))
 refine jy (ZaD e e) e e (Zac e e e (Zaq 22 e ?_ ?_))
 ·refine Zaa e e (Zaa e e (Zaa e e (jy (Zah e e) e e (Zac e e e (Zaa e e (Zaa e e (Zaa e e (jy (Zah e e) e e (Zac e e e (Zaa e e (Zaa e e (Zaa e e (jy (Zah e e) e e (Zac e e e (Zaa e e (Zaa e e ?_))))))))))))))))
  refine Zaa e e (Zaa e e (Zaa e e (jy (Zah e e) e e (Zac e e e (Zaa e e (Zaa e e (Zaa e e (jy (Zah e e) e e (gz4 0 3 4 48 e (Zad (Zbo e (jqr 8 (Zaf e e e (gz1 2 e (Zad (Zam ?_))))))))))))))))
  refine Zaw (ZaI (Zaw (Zbd (ZaI (Zaw ?_)))))
  exact Zaj e (fun w hs=>.tmp e) (fun w hs=>⟨e,hs.drop⟩)
 refine jy (Zab e) e e (jgl 0 e e e e e (jy (ZaD e e) e e (jy (Zae e e) e e (Zac e e e (Zaq 27 e ?_ ?_)))))
 ·refine Zaa e e (Zaa e e (Zaa e e (jy (Zah e e) e e (Zac e e e (Zaa e e (Zaa e e (Zaa e e (jy (Zah e e) e e (Zac e e e (Zaa e e (Zaa e e (Zaa e e (Zaa e e (Zaa e e (jy (Zah e e) e e (Zac e e e ?_))))))))))))))))
  refine Zaa e e (Zaa e e (Zaa e e (jy (Zah e e) e e (gz4 0 3 4 48 e (Zad (Zbo e (jqr 8 (Zaf e e e (gz1 2 e (Zad (Zam (Zaw (ZaI (Zaw (Zbd (ZaI (Zaw ?_)))))))))))))))))
  exact Zaj e (fun w hs=>.tmp e) (fun w hs=>⟨e,hs.drop⟩)
 refine jy (Zab e) e e (jgl 0 e e e e e (jy (Zbh e e) e e (jy (Zae e e) e e (Zac e e e (Zaq 32 e ?_ ?_)))))
 ·refine Zaa e e (Zaa e e (Zaa e e (jy (Zah e e) e e (Zac e e e (Zaa e e (Zaa e e (Zaa e e (Zaa e e (Zaa e e (jy (Zah e e) e e (Zac e e e (Zaa e e (Zaa e e (Zaa e e (jy (Zah e e) e e (gz4 0 3 4 48 e ?_))))))))))))))))
  refine Zad (Zbo e (jqr 8 (Zaf e e e (gz1 2 e (Zad (Zam (Zaw (ZaI (Zaw (Zbd (ZaI (Zaw ?_))))))))))))
  exact Zaj e (fun w hs=>.tmp e) (fun w hs=>⟨e,hs.drop⟩)
 refine jy (Zab e) e e (jgl 0 e e e e e (jy (ZaD e e) e e (jy (Zae e e) e e (Zac e e e (Zaq 37 e ?_ ?_)))))
 ·refine Zaa e e (Zaa e e (Zaa e e (Zaa e e (Zaa e e (jy (Zah e e) e e (Zac e e e (Zaa e e (Zaa e e (Zaa e e (jy (Zah e e) e e (gz4 0 3 4 48 e (Zad (Zbo e (jqr 8 (Zaf e e e (gz1 2 e ?_))))))))))))))))
  refine Zad (Zam (Zaw (ZaI (Zaw (Zbd (ZaI (Zaw ?_)))))))
  exact Zaj e (fun w hs=>.tmp e) (fun w hs=>⟨e,hs.drop⟩)
 refine jy (Zab e) e e (jgl 0 e e e e e (jy (Zab e) e e (jgl 0 e e e e e (jy (Zbv e e) e e (jy (Zae e e) e e (Zac e e e (Zaq 44 e ?_ ?_)))))))
 ·refine Zaa e e (Zaa e e (Zaa e e (jy (Zah e e) e e (gz4 0 3 4 48 e (Zad (Zbo e (jqr 8 (Zaf e e e (gz1 2 e (Zad (Zam (Zaw (ZaI (Zaw (Zbd (ZaI (Zaw ?_)))))))))))))))))
  exact Zaj e (fun w hs=>.tmp e) (fun w hs=>⟨e,hs.drop⟩)
 refine jy (Zab e) e e (jgl 0 e e e e e (jy (Zbh e e) e e (jy (Zae e e) e e (gz4 0 3 4 48 e (Zad (Zai e ?_ ?_))))))
 ·refine jqr 8 (Zaf e e e (gz1 2 e (Zad (Zam (Zaw (ZaI (Zaw (Zbd (ZaI (Zaw ?_))))))))))
  exact Zaj e (fun w hs=>.tmp e) (fun w hs=>⟨e,hs.drop⟩)
 refine jks (jqr 9 (Zaf e e e (gz4 0 3 4 5 e (Zad (Zao (Zbj (n:=big) (fun (s:Int) (g:Unit)=>[(0,ha0.v),(3,.int .i64 z1),(4,.pointer (some ⟨g8,0,none⟩)),(5,.int .i64 s)]) (fun s g=>[]) (fun s g=>[(Res.blk g8 139 [.int .i64 x6.Element,.int .i64 x6.Side,.int .i64 x6.From,.int .i64 x6.To])]) 0 () [0] (u4 e) e e e ?_))))))
 intro z9 q10 n13 k11 H12
 refine Zak (jqr 10 (Zac e e e (Zac e e e (jy (ZaD e e) e e (gz5 0 3 4 5 51 e (Zad (Zai e ?_ ?_)))))))
 rotate_left
 ·refine ZaE (Za9 (Zbe (Zba (ZaG (Zad ?_)))))
  refine Zar 5 (Zac e e e (jy (Zal e e) e e (Zaf e e e (gz2 0 3 e (Zap H4 (w64 (z1 + 1)) () [] (u2 e) e e e)))))
 refine jks (Zak (Zao (Zak (jdr (L':=[_]) 12 [0] [0,1,2,3,4,5,6,7] 255 255 [0,0,3,4,8,0,32,80] [0,0,3,7,15,0,32,127] [(0,true),(1,true),(2,true),(3,true),(4,true),(5,true),(6,true),(7,true)] e (Zas (Zay (Zas (Za0 (Zay (Zay (Zas (Za0 (Zay (Zas Zbb)))))))))) (Zau e e e e (Zau e e e e (Zbk fun x14 h15=>jd_y e (fun w hs=>ZaC e e (hs.arg Rha0) h15) e e (jd_y e (fun w hs=>ZaS e (hs.arg Rha0) h15.1) e e (jd_y e (fun w hs=>ZaQ e (hs.arg Rha0) h15.1 e) e e (jdy e (Zab e) e e (jdl 0 e e e e e e (jdy e (ZaL e e) e e (ZaU [(0,_),(3,_),(4,_),(5,_),(61,_)] ⟨e,e,e,e,e,trivial⟩ (Zad (Zai e ?_ ?_)))))))))))))))
 ·refine jqr 13 (Zaf e e e (gz1 2 e (Zad (Zam (ZaI (Zaw (Zbd (ZaI (ZaI (Zaw (Zbd (ZaI (Zaw ?_)))))))))))))
  exact Zaj e (fun w hs=>.tmp e) (fun w hs=>⟨e,hs.drop⟩)
 refine ZaK (ZaG (Zad ?_))
 refine Zar 11 (Zac e e e (jy (Zal e e) e e (Zaf e e e (gz4 0 3 4 5 e (Zap H12 (w64 (z9 + 1)) () [0] (u4 e) e e e)))))
theorem Zc9 {w:World}{a0:HumpgenMaker}{a1:Int}{a2:Int}{ha0A:Hd}{b0:Nat}{v:(Int×Int)}(hm:ZbX a0 a1 a2 = some v) (Hb:Blk w b0 65 [ha0A.v,.int .i64 a0.fn]) (Rha0_fl:Sl w ha0A encI a0.fl) (Oha0_fl:Offs ha0A [b0]):Calls Tryz.prog 26 ([.pointer (some ⟨b0,0,none⟩),.int .i64 a1,.int .i64 a2]:List Value).toArray w (fun e w'=>∃ g:Unit,e = .returned (.int .i64 v.1)∧St w w' [.blk b0 65 [ha0A.v,.int .i64 v.2]] []):=by
 refine ZbN (vs:=[.pointer (some ⟨b0,0,none⟩),.int .i64 a1,.int .i64 a2]) (R:=fun (v:(Int×Int)) (e:Ending) (w':World)=>∃ g:Unit,e = .returned (.int .i64 v.1)∧St w w' [.blk b0 65 [ha0A.v,.int .i64 v.2]] []) Tryz.func26 e Tryz.ntmps26 e e (ZhS Hb) hm ?_
 unfold ZbX
 clear hm
 refine jqr 0 (Zaf e e e (gz3 0 1 2 e (jsr 1 (Zac e e e (Zac e e e (Zac e e e (Zac e e e (jy (ZaZ e e) e e (jy (Zal e e) e e (jm_c e (fun v w hs hm=>ZaP hm (hs.blkM (i:=0) e) (hs.argM Rha0_fl Oha0_fl) Oha0_fl) (fun _=>e) e e fun v1 q2=>jy (Zal e e) e e (Zaf e e e (gz1 6 e (Zad (Zam (Zaj e (fun w hs=>.tmp e) (fun w hs=>⟨(),e,hs.sel (is:=[]) e e⟩))))))))))))))))
theorem ZfV {w:World}{a0:(List (List Span))}{a1:Int}{ha0:Hd}{qa0:List ((List Span)×Hd)}{v:Int}(hm:Zdy a0 a1 = some v) (eha0:qa0.map (·.1) = a0) (Rha0:Sl w ha0 Nt.enc qa0) (Dha0:∀ p∈qa0,rdN w p):Gives Tryz.prog 73 [ha0.v,.int .i64 a1] w (.int .i64 v):=by
 refine Za4 (vs:=[ha0.v,.int .i64 a1]) (U:=fun (v:Int)=>.int .i64 v) Tryz.func73 e Tryz.ntmps73 e e hm ?_
 unfold Zdy
 clear hm
 refine jqr 0 (Zaf e e e (gz2 0 1 e (Zad (Zak (jqr 1 (Zac e e e (jg_y (fun w hs=>ZbY eha0 e (hs.arg Rha0)) e e (jy (Zbh e e) e e (gz3 0 1 9 e (Zad (Zai e ?_ ?_)))))))))))
 ·refine jqr 2 (Zaf e e e (gz1 4 e (Zad (Zam (Zaw (Zaj e (fun w hs=>.tmp e) (fun w hs=>⟨e,hs.drop⟩)))))))
 refine jks (Za2 (fun (s:Bool) (g:Unit)=>[(0,ha0.v),(5,.bool s)]) (fun s g=>[]) (fun s g=>[]) ?_ ?_)
 rotate_left
 ·intro k3 H4
  refine Zar 3 (Zac e e e (jy (Zbv e e) e e (Zac e e e (Zaq 12 e ?_ ?_))))
  ·refine Zac e e e (jy (ZbR e e) e e (jy (Zah e e) e e (Zaf e e e (gz2 0 5 e (Zap H4 (decide (a1 ≤ 1000000000)) () [] (u2 e) e e e)))))
  refine Zaa e e (Zaa e e (jy (Zae e e) e e (Zaf e e e (gz2 0 5 e (Zap H4 false () [] (u2 e) e e e)))))
 intro z1 q2
 refine Zak (jqr 4 (Zaf e e e (gz3 0 5 6 e (Zad (Zao (Zbj (n:=big) (fun (s:(Bool×Int)) (g:Unit)=>[(0,ha0.v),(5,.bool s.1),(6,.int .i64 s.2)]) (fun s g=>[]) (fun s g=>[]) (z1,0) () [] (u3 e) e e e ?_))))))
 intro z5 q6 n9 k7 H8
 refine Zak (jqr 5 (Zac e e e (Zac e e e (jg_y (fun w hs=>ZbY eha0 e (hs.arg Rha0)) e e (jy (ZaD e e) e e (gz4 0 5 6 19 e (Zad (Zai e ?_ ?_))))))))
 rotate_left
 ·refine ZaE (Za9 (Zbe (Zba (Zad ?_))))
  refine Zak (jqr 8 (Zac e e e (jy (Zbl e) e e (gz1 31 e (Zad (Zai e ?_ ?_))))))
  ·refine jqr 9 (Zaf e e e (gz1 4 e (Zad (Zam (Zaw (Zaj e (fun w hs=>.tmp e) (fun w hs=>⟨e,hs.drop⟩)))))))
  refine jks (jqr 10 (Zaf e e e (gz1 4 e (Zad (Zam (Zaj e (fun w hs=>.tmp e) (fun w hs=>⟨e,hs.drop⟩)))))))
 refine jks (Zak (Zao (Zar 7 (Zac e e e (Zac e e e (Zaq 23 e ?_ ?_))))))
 rotate_left
 ·refine Zaa e e (Zaa e e (Zaa e e (Zaa e e (Zaa e e (jy (Zae e e) e e (Zaf e e e (gz3 0 5 6 e (ZaG (Zad ?_)))))))))
  refine Zar 6 (Zac e e e (jy (Zal e e) e e (Zaf e e e (gz3 0 5 6 e (Zap H8 (false,w64 (z5.2 + 1)) () [] (u3 e) e e e)))))
 refine Zac e e e (Zac e e e (ZcM (fun w hs=>eha0) fun x10 d12 h11=>?_))
 have Rr13:=(Dha0 _ (List.mem_of_getElem? h11.1)).sl (.head _)
 refine jg_y (fun w hs=>ZaC e e (hs.arg Rha0) h11) e e (jg_y (fun w hs=>ZaQ e (hs.arg Rha0) h11.1 e) e e (Zbc e (fun v w hs hm=>ZfU hm (hs.arg Rr13)) e e fun v14=>jy (Zah e e) e e (Zaf e e e (gz3 0 5 6 e (ZaG (Zad ?_))))))
 refine Zar 6 (Zac e e e (jy (Zal e e) e e (Zaf e e e (gz3 0 5 6 e (Zap H8 (v14,w64 (z5.2 + 1)) () [] (u3 e) e e e)))))
theorem ZgK {w:World}{a0:(List Span)}{a1:Int}{ha0:Hd}{v:Int}(hm:Zed a0 a1 = some v) (Rha0:Sl w ha0 Span.enc a0):Gives Tryz.prog 77 [ha0.v,.int .i64 a1] w (.int .i64 v):=by
 refine Za4 (vs:=[ha0.v,.int .i64 a1]) (U:=fun (v:Int)=>.int .i64 v) Tryz.func77 e Tryz.ntmps77 e e hm ?_
 unfold Zed
 clear hm
 refine jqr 0 (Zaf e e e (gz2 0 1 e (Zad (Zak (jqr 1 (Zaf e e e (gz3 0 1 5 e (Zad (Zao (Zbj (n:=big) (fun (s:Int) (g:Unit)=>[(0,ha0.v),(1,.int .i64 a1),(5,.int .i64 s)]) (fun s g=>[]) (fun s g=>[]) 0 () [] (u3 e) e e e ?_))))))))))
 intro z1 q2 n5 k3 H4
 refine Zak (jqr 2 (Zac e e e (Zac e e e (jg_y (fun w hs=>ZaV e (hs.arg Rha0)) e e (jy (ZaD e e) e e (gz4 0 1 5 9 e (Zad (Zai e ?_ ?_))))))))
 rotate_left
 ·refine ZaE (Za9 (Zbe (Zba (Zad ?_))))
  refine jqr 6 (Zaf e e e (gz1 4 e (Zad (Zam (Zaj e (fun w hs=>.tmp e) (fun w hs=>⟨e,hs.drop⟩))))))
 refine jks (Zak (Zao (jqr 4 (Zac e e e (Zac e e e (Za6 fun x6 h7=>jg_y (fun w hs=>ZaC e e (hs.arg Rha0) h7) e e (jg_y (fun w hs=>ZaS e (hs.arg Rha0) h7.1) e e (jg_y (fun w hs=>ZaQ e (hs.arg Rha0) h7.1 e) e e (Zac e e e (jy (ZaL e e) e e (gz4 0 1 5 18 e (Zad (Zai e ?_ ?_)))))))))))))
 rotate_left
 ·refine ZaK (ZaG (Zad ?_))
  refine Zar 3 (Zac e e e (jy (Zal e e) e e (Zaf e e e (gz3 0 1 5 e (Zap H4 (w64 (z1 + 1)) () [] (u3 e) e e e)))))
 refine jqr 5 (Zac e e e (Zaf e e e (gz1 4 e (Zad (Zam (ZaI (Zaw (Zbd (ZaI (Zaw ?_))))))))))
 exact Zaj e (fun w hs=>.tmp e) (fun w hs=>⟨e,hs.drop⟩)
theorem Zie {w:World}{a0:Span}{a1:Span}{a2:Int}  {v:Int}(hm:ZdZ a0 a1 a2 = some v):Gives Tryz.prog 118 [.agg #[.int .i64 a0.Element,.int .i64 a0.Side,.int .i64 a0.From,.int .i64 a0.To],.agg #[.int .i64 a1.Element,.int .i64 a1.Side,.int .i64 a1.From,.int .i64 a1.To],.int .i64 a2] w (.int .i64 v):=by
 refine Za4 (vs:=[.agg #[.int .i64 a0.Element,.int .i64 a0.Side,.int .i64 a0.From,.int .i64 a0.To],.agg #[.int .i64 a1.Element,.int .i64 a1.Side,.int .i64 a1.From,.int .i64 a1.To],.int .i64 a2]) (U:=fun (v:Int)=>.int .i64 v) Tryz.func118 e Tryz.ntmps118 e e hm ?_
 unfold ZdZ
 clear hm
 refine jqr 0 (ZbD e (l4 e) e e fun g1=>ZbD e (l4 e) e e fun g2=>Zaf e e e (gz3 2 3 4 e (Zad (Zak (jqr 1 (jy (Zab e) e e (jgl 1 e e e e e (jy (Zbt e e) e e (Zac e e e (Zaq 10 e ?_ ?_))))))))))
 rotate_left
 ·refine Zaa e e (Zaa e e (Zaa e e (jy (Zae e e) e e (Zac e e e (Zaa e e (Zaa e e (Zaa e e (Zaa e e (Zaa e e (jy (Zae e e) e e (gz3 2 3 21 e (Zad (ZdC e (jks (jqr 3 (jy (Zab e) e e ?_))))))))))))))))
  refine jgl 1 e e e e e (Zaf e e e (gz1 6 e (ZaF (is:=[]) (s0 e) e (Zad (Zam (Zaj e (fun w hs=>.tmp e) (fun w hs=>⟨e,hs.drop⟩)))))))
 refine jy (Zab e) e e (jgl 0 e e e e e (jy (Zbt e e) e e (jy (Zah e e) e e (Zac e e e (Zaq 15 e ?_ ?_)))))
 rotate_left
 ·refine Zaa e e (Zaa e e (Zaa e e (Zaa e e (Zaa e e (jy (Zae e e) e e (gz3 2 3 21 e (Zad (ZdC e (jks (jqr 3 (jy (Zab e) e e (jgl 1 e e e e e (Zaf e e e (gz1 6 e (ZaF (is:=[]) (s0 e) e (Zad ?_))))))))))))))))
  refine Zam (Zaj e (fun w hs=>.tmp e) (fun w hs=>⟨e,hs.drop⟩))
 refine jy (Zab e) e e (jgl 1 e e e e e (jy (Zab e) e e (jgl 0 e e e e e (jy (Zbt e e) e e (jy (Zah e e) e e (gz3 2 3 21 e (Zad (Zai e ?_ ?_))))))))
 rotate_left
 ·refine jks (jqr 3 (jy (Zab e) e e (jgl 1 e e e e e (Zaf e e e (gz1 6 e (ZaF (is:=[]) (s0 e) e (Zad (Zam (Zaj e (fun w hs=>.tmp e) (fun w hs=>⟨e,hs.drop⟩))))))))))
 refine jqr 2 (jy (Zab e) e e (jgl 1 e e e e e (Zac e e e (jy (Zal e e) e e (Zaf e e e (gz1 6 e (ZaF (is:=[]) (s0 e) e (Zad (Zam (Zaw (Zaj e (fun w hs=>.tmp e) (fun w hs=>⟨e,hs.drop⟩))))))))))))
theorem ZjU {w:World}{a0:(List Span)}{a1:(List Span)}{a2:Int}{ha0:Hd}{ha1:Hd}{v:(Int×Int)}(hm:ZfT a0 a1 a2 = some v) (Rha0:Sl w ha0 Span.enc a0) (Rha1:Sl w ha1 Span.enc a1):Gives Tryz.prog 74 [ha0.v,ha1.v,.int .i64 a2] w (.tuple #[.int .i64 v.1,.int .i64 v.2]):=by
 refine Za4 (vs:=[ha0.v,ha1.v,.int .i64 a2]) (U:=fun (v:(Int×Int))=>.tuple #[.int .i64 v.1,.int .i64 v.2]) Tryz.func74 e Tryz.ntmps74 e e hm ?_
 unfold ZfT
 clear hm
 refine jqr 0 (Zaf e e e (Zaf e e e (gz3 0 1 2 e (jsr 1 (Zaf e e e (gz4 0 1 2 8 e (Zad (Zak (jqr 2 (Zaf e e e (gz5 0 1 2 8 9 e (Zad (Zao (Zbj (n:=big) (fun (s:(Int×Int)) (g:Unit)=>[(0,ha0.v),(1,ha1.v),(2,.int .i64 a2),(8,.int .i64 s.1),(9,.int .i64 s.2)]) (fun s g=>[]) (fun s g=>[]) (0,0) () [] (u5 e) e e e ?_))))))))))))))
 intro z1 q2 n5 k3 H4
 refine Zak (jqr 3 (Zac e e e (Zac e e e (jg_y (fun w hs=>ZaV e (hs.arg Rha1)) e e (jy (ZaD e e) e e (gz6 0 1 2 8 9 14 e (Zad (Zai e ?_ ?_))))))))
 rotate_left
 ·refine ZaE (Za9 (Zbe (Zba (Zad ?_))))
  refine jqr 10 (Zac e e e (Zaf e e e (Zaf e e e (gz2 6 7 e (Zad (Zam (Za7 e (fun w hs=>.tmp e) (fun w hs=>.tmp e) (fun w hs=>⟨e,hs.drop⟩))))))))
 refine jks (Zak (Zao (jqr 5 (Zac e e e (Zac e e e (Zac e e e (Za6 fun x6 h7=>jg_y (fun w hs=>ZaC e e (hs.arg Rha1) h7) e e (jg_y (fun w hs=>ZaS e (hs.arg Rha1) h7.1) e e (jg_y (fun w hs=>ZaQ e (hs.arg Rha1) h7.1 e) e e (Zbc e (fun v w hs hm=>ZgK hm (hs.arg Rha0)) e e fun v8=>Zaf e e e (gz6 0 1 2 8 9 10 e (Zad (Zak (jqr 6 ?_))))))))))))))
 refine Zac e e e (jy (ZaD e e) e e (gz7 0 1 2 8 9 10 25 e (Zad (Zai e ?_ ?_))))
 ·refine ZaE (Za9 (Zba (Zad ?_)))
  refine Zar 4 (Zac e e e (jy (Zal e e) e e (Zaf e e e (gz5 0 1 2 8 9 e (Zap H4 (z1.1,w64 (z1.2 + 1)) () [] (u5 e) e e e)))))
 refine jks (Zak (jqr 7 (Zac e e e (Zac e e e (Za6 fun x9 h10=>jg_y (fun w hs=>ZaC e e (hs.arg Rha0) h10) e e (jg_y (fun w hs=>ZaS e (hs.arg Rha0) h10.1) e e (jg_y (fun w hs=>ZaQ e (hs.arg Rha0) h10.1 e) e e (jy (ZaL e e) e e (gz7 0 1 2 8 9 10 31 e (Zad (Zai e ?_ ?_)))))))))))
 ·refine jqr 8 (Zaf e e e (Zaf e e e (gz2 6 7 e (Zad (Zam (Zaw (ZaI (Zaw (Zbd (ZaI (Zaw ?_)))))))))))
  exact Za7 e (fun w hs=>.tmp e) (fun w hs=>.tmp e) (fun w hs=>⟨e,hs.drop⟩)
 refine jks (jdr (L':=[]) 9 [] [0,1,2,3,4,5,6,7,8,9,10,11,12,13,14,15,16,17,18] 524287 524287 [0,0,0,6,8,0,0,96,128,0,784,0,0,6144,8192,16384,33792,65537,262143] [0,0,0,6,14,0,0,96,224,0,1022,0,0,6144,14336,30720,65534,131071,262143] [(0,true),(1,true),(2,true),(3,true),(4,true),(5,true),(6,true),(7,true),(8,true),(9,true),(10,true),(11,true),(12,true),(13,true),(14,true),(15,true),(16,true),(17,true),(18,true)] e (Zay (Zas (Za0 (Zay (Zas Zbb))))) (Zau e e e e (Zau e e e e (Zau e e e e (Zbk fun x11 h12=>jd_y e (fun w hs=>ZaC e e (hs.arg Rha0) h12) e e (jd_y e (fun w hs=>ZbJ e (hs.arg Rha0) h12.1 (l4 e) e) e e (Zau e e e e (Zau e e e e (Zbk fun x13 h14=>jd_y e (fun w hs=>ZaC e e (hs.arg Rha1) h14) e e (jd_y e (fun w hs=>ZbJ e (hs.arg Rha1) h14.1 (l4 e) e) e e (Zau e e e e (Zcc e e (fun v w hs hm=>Zie (a0:=x11) (a1:=x13) hm ) e e fun v15=>Zau e e e e (Zau e e e e ?_)))))))))))))
 refine Zbk fun x16 h17=>jd_y e (fun w hs=>ZaC e e (hs.arg Rha1) h17) e e (jd_y e (fun w hs=>ZaS e (hs.arg Rha1) h17.1) e e (jd_y e (fun w hs=>ZaQ e (hs.arg Rha1) h17.1 e) e e (jdy e (ZaZ e e) e e (ZdP e (fun w hs=>ZeI e e) e e fun x18=>Zbz e e e e (ZaU [(0,_),(1,_),(2,_),(8,_),(9,_)] ⟨e,e,e,e,e,trivial⟩ (ZaG (Zad ?_)))))))
 refine Zar 4 (Zac e e e (jy (Zal e e) e e (Zaf e e e (gz5 0 1 2 8 9 e (Zap H4 (x18,w64 (z1.2 + 1)) () [] (u5 e) e e e)))))
end Go.Proofs.YtdgminllobhncaaGreat
namespace Go.Proofs.YtdgminllobhncaaGreat
open Go.Hy
set_option linter.unusedVariables false
set_option linter.unusedSimpArgs false
set_option maxHeartbeats 2000000
set_option maxRecDepth 100000
theorem Zgo {w:World}{a0:(List (List Span))}{a1:Int}{ha0:Hd}{qa0:List ((List Span)×Hd)}{v:((List Int)×Int)}(hm:ZcC a0 a1 = some v) (eha0:qa0.map (·.1) = a0) (Rha0:Sl w ha0 Nt.enc qa0) (Dha0:∀ p∈qa0,rdN w p):Calls Tryz.prog 40 ([ha0.v,.int .i64 a1]:List Value).toArray w (fun e w'=>∃ g:Hd,e = .returned (.tuple #[g.v,.int .i64 v.2])∧St w w' [] [(rowH g 3 1 encI v.1)]):=by
 refine ZbN (vs:=[ha0.v,.int .i64 a1]) (R:=fun (v:((List Int)×Int)) (e:Ending) (w':World)=>∃ g:Hd,e = .returned (.tuple #[g.v,.int .i64 v.2])∧St w w' [] [(rowH g 3 1 encI v.1)]) Tryz.func40 e Tryz.ntmps40 e e (St.refl w) hm ?_
 unfold ZcC
 clear hm
 refine jqr 0 (Zaf e e e (Zaf e e e (gz2 0 1 e (Zad (Zak (jqr 1 (Zac e e e (Zac e e e (Zbc e (fun v w hs hm=>ZfV hm eha0 (hs.arg Rha0) (hs.argN Dha0)) e e fun v1=>Zaf e e e (gz3 0 1 6 e (jsr 2 (Zac e e e (jy (Zbt e e) e e (gz4 0 1 6 17 e (Zad ?_)))))))))))))))
 refine Zai e ?_ ?_
 ·refine jqr 3 (Zac e e e (Zaf e e e (Zaf e e e (gz2 4 5 e (Zad (Zam (Zaw (Za3 3 1 encI (Za7 e (fun w hs=>.tmp e) (fun w hs=>.tmp e) (fun w hs=>⟨(Hd.mk none 0 0),e,hs.sel (is:=[0]) e e⟩))))))))))
 refine jks (jqr 4 (Zaf e e e (gz3 0 1 7 e (Zad (Zak (jqr 5 (Zaf e e e (gz4 0 1 7 8 e (Zad (Zao (Zbm 3 1 encI (Zbj (n:=big) (fun (s:((List Int)×Int)) (g:Hd)=>[(0,ha0.v),(1,.int .i64 a1),(7,g.v),(8,.int .i64 s.2)]) (fun s g=>[]) (fun s g=>[(rowH g 3 1 encI s.1)]) (([]:List Int),0) (Hd.mk none 0 0) [0] (u4 e) e e e ?_))))))))))))
 intro z2 q3 n6 k4 H5
 refine Zak (jqr 6 (Zac e e e (Zac e e e (jg_y (fun w hs=>ZbY eha0 e (hs.arg Rha0)) e e (jy (ZaD e e) e e (gz5 0 1 7 8 22 e (Zad (Zai e ?_ ?_))))))))
 rotate_left
 ·refine ZaE (Za9 (Zbe (Zba (Zad ?_))))
  refine jqr 19 (Zac e e e (Zaf e e e (Zaf e e e (gz2 4 5 e (Zad (Zam (Za7 e (fun w hs=>.tmp e) (fun w hs=>.tmp e) (fun w hs=>⟨q3,e,hs.sel (is:=[0]) e e⟩))))))))
 refine jks (Zak (Zao (jqr 8 (Zaf e e e (gz5 0 1 7 8 9 e (Zad (Za2 (fun (s:Int) (g:Unit)=>[(0,ha0.v),(1,.int .i64 a1),(7,q3.v),(8,.int .i64 z2.2),(9,.int .i64 s)]) (fun s g=>[]) (fun s g=>[(rowH q3 3 1 encI z2.1)]) ?_ ?_)))))))
 ·intro z7 q8
  refine Zak (jqr 16 (Zac e e e (jy (Zbh e e) e e (gz6 0 1 7 8 9 55 e (Zad (Zai e ?_ ?_))))))
  ·refine jqr 17 (Zaf e e e (Zaf e e e (gz2 4 5 e (Zad (Zam (Zaw (ZaI (Zaw (Zbd (ZaI (Zaw ?_)))))))))))
   refine Za3 3 1 encI (Za7 e (fun w hs=>.tmp e) (fun w hs=>.tmp e) (fun w hs=>⟨(Hd.mk none 0 0),e,hs.sel (is:=[0]) e e⟩))
  refine jks (Zar 18 (Zac e e e (Zac e e e (ZaT (enc:=encI) [z7] e e e e e e e e fun hd11=>ZaO 1 e e e (fun w hs=>(hs.row 0 e)) e e e fun y12 hd13=>jg_L (r2 e) (Zaf e e e (gz4 0 1 7 8 e (ZaG (Zad ?_))))))))
  refine Zar 7 (Zac e e e (jy (Zal e e) e e (Zaf e e e (gz4 0 1 7 8 e (Zap H5 (y12,w64 (z2.2 + 1)) hd13 [1] (u4 e) e e e)))))
 intro k9 H10
 refine jqr 9 (Zaf e e e (gz6 0 1 7 8 9 10 e (Zad (Zao (Zbj (n:=big) (fun (s:(Int×Int)) (g:Unit)=>[(0,ha0.v),(1,.int .i64 a1),(7,q3.v),(8,.int .i64 z2.2),(9,.int .i64 s.1),(10,.int .i64 s.2)]) (fun s g=>[]) (fun s g=>[(rowH q3 3 1 encI z2.1)]) (0,0) () [0] (u6 e) e e e ?_)))))
 intro z14 q15 n18 k16 H17
 refine Zak (jqr 10 (Zac e e e (Zac e e e (jy (ZaD e e) e e (gz7 0 1 7 8 9 10 27 e (Zad (Zai e ?_ ?_)))))))
 rotate_left
 ·refine ZaE (Za9 (Zbe (Zba ?_)))
  exact Zap H10 z14.1 () [0] (u5 e) e e e
 refine jks (Zak (Zao (Zak (jdr (L':=[_]) 12 [0] [0,1,2,3,4,5,6,7,8,9,10,11,12,13,14] 32767 32767 [0,0,3,4,0,0,48,64,0,392,512,1024,1024,4095,16383] [0,0,3,7,0,0,48,112,0,511,1023,2047,2047,4095,16383] [(0,true),(1,true),(2,true),(3,true),(4,true),(5,true),(6,true),(7,true),(8,true),(9,true),(10,true),(11,true),(12,true),(13,true),(14,true)] e (Zas (Zay (Zas (Za0 (Zay (Zas (Zay (Zas (Za0 (Zay (Zas Zbb))))))))))) (Zau e e e e (Zau e e e e (ZcE (fun w hs=>eha0) fun x19 d21 h20=>?_)))))))
 have Rr22:=(Dha0 _ (List.mem_of_getElem? h20.1)).sl (.head _)
 refine jd_y e (fun w hs=>ZaC e e (hs.arg Rha0) h20) e e (jd_y e (fun w hs=>ZaQ e (hs.arg Rha0) h20.1 e) e e (Zau e e e e (Zau e e e e (ZcE (fun w hs=>eha0) fun x23 d25 h24=>?_))))
 have Rr26:=(Dha0 _ (List.mem_of_getElem? h24.1)).sl (.head _)
 refine jd_y e (fun w hs=>ZaC e e (hs.arg Rha0) h24) e e (jd_y e (fun w hs=>ZaQ e (hs.arg Rha0) h24.1 e) e e (Zau e e e e (Zcc e e (fun v w hs hm=>ZjU hm (hs.arg Rr22) (hs.arg Rr26)) e e fun v27=>Zau e e e e (jdy e (ZaH e e) e e (jdy e (ZaH e e) e e (Zbz e e e e (Zbz e e e e (ZaU [(0,_),(1,_),(7,_),(8,_),(9,_),(10,_),(11,_),(12,_)] ⟨e,e,e,e,e,e,e,e,trivial⟩ (Zad (Zak (jqr 13 (Zac e e e (jy (Zbt e e) e e (gz9 0 1 7 8 9 10 11 12 44 e (Zad ?_)))))))))))))))
 refine Zai e ?_ ?_
 ·refine jqr 14 (Zac e e e (Zaf e e e (Zaf e e e (gz2 4 5 e (Zad (Zam (Zaw (ZaI (Zaw (Zbd (ZaI (Zaw (ZaI (Zaw (Zbd (ZaI (Zaw ?_)))))))))))))))))
  refine Za3 3 1 encI (Za7 e (fun w hs=>.tmp e) (fun w hs=>.tmp e) (fun w hs=>⟨(Hd.mk none 0 0),e,hs.sel (is:=[0]) e e⟩))
 refine jks (Zar 15 (Zac e e e (Zac e e e (Zac e e e (Za6 fun x28 h29=>jg_y (fun w hs=>ZaC e e (hs.row 0 e) h29) e e (jg_y (fun w hs=>ZaQ e (hs.row 0 e) h29.1 e) e e (Zac e e e (jy (Zal e e) e e (jy (ZeI e e) e e (Zaf e e e (gz6 0 1 7 8 9 10 e (ZaG (Zad ?_)))))))))))))
 refine Zar 11 (Zac e e e (jy (Zal e e) e e (Zaf e e e (gz6 0 1 7 8 9 10 e (Zap H17 (max z14.1 (w64 (x28 + v27.1)),w64 (z14.2 + 1)) () [0] (u6 e) e e e)))))
theorem ZhO {w:World}{a0:(List Throw)}{ha0:Hd}{v:Bool}(hm:Zdx a0 = some v) (Rha0:Sl w ha0 Throw.enc a0):Gives Tryz.prog 119 [ha0.v] w (.bool v):=by
 refine Za4 (vs:=[ha0.v]) (U:=fun (v:Bool)=>.bool v) Tryz.func119 e Tryz.ntmps119 e e hm ?_
 unfold Zdx
 clear hm
 refine jqr 0 (Zaf e e e (gz1 0 e (Zad (Zak (jqr 1 (Zac e e e (jg_y (fun w hs=>ZaV e (hs.arg Rha0)) e e (jy (Zbh e e) e e (gz2 0 7 e (Zad (Zai e ?_ ?_)))))))))))
 ·refine jqr 2 (Zaf e e e (gz1 2 e (Zad (Zam (Zaw (Zaj e (fun w hs=>.tmp e) (fun w hs=>⟨e,hs.drop⟩)))))))
 refine jks (Zak (jqr 3 (Zaf e e e (gz2 0 3 e (Zad (Zao (Zbj (n:=big) (fun (s:Int) (g:Unit)=>[(0,ha0.v),(3,.int .i64 s)]) (fun s g=>[]) (fun s g=>[]) 0 () [] (u2 e) e e e ?_)))))))
 intro z1 q2 n5 k3 H4
 refine Zak (jqr 4 (Zac e e e (Zac e e e (jg_y (fun w hs=>ZaV e (hs.arg Rha0)) e e (jy (ZaD e e) e e (gz3 0 3 11 e (Zad (Zai e ?_ ?_))))))))
 rotate_left
 ·refine ZaE (Za9 (Zbe (Zba (Zad ?_))))
  refine jqr 13 (Zaf e e e (gz1 2 e (Zad (Zam (Zaj e (fun w hs=>.tmp e) (fun w hs=>⟨e,hs.drop⟩))))))
 refine jks (Zak (Zao (Za2 (fun (s:Unit) (g:Unit)=>[(0,ha0.v),(3,.int .i64 z1)]) (fun s g=>[]) (fun s g=>[]) ?_ ?_)))
 ·intro z6 q7
  refine jqr 8 (Zaf e e e (gz3 0 3 4 e (Zad (Zao (Zbj (n:=big) (fun (s:Int) (g:Unit)=>[(0,ha0.v),(3,.int .i64 z1),(4,.int .i64 s)]) (fun s g=>[]) (fun s g=>[]) 0 () [] (u3 e) e e e ?_)))))
  intro z10 q11 n14 k12 H13
  refine Zak (jqr 9 (Zac e e e (Zac e e e (jy (ZaD e e) e e (gz4 0 3 4 38 e (Zad (Zai e ?_ ?_)))))))
  rotate_left
  ·refine ZaE (Za9 (Zbe (Zba (ZaG (Zad ?_)))))
   refine Zar 5 (Zac e e e (jy (Zal e e) e e (Zaf e e e (gz2 0 3 e (Zap H4 (w64 (z1 + 1)) () [] (u2 e) e e e)))))
  refine jks (Zak (Zao (Zak (jdr (L':=[]) 11 [] [0,1,2,3,4,5,6,7,8,9,10] 2047 2047 [0,0,3,4,8,0,0,96,128,256,528] [0,0,3,7,15,0,0,96,224,480,1023] [(0,true),(1,true),(2,true),(3,true),(4,true),(5,true),(6,true),(7,true),(8,true),(9,true),(10,true)] e (Zas (Zay (Zas (Za0 (Zay (Zay (Zas (Za0 (Zay (Zas Zbb)))))))))) (Zau e e e e (Zau e e e e (Zbk fun x15 h16=>jd_y e (fun w hs=>ZaC e e (hs.arg Rha0) h16) e e (jd_y e (fun w hs=>ZaS e (hs.arg Rha0) h16.1) e e (jd_y e (fun w hs=>ZaQ e (hs.arg Rha0) h16.1 e) e e (Zau e e e e (Zau e e e e (Zbk fun x17 h18=>jd_y e (fun w hs=>ZaC e e (hs.arg Rha0) h18) e e (jd_y e (fun w hs=>ZaS e (hs.arg Rha0) h18.1) e e (jd_y e (fun w hs=>ZaQ e (hs.arg Rha0) h18.1 e) e e ?_))))))))))))))
  refine jdy e (ZaL e e) e e (ZaU [(0,_),(3,_),(4,_),(51,_)] ⟨e,e,e,e,trivial⟩ (Zad (Zai e ?_ ?_)))
  ·refine jqr 12 (Zaf e e e (gz1 2 e (Zad (Zam (ZaI (Zaw (Zbd (ZaI (ZaI (Zaw (Zbd (ZaI (Zaw ?_)))))))))))))
   exact Zaj e (fun w hs=>.tmp e) (fun w hs=>⟨e,hs.drop⟩)
  refine ZaK (ZaG (Zad ?_))
  refine Zar 10 (Zac e e e (jy (Zal e e) e e (Zaf e e e (gz3 0 3 4 e (Zap H13 (w64 (z10 + 1)) () [] (u3 e) e e e)))))
 intro k8 H9
 refine jqr 6 (Zac e e e (Zac e e e (Za6 fun x19 h20=>jg_y (fun w hs=>ZaC e e (hs.arg Rha0) h20) e e (jg_y (fun w hs=>ZaS e (hs.arg Rha0) h20.1) e e (jg_y (fun w hs=>ZaQ e (hs.arg Rha0) h20.1 e) e e (jy (ZaD e e) e e (Zac e e e (Zaq 20 e ?_ ?_))))))))
 ·refine Zaa e e (Zaa e e (Zaa e e (Zaa e e (Zaa e e (Zaa e e (Zaa e e (Zaa e e (Zaa e e (Zaa e e (Zaa e e (Zaa e e (Zaa e e (Zaa e e (jy (Zah e e) e e (gz3 0 3 35 e (Zad ?_))))))))))))))))
  refine Zbo e (jqr 7 (Zaf e e e (gz1 2 e (Zad (Zam (Zaw (ZaI (Zaw (Zbd (ZaI (Zaw ?_)))))))))))
  exact Zaj e (fun w hs=>.tmp e) (fun w hs=>⟨e,hs.drop⟩)
 refine Zac e e e (Zac e e e (Za6 fun x21 h22=>jg_y (fun w hs=>ZaC e e (hs.arg Rha0) h22) e e (jg_y (fun w hs=>ZaS e (hs.arg Rha0) h22.1) e e (jg_y (fun w hs=>ZaQ e (hs.arg Rha0) h22.1 e) e e (jy (Zbt e e) e e (Zac e e e (Zaq 27 e ?_ ?_)))))))
 rotate_left
 ·refine Zaa e e (Zaa e e (Zaa e e (Zaa e e (Zaa e e (Zaa e e (jy (Zae e e) e e (jy (Zae e e) e e (gz3 0 3 35 e (Zad (ZdC e (ZaK (Zap H9 () () [] (u2 e) e e e))))))))))))
 refine Zac e e e (Zac e e e (Za6 fun x23 h24=>jg_y (fun w hs=>ZaC e e (hs.arg Rha0) h24) e e (jg_y (fun w hs=>ZaS e (hs.arg Rha0) h24.1) e e (jg_y (fun w hs=>ZaQ e (hs.arg Rha0) h24.1 e) e e (jy (Zbt e e) e e (jy (Zah e e) e e (jy (Zae e e) e e (gz3 0 3 35 e (Zad (Zai e ?_ ?_))))))))))
 rotate_left
 ·refine ZaK (Zap H9 () () [] (u2 e) e e e)
 refine jqr 7 (Zaf e e e (gz1 2 e (Zad (Zam (Zaw (ZaI (Zaw (Zbd (ZaI (Zaw ?_))))))))))
 exact Zaj e (fun w hs=>.tmp e) (fun w hs=>⟨e,hs.drop⟩)
theorem Zid {w:World}{a0:(List (List Span))}{a1:(List Int)}{a2:Int}{a3:(List Throw)}{ha0:Hd}{qa0:List ((List Span)×Hd)}{ha1:Hd}{ha3:Hd}{v:Int}(hm:ZdY a0 a1 a2 a3 = some v) (Rha1:Sl w ha1 encI a1) (Rha3:Sl w ha3 Throw.enc a3) (eha0:qa0.map (·.1) = a0) (Rha0:Sl w ha0 Nt.enc qa0) (Dha0:∀ p∈qa0,rdN w p):Gives Tryz.prog 75 [ha0.v,ha1.v,.int .i64 a2,ha3.v] w (.int .i64 v):=by
 refine Za4 (vs:=[ha0.v,ha1.v,.int .i64 a2,ha3.v]) (U:=fun (v:Int)=>.int .i64 v) Tryz.func75 e Tryz.ntmps75 e e hm ?_
 unfold ZdY
 clear hm
 refine jqr 0 (Zaf e e e (gz4 0 1 2 3 e (Zad (Zak (jqr 1 (Zac e e e (Zac e e e (Zbc e (fun v w hs hm=>ZfV hm eha0 (hs.arg Rha0) (hs.argN Dha0)) e e fun v1=>Zaf e e e (gz4 0 1 3 9 e (jsr 2 (Zac e e e (jy (Zbt e e) e e (gz5 0 1 3 9 16 e (Zad (Zai e ?_ ?_)))))))))))))))
 ·refine jqr 3 (Zac e e e (Zaf e e e (gz1 8 e (Zad (Zam (Zaw (Zaj e (fun w hs=>.tmp e) (fun w hs=>⟨e,hs.drop⟩))))))))
 refine jks (Za2 (fun (s:Bool) (g:Unit)=>[(1,ha1.v),(10,.bool s)]) (fun s g=>[]) (fun s g=>[]) ?_ ?_)
 rotate_left
 ·intro k4 H5
  refine Zar 4 (Zac e e e (jg_y (fun w hs=>ZaV e (hs.arg Rha1)) e e (Zac e e e (jg_y (fun w hs=>ZbY eha0 e (hs.arg Rha0)) e e (jy (ZaL e e) e e (Zac e e e (Zaq 23 e ?_ ?_)))))))
  ·refine Zac e e e (Zbc e (fun v w hs hm=>ZhO hm (hs.arg Rha3)) e e fun v19=>jy (Zah e e) e e (Zaf e e e (gz2 1 10 e (Zap H5 v19 () [] (u2 e) e e e))))
  refine Zaa e e (Zaa e e (jy (Zae e e) e e (Zaf e e e (gz2 1 10 e (Zap H5 false () [] (u2 e) e e e)))))
 intro z2 q3
 refine Zak (jqr 5 (Zaf e e e (gz3 1 10 11 e (Zad (Zao (Zbj (n:=big) (fun (s:(Bool×Int)) (g:Unit)=>[(1,ha1.v),(10,.bool s.1),(11,.int .i64 s.2)]) (fun s g=>[]) (fun s g=>[]) (z2,0) () [] (u3 e) e e e ?_))))))
 intro z6 q7 n10 k8 H9
 refine Zak (jqr 6 (Zac e e e (Zac e e e (jg_y (fun w hs=>ZaV e (hs.arg Rha1)) e e (jy (ZaD e e) e e (gz4 1 10 11 30 e (Zad (Zai e ?_ ?_))))))))
 rotate_left
 ·refine ZaE (Za9 (Zbe (Zba (Zad ?_))))
  refine Zak (jqr 9 (Zac e e e (jy (Zbl e) e e (gz1 65 e (Zad (Zai e ?_ ?_))))))
  ·refine jqr 10 (Zaf e e e (gz1 8 e (Zad (Zam (Zaw (Zaj e (fun w hs=>.tmp e) (fun w hs=>⟨e,hs.drop⟩)))))))
  refine jks (jqr 11 (Zaf e e e (gz1 8 e (Zad (Zam (Zaj e (fun w hs=>.tmp e) (fun w hs=>⟨e,hs.drop⟩)))))))
 refine jks (Zak (Zao (jdr (L':=[]) 8 [] [0,1,2,3,4,5,6,7,8,9,10,11,12,13,14,15,16,17,18,19,20,21,22,23,24,25,26,27,28,29,30,31] 4294967295 4294967295 [0,1,2,2,14,18,34,66,130,256,256,1792,2304,4352,8448,16640,32768,98304,163840,262144,262144,1835008,2359296,262144,262144,17039360,42205184,67371008,138674176,268730368,536903680,2147483647] [0,1,3,3,15,31,63,127,255,511,511,2047,4095,8191,16383,32767,65535,131071,262143,524287,524287,2097151,4194303,524287,524287,17301503,59244543,126353407,268435455,536870911,1073741823,2147483647] [(0,true),(1,true),(2,true),(3,true),(4,true),(5,true),(6,true),(7,true),(8,true),(9,true),(10,true),(11,true),(12,true),(13,true),(14,true),(15,true),(16,true),(17,true),(18,true),(19,true),(20,true),(21,true),(22,true),(23,true),(24,true),(25,true),(26,true),(27,true),(28,true),(29,true),(30,true),(31,true)] e (Zay (Zas (Za0 (Zay (Zas Zbb))))) (Zau e e e e (Zau e e e e (Zbp 34 e ?_ ?_))))))
 rotate_left
 ·refine Zag e e e (Zag e e e (Zag e e e (Zag e e e (Zag e e e (jdy e (Zae e e) e e (Zau e e e e (Zag e e e (Zag e e e (Zag e e e (Zag e e e (Zag e e e (jdy e (Zae e e) e e (Zau e e e e (Zag e e e (Zag e e e (Zag e e e ?_))))))))))))))))
  refine Zag e e e (Zag e e e (Zag e e e (Zag e e e (Zag e e e (Zag e e e (Zag e e e (Zag e e e (Zag e e e (Zag e e e (Zag e e e (jdy e (Zae e e) e e (Zbz e e e e (ZaU [(1,_),(10,_),(11,_)] ⟨e,e,e,trivial⟩ (ZaG (Zad ?_)))))))))))))))
  refine Zar 7 (Zac e e e (jy (Zal e e) e e (Zaf e e e (gz3 1 10 11 e (Zap H9 (false,w64 (z6.2 + 1)) () [] (u3 e) e e e)))))
 refine Zau e e e e (Zau e e e e (Zbk fun x11 h12=>jd_y e (fun w hs=>ZaC e e (hs.arg Rha1) h12) e e (jd_y e (fun w hs=>ZaQ e (hs.arg Rha1) h12.1 e) e e (jdy e (Zbv e e) e e (jdy e (Zah e e) e e (Zau e e e e (Zbp 41 e ?_ ?_)))))))
 rotate_left
 ·refine Zag e e e (Zag e e e (Zag e e e (Zag e e e (Zag e e e (jdy e (Zae e e) e e (Zau e e e e (Zag e e e (Zag e e e (Zag e e e (Zag e e e (Zag e e e (Zag e e e (Zag e e e (Zag e e e (Zag e e e (Zag e e e ?_))))))))))))))))
  refine Zag e e e (Zag e e e (Zag e e e (Zag e e e (jdy e (Zae e e) e e (Zbz e e e e (ZaU [(1,_),(10,_),(11,_)] ⟨e,e,e,trivial⟩ (ZaG (Zad ?_))))))))
  refine Zar 7 (Zac e e e (jy (Zal e e) e e (Zaf e e e (gz3 1 10 11 e (Zap H9 (false,w64 (z6.2 + 1)) () [] (u3 e) e e e)))))
 refine Zau e e e e (Zau e e e e (Zbk fun x13 h14=>jd_y e (fun w hs=>ZaC e e (hs.arg Rha1) h14) e e (jd_y e (fun w hs=>ZaQ e (hs.arg Rha1) h14.1 e) e e (jdy e (ZbR e e) e e (jdy e (Zah e e) e e (Zau e e e e (Zbp 48 e ?_ ?_)))))))
 rotate_left
 ·refine Zag e e e (Zag e e e (Zag e e e (Zag e e e (Zag e e e (Zag e e e (Zag e e e (Zag e e e (Zag e e e (Zag e e e (Zag e e e (Zag e e e (Zag e e e (Zag e e e (jdy e (Zae e e) e e (Zbz e e e e (ZaU [(1,_),(10,_),(11,_)] ⟨e,e,e,trivial⟩ ?_))))))))))))))))
  refine ZaG (Zad ?_)
  refine Zar 7 (Zac e e e (jy (Zal e e) e e (Zaf e e e (gz3 1 10 11 e (Zap H9 (false,w64 (z6.2 + 1)) () [] (u3 e) e e e)))))
 refine Zau e e e e (jdy e (ZaL e e) e e (Zau e e e e (Zbp 51 e ?_ ?_)))
 ·refine Zag e e e (Zag e e e (Zag e e e (Zag e e e (Zag e e e (Zag e e e (Zag e e e (Zag e e e (Zag e e e (Zag e e e (jdy e (Zah e e) e e (jdy e (Zah e e) e e (Zbz e e e e (ZaU [(1,_),(10,_),(11,_)] ⟨e,e,e,trivial⟩ (ZaG (Zad ?_)))))))))))))))
  refine Zar 7 (Zac e e e (jy (Zal e e) e e (Zaf e e e (gz3 1 10 11 e (Zap H9 (true,w64 (z6.2 + 1)) () [] (u3 e) e e e)))))
 refine Zau e e e e (Zau e e e e (Zbk fun x15 h16=>jd_y e (fun w hs=>ZaC e e (hs.arg Rha1) h16) e e (jd_y e (fun w hs=>ZaQ e (hs.arg Rha1) h16.1 e) e e (Zau e e e e (Zau e e e e (jdy e (ZaZ e e) e e (Zbk fun x17 h18=>jd_y e (fun w hs=>ZaC e e (hs.arg Rha1) h18) e e (jd_y e (fun w hs=>ZaQ e (hs.arg Rha1) h18.1 e) e e (jdy e (Zbv e e) e e (jdy e (Zae e e) e e (jdy e (Zah e e) e e (Zbz e e e e (ZaU [(1,_),(10,_),(11,_)] ⟨e,e,e,trivial⟩ (ZaG (Zad ?_)))))))))))))))
 refine Zar 7 (Zac e e e (jy (Zal e e) e e (Zaf e e e (gz3 1 10 11 e (Zap H9 (decide (x17 ≤ x15),w64 (z6.2 + 1)) () [] (u3 e) e e e)))))
theorem ZfS {w:World}{a0:(List Throw)}{a1:Int}{ha0:Hd}{v:Int}(hm:Zc0 a0 a1 = some v) (Rha0:Sl w ha0 Throw.enc a0):Gives Tryz.prog 76 [ha0.v,.int .i64 a1] w (.int .i64 v):=by
 refine Za4 (vs:=[ha0.v,.int .i64 a1]) (U:=fun (v:Int)=>.int .i64 v) Tryz.func76 e Tryz.ntmps76 e e hm ?_
 unfold Zc0
 clear hm
 refine jqr 0 (Zaf e e e (gz2 0 1 e (Zad (Zak (jqr 1 (Zaf e e e (gz3 0 1 5 e (Zad (Zao (Zbj (n:=big) (fun (s:Int) (g:Unit)=>[(0,ha0.v),(1,.int .i64 a1),(5,.int .i64 s)]) (fun s g=>[]) (fun s g=>[]) 0 () [] (u3 e) e e e ?_))))))))))
 intro z1 q2 n5 k3 H4
 refine Zak (jqr 2 (Zac e e e (Zac e e e (jg_y (fun w hs=>ZaV e (hs.arg Rha0)) e e (jy (ZaD e e) e e (gz4 0 1 5 9 e (Zad (Zai e ?_ ?_))))))))
 rotate_left
 ·refine ZaE (Za9 (Zbe (Zba (Zad ?_))))
  refine jqr 6 (Zaf e e e (gz1 4 e (Zad (Zam (Zaj e (fun w hs=>.tmp e) (fun w hs=>⟨e,hs.drop⟩))))))
 refine jks (Zak (Zao (jqr 4 (Zac e e e (Zac e e e (Za6 fun x6 h7=>jg_y (fun w hs=>ZaC e e (hs.arg Rha0) h7) e e (jg_y (fun w hs=>ZaS e (hs.arg Rha0) h7.1) e e (jg_y (fun w hs=>ZaQ e (hs.arg Rha0) h7.1 e) e e (Zac e e e (jy (ZaL e e) e e (gz4 0 1 5 18 e (Zad (Zai e ?_ ?_)))))))))))))
 rotate_left
 ·refine ZaK (ZaG (Zad ?_))
  refine Zar 3 (Zac e e e (jy (Zal e e) e e (Zaf e e e (gz3 0 1 5 e (Zap H4 (w64 (z1 + 1)) () [] (u3 e) e e e)))))
 refine jqr 5 (Zac e e e (Zac e e e (Za6 fun x8 h9=>jg_y (fun w hs=>ZaC e e (hs.arg Rha0) h9) e e (jg_y (fun w hs=>ZaS e (hs.arg Rha0) h9.1) e e (jg_y (fun w hs=>ZaQ e (hs.arg Rha0) h9.1 e) e e (Zaf e e e (gz1 4 e (Zad (Zam (ZaI (Zaw (Zbd (ZaI (Zaw ?_))))))))))))))
 exact Zaj e (fun w hs=>.tmp e) (fun w hs=>⟨e,hs.drop⟩)
theorem Zgn {w:World}{a0:(List (List Span))}{a1:(List Int)}{a2:Int}{a3:(List Throw)}{ha0:Hd}{qa0:List ((List Span)×Hd)}{ha1:Hd}{ha3:Hd}{v:((List Command)×Int)}(hm:ZcB a0 a1 a2 a3 = some v) (Rha1:Sl w ha1 encI a1) (Rha3:Sl w ha3 Throw.enc a3) (eha0:qa0.map (·.1) = a0) (Rha0:Sl w ha0 Nt.enc qa0) (Dha0:∀ p∈qa0,rdN w p):Calls Tryz.prog 41 ([ha0.v,ha1.v,.int .i64 a2,ha3.v]:List Value).toArray w (fun e w'=>∃ g:Hd,e = .returned (.tuple #[g.v,.int .i64 v.2])∧St w w' [] [(rowH g 132 4 Command.enc v.1)]):=by
 refine ZbN (vs:=[ha0.v,ha1.v,.int .i64 a2,ha3.v]) (R:=fun (v:((List Command)×Int)) (e:Ending) (w':World)=>∃ g:Hd,e = .returned (.tuple #[g.v,.int .i64 v.2])∧St w w' [] [(rowH g 132 4 Command.enc v.1)]) Tryz.func41 e Tryz.ntmps41 e e (St.refl w) hm ?_
 unfold ZcB
 clear hm
 refine jqr 0 (Zaf e e e (Zaf e e e (gz4 0 1 2 3 e (Zad (Zak (jqr 1 (Zac e e e (Zac e e e (Zac e e e (Zac e e e (Zbc e (fun v w hs hm=>Zid hm (hs.arg Rha1) (hs.arg Rha3) eha0 (hs.arg Rha0) (hs.argN Dha0)) e e fun v1=>Zaf e e e (gz5 0 1 2 3 10 e (jsr 2 (Zac e e e (jy (Zbt e e) e e ?_)))))))))))))))
 refine gz6 0 1 2 3 10 30 e (Zad (Zai e ?_ ?_))
 ·refine jqr 3 (Zac e e e (Zaf e e e (Zaf e e e (gz2 8 9 e (Zad (Zam (Zaw (Za3 132 4 Command.enc (Za7 e (fun w hs=>.tmp e) (fun w hs=>.tmp e) (fun w hs=>⟨(Hd.mk none 0 0),e,hs.sel (is:=[0]) e e⟩))))))))))
 refine jks (jqr 4 (Zaf e e e (gz5 0 1 2 3 11 e (Zad (Za2 (fun (s:(List Command)) (g:Hd)=>[(11,g.v)]) (fun s g=>[]) (fun s g=>[(rowH g 132 4 Command.enc s)]) ?_ ?_)))))
 ·intro z2 q3
  refine jqr 38 (Zaf e e e (gz2 11 21 e (Zad (Zak (jqr 39 (Zaf e e e (gz3 11 21 22 e (Zad (Zao (Zbm 132 4 Command.enc (Zbj (n:=big) (fun (s:((List Command)×Int)) (g:Hd)=>[(11,q3.v),(21,g.v),(22,.int .i64 s.2)]) (fun s g=>[]) (fun s g=>[(rowH q3 132 4 Command.enc z2),(rowH g 132 4 Command.enc s.1)]) (([]:List Command),0) (Hd.mk none 0 0) [1,0] (u3 e) e e e ?_)))))))))))
  intro z6 q7 n10 k8 H9
  refine Zak (jqr 40 (Zac e e e (Zac e e e (jg_y (fun w hs=>ZaV e (hs.row 0 e)) e e (jy (ZaD e e) e e (gz4 11 21 22 159 e (Zad (Zai e ?_ ?_))))))))
  rotate_left
  ·refine ZaE (Za9 (Zbe (Zba (Zad ?_))))
   refine jqr 46 (Zac e e e (Zaf e e e (Zaf e e e (gz2 8 9 e (Zad (Zam (Za7 e (fun w hs=>.tmp e) (fun w hs=>.tmp e) (fun w hs=>⟨q7,e,hs.sel (is:=[1]) e e⟩))))))))
  refine jks (Zak (Zao (jqr 42 (Zac e e e (jg_y (fun w hs=>ZaV e (hs.row 1 e)) e e (Zaf e e e (gz4 11 21 22 23 e (Zad (Za2 (fun (s:Int) (g:Unit)=>[(11,q3.v),(21,q7.v),(22,.int .i64 z6.2),(23,.int .i64 s)]) (fun s g=>[]) (fun s g=>[(rowH q3 132 4 Command.enc z2),(rowH q7 132 4 Command.enc z6.1)]) ?_ ?_)))))))))
  ·intro z11 q12
   refine jdr (L':=[_,_]) 45 [0,1] [0,1,2,3,4,5,6,7,9,10,11,8,12] 8191 32767 [0,0,0,7,0,0,48,64,128,0,0,1536,2304,4104,16383] [0,0,0,7,0,0,48,112,240,0,0,1536,4080,8191,16383] [(0,true),(1,true),(2,true),(3,true),(4,true),(5,true),(6,true),(7,true),(9,true),(10,true),(11,true),(8,false),(12,false),(13,false),(14,false)] e (Zay (Zas (Za0 (Zay (Zas Zbb))))) (Zau e e e e (Zau e e e e (Zau e e e e (ZdV fun h15=>jd_y e (fun w hs=>yv_hm e e e (hs.row 1 e) (of_decide_eq_true h15)) e e (Zau e e e e (Zau e e e e (Zbk fun x16 h17=>jd_y e (fun w hs=>ZaC e e (hs.row 0 e) h17) e e (jd_y e (fun w hs=>ZbJ e (hs.row 0 e) h17.1 (l4 e) e) e e (Zau e e e e (Zau e e e e (ZdV fun h18=>jd_y e (fun w hs=>Zkq e e (hs.row 1 e) (of_decide_eq_true h18)) e e (jd_h e (ZaT (enc:=Command.enc) [x16] e e e e e e e e fun hd19=>?_)))))))))))))
   refine ZaA (Zbs [1,2] e (jd_h e (ZaO 0 e e e (fun w hs=>(Sl.lo (sz:=4) (hs.row 2 e) (of_decide_eq_true h18))) e e e fun y20 hd21=>jg_L (r3 e) (ZaA (Zbs [1,2] e (jd_h e (jg_rhm 2 e (of_decide_eq_true h15) (r3 e) (ZaO 2 e e e (fun w hs=>(hs.row 0 e)) e e e fun y22 hd23=>jg_L (r3 e) (ZaA (ZbG e (jf_h e (Zaf e e e (ZaA (ZbG e ?_))))))))))))))
   refine Zbf [(11,_),(21,_),(22,_)] ⟨e,e,e,trivial⟩ (ZaG (Zad ?_))
   refine Zar 41 (Zac e e e (jy (Zal e e) e e (Zaf e e e (gz3 11 21 22 e (Zap H9 (y22,w64 (z6.2 + 1)) hd23 [1,2] (u3 e) e e e)))))
  intro k13 H14
  refine Zao (Zbj (n:=big) (fun (s:Int) (g:Unit)=>[(11,q3.v),(21,q7.v),(22,.int .i64 z6.2),(23,.int .i64 s)]) (fun s g=>[]) (fun s g=>[(rowH q3 132 4 Command.enc z2),(rowH q7 132 4 Command.enc z6.1)]) (z6.1.length:Int) () [0,1] (u4 e) e e e ?_)
  intro z24 q25 n28 k26 H27
  refine Zak (Zak (jdr (L':=[_,_]) 43 [0,1] [0,1,2,3,4,5,6,7,8,9,10,11,12,13,14,15] 65535 65535 [0,1,2,4,4,20,44,68,132,4,4,1540,2052,4100,8452,16388] [0,1,3,7,7,23,63,127,255,7,7,1543,3591,7687,16383,32767] [(0,true),(1,true),(2,true),(3,true),(4,true),(5,true),(6,true),(7,true),(8,true),(9,true),(10,true),(11,true),(12,true),(13,true),(14,true),(15,true)] e (Zas (Zas (Za0 (Zay (Zas (Zay (Zas (Za0 (Zay (Zas Zbb)))))))))) (Zau e e e e (jdy e (Zbh e e) e e (Zau e e e e (Zbp 166 e ?_ ?_))))))
  rotate_left
  ·refine Zag e e e (Zag e e e (Zag e e e (Zag e e e (Zag e e e (Zag e e e (Zag e e e (Zag e e e (Zag e e e (Zag e e e (Zag e e e (Zag e e e (jdy e (Zae e e) e e (ZaU [(11,_),(21,_),(22,_),(23,_),(179,_)] ⟨e,e,e,e,e,trivial⟩ (Zad (ZdC e (ZaE ?_))))))))))))))))
   refine Za9 (Zbe (Zba ?_))
   exact Zap H14 z24 () [0,1] (u4 e) e e e
  refine Zau e e e e (Zau e e e e (jdy e (ZaZ e e) e e (Zbk fun x29 h30=>jd_y e (fun w hs=>ZaC e e (hs.row 1 e) h30) e e (jd_y e (fun w hs=>ZaS e (hs.row 1 e) h30.1) e e (jd_y e (fun w hs=>ZaQ e (hs.row 1 e) h30.1 e) e e (Zau e e e e (Zau e e e e (Zbk fun x31 h32=>jd_y e (fun w hs=>ZaC e e (hs.row 0 e) h32) e e (jd_y e (fun w hs=>ZaS e (hs.row 0 e) h32.1) e e (jd_y e (fun w hs=>ZaQ e (hs.row 0 e) h32.1 e) e e (jdy e (Zbh e e) e e (jdy e (Zah e e) e e (ZaU [(11,_),(21,_),(22,_),(23,_),(179,_)] ⟨e,e,e,e,e,trivial⟩ (Zad ?_))))))))))))))
  refine Zai e ?_ ?_
  rotate_left
  ·refine ZaE (Za9 (Zbe (Zba ?_)))
   exact Zap H14 z24 () [0,1] (u4 e) e e e
  refine jks (Zao (Zar 44 (Zac e e e (jy (ZaZ e e) e e (Zaf e e e (gz4 11 21 22 23 e (ZaG (Zap H27 (w64 (z24 - 1)) () [0,1] (u4 e) e e e))))))))
 intro k4 H5
 refine jqr 5 (Zaf e e e (gz6 0 1 2 3 11 12 e (Zad (Zao (Zbm 132 4 Command.enc (Zbj (n:=big) (fun (s:((List Command)×Int)) (g:Hd)=>[(0,ha0.v),(1,ha1.v),(2,.int .i64 a2),(3,ha3.v),(11,g.v),(12,.int .i64 s.2)]) (fun s g=>[]) (fun s g=>[(rowH g 132 4 Command.enc s.1)]) (([]:List Command),0) (Hd.mk none 0 0) [0] (u6 e) e e e ?_))))))
 intro z33 q34 n37 k35 H36
 refine Zak (jqr 6 (Zac e e e (Zac e e e (jg_y (fun w hs=>ZbY eha0 e (hs.arg Rha0)) e e (jy (ZaD e e) e e (gz7 0 1 2 3 11 12 35 e (Zad (Zai e ?_ ?_))))))))
 rotate_left
 ·refine ZaE (Za9 (Zbe (Zba ?_)))
  exact Zap H5 z33.1 q34 [0] (u1 e) e e e
 refine jks (Zak (Zao (jqr 8 (Zaf e e e (gz7 0 1 2 3 11 12 13 e (Zad (Zao (Zbj (n:=big) (fun (s:((List Command)×Int)) (g:Hd)=>[(0,ha0.v),(1,ha1.v),(2,.int .i64 a2),(3,ha3.v),(11,g.v),(12,.int .i64 z33.2),(13,.int .i64 s.2)]) (fun s g=>[]) (fun s g=>[(rowH g 132 4 Command.enc s.1)]) (z33.1,0) q34 [0] (u7 e) e e e ?_))))))))
 intro z38 q39 n42 k40 H41
 refine Zak (jqr 9 (Zac e e e (Zac e e e (Zac e e e (ZcM (fun w hs=>eha0) fun x43 d45 h44=>?_)))))
 have Rr46:=(Dha0 _ (List.mem_of_getElem? h44.1)).sl (.head _)
 refine jg_y (fun w hs=>ZaC e e (hs.arg Rha0) h44) e e (jg_y (fun w hs=>ZaQ e (hs.arg Rha0) h44.1 e) e e (jg_y (fun w hs=>ZaV e (hs.arg Rr46)) e e (jy (ZaD e e) e e (gz8 0 1 2 3 11 12 13 44 e (Zad (Zai e ?_ ?_))))))
 rotate_left
 ·refine ZaE (Za9 (Zbe (Zba (ZaG (Zad ?_)))))
  refine Zar 7 (Zac e e e (jy (Zal e e) e e (Zaf e e e (gz6 0 1 2 3 11 12 e (Zap H36 (z38.1,w64 (z33.2 + 1)) q39 [0] (u6 e) e e e)))))
 refine jks (Zak (Zao (jqr 11 (Zac e e e (Zac e e e (ZcM (fun w hs=>eha0) fun x47 d49 h48=>?_))))))
 have Rr50:=(Dha0 _ (List.mem_of_getElem? h48.1)).sl (.head _)
 refine jg_y (fun w hs=>ZaC e e (hs.arg Rha0) h48) e e (jg_y (fun w hs=>ZaQ e (hs.arg Rha0) h48.1 e) e e (Zac e e e (Za6 fun x51 h52=>jg_y (fun w hs=>ZaC e e (hs.arg Rr50) h52) e e (jg_y (fun w hs=>ZbJ e (hs.arg Rr50) h52.1 (l4 e) e) e e (ZaR (l4 e) e e fun g53=>Zav 0 e e e (l4 e) e e e e (l4 e) (r2 e) (gz8 0 1 2 3 11 12 13 14 e (Zad (Zak (jqr 12 (jy (Zab e) e e (jgl 0 e e e e e (jy (ZaL e e) e e (gz9 0 1 2 3 11 12 13 14 56 e (Zad ?_))))))))))))))
 refine Zai e ?_ ?_
 ·refine ZaE (Za9 (Zba (Zad ?_)))
  refine Zar 10 (Zac e e e (jy (Zal e e) e e (Zaf e e e (gz7 0 1 2 3 11 12 13 e (Zap H41 (z38.1,w64 (z38.2 + 1)) q39 [1] (u7 e) e e e)))))
 refine jks (jqr 13 (Zac e e e (jy (Zab e) e e (jgl 0 e e e e e (Zbc e (fun v w hs hm=>ZfS hm (hs.arg Rha3)) e e fun v54=>Zaf e e e (gz9 0 1 2 3 11 12 13 14 15 e (Zad (Za2 (fun (s:Int) (g:Unit)=>[(0,ha0.v),(1,ha1.v),(2,.int .i64 a2),(3,ha3.v),(11,q39.v),(12,.int .i64 z33.2),(13,.int .i64 z38.2),(14,.pointer (some ⟨g53,0,none⟩)),(15,.int .i64 s)]) (fun s g=>[]) (fun s g=>[(rowH q39 132 4 Command.enc z38.1),(Res.blk g53 139 [.int .i64 x51.Element,.int .i64 x51.Side,.int .i64 x51.From,.int .i64 x51.To])]) ?_ ?_))))))))
 rotate_left
 ·intro k57 H58
  refine jqr 14 (Zaf e e e (gz10 0 1 2 3 11 12 13 14 15 16 e (Zad (Zao (Zbj (n:=big) (fun (s:(Int×Int)) (g:Unit)=>[(0,ha0.v),(1,ha1.v),(2,.int .i64 a2),(3,ha3.v),(11,q39.v),(12,.int .i64 z33.2),(13,.int .i64 z38.2),(14,.pointer (some ⟨g53,0,none⟩)),(15,.int .i64 s.1),(16,.int .i64 s.2)]) (fun s g=>[]) (fun s g=>[(rowH q39 132 4 Command.enc z38.1),(Res.blk g53 139 [.int .i64 x51.Element,.int .i64 x51.Side,.int .i64 x51.From,.int .i64 x51.To])]) (v54,0) () [1,0] (u10 e) e e e ?_)))))
  intro z97 q98 n101 k99 H100
  refine Zak (jqr 15 (Zac e e e (Zac e e e (jg_y (fun w hs=>ZaV e (hs.row 0 e)) e e (jy (ZaD e e) e e (gz11 0 1 2 3 11 12 13 14 15 16 64 e (Zad (Zai e ?_ ?_))))))))
  rotate_left
  ·refine ZaE (Za9 (Zbe (Zba ?_)))
   exact Zap H58 z97.1 () [0,1] (u9 e) e e e
  refine jks (Zak (Zao (Zak (jdr (L':=[_,_]) 17 [0,1] [0,1,2,3,4,5,6,7] 255 255 [0,0,3,4,8,0,32,80] [0,0,3,7,15,0,32,127] [(0,true),(1,true),(2,true),(3,true),(4,true),(5,true),(6,true),(7,true)] e (Zas (Zay (Zas (Za0 (Zay (Zas (Zay (Zas (Za0 (Zay (Zay (Zas (Za0 (Zay (Zas Zbb))))))))))))))) (Zau e e e e (Zau e e e e (Zbk fun x102 h103=>jd_y e (fun w hs=>ZaC e e (hs.row 0 e) h103) e e (jd_y e (fun w hs=>ZaS e (hs.row 0 e) h103.1) e e (jd_y e (fun w hs=>ZaQ e (hs.row 0 e) h103.1 e) e e (jdy e (Zab e) e e (jdl 1 e e e e e e (jdy e (ZaL e e) e e (ZaU [(0,_),(1,_),(2,_),(3,_),(11,_),(12,_),(13,_),(14,_),(15,_),(16,_),(74,_)] ⟨e,e,e,e,e,e,e,e,e,e,e,trivial⟩ (Zad (Zai e ?_ ?_)))))))))))))))
  rotate_left
  ·refine ZaK (ZaG (Zad ?_))
   refine Zar 16 (Zac e e e (jy (Zal e e) e e (Zaf e e e (gz10 0 1 2 3 11 12 13 14 15 16 e (Zap H100 (z97.1,w64 (z97.2 + 1)) () [0,1] (u10 e) e e e)))))
  refine Zar 18 (Zac e e e (Zac e e e (Za6 fun x104 h105=>jg_y (fun w hs=>ZaC e e (hs.row 0 e) h105) e e (jg_y (fun w hs=>ZaS e (hs.row 0 e) h105.1) e e (jg_y (fun w hs=>ZaQ e (hs.row 0 e) h105.1 e) e e (Zaf e e e (gz10 0 1 2 3 11 12 13 14 15 16 e (ZaG (Zad ?_)))))))))
  refine Zar 16 (Zac e e e (jy (Zal e e) e e (Zaf e e e (gz10 0 1 2 3 11 12 13 14 15 16 e (Zap H100 (x104.Side,w64 (z97.2 + 1)) () [0,1] (u10 e) e e e)))))
 intro z55 q56
 refine Zak (jqr 19 (Zac e e e (jy (Zab e) e e (jgl 1 e e e e e (jy (ZaL e e) e e (gz9 0 1 2 3 11 12 13 14 83 e (Zad (Zai e ?_ ?_))))))))
 ·refine ZaE (Za9 (Zba (Zad ?_)))
  refine Zar 10 (Zac e e e (jy (Zal e e) e e (Zaf e e e (gz7 0 1 2 3 11 12 13 e (Zap H41 (z38.1,w64 (z38.2 + 1)) q39 [0] (u7 e) e e e)))))
 refine jks (jqr 20 (jy (Zab e) e e (jgl 1 e e e e e (jy (Zab e) e e (jgl 1 e e e e e (Zac e e e (jy (ZaX e (o4 e)) e e (ZaR (l4 e) e e fun g59=>Zav 0 e e e (l4 e) e e e e (l4 e) (r3 e) (gz9 0 1 2 3 11 12 13 14 17 e (jsr 21 (Zaf e e e (gz10 0 1 2 3 11 12 13 14 17 18 e (Zad (Za2 (fun (s:(Int×Bool)) (g:Unit)=>[(0,ha0.v),(1,ha1.v),(2,.int .i64 a2),(3,ha3.v),(11,q39.v),(12,.int .i64 z33.2),(13,.int .i64 z38.2),(14,.pointer (some ⟨g53,0,none⟩)),(17,.pointer (some ⟨g59,0,none⟩)),(18,.bool s.2)]) (fun s g=>[]) (fun s g=>[(rowH q39 132 4 Command.enc z38.1),(Res.blk g53 139 [.int .i64 x51.Element,.int .i64 x51.Side,.int .i64 x51.From,.int .i64 x51.To]),(Res.blk g59 132 [.int .i64 s.1,.int .i64 x51.Element,.int .i64 x51.Side,.int .i64 z33.2])]) ?_ ?_))))))))))))))
 ·intro z60 q61
  refine Zak (jqr 29 (Zac e e e (gz10 0 1 2 3 11 12 13 14 17 133 e (Zad (Zai e ?_ ?_)))))
  ·refine jqr 30 (Zaf e e e (Zaf e e e (gz2 8 9 e (ZaF (is:=[]) (s0 e) e (Zad (Zam (Zaw (ZaI (Zaw (Zbd (ZaI (ZaI (Zaw (Zbd (ZaI (Zaw ?_))))))))))))))))
   refine Za3 132 4 Command.enc (Za7 e (fun w hs=>.tmp e) (fun w hs=>.tmp e) (fun w hs=>⟨(Hd.mk none 0 0),e,hs.sel (is:=[0]) e e⟩))
  refine jks (Zak (jqr 31 (jy (Zab e) e e (jgl 2 e e e e e (jy (Zbh e e) e e (gz10 0 1 2 3 11 12 13 14 17 136 e (Zad (Zai e ?_ ?_))))))))
  ·refine jqr 32 (Zaf e e e (Zaf e e e (gz2 8 9 e (ZaF (is:=[]) (s0 e) e (Zad (Zam (Zaw (ZaI (Zaw (Zbd (ZaI (ZaI (Zaw (Zbd (ZaI (Zaw ?_))))))))))))))))
   refine Za3 132 4 Command.enc (Za7 e (fun w hs=>.tmp e) (fun w hs=>.tmp e) (fun w hs=>⟨(Hd.mk none 0 0),e,hs.sel (is:=[0]) e e⟩))
  refine jks (Zak (Zak (jdr (L':=[_,_,_]) 33 [0,1,2] [0,1,2,3,4,5,6,7,8,9,10,11] 4095 4095 [0,1,0,6,0,0,48,64,0,256,640,1032] [0,1,0,7,0,0,48,112,0,256,1008,2047] [(0,true),(1,true),(2,true),(3,true),(4,true),(5,true),(6,true),(7,true),(8,true),(9,true),(10,true),(11,true)] e (Zas (Zas (Zay (Zas (Za0 (Zay (Zay (Zas (Za0 (Zay (Zas Zbb))))))))))) (jdy e (Zab e) e e (jdl 2 e e e e e e (Zau e e e e (jdy e (Zal e e) e e (Zau e e e e (Zau e e e e (Zbk fun x64 h65=>jd_y e (fun w hs=>ZaC e e (hs.arg Rha1) h65) e e (jd_y e (fun w hs=>ZaQ e (hs.arg Rha1) h65.1 e) e e (jdy e (Zab e) e e (jdl 1 e e e e e e (jdy e (Zal e e) e e (jdy e (Zbh e e) e e ?_)))))))))))))))
  refine ZaU [(0,_),(1,_),(2,_),(3,_),(11,_),(12,_),(13,_),(17,_),(148,_)] ⟨e,e,e,e,e,e,e,e,e,trivial⟩ (Zad (Zai e ?_ ?_))
  ·refine jqr 34 (Zaf e e e (Zaf e e e (gz2 8 9 e (ZaF (is:=[]) (s0 e) e (Zad (Zam (Zaw (ZaI (Zaw (Zbd (ZaI (ZaI (Zaw (Zbd (ZaI (Zaw ?_))))))))))))))))
   refine Za3 132 4 Command.enc (Za7 e (fun w hs=>.tmp e) (fun w hs=>.tmp e) (fun w hs=>⟨(Hd.mk none 0 0),e,hs.sel (is:=[0]) e e⟩))
  refine jks (Zak (jqr 35 (Zac e e e (jg_y (fun w hs=>ZaV e (hs.row 0 e)) e e (jy (ZaL e e) e e (gz9 0 1 2 3 11 12 13 17 151 e (Zad (Zai e ?_ ?_))))))))
  ·refine jqr 36 (Zaf e e e (Zaf e e e (gz2 8 9 e (ZaF (is:=[]) (s0 e) e (Zad (Zam (Zaw (ZaI (Zaw (Zbd (ZaI (ZaI (Zaw (Zbd (ZaI (Zaw ?_))))))))))))))))
   refine Za3 132 4 Command.enc (Za7 e (fun w hs=>.tmp e) (fun w hs=>.tmp e) (fun w hs=>⟨(Hd.mk none 0 0),e,hs.sel (is:=[0]) e e⟩))
  refine jks (Zar 37 (Zac e e e (jg_y (fun w hs=>ZaJ e (ldBB (hs.blkL (i:=2) e) e)) e e (ZaT (enc:=Command.enc) [(Command.mk z60.1 x51.Element x51.Side z33.2)] e e e e e e e e fun hd66=>ZaO 1 e e e (fun w hs=>(hs.row 0 e)) e e e fun y67 hd68=>jg_L (r4 e) (Zaf e e e (gz7 0 1 2 3 11 12 13 e (ZaF (is:=[1]) (s1 e) e (ZaG (Zad ?_)))))))))
  refine Zar 10 (Zac e e e (jy (Zal e e) e e (Zaf e e e (gz7 0 1 2 3 11 12 13 e (Zap H41 (y67,w64 (z38.2 + 1)) hd68 [0] (u7 e) e e e)))))
 intro k62 H63
 refine jqr 22 (Zaf e e e (gz11 0 1 2 3 11 12 13 14 17 18 19 e (Zad (Zao (Zbj (n:=big) (fun (s:(Int×Bool×Int)) (g:Unit)=>[(0,ha0.v),(1,ha1.v),(2,.int .i64 a2),(3,ha3.v),(11,q39.v),(12,.int .i64 z33.2),(13,.int .i64 z38.2),(14,.pointer (some ⟨g53,0,none⟩)),(17,.pointer (some ⟨g59,0,none⟩)),(18,.bool s.2.1),(19,.int .i64 s.2.2)]) (fun s g=>[]) (fun s g=>[(rowH q39 132 4 Command.enc z38.1),(Res.blk g53 139 [.int .i64 x51.Element,.int .i64 x51.Side,.int .i64 x51.From,.int .i64 x51.To]),(Res.blk g59 132 [.int .i64 s.1,.int .i64 x51.Element,.int .i64 x51.Side,.int .i64 z33.2])]) (0,false,0) () [1,2,0] (u11 e) e e e ?_)))))
 intro z69 q70 n73 k71 H72
 refine Zak (jqr 23 (Zac e e e (Zac e e e (jy (ZaD e e) e e (gz12 0 1 2 3 11 12 13 14 17 18 19 92 e (Zad (Zai e ?_ ?_)))))))
 rotate_left
 ·refine ZaE (Za9 (Zbe (Zba ?_)))
  exact Zap H63 (z69.1,z69.2.1) () [0,1,2] (u10 e) e e e
 refine jks (Zak (Zao (Zak (jdr (L':=[_,_,_]) 25 [0,1,2] [0,1,2,3,4,5,6,7] 255 255 [0,0,3,4,0,16,40,127] [0,0,3,7,0,16,63,127] [(0,true),(1,true),(2,true),(3,true),(4,true),(5,true),(6,true),(7,true)] e (Zas (Zay (Zas (Za0 (Zay (Zas (Zay (Zas (Za0 (Zay (Zay (Zas (Za0 (Zay (Zas Zbb))))))))))))))) (Zau e e e e (Zau e e e e (ZcE (fun w hs=>eha0) fun x74 d76 h75=>?_)))))))
 have Rr77:=(Dha0 _ (List.mem_of_getElem? h75.1)).sl (.head _)
 refine jd_y e (fun w hs=>ZaC e e (hs.arg Rha0) h75) e e (jd_y e (fun w hs=>ZaQ e (hs.arg Rha0) h75.1 e) e e (jdy e (Zab e) e e (jdl 1 e e e e e e (Zcc e e (fun v w hs hm=>ZgK hm (hs.arg Rr77)) e e fun v78=>Zbz e e e e (ZaU [(0,_),(1,_),(2,_),(3,_),(11,_),(12,_),(13,_),(14,_),(17,_),(18,_),(19,_),(20,_)] ⟨e,e,e,e,e,e,e,e,e,e,e,e,trivial⟩ (jsr 26 (Zac e e e (jy (Zbv e e) e e (gz13 0 1 2 3 11 12 13 14 17 18 19 20 103 e (Zad (Zai e ?_ ?_)))))))))))
 rotate_left
 ·refine ZaK (ZaG (Zad ?_))
  refine Zar 24 (Zac e e e (jy (Zal e e) e e (Zaf e e e (gz11 0 1 2 3 11 12 13 14 17 18 19 e (Zap H72 (z69.1,z69.2.1,w64 (z69.2.2 + 1)) () [0,1,2] (u11 e) e e e)))))
 refine Za2 (fun (s:Bool) (g:Unit)=>[(0,ha0.v),(1,ha1.v),(2,.int .i64 a2),(3,ha3.v),(11,q39.v),(12,.int .i64 z33.2),(13,.int .i64 z38.2),(14,.pointer (some ⟨g53,0,none⟩)),(17,.pointer (some ⟨g59,0,none⟩)),(18,.bool s),(19,.int .i64 z69.2.2),(20,.int .i64 v78)]) (fun s g=>[]) (fun s g=>[(rowH q39 132 4 Command.enc z38.1),(Res.blk g53 139 [.int .i64 x51.Element,.int .i64 x51.Side,.int .i64 x51.From,.int .i64 x51.To]),(Res.blk g59 132 [.int .i64 z69.1,.int .i64 x51.Element,.int .i64 x51.Side,.int .i64 z33.2])]) ?_ ?_
 rotate_left
 ·intro k81 H82
  refine Zar 27 (Zac e e e (Zac e e e (Zaq 105 e ?_ ?_)))
  ·refine Zaa e e (Zaa e e (Zaa e e (Zaa e e (Zaa e e (Zaa e e (Zaa e e (Zaa e e (Zaa e e (jy (Zah e e) e e (Zaf e e e (gz12 0 1 2 3 11 12 13 14 17 18 19 20 e (Zap H82 true () [0,1,2] (u12 e) e e e))))))))))))
  refine Zac e e e (Zac e e e (ZcM (fun w hs=>eha0) fun x91 d93 h92=>?_))
  have Rr94:=(Dha0 _ (List.mem_of_getElem? h92.1)).sl (.head _)
  refine jg_y (fun w hs=>ZaC e e (hs.arg Rha0) h92) e e (jg_y (fun w hs=>ZaQ e (hs.arg Rha0) h92.1 e) e e (Zac e e e (Za6 fun x95 h96=>jg_y (fun w hs=>ZaC e e (hs.arg Rr94) h96) e e (jg_y (fun w hs=>ZaS e (hs.arg Rr94) h96.1) e e (jg_y (fun w hs=>ZaQ e (hs.arg Rr94) h96.1 e) e e (jy (ZaL e e) e e (jy (Zae e e) e e (Zaf e e e (gz12 0 1 2 3 11 12 13 14 17 18 19 20 e (Zap H82 (decide (x95.To = 1000000000)) () [0,1,2] (u12 e) e e e))))))))))
 intro z79 q80
 refine jdr (L':=[_,_,_]) 28 [0,1,2] [0,1,2,3,4,5,6,7,8,9,10,11,12,13,14,15,16] 131071 262143 [0,1,0,0,12,16,0,0,192,256,0,1536,2048,4096,8224,16386,65535,131071] [0,1,0,0,12,28,0,0,192,448,0,1984,4032,8128,16380,32767,65535,131071] [(0,true),(1,true),(2,true),(3,true),(4,true),(5,true),(6,true),(7,true),(8,true),(9,true),(10,true),(11,true),(12,true),(13,true),(14,true),(15,true),(16,true),(17,false)] e (Zay (Zas (Za0 (Zay (Zas (Zay (Zas (Za0 (Zay (Zay (Zas (Za0 (Zay (Zas Zbb)))))))))))))) (jdy e (Zab e) e e (jdl 2 e e e e e e (Zau e e e e (Zau e e e e (Zbk fun x83 h84=>jd_y e (fun w hs=>ZaC e e (hs.arg Rha1) h84) e e (jd_y e (fun w hs=>ZaQ e (hs.arg Rha1) h84.1 e) e e (Zau e e e e (Zau e e e e (ZcE (fun w hs=>eha0) fun x85 d87 h86=>?_)))))))))
 have Rr88:=(Dha0 _ (List.mem_of_getElem? h86.1)).sl (.head _)
 refine jd_y e (fun w hs=>ZaC e e (hs.arg Rha0) h86) e e (jd_y e (fun w hs=>ZaQ e (hs.arg Rha0) h86.1 e) e e (Zau e e e e (Zbk fun x89 h90=>jd_y e (fun w hs=>ZaC e e (hs.arg Rr88) h90) e e (jd_y e (fun w hs=>ZaS e (hs.arg Rr88) h90.1) e e (jd_y e (fun w hs=>ZaQ e (hs.arg Rr88) h90.1 e) e e (jdy e (Zal e e) e e (jdy e (ZeI e e) e e (jdy e (Zab e) e e (jd_h e (Zav 2 e e e (l1 e) e e e e (l4 e) (r3 e) (ZaA (ZbG e (Zbf [(0,_),(1,_),(2,_),(3,_),(11,_),(12,_),(13,_),(14,_),(17,_),(18,_),(19,_)] ⟨e,e,e,e,e,e,e,e,e,e,e,trivial⟩ (ZaG (Zad ?_)))))))))))))))
 refine Zar 24 (Zac e e e (jy (Zal e e) e e (Zaf e e e (gz11 0 1 2 3 11 12 13 14 17 18 19 e (Zap H72 (max z69.1 (w64 (x83 + x89.To)),z79,w64 (z69.2.2 + 1)) () [0,1,2] (u11 e) e e e)))))
end Go.Proofs.YtdgminllobhncaaGreat
