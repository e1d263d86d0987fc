/-
  The data of the program, as plain structures, and how they lie in memory.
-/
import Derived.Test.YtbbcpffbdadnoaaLift
namespace Go.Hy
set_option linter.unusedVariables false
set_option linter.unusedSimpArgs false
set_option maxHeartbeats 2000000
set_option maxRecDepth 100000
structure Interval where
  Lo : Int
  Hi : Int
deriving DecidableEq
structure Arr2Int where
  a0 : Int
  a1 : Int
deriving DecidableEq
structure HumpgenMaker where
  fl : (List Int)
  fn : Int
deriving DecidableEq
structure Arr3Bool where
  a0 : Bool
  a1 : Bool
  a2 : Bool
deriving DecidableEq
def Interval.enc (x : Interval) : List Value := [.int .i64 x.Lo, .int .i64 x.Hi]
instance : En Interval.enc 2 := ⟨fun _ => rfl, fun a u hu => by
  simp only [Interval.enc, List.mem_cons, List.not_mem_nil, or_false] at hu
  rcases hu with rfl | rfl <;> rfl, by decide⟩
def Arr2Int.enc (x : Arr2Int) : List Value := [.int .i64 x.a0, .int .i64 x.a1]
instance : En Arr2Int.enc 2 := ⟨fun _ => rfl, fun a u hu => by
  simp only [Arr2Int.enc, List.mem_cons, List.not_mem_nil, or_false] at hu
  rcases hu with rfl | rfl <;> rfl, by decide⟩
def Arr3Bool.enc (x : Arr3Bool) : List Value := [.bool x.a0, .bool x.a1, .bool x.a2]
instance : En Arr3Bool.enc 3 := ⟨fun _ => rfl, fun a u hu => by
  simp only [Arr3Bool.enc, List.mem_cons, List.not_mem_nil, or_false] at hu
  rcases hu with rfl | rfl | rfl <;> rfl, by decide⟩
end Go.Hy
