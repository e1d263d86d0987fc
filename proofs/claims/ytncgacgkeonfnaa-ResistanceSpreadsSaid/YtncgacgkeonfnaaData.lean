/-
  The data of the program, as plain structures, and how they lie in memory.
-/
import Derived.Test.YtncgacgkeonfnaaLift
namespace Go.Hy
set_option linter.unusedVariables false
set_option linter.unusedSimpArgs false
set_option maxHeartbeats 2000000
set_option maxRecDepth 100000
structure Resistance where
  Mass : Int
  Lo : Int
  Hi : Int
deriving DecidableEq
structure Sample where
  Length : Int
  Grade : Int
  Before : Int
  Behind : Int
deriving DecidableEq
structure Interval where
  Lo : Int
  Hi : Int
deriving DecidableEq
structure Weather where
  Wind : Interval
  Cold : Interval
deriving DecidableEq
structure HumpgenMaker where
  fl : (List Int)
  fn : Int
deriving DecidableEq
structure Piece where
  Element : Int
  Length : Int
  Grade : Int
  Curve : Int
  Power : Int
deriving DecidableEq
def Resistance.enc (x : Resistance) : List Value := [.int .i64 x.Mass, .int .i64 x.Lo, .int .i64 x.Hi]
instance : En Resistance.enc 3 := ⟨fun _ => rfl, fun a u hu => by
  simp only [Resistance.enc, List.mem_cons, List.not_mem_nil, or_false] at hu
  rcases hu with rfl | rfl | rfl <;> rfl, by decide⟩
def Sample.enc (x : Sample) : List Value := [.int .i64 x.Length, .int .i64 x.Grade, .int .i64 x.Before, .int .i64 x.Behind]
instance : En Sample.enc 4 := ⟨fun _ => rfl, fun a u hu => by
  simp only [Sample.enc, List.mem_cons, List.not_mem_nil, or_false] at hu
  rcases hu with rfl | rfl | rfl | rfl <;> rfl, by decide⟩
def Interval.enc (x : Interval) : List Value := [.int .i64 x.Lo, .int .i64 x.Hi]
instance : En Interval.enc 2 := ⟨fun _ => rfl, fun a u hu => by
  simp only [Interval.enc, List.mem_cons, List.not_mem_nil, or_false] at hu
  rcases hu with rfl | rfl <;> rfl, by decide⟩
def Weather.enc (x : Weather) : List Value := [.int .i64 x.Wind.Lo, .int .i64 x.Wind.Hi, .int .i64 x.Cold.Lo, .int .i64 x.Cold.Hi]
instance : En Weather.enc 4 := ⟨fun _ => rfl, fun a u hu => by
  simp only [Weather.enc, List.mem_cons, List.not_mem_nil, or_false] at hu
  rcases hu with rfl | rfl | rfl | rfl <;> rfl, by decide⟩
def Piece.enc (x : Piece) : List Value := [.int .i64 x.Element, .int .i64 x.Length, .int .i64 x.Grade, .int .i64 x.Curve, .int .i64 x.Power]
instance : En Piece.enc 5 := ⟨fun _ => rfl, fun a u hu => by
  simp only [Piece.enc, List.mem_cons, List.not_mem_nil, or_false] at hu
  rcases hu with rfl | rfl | rfl | rfl | rfl <;> rfl, by decide⟩
end Go.Hy
