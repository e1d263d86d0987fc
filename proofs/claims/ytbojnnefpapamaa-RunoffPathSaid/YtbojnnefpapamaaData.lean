/-
  The data of the program, as plain structures, and how they lie in memory.
-/
import Derived.Test.YtbojnnefpapamaaMap
namespace Go.Hy
set_option linter.unusedVariables false
set_option linter.unusedSimpArgs false
set_option maxHeartbeats 2000000
set_option maxRecDepth 100000
structure Element where
  Kind : Int
  Name : ByteArray
  Parent : Int
  Side : Int
  Length : Int
  Grade : Int
  Curve : Int
  Power : Int
deriving DecidableEq
structure HumpgenMaker where
  fl : (List Int)
  fn : Int
deriving DecidableEq
structure Arr2Int where
  a0 : Int
  a1 : Int
deriving DecidableEq
structure Piece where
  Element : Int
  Length : Int
  Grade : Int
  Curve : Int
  Power : Int
deriving DecidableEq
structure LayoutPlace where
  fparent : Int
  fside : Int
deriving DecidableEq
structure Run where
  Speed : Int
  Resist : (List Int)
  Targets : (List Int)
deriving DecidableEq
structure Moment where
  Time : Int
  Energy : Int
deriving DecidableEq
structure Interval where
  Lo : Int
  Hi : Int
deriving DecidableEq
structure Motion where
  Speed : Interval
  Class : (List Interval)
  Error : Int
  Targets : (List Int)
deriving DecidableEq
structure Passage where
  Time : Interval
  Energy : Interval
  Slow : Bool
  Stops : Bool
deriving DecidableEq
structure RunoffState where
  ftime : Interval
  fenergy : Interval
  fslow : Bool
deriving DecidableEq
def LayoutPlace.kv (x : LayoutPlace) : Value := .agg #[.int .i64 x.fparent, .int .i64 x.fside]
def Element.enc (x : Element) : List Value := [.int .i64 x.Kind, .string x.Name, .int .i64 x.Parent, .int .i64 x.Side, .int .i64 x.Length, .int .i64 x.Grade, .int .i64 x.Curve, .int .i64 x.Power]
instance : En Element.enc 8 := ⟨fun _ => rfl, fun a u hu => by
  simp only [Element.enc, List.mem_cons, List.not_mem_nil, or_false] at hu
  rcases hu with rfl | rfl | rfl | rfl | rfl | rfl | rfl | rfl <;> rfl, by decide⟩
def Arr2Int.enc (x : Arr2Int) : List Value := [.int .i64 x.a0, .int .i64 x.a1]
instance : En Arr2Int.enc 2 := ⟨fun _ => rfl, fun a u hu => by
  simp only [Arr2Int.enc, List.mem_cons, List.not_mem_nil, or_false] at hu
  rcases hu with rfl | rfl <;> rfl, by decide⟩
def Piece.enc (x : Piece) : List Value := [.int .i64 x.Element, .int .i64 x.Length, .int .i64 x.Grade, .int .i64 x.Curve, .int .i64 x.Power]
instance : En Piece.enc 5 := ⟨fun _ => rfl, fun a u hu => by
  simp only [Piece.enc, List.mem_cons, List.not_mem_nil, or_false] at hu
  rcases hu with rfl | rfl | rfl | rfl | rfl <;> rfl, by decide⟩
def LayoutPlace.enc (x : LayoutPlace) : List Value := [.int .i64 x.fparent, .int .i64 x.fside]
instance : En LayoutPlace.enc 2 := ⟨fun _ => rfl, fun a u hu => by
  simp only [LayoutPlace.enc, List.mem_cons, List.not_mem_nil, or_false] at hu
  rcases hu with rfl | rfl <;> rfl, by decide⟩
def Moment.enc (x : Moment) : List Value := [.int .i64 x.Time, .int .i64 x.Energy]
instance : En Moment.enc 2 := ⟨fun _ => rfl, fun a u hu => by
  simp only [Moment.enc, List.mem_cons, List.not_mem_nil, or_false] at hu
  rcases hu with rfl | rfl <;> rfl, by decide⟩
def Interval.enc (x : Interval) : List Value := [.int .i64 x.Lo, .int .i64 x.Hi]
instance : En Interval.enc 2 := ⟨fun _ => rfl, fun a u hu => by
  simp only [Interval.enc, List.mem_cons, List.not_mem_nil, or_false] at hu
  rcases hu with rfl | rfl <;> rfl, by decide⟩
def Passage.enc (x : Passage) : List Value := [.int .i64 x.Time.Lo, .int .i64 x.Time.Hi, .int .i64 x.Energy.Lo, .int .i64 x.Energy.Hi, .bool x.Slow, .bool x.Stops]
instance : En Passage.enc 6 := ⟨fun _ => rfl, fun a u hu => by
  simp only [Passage.enc, List.mem_cons, List.not_mem_nil, or_false] at hu
  rcases hu with rfl | rfl | rfl | rfl | rfl | rfl <;> rfl, by decide⟩
def RunoffState.enc (x : RunoffState) : List Value := [.int .i64 x.ftime.Lo, .int .i64 x.ftime.Hi, .int .i64 x.fenergy.Lo, .int .i64 x.fenergy.Hi, .bool x.fslow]
instance : En RunoffState.enc 5 := ⟨fun _ => rfl, fun a u hu => by
  simp only [RunoffState.enc, List.mem_cons, List.not_mem_nil, or_false] at hu
  rcases hu with rfl | rfl | rfl | rfl | rfl <;> rfl, by decide⟩
end Go.Hy
