/-
  The data of the program, as plain structures, and how they lie in memory.
-/
import Derived.Test.YtdgminllobhncaaGreatSMap
namespace Go.Hy
set_option linter.unusedVariables false
set_option linter.unusedSimpArgs false
set_option maxHeartbeats 2000000
set_option maxRecDepth 100000
structure HumpgenMaker where
  fl : (List Int)
  fn : Int
deriving DecidableEq
structure Piece where
  Element : Int
  Length : Int
  Grade : Int
  Curve : Int
  Power : Int
deriving DecidableEq
structure Interval where
  Lo : Int
  Hi : Int
deriving DecidableEq
structure Motion where
  Speed : Interval
  Class : (List Interval)
  Error : Int
  Targets : (List Int)
deriving DecidableEq
structure Run where
  Speed : Int
  Resist : (List Int)
  Targets : (List Int)
deriving DecidableEq
structure Moment where
  Time : Int
  Energy : Int
deriving DecidableEq
structure Border where
  Section : Int
  Detector : Int
  Sense : Int
deriving DecidableEq
structure Pulse where
  Detector : Int
  Time : Int
  Direction : Int
deriving DecidableEq
structure SectionPlace where
  fsection : Int
  fdetector : Int
deriving DecidableEq
def SectionPlace.kv (x : SectionPlace) : Value := .agg #[.int .i64 x.fsection, .int .i64 x.fdetector]
def Piece.enc (x : Piece) : List Value := [.int .i64 x.Element, .int .i64 x.Length, .int .i64 x.Grade, .int .i64 x.Curve, .int .i64 x.Power]
instance : En Piece.enc 5 := ⟨fun _ => rfl, fun a u hu => by
  simp only [Piece.enc, List.mem_cons, List.not_mem_nil, or_false] at hu
  rcases hu with rfl | rfl | rfl | rfl | rfl <;> rfl, by decide⟩
def Interval.enc (x : Interval) : List Value := [.int .i64 x.Lo, .int .i64 x.Hi]
instance : En Interval.enc 2 := ⟨fun _ => rfl, fun a u hu => by
  simp only [Interval.enc, List.mem_cons, List.not_mem_nil, or_false] at hu
  rcases hu with rfl | rfl <;> rfl, by decide⟩
def Moment.enc (x : Moment) : List Value := [.int .i64 x.Time, .int .i64 x.Energy]
instance : En Moment.enc 2 := ⟨fun _ => rfl, fun a u hu => by
  simp only [Moment.enc, List.mem_cons, List.not_mem_nil, or_false] at hu
  rcases hu with rfl | rfl <;> rfl, by decide⟩
def Border.enc (x : Border) : List Value := [.int .i64 x.Section, .int .i64 x.Detector, .int .i64 x.Sense]
instance : En Border.enc 3 := ⟨fun _ => rfl, fun a u hu => by
  simp only [Border.enc, List.mem_cons, List.not_mem_nil, or_false] at hu
  rcases hu with rfl | rfl | rfl <;> rfl, by decide⟩
def Pulse.enc (x : Pulse) : List Value := [.int .i64 x.Detector, .int .i64 x.Time, .int .i64 x.Direction]
instance : En Pulse.enc 3 := ⟨fun _ => rfl, fun a u hu => by
  simp only [Pulse.enc, List.mem_cons, List.not_mem_nil, or_false] at hu
  rcases hu with rfl | rfl | rfl <;> rfl, by decide⟩
def SectionPlace.enc (x : SectionPlace) : List Value := [.int .i64 x.fsection, .int .i64 x.fdetector]
instance : En SectionPlace.enc 2 := ⟨fun _ => rfl, fun a u hu => by
  simp only [SectionPlace.enc, List.mem_cons, List.not_mem_nil, or_false] at hu
  rcases hu with rfl | rfl <;> rfl, by decide⟩
end Go.Hy
