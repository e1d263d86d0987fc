/-
  Facts on the types and functions that this seat's functions meet, each a closed fact of the loaded program. Printed by a program.
-/
import Derived.Test.YtbojnnefpapamaaClo
import Derived.Test.YtbojnnefpapamaaProg
namespace Go.Proofs.Ytbojnnefpapamaa
open Go.Hy

instance : C1 Try.prog 3 := ⟨⟨_, Try.underlying3, trivial⟩⟩
instance : CN Try.prog 3 1 := ⟨by kernel_rfl⟩
instance : CZ Try.prog 3 (.int .i64 0) := ⟨by kernel_rfl⟩
instance : C1 Try.prog 4 := ⟨⟨_, Try.underlying4, trivial⟩⟩
instance : CN Try.prog 4 1 := ⟨by kernel_rfl⟩
instance : CZ Try.prog 4 (.bool false) := ⟨by kernel_rfl⟩
instance : C1 Try.prog 9 := ⟨⟨_, Try.underlying9, trivial⟩⟩
instance : CN Try.prog 9 1 := ⟨by kernel_rfl⟩
instance : CZ Try.prog 9 (.string ⟨#[]⟩) := ⟨by kernel_rfl⟩
instance : CS Try.prog 24 2 := ⟨⟨_, Try.underlying24, trivial⟩, by kernel_rfl⟩
instance : CN Try.prog 24 2 := ⟨by kernel_rfl⟩
instance : CZ Try.prog 24 (.agg #[.int .i64 0, .int .i64 0]) := ⟨by kernel_rfl⟩
instance : C1 Try.prog 25 := ⟨⟨_, Try.underlying25, trivial⟩⟩
instance : CN Try.prog 25 1 := ⟨by kernel_rfl⟩
instance : CZ Try.prog 25 (.slice none 0 0) := ⟨by kernel_rfl⟩
instance : C1 Try.prog 26 := ⟨⟨_, Try.underlying26, trivial⟩⟩
instance : CN Try.prog 26 1 := ⟨by kernel_rfl⟩
instance : CZ Try.prog 26 (.slice none 0 0) := ⟨by kernel_rfl⟩
instance : CS Try.prog 28 5 := ⟨⟨_, Try.underlying28, trivial⟩, by kernel_rfl⟩
instance : CN Try.prog 28 5 := ⟨by kernel_rfl⟩
instance : CZ Try.prog 28 (.agg #[.int .i64 0, .int .i64 0, .slice none 0 0, .int .i64 0, .slice none 0 0]) := ⟨by kernel_rfl⟩
instance : CS Try.prog 30 3 := ⟨⟨_, Try.underlying30, trivial⟩, by kernel_rfl⟩
instance : CN Try.prog 30 3 := ⟨by kernel_rfl⟩
instance : CZ Try.prog 30 (.agg #[.int .i64 0, .slice none 0 0, .slice none 0 0]) := ⟨by kernel_rfl⟩
instance : CS Try.prog 32 5 := ⟨⟨_, Try.underlying32, trivial⟩, by kernel_rfl⟩
instance : CN Try.prog 32 5 := ⟨by kernel_rfl⟩
instance : CZ Try.prog 32 (.agg #[.int .i64 0, .int .i64 0, .int .i64 0, .int .i64 0, .int .i64 0]) := ⟨by kernel_rfl⟩
instance : CS Try.prog 41 2 := ⟨⟨_, Try.underlying41, trivial⟩, by kernel_rfl⟩
instance : CN Try.prog 41 2 := ⟨by kernel_rfl⟩
instance : CZ Try.prog 41 (.agg #[.int .i64 0, .int .i64 0]) := ⟨by kernel_rfl⟩
instance : CS Try.prog 43 6 := ⟨⟨_, Try.underlying43, trivial⟩, by kernel_rfl⟩
instance : CN Try.prog 43 6 := ⟨by kernel_rfl⟩
instance : CZ Try.prog 43 (.agg #[.int .i64 0, .int .i64 0, .int .i64 0, .int .i64 0, .bool false, .bool false]) := ⟨by kernel_rfl⟩
instance : CS Try.prog 74 5 := ⟨⟨_, Try.underlying74, trivial⟩, by kernel_rfl⟩
instance : CN Try.prog 74 5 := ⟨by kernel_rfl⟩
instance : CZ Try.prog 74 (.agg #[.int .i64 0, .int .i64 0, .int .i64 0, .int .i64 0, .bool false]) := ⟨by kernel_rfl⟩
instance : CS Try.prog 82 2 := ⟨⟨_, Try.underlying82, trivial⟩, by kernel_rfl⟩
instance : CN Try.prog 82 2 := ⟨by kernel_rfl⟩
instance : CZ Try.prog 82 (.agg #[.slice none 0 0, .int .i64 0]) := ⟨by kernel_rfl⟩
instance : CS Try.prog 87 8 := ⟨⟨_, Try.underlying87, trivial⟩, by kernel_rfl⟩
instance : CN Try.prog 87 8 := ⟨by kernel_rfl⟩
instance : CZ Try.prog 87 (.agg #[.int .i64 0, .string ⟨#[]⟩, .int .i64 0, .int .i64 0, .int .i64 0, .int .i64 0, .int .i64 0, .int .i64 0]) := ⟨by kernel_rfl⟩
instance : CS Try.prog 88 2 := ⟨⟨_, Try.underlying88, trivial⟩, by kernel_rfl⟩
instance : CN Try.prog 88 2 := ⟨by kernel_rfl⟩
instance : CZ Try.prog 88 (.agg #[.int .i64 0, .int .i64 0]) := ⟨by kernel_rfl⟩
instance : CS Try.prog 111 2 := ⟨⟨_, Try.underlying111, trivial⟩, by kernel_rfl⟩
instance : CN Try.prog 111 2 := ⟨by kernel_rfl⟩
instance : CZ Try.prog 111 (.agg #[.int .i64 0, .int .i64 0]) := ⟨by kernel_rfl⟩
instance : CF Try.prog 24 0 0 := ⟨_, _, Try.underlying24, rfl, rfl, 0, by kernel_rfl⟩
instance : CF Try.prog 24 1 1 := ⟨_, _, Try.underlying24, rfl, rfl, 0, by kernel_rfl⟩
instance : CF Try.prog 28 0 0 := ⟨_, _, Try.underlying28, rfl, rfl, 1, by kernel_rfl⟩
instance : CF Try.prog 28 1 2 := ⟨_, _, Try.underlying28, rfl, rfl, 0, by kernel_rfl⟩
instance : CF Try.prog 28 2 3 := ⟨_, _, Try.underlying28, rfl, rfl, 0, by kernel_rfl⟩
instance : CF Try.prog 28 3 4 := ⟨_, _, Try.underlying28, rfl, rfl, 0, by kernel_rfl⟩
instance : CF Try.prog 30 0 0 := ⟨_, _, Try.underlying30, rfl, rfl, 0, by kernel_rfl⟩
instance : CF Try.prog 30 1 1 := ⟨_, _, Try.underlying30, rfl, rfl, 0, by kernel_rfl⟩
instance : CF Try.prog 30 2 2 := ⟨_, _, Try.underlying30, rfl, rfl, 0, by kernel_rfl⟩
instance : CF Try.prog 32 0 0 := ⟨_, _, Try.underlying32, rfl, rfl, 0, by kernel_rfl⟩
instance : CF Try.prog 32 1 1 := ⟨_, _, Try.underlying32, rfl, rfl, 0, by kernel_rfl⟩
instance : CF Try.prog 32 2 2 := ⟨_, _, Try.underlying32, rfl, rfl, 0, by kernel_rfl⟩
instance : CF Try.prog 32 3 3 := ⟨_, _, Try.underlying32, rfl, rfl, 0, by kernel_rfl⟩
instance : CF Try.prog 32 4 4 := ⟨_, _, Try.underlying32, rfl, rfl, 0, by kernel_rfl⟩
instance : CF Try.prog 41 0 0 := ⟨_, _, Try.underlying41, rfl, rfl, 0, by kernel_rfl⟩
instance : CF Try.prog 41 1 1 := ⟨_, _, Try.underlying41, rfl, rfl, 0, by kernel_rfl⟩
instance : CF Try.prog 43 0 0 := ⟨_, _, Try.underlying43, rfl, rfl, 1, by kernel_rfl⟩
instance : CF Try.prog 43 1 2 := ⟨_, _, Try.underlying43, rfl, rfl, 1, by kernel_rfl⟩
instance : CF Try.prog 43 2 4 := ⟨_, _, Try.underlying43, rfl, rfl, 0, by kernel_rfl⟩
instance : CF Try.prog 43 3 5 := ⟨_, _, Try.underlying43, rfl, rfl, 0, by kernel_rfl⟩
instance : CF Try.prog 74 0 0 := ⟨_, _, Try.underlying74, rfl, rfl, 1, by kernel_rfl⟩
instance : CF Try.prog 74 1 2 := ⟨_, _, Try.underlying74, rfl, rfl, 1, by kernel_rfl⟩
instance : CF Try.prog 74 2 4 := ⟨_, _, Try.underlying74, rfl, rfl, 0, by kernel_rfl⟩
instance : CF Try.prog 82 0 0 := ⟨_, _, Try.underlying82, rfl, rfl, 0, by kernel_rfl⟩
instance : CF Try.prog 82 1 1 := ⟨_, _, Try.underlying82, rfl, rfl, 0, by kernel_rfl⟩
instance : CF Try.prog 87 0 0 := ⟨_, _, Try.underlying87, rfl, rfl, 0, by kernel_rfl⟩
instance : CF Try.prog 87 1 1 := ⟨_, _, Try.underlying87, rfl, rfl, 0, by kernel_rfl⟩
instance : CF Try.prog 87 2 2 := ⟨_, _, Try.underlying87, rfl, rfl, 0, by kernel_rfl⟩
instance : CF Try.prog 87 3 3 := ⟨_, _, Try.underlying87, rfl, rfl, 0, by kernel_rfl⟩
instance : CF Try.prog 87 4 4 := ⟨_, _, Try.underlying87, rfl, rfl, 0, by kernel_rfl⟩
instance : CF Try.prog 87 5 5 := ⟨_, _, Try.underlying87, rfl, rfl, 0, by kernel_rfl⟩
instance : CF Try.prog 87 6 6 := ⟨_, _, Try.underlying87, rfl, rfl, 0, by kernel_rfl⟩
instance : CF Try.prog 87 7 7 := ⟨_, _, Try.underlying87, rfl, rfl, 0, by kernel_rfl⟩
instance : CL Try.prog 22 32 5 40 (.agg #[.int .i64 0, .int .i64 0, .int .i64 0, .int .i64 0, .int .i64 0]) := CL.of Try.underlying22 (by kernel_rfl) rfl (by decide)
instance : CL Try.prog 25 24 2 16 (.agg #[.int .i64 0, .int .i64 0]) := CL.of Try.underlying25 (by kernel_rfl) rfl (by decide)
instance : CL Try.prog 26 3 1 8 (.int .i64 0) := CL.of Try.underlying26 (by kernel_rfl) rfl (by decide)
instance : CL Try.prog 33 43 6 40 (.agg #[.int .i64 0, .int .i64 0, .int .i64 0, .int .i64 0, .bool false, .bool false]) := CL.of Try.underlying33 (by kernel_rfl) rfl (by decide)
instance : CL Try.prog 37 41 2 16 (.agg #[.int .i64 0, .int .i64 0]) := CL.of Try.underlying37 (by kernel_rfl) rfl (by decide)
instance : CL Try.prog 64 87 8 72 (.agg #[.int .i64 0, .string ⟨#[]⟩, .int .i64 0, .int .i64 0, .int .i64 0, .int .i64 0, .int .i64 0, .int .i64 0]) := CL.of Try.underlying64 (by kernel_rfl) rfl (by decide)
instance : CL Try.prog 89 88 2 16 (.agg #[.int .i64 0, .int .i64 0]) := CL.of Try.underlying89 (by kernel_rfl) rfl (by decide)
instance : CL Try.prog 92 9 1 16 (.string ⟨#[]⟩) := CL.of Try.underlying92 (by kernel_rfl) rfl (by decide)
instance : CL Try.prog 104 5 1 1 (.int .u8 0) := CL.of Try.underlying104 (by kernel_rfl) rfl (by decide)
instance : CB Try.prog 24 [.int .i64 0, .int .i64 0] #[(0, 1), (1, 1)] := ⟨.agg #[.int .i64 0, .int .i64 0], _, by kernel_rfl, rfl, Try.underlying24, fun _ => by kernel_rfl⟩
instance : CB Try.prog 28 [.int .i64 0, .int .i64 0, .slice none 0 0, .int .i64 0, .slice none 0 0] #[(0, 2), (2, 1), (3, 1), (4, 1)] := ⟨.agg #[.int .i64 0, .int .i64 0, .slice none 0 0, .int .i64 0, .slice none 0 0], _, by kernel_rfl, rfl, Try.underlying28, fun _ => by kernel_rfl⟩
instance : CB Try.prog 30 [.int .i64 0, .slice none 0 0, .slice none 0 0] #[(0, 1), (1, 1), (2, 1)] := ⟨.agg #[.int .i64 0, .slice none 0 0, .slice none 0 0], _, by kernel_rfl, rfl, Try.underlying30, fun _ => by kernel_rfl⟩
instance : CB Try.prog 32 [.int .i64 0, .int .i64 0, .int .i64 0, .int .i64 0, .int .i64 0] #[(0, 1), (1, 1), (2, 1), (3, 1), (4, 1)] := ⟨.agg #[.int .i64 0, .int .i64 0, .int .i64 0, .int .i64 0, .int .i64 0], _, by kernel_rfl, rfl, Try.underlying32, fun _ => by kernel_rfl⟩
instance : CB Try.prog 41 [.int .i64 0, .int .i64 0] #[(0, 1), (1, 1)] := ⟨.agg #[.int .i64 0, .int .i64 0], _, by kernel_rfl, rfl, Try.underlying41, fun _ => by kernel_rfl⟩
instance : CB Try.prog 43 [.int .i64 0, .int .i64 0, .int .i64 0, .int .i64 0, .bool false, .bool false] #[(0, 2), (2, 2), (4, 1), (5, 1)] := ⟨.agg #[.int .i64 0, .int .i64 0, .int .i64 0, .int .i64 0, .bool false, .bool false], _, by kernel_rfl, rfl, Try.underlying43, fun _ => by kernel_rfl⟩
instance : CB Try.prog 74 [.int .i64 0, .int .i64 0, .int .i64 0, .int .i64 0, .bool false] #[(0, 2), (2, 2), (4, 1)] := ⟨.agg #[.int .i64 0, .int .i64 0, .int .i64 0, .int .i64 0, .bool false], _, by kernel_rfl, rfl, Try.underlying74, fun _ => by kernel_rfl⟩
instance : CB Try.prog 82 [.slice none 0 0, .int .i64 0] #[(0, 1), (1, 1)] := ⟨.agg #[.slice none 0 0, .int .i64 0], _, by kernel_rfl, rfl, Try.underlying82, fun _ => by kernel_rfl⟩
instance : CB Try.prog 87 [.int .i64 0, .string ⟨#[]⟩, .int .i64 0, .int .i64 0, .int .i64 0, .int .i64 0, .int .i64 0, .int .i64 0] #[(0, 1), (1, 1), (2, 1), (3, 1), (4, 1), (5, 1), (6, 1), (7, 1)] := ⟨.agg #[.int .i64 0, .string ⟨#[]⟩, .int .i64 0, .int .i64 0, .int .i64 0, .int .i64 0, .int .i64 0, .int .i64 0], _, by kernel_rfl, rfl, Try.underlying87, fun _ => by kernel_rfl⟩
instance : CA Try.prog 88 2 3 1 [.int .i64 0, .int .i64 0] := ⟨Try.underlying88, by kernel_rfl, .agg #[.int .i64 0, .int .i64 0], by kernel_rfl, rfl⟩
instance : CB Try.prog 111 [.int .i64 0, .int .i64 0] #[(0, 1), (1, 1)] := ⟨.agg #[.int .i64 0, .int .i64 0], _, by kernel_rfl, rfl, Try.underlying111, fun _ => by kernel_rfl⟩
instance : CFn Try.prog 12 := CFn.of Try.func12 rfl (by decide +kernel)
instance : CFn Try.prog 13 := CFn.of Try.func13 rfl (by decide +kernel)
instance : CFn Try.prog 14 := CFn.of Try.func14 rfl (by decide +kernel)
instance : CFn Try.prog 15 := CFn.of Try.func15 rfl (by decide +kernel)
instance : CFn Try.prog 16 := CFn.of Try.func16 rfl (by decide +kernel)
instance : CFn Try.prog 17 := CFn.of Try.func17 rfl (by decide +kernel)
instance : CFn Try.prog 18 := CFn.of Try.func18 rfl (by decide +kernel)
instance : CFn Try.prog 19 := CFn.of Try.func19 rfl (by decide +kernel)
instance : CFn Try.prog 20 := CFn.of Try.func20 rfl (by decide +kernel)
instance : CFn Try.prog 21 := CFn.of Try.func21 rfl (by decide +kernel)
instance : CFn Try.prog 22 := CFn.of Try.func22 rfl (by decide +kernel)
instance : CFn Try.prog 23 := CFn.of Try.func23 rfl (by decide +kernel)
instance : CFn Try.prog 24 := CFn.of Try.func24 rfl (by decide +kernel)
instance : CFn Try.prog 25 := CFn.of Try.func25 rfl (by decide +kernel)
instance : CFn Try.prog 26 := CFn.of Try.func26 rfl (by decide +kernel)
instance : CFn Try.prog 27 := CFn.of Try.func27 rfl (by decide +kernel)
instance : CFn Try.prog 28 := CFn.of Try.func28 rfl (by decide +kernel)
instance : CFn Try.prog 29 := CFn.of Try.func29 rfl (by decide +kernel)
instance : CFn Try.prog 30 := CFn.of Try.func30 rfl (by decide +kernel)
instance : CFn Try.prog 31 := CFn.of Try.func31 rfl (by decide +kernel)
instance : CFn Try.prog 32 := CFn.of Try.func32 rfl (by decide +kernel)
instance : CFn Try.prog 33 := CFn.of Try.func33 rfl (by decide +kernel)
instance : CFn Try.prog 34 := CFn.of Try.func34 rfl (by decide +kernel)
instance : CFn Try.prog 35 := CFn.of Try.func35 rfl (by decide +kernel)
instance : CFn Try.prog 36 := CFn.of Try.func36 rfl (by decide +kernel)
instance : CFn Try.prog 37 := CFn.of Try.func37 rfl (by decide +kernel)
instance : CFn Try.prog 38 := CFn.of Try.func38 rfl (by decide +kernel)
instance : CFn Try.prog 39 := CFn.of Try.func39 rfl (by decide +kernel)
instance : CFn Try.prog 40 := CFn.of Try.func40 rfl (by decide +kernel)
instance : CFn Try.prog 41 := CFn.of Try.func41 rfl (by decide +kernel)
instance : CFn Try.prog 42 := CFn.of Try.func42 rfl (by decide +kernel)
instance : CFn Try.prog 43 := CFn.of Try.func43 rfl (by decide +kernel)
instance : CFn Try.prog 44 := CFn.of Try.func44 rfl (by decide +kernel)
instance : CFn Try.prog 45 := CFn.of Try.func45 rfl (by decide +kernel)
instance : CFn Try.prog 46 := CFn.of Try.func46 rfl (by decide +kernel)
instance : CFn Try.prog 47 := CFn.of Try.func47 rfl (by decide +kernel)
instance : CFn Try.prog 48 := CFn.of Try.func48 rfl (by decide +kernel)
instance : CFn Try.prog 49 := CFn.of Try.func49 rfl (by decide +kernel)
instance : CFn Try.prog 50 := CFn.of Try.func50 rfl (by decide +kernel)
instance : CFn Try.prog 51 := CFn.of Try.func51 rfl (by decide +kernel)
instance : CFn Try.prog 52 := CFn.of Try.func52 rfl (by decide +kernel)
instance : CFn Try.prog 53 := CFn.of Try.func53 rfl (by decide +kernel)
instance : CFn Try.prog 54 := CFn.of Try.func54 rfl (by decide +kernel)
instance : CFn Try.prog 55 := CFn.of Try.func55 rfl (by decide +kernel)
instance : CFn Try.prog 56 := CFn.of Try.func56 rfl (by decide +kernel)
instance : CFn Try.prog 57 := CFn.of Try.func57 rfl (by decide +kernel)
instance : CFn Try.prog 58 := CFn.of Try.func58 rfl (by decide +kernel)
instance : CFn Try.prog 59 := CFn.of Try.func59 rfl (by decide +kernel)
instance : CFn Try.prog 60 := CFn.of Try.func60 rfl (by decide +kernel)
instance : CFn Try.prog 61 := CFn.of Try.func61 rfl (by decide +kernel)
instance : CFn Try.prog 62 := CFn.of Try.func62 rfl (by decide +kernel)
instance : CFn Try.prog 63 := CFn.of Try.func63 rfl (by decide +kernel)
instance : CFn Try.prog 64 := CFn.of Try.func64 rfl (by decide +kernel)
instance : CFn Try.prog 65 := CFn.of Try.func65 rfl (by decide +kernel)
instance : CFn Try.prog 66 := CFn.of Try.func66 rfl (by decide +kernel)
instance : CFn Try.prog 67 := CFn.of Try.func67 rfl (by decide +kernel)
instance : CFn Try.prog 68 := CFn.of Try.func68 rfl (by decide +kernel)
instance : CFn Try.prog 69 := CFn.of Try.func69 rfl (by decide +kernel)
instance : CFn Try.prog 70 := CFn.of Try.func70 rfl (by decide +kernel)
instance : CFn Try.prog 71 := CFn.of Try.func71 rfl (by decide +kernel)
instance : CFn Try.prog 72 := CFn.of Try.func72 rfl (by decide +kernel)
instance : CFn Try.prog 73 := CFn.of Try.func73 rfl (by decide +kernel)
instance : CFn Try.prog 74 := CFn.of Try.func74 rfl (by decide +kernel)
instance : CFn Try.prog 75 := CFn.of Try.func75 rfl (by decide +kernel)
instance : CFn Try.prog 76 := CFn.of Try.func76 rfl (by decide +kernel)
instance : CM Try.prog := ⟨by kernel_rfl⟩
instance : CK Try.prog 108 kvZ := CK.of Try.underlying108 Try.underlying9 (fun _ => trivial) (fun _ _ h => Value.string.inj h) (by kernel_rfl)
theorem qin24 (d : Nat) (a0 b0 : Int) (a1 b1 : Int) (w : World) : (Op.equalIn (d + 3) 24 (.agg #[.int .i64 a0, .int .i64 a1]) (.agg #[.int .i64 b0, .int .i64 b1])).run Try.prog w = .ok (decide (a0 = b0 ∧ a1 = b1)) w := by
  rw [run_equalIn_agg w (d + 2) 24 _ _ (by kernel_rfl) (by kernel_rfl)]
  rw [show Try.prog.fieldsOf 24 = #[{ name := "Lo", type := 3, offset := 0, embedded := false, tag := "", pkgPath := "", byteOffset := 0 }, { name := "Hi", type := 3, offset := 1, embedded := false, tag := "", pkgPath := "", byteOffset := 8 }] from by kernel_rfl]
  have p3 : ∀ cs off v w, cs[off]? = some v → (part 3 cs off).run Try.prog w = .ok v w := fun cs off v w h => by simp [part, run_isAgg1, h]
  have q3 := fun d a b w => run_equalIn_int (P := Try.prog) w d 3 .i64 .i64 a b Try.underlying3
  simp [Op.eqFields, p3, q3]
  by_cases h0 : a0 = b0 <;> by_cases h1 : a1 = b1 <;> simp [h0, h1]
theorem yeq24 {N : Nat} {ρ : Env} {w : World} {d : Option Nat} {ty : TypeId} {ps : String} {af : Array Edge} {gd : Option (Nat × Bool)} {x y : Operand} {yt : TypeId} {a0 b0 : Int} {a1 b1 : Int} (hx : evo ρ x = some (.agg #[.int .i64 a0, .int .i64 a1])) (hy : evo ρ y = some (.agg #[.int .i64 b0, .int .i64 b1])) : Yv Try.prog N ρ w ⟨d, .binOp .eql 24 x y yt, ty, ps, af, gd⟩ (.bool (decide (a0 = b0 ∧ a1 = b1))) := yv_eqS (by kernel_rfl) (qin24 9997 a0 b0 a1 b1 w) hx hy
theorem yne24 {N : Nat} {ρ : Env} {w : World} {d : Option Nat} {ty : TypeId} {ps : String} {af : Array Edge} {gd : Option (Nat × Bool)} {x y : Operand} {yt : TypeId} {a0 b0 : Int} {a1 b1 : Int} (hx : evo ρ x = some (.agg #[.int .i64 a0, .int .i64 a1])) (hy : evo ρ y = some (.agg #[.int .i64 b0, .int .i64 b1])) : Yv Try.prog N ρ w ⟨d, .binOp .neq 24 x y yt, ty, ps, af, gd⟩ (.bool (decide (¬ (a0 = b0 ∧ a1 = b1)))) := yv_neS (by kernel_rfl) (qin24 9997 a0 b0 a1 b1 w) hx hy
theorem qin32 (d : Nat) (a0 b0 : Int) (a1 b1 : Int) (a2 b2 : Int) (a3 b3 : Int) (a4 b4 : Int) (w : World) : (Op.equalIn (d + 3) 32 (.agg #[.int .i64 a0, .int .i64 a1, .int .i64 a2, .int .i64 a3, .int .i64 a4]) (.agg #[.int .i64 b0, .int .i64 b1, .int .i64 b2, .int .i64 b3, .int .i64 b4])).run Try.prog w = .ok (decide (a0 = b0 ∧ a1 = b1 ∧ a2 = b2 ∧ a3 = b3 ∧ a4 = b4)) w := by
  rw [run_equalIn_agg w (d + 2) 32 _ _ (by kernel_rfl) (by kernel_rfl)]
  rw [show Try.prog.fieldsOf 32 = #[{ name := "Element", type := 3, offset := 0, embedded := false, tag := "", pkgPath := "", byteOffset := 0 }, { name := "Length", type := 3, offset := 1, embedded := false, tag := "", pkgPath := "", byteOffset := 8 }, { name := "Grade", type := 3, offset := 2, embedded := false, tag := "", pkgPath := "", byteOffset := 16 }, { name := "Curve", type := 3, offset := 3, embedded := false, tag := "", pkgPath := "", byteOffset := 24 }, { name := "Power", type := 3, offset := 4, embedded := false, tag := "", pkgPath := "", byteOffset := 32 }] from by kernel_rfl]
  have p3 : ∀ cs off v w, cs[off]? = some v → (part 3 cs off).run Try.prog w = .ok v w := fun cs off v w h => by simp [part, run_isAgg1, h]
  have q3 := fun d a b w => run_equalIn_int (P := Try.prog) w d 3 .i64 .i64 a b Try.underlying3
  simp [Op.eqFields, p3, q3]
  repeat (split <;> simp_all)
theorem yeq32 {N : Nat} {ρ : Env} {w : World} {d : Option Nat} {ty : TypeId} {ps : String} {af : Array Edge} {gd : Option (Nat × Bool)} {x y : Operand} {yt : TypeId} {a0 b0 : Int} {a1 b1 : Int} {a2 b2 : Int} {a3 b3 : Int} {a4 b4 : Int} (hx : evo ρ x = some (.agg #[.int .i64 a0, .int .i64 a1, .int .i64 a2, .int .i64 a3, .int .i64 a4])) (hy : evo ρ y = some (.agg #[.int .i64 b0, .int .i64 b1, .int .i64 b2, .int .i64 b3, .int .i64 b4])) : Yv Try.prog N ρ w ⟨d, .binOp .eql 32 x y yt, ty, ps, af, gd⟩ (.bool (decide (a0 = b0 ∧ a1 = b1 ∧ a2 = b2 ∧ a3 = b3 ∧ a4 = b4))) := yv_eqS (by kernel_rfl) (qin32 9997 a0 b0 a1 b1 a2 b2 a3 b3 a4 b4 w) hx hy
theorem yne32 {N : Nat} {ρ : Env} {w : World} {d : Option Nat} {ty : TypeId} {ps : String} {af : Array Edge} {gd : Option (Nat × Bool)} {x y : Operand} {yt : TypeId} {a0 b0 : Int} {a1 b1 : Int} {a2 b2 : Int} {a3 b3 : Int} {a4 b4 : Int} (hx : evo ρ x = some (.agg #[.int .i64 a0, .int .i64 a1, .int .i64 a2, .int .i64 a3, .int .i64 a4])) (hy : evo ρ y = some (.agg #[.int .i64 b0, .int .i64 b1, .int .i64 b2, .int .i64 b3, .int .i64 b4])) : Yv Try.prog N ρ w ⟨d, .binOp .neq 32 x y yt, ty, ps, af, gd⟩ (.bool (decide (¬ (a0 = b0 ∧ a1 = b1 ∧ a2 = b2 ∧ a3 = b3 ∧ a4 = b4)))) := yv_neS (by kernel_rfl) (qin32 9997 a0 b0 a1 b1 a2 b2 a3 b3 a4 b4 w) hx hy
theorem qin41 (d : Nat) (a0 b0 : Int) (a1 b1 : Int) (w : World) : (Op.equalIn (d + 3) 41 (.agg #[.int .i64 a0, .int .i64 a1]) (.agg #[.int .i64 b0, .int .i64 b1])).run Try.prog w = .ok (decide (a0 = b0 ∧ a1 = b1)) w := by
  rw [run_equalIn_agg w (d + 2) 41 _ _ (by kernel_rfl) (by kernel_rfl)]
  rw [show Try.prog.fieldsOf 41 = #[{ name := "Time", type := 3, offset := 0, embedded := false, tag := "", pkgPath := "", byteOffset := 0 }, { name := "Energy", type := 3, offset := 1, embedded := false, tag := "", pkgPath := "", byteOffset := 8 }] from by kernel_rfl]
  have p3 : ∀ cs off v w, cs[off]? = some v → (part 3 cs off).run Try.prog w = .ok v w := fun cs off v w h => by simp [part, run_isAgg1, h]
  have q3 := fun d a b w => run_equalIn_int (P := Try.prog) w d 3 .i64 .i64 a b Try.underlying3
  simp [Op.eqFields, p3, q3]
  by_cases h0 : a0 = b0 <;> by_cases h1 : a1 = b1 <;> simp [h0, h1]
theorem yeq41 {N : Nat} {ρ : Env} {w : World} {d : Option Nat} {ty : TypeId} {ps : String} {af : Array Edge} {gd : Option (Nat × Bool)} {x y : Operand} {yt : TypeId} {a0 b0 : Int} {a1 b1 : Int} (hx : evo ρ x = some (.agg #[.int .i64 a0, .int .i64 a1])) (hy : evo ρ y = some (.agg #[.int .i64 b0, .int .i64 b1])) : Yv Try.prog N ρ w ⟨d, .binOp .eql 41 x y yt, ty, ps, af, gd⟩ (.bool (decide (a0 = b0 ∧ a1 = b1))) := yv_eqS (by kernel_rfl) (qin41 9997 a0 b0 a1 b1 w) hx hy
theorem yne41 {N : Nat} {ρ : Env} {w : World} {d : Option Nat} {ty : TypeId} {ps : String} {af : Array Edge} {gd : Option (Nat × Bool)} {x y : Operand} {yt : TypeId} {a0 b0 : Int} {a1 b1 : Int} (hx : evo ρ x = some (.agg #[.int .i64 a0, .int .i64 a1])) (hy : evo ρ y = some (.agg #[.int .i64 b0, .int .i64 b1])) : Yv Try.prog N ρ w ⟨d, .binOp .neq 41 x y yt, ty, ps, af, gd⟩ (.bool (decide (¬ (a0 = b0 ∧ a1 = b1)))) := yv_neS (by kernel_rfl) (qin41 9997 a0 b0 a1 b1 w) hx hy
theorem qin43 (d : Nat) (a0 b0 : Int) (a1 b1 : Int) (a2 b2 : Int) (a3 b3 : Int) (a4 b4 : Bool) (a5 b5 : Bool) (w : World) : (Op.equalIn (d + 5) 43 (.agg #[.int .i64 a0, .int .i64 a1, .int .i64 a2, .int .i64 a3, .bool a4, .bool a5]) (.agg #[.int .i64 b0, .int .i64 b1, .int .i64 b2, .int .i64 b3, .bool b4, .bool b5])).run Try.prog w = .ok (decide (a0 = b0 ∧ a1 = b1 ∧ a2 = b2 ∧ a3 = b3 ∧ a4 = b4 ∧ a5 = b5)) w := by
  rw [run_equalIn_agg w (d + 4) 43 _ _ (by kernel_rfl) (by kernel_rfl)]
  rw [show Try.prog.fieldsOf 43 = #[{ name := "Time", type := 24, offset := 0, embedded := false, tag := "", pkgPath := "", byteOffset := 0 }, { name := "Energy", type := 24, offset := 2, embedded := false, tag := "", pkgPath := "", byteOffset := 16 }, { name := "Slow", type := 4, offset := 4, embedded := false, tag := "", pkgPath := "", byteOffset := 32 }, { name := "Stops", type := 4, offset := 5, embedded := false, tag := "", pkgPath := "", byteOffset := 33 }] from by kernel_rfl]
  have px0 : ∀ w, (part 24 #[.int .i64 a0, .int .i64 a1, .int .i64 a2, .int .i64 a3, .bool a4, .bool a5] 0).run Try.prog w = .ok (.agg #[.int .i64 a0, .int .i64 a1]) w := fun _ => by kernel_rfl
  have py0 : ∀ w, (part 24 #[.int .i64 b0, .int .i64 b1, .int .i64 b2, .int .i64 b3, .bool b4, .bool b5] 0).run Try.prog w = .ok (.agg #[.int .i64 b0, .int .i64 b1]) w := fun _ => by kernel_rfl
  have q24 := qin24 (d + 1)
  have px2 : ∀ w, (part 24 #[.int .i64 a0, .int .i64 a1, .int .i64 a2, .int .i64 a3, .bool a4, .bool a5] 2).run Try.prog w = .ok (.agg #[.int .i64 a2, .int .i64 a3]) w := fun _ => by kernel_rfl
  have py2 : ∀ w, (part 24 #[.int .i64 b0, .int .i64 b1, .int .i64 b2, .int .i64 b3, .bool b4, .bool b5] 2).run Try.prog w = .ok (.agg #[.int .i64 b2, .int .i64 b3]) w := fun _ => by kernel_rfl
  have p4 : ∀ cs off v w, cs[off]? = some v → (part 4 cs off).run Try.prog w = .ok v w := fun cs off v w h => by simp [part, run_isAgg1, h]
  have q4 := fun d a b w => run_equalIn_bool' (P := Try.prog) w d 4 a b Try.underlying4
  simp [Op.eqFields, px0, py0, q24, px2, py2, p4, q4]
  repeat (split <;> simp_all)
theorem yeq43 {N : Nat} {ρ : Env} {w : World} {d : Option Nat} {ty : TypeId} {ps : String} {af : Array Edge} {gd : Option (Nat × Bool)} {x y : Operand} {yt : TypeId} {a0 b0 : Int} {a1 b1 : Int} {a2 b2 : Int} {a3 b3 : Int} {a4 b4 : Bool} {a5 b5 : Bool} (hx : evo ρ x = some (.agg #[.int .i64 a0, .int .i64 a1, .int .i64 a2, .int .i64 a3, .bool a4, .bool a5])) (hy : evo ρ y = some (.agg #[.int .i64 b0, .int .i64 b1, .int .i64 b2, .int .i64 b3, .bool b4, .bool b5])) : Yv Try.prog N ρ w ⟨d, .binOp .eql 43 x y yt, ty, ps, af, gd⟩ (.bool (decide (a0 = b0 ∧ a1 = b1 ∧ a2 = b2 ∧ a3 = b3 ∧ a4 = b4 ∧ a5 = b5))) := yv_eqS (by kernel_rfl) (qin43 9995 a0 b0 a1 b1 a2 b2 a3 b3 a4 b4 a5 b5 w) hx hy
theorem yne43 {N : Nat} {ρ : Env} {w : World} {d : Option Nat} {ty : TypeId} {ps : String} {af : Array Edge} {gd : Option (Nat × Bool)} {x y : Operand} {yt : TypeId} {a0 b0 : Int} {a1 b1 : Int} {a2 b2 : Int} {a3 b3 : Int} {a4 b4 : Bool} {a5 b5 : Bool} (hx : evo ρ x = some (.agg #[.int .i64 a0, .int .i64 a1, .int .i64 a2, .int .i64 a3, .bool a4, .bool a5])) (hy : evo ρ y = some (.agg #[.int .i64 b0, .int .i64 b1, .int .i64 b2, .int .i64 b3, .bool b4, .bool b5])) : Yv Try.prog N ρ w ⟨d, .binOp .neq 43 x y yt, ty, ps, af, gd⟩ (.bool (decide (¬ (a0 = b0 ∧ a1 = b1 ∧ a2 = b2 ∧ a3 = b3 ∧ a4 = b4 ∧ a5 = b5)))) := yv_neS (by kernel_rfl) (qin43 9995 a0 b0 a1 b1 a2 b2 a3 b3 a4 b4 a5 b5 w) hx hy
theorem qin87 (d : Nat) (a0 b0 : Int) (a1 b1 : ByteArray) (a2 b2 : Int) (a3 b3 : Int) (a4 b4 : Int) (a5 b5 : Int) (a6 b6 : Int) (a7 b7 : Int) (w : World) : (Op.equalIn (d + 3) 87 (.agg #[.int .i64 a0, .string a1, .int .i64 a2, .int .i64 a3, .int .i64 a4, .int .i64 a5, .int .i64 a6, .int .i64 a7]) (.agg #[.int .i64 b0, .string b1, .int .i64 b2, .int .i64 b3, .int .i64 b4, .int .i64 b5, .int .i64 b6, .int .i64 b7])).run Try.prog w = .ok (decide (a0 = b0 ∧ a1 = b1 ∧ a2 = b2 ∧ a3 = b3 ∧ a4 = b4 ∧ a5 = b5 ∧ a6 = b6 ∧ a7 = b7)) w := by
  rw [run_equalIn_agg w (d + 2) 87 _ _ (by kernel_rfl) (by kernel_rfl)]
  rw [show Try.prog.fieldsOf 87 = #[{ name := "Kind", type := 3, offset := 0, embedded := false, tag := "", pkgPath := "", byteOffset := 0 }, { name := "Name", type := 9, offset := 1, embedded := false, tag := "", pkgPath := "", byteOffset := 8 }, { name := "Parent", type := 3, offset := 2, embedded := false, tag := "", pkgPath := "", byteOffset := 24 }, { name := "Side", type := 3, offset := 3, embedded := false, tag := "", pkgPath := "", byteOffset := 32 }, { name := "Length", type := 3, offset := 4, embedded := false, tag := "", pkgPath := "", byteOffset := 40 }, { name := "Grade", type := 3, offset := 5, embedded := false, tag := "", pkgPath := "", byteOffset := 48 }, { name := "Curve", type := 3, offset := 6, embedded := false, tag := "", pkgPath := "", byteOffset := 56 }, { name := "Power", type := 3, offset := 7, embedded := false, tag := "", pkgPath := "", byteOffset := 64 }] from by kernel_rfl]
  have p3 : ∀ cs off v w, cs[off]? = some v → (part 3 cs off).run Try.prog w = .ok v w := fun cs off v w h => by simp [part, run_isAgg1, h]
  have q3 := fun d a b w => run_equalIn_int (P := Try.prog) w d 3 .i64 .i64 a b Try.underlying3
  have p9 : ∀ cs off v w, cs[off]? = some v → (part 9 cs off).run Try.prog w = .ok v w := fun cs off v w h => by simp [part, run_isAgg1, h]
  have q9 : ∀ (d : Nat) (a b : ByteArray) (w : World), (Op.equalIn (d + 1) 9 (.string a) (.string b)).run Try.prog w = .ok (decide (a = b)) w := fun d a b w => by rw [run_equalIn_string (P := Try.prog) w d 9 a b Try.underlying9]; rw [str_beq]
  simp [Op.eqFields, p3, q3, p9, q9]
  repeat (split <;> simp_all)
theorem yeq87 {N : Nat} {ρ : Env} {w : World} {d : Option Nat} {ty : TypeId} {ps : String} {af : Array Edge} {gd : Option (Nat × Bool)} {x y : Operand} {yt : TypeId} {a0 b0 : Int} {a1 b1 : ByteArray} {a2 b2 : Int} {a3 b3 : Int} {a4 b4 : Int} {a5 b5 : Int} {a6 b6 : Int} {a7 b7 : Int} (hx : evo ρ x = some (.agg #[.int .i64 a0, .string a1, .int .i64 a2, .int .i64 a3, .int .i64 a4, .int .i64 a5, .int .i64 a6, .int .i64 a7])) (hy : evo ρ y = some (.agg #[.int .i64 b0, .string b1, .int .i64 b2, .int .i64 b3, .int .i64 b4, .int .i64 b5, .int .i64 b6, .int .i64 b7])) : Yv Try.prog N ρ w ⟨d, .binOp .eql 87 x y yt, ty, ps, af, gd⟩ (.bool (decide (a0 = b0 ∧ a1 = b1 ∧ a2 = b2 ∧ a3 = b3 ∧ a4 = b4 ∧ a5 = b5 ∧ a6 = b6 ∧ a7 = b7))) := yv_eqS (by kernel_rfl) (qin87 9997 a0 b0 a1 b1 a2 b2 a3 b3 a4 b4 a5 b5 a6 b6 a7 b7 w) hx hy
theorem yne87 {N : Nat} {ρ : Env} {w : World} {d : Option Nat} {ty : TypeId} {ps : String} {af : Array Edge} {gd : Option (Nat × Bool)} {x y : Operand} {yt : TypeId} {a0 b0 : Int} {a1 b1 : ByteArray} {a2 b2 : Int} {a3 b3 : Int} {a4 b4 : Int} {a5 b5 : Int} {a6 b6 : Int} {a7 b7 : Int} (hx : evo ρ x = some (.agg #[.int .i64 a0, .string a1, .int .i64 a2, .int .i64 a3, .int .i64 a4, .int .i64 a5, .int .i64 a6, .int .i64 a7])) (hy : evo ρ y = some (.agg #[.int .i64 b0, .string b1, .int .i64 b2, .int .i64 b3, .int .i64 b4, .int .i64 b5, .int .i64 b6, .int .i64 b7])) : Yv Try.prog N ρ w ⟨d, .binOp .neq 87 x y yt, ty, ps, af, gd⟩ (.bool (decide (¬ (a0 = b0 ∧ a1 = b1 ∧ a2 = b2 ∧ a3 = b3 ∧ a4 = b4 ∧ a5 = b5 ∧ a6 = b6 ∧ a7 = b7)))) := yv_neS (by kernel_rfl) (qin87 9997 a0 b0 a1 b1 a2 b2 a3 b3 a4 b4 a5 b5 a6 b6 a7 b7 w) hx hy
theorem qin111 (d : Nat) (a0 b0 : Int) (a1 b1 : Int) (w : World) : (Op.equalIn (d + 3) 111 (.agg #[.int .i64 a0, .int .i64 a1]) (.agg #[.int .i64 b0, .int .i64 b1])).run Try.prog w = .ok (decide (a0 = b0 ∧ a1 = b1)) w := by
  rw [run_equalIn_agg w (d + 2) 111 _ _ (by kernel_rfl) (by kernel_rfl)]
  rw [show Try.prog.fieldsOf 111 = #[{ name := "parent", type := 3, offset := 0, embedded := false, tag := "", pkgPath := "humpyard/layout", byteOffset := 0 }, { name := "side", type := 3, offset := 1, embedded := false, tag := "", pkgPath := "humpyard/layout", byteOffset := 8 }] from by kernel_rfl]
  have p3 : ∀ cs off v w, cs[off]? = some v → (part 3 cs off).run Try.prog w = .ok v w := fun cs off v w h => by simp [part, run_isAgg1, h]
  have q3 := fun d a b w => run_equalIn_int (P := Try.prog) w d 3 .i64 .i64 a b Try.underlying3
  simp [Op.eqFields, p3, q3]
  by_cases h0 : a0 = b0 <;> by_cases h1 : a1 = b1 <;> simp [h0, h1]
theorem yeq111 {N : Nat} {ρ : Env} {w : World} {d : Option Nat} {ty : TypeId} {ps : String} {af : Array Edge} {gd : Option (Nat × Bool)} {x y : Operand} {yt : TypeId} {a0 b0 : Int} {a1 b1 : Int} (hx : evo ρ x = some (.agg #[.int .i64 a0, .int .i64 a1])) (hy : evo ρ y = some (.agg #[.int .i64 b0, .int .i64 b1])) : Yv Try.prog N ρ w ⟨d, .binOp .eql 111 x y yt, ty, ps, af, gd⟩ (.bool (decide (a0 = b0 ∧ a1 = b1))) := yv_eqS (by kernel_rfl) (qin111 9997 a0 b0 a1 b1 w) hx hy
theorem yne111 {N : Nat} {ρ : Env} {w : World} {d : Option Nat} {ty : TypeId} {ps : String} {af : Array Edge} {gd : Option (Nat × Bool)} {x y : Operand} {yt : TypeId} {a0 b0 : Int} {a1 b1 : Int} (hx : evo ρ x = some (.agg #[.int .i64 a0, .int .i64 a1])) (hy : evo ρ y = some (.agg #[.int .i64 b0, .int .i64 b1])) : Yv Try.prog N ρ w ⟨d, .binOp .neq 111 x y yt, ty, ps, af, gd⟩ (.bool (decide (¬ (a0 = b0 ∧ a1 = b1)))) := yv_neS (by kernel_rfl) (qin111 9997 a0 b0 a1 b1 w) hx hy
end Go.Proofs.Ytbojnnefpapamaa
