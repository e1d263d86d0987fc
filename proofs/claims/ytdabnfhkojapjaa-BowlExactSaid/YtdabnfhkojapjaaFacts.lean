/-
  Facts on the types and functions that this seat's functions meet, each a closed fact of the loaded program. Printed by a program.
-/
import Derived.Test.YtdabnfhkojapjaaClo
import Derived.Test.YtdabnfhkojapjaaProg
namespace Go.Proofs.Ytdabnfhkojapjaa
open Go.Hy

instance : C1 Try.prog 3 := ⟨⟨_, Try.underlying3, trivial⟩⟩
instance : CN Try.prog 3 1 := ⟨by kernel_rfl⟩
instance : CZ Try.prog 3 (.int .i64 0) := ⟨by kernel_rfl⟩
instance : C1 Try.prog 4 := ⟨⟨_, Try.underlying4, trivial⟩⟩
instance : CN Try.prog 4 1 := ⟨by kernel_rfl⟩
instance : CZ Try.prog 4 (.bool false) := ⟨by kernel_rfl⟩
instance : C1 Try.prog 22 := ⟨⟨_, Try.underlying22, trivial⟩⟩
instance : CN Try.prog 22 1 := ⟨by kernel_rfl⟩
instance : CZ Try.prog 22 (.slice none 0 0) := ⟨by kernel_rfl⟩
instance : CS Try.prog 24 3 := ⟨⟨_, Try.underlying24, trivial⟩, by kernel_rfl⟩
instance : CN Try.prog 24 3 := ⟨by kernel_rfl⟩
instance : CZ Try.prog 24 (.agg #[.int .i64 0, .slice none 0 0, .slice none 0 0]) := ⟨by kernel_rfl⟩
instance : CS Try.prog 34 2 := ⟨⟨_, Try.underlying34, trivial⟩, by kernel_rfl⟩
instance : CN Try.prog 34 2 := ⟨by kernel_rfl⟩
instance : CZ Try.prog 34 (.agg #[.int .i64 0, .int .i64 0]) := ⟨by kernel_rfl⟩
instance : C1 Try.prog 35 := ⟨⟨_, Try.underlying35, trivial⟩⟩
instance : CN Try.prog 35 1 := ⟨by kernel_rfl⟩
instance : CZ Try.prog 35 (.slice none 0 0) := ⟨by kernel_rfl⟩
instance : CS Try.prog 37 5 := ⟨⟨_, Try.underlying37, trivial⟩, by kernel_rfl⟩
instance : CN Try.prog 37 5 := ⟨by kernel_rfl⟩
instance : CZ Try.prog 37 (.agg #[.int .i64 0, .int .i64 0, .slice none 0 0, .int .i64 0, .slice none 0 0]) := ⟨by kernel_rfl⟩
instance : CS Try.prog 43 5 := ⟨⟨_, Try.underlying43, trivial⟩, by kernel_rfl⟩
instance : CN Try.prog 43 5 := ⟨by kernel_rfl⟩
instance : CZ Try.prog 43 (.agg #[.int .i64 0, .int .i64 0, .int .i64 0, .int .i64 0, .int .i64 0]) := ⟨by kernel_rfl⟩
instance : CS Try.prog 64 3 := ⟨⟨_, Try.underlying64, trivial⟩, by kernel_rfl⟩
instance : CN Try.prog 64 3 := ⟨by kernel_rfl⟩
instance : CZ Try.prog 64 (.agg #[.int .i64 0, .slice none 0 0, .slice none 0 0]) := ⟨by kernel_rfl⟩
instance : CS Try.prog 67 2 := ⟨⟨_, Try.underlying67, trivial⟩, by kernel_rfl⟩
instance : CN Try.prog 67 2 := ⟨by kernel_rfl⟩
instance : CZ Try.prog 67 (.agg #[.int .i64 0, .int .i64 0]) := ⟨by kernel_rfl⟩
instance : CS Try.prog 69 2 := ⟨⟨_, Try.underlying69, trivial⟩, by kernel_rfl⟩
instance : CN Try.prog 69 2 := ⟨by kernel_rfl⟩
instance : CZ Try.prog 69 (.agg #[.int .i64 0, .int .i64 0]) := ⟨by kernel_rfl⟩
instance : CS Try.prog 75 2 := ⟨⟨_, Try.underlying75, trivial⟩, by kernel_rfl⟩
instance : CN Try.prog 75 2 := ⟨by kernel_rfl⟩
instance : CZ Try.prog 75 (.agg #[.slice none 0 0, .int .i64 0]) := ⟨by kernel_rfl⟩
instance : CS Try.prog 87 6 := ⟨⟨_, Try.underlying87, trivial⟩, by kernel_rfl⟩
instance : CN Try.prog 87 6 := ⟨by kernel_rfl⟩
instance : CZ Try.prog 87 (.agg #[.int .i64 0, .int .i64 0, .int .i64 0, .int .i64 0, .bool false, .bool false]) := ⟨by kernel_rfl⟩
instance : CS Try.prog 101 5 := ⟨⟨_, Try.underlying101, trivial⟩, by kernel_rfl⟩
instance : CN Try.prog 101 5 := ⟨by kernel_rfl⟩
instance : CZ Try.prog 101 (.agg #[.int .i64 0, .int .i64 0, .int .i64 0, .int .i64 0, .bool false]) := ⟨by kernel_rfl⟩
instance : CF Try.prog 24 0 0 := ⟨_, _, Try.underlying24, rfl, rfl, 0, by kernel_rfl⟩
instance : CF Try.prog 24 1 1 := ⟨_, _, Try.underlying24, rfl, rfl, 0, by kernel_rfl⟩
instance : CF Try.prog 24 2 2 := ⟨_, _, Try.underlying24, rfl, rfl, 0, by kernel_rfl⟩
instance : CF Try.prog 34 0 0 := ⟨_, _, Try.underlying34, rfl, rfl, 0, by kernel_rfl⟩
instance : CF Try.prog 34 1 1 := ⟨_, _, Try.underlying34, rfl, rfl, 0, by kernel_rfl⟩
instance : CF Try.prog 37 0 0 := ⟨_, _, Try.underlying37, rfl, rfl, 1, by kernel_rfl⟩
instance : CF Try.prog 37 1 2 := ⟨_, _, Try.underlying37, rfl, rfl, 0, by kernel_rfl⟩
instance : CF Try.prog 37 2 3 := ⟨_, _, Try.underlying37, rfl, rfl, 0, by kernel_rfl⟩
instance : CF Try.prog 37 3 4 := ⟨_, _, Try.underlying37, rfl, rfl, 0, by kernel_rfl⟩
instance : CF Try.prog 43 0 0 := ⟨_, _, Try.underlying43, rfl, rfl, 0, by kernel_rfl⟩
instance : CF Try.prog 43 1 1 := ⟨_, _, Try.underlying43, rfl, rfl, 0, by kernel_rfl⟩
instance : CF Try.prog 43 2 2 := ⟨_, _, Try.underlying43, rfl, rfl, 0, by kernel_rfl⟩
instance : CF Try.prog 43 3 3 := ⟨_, _, Try.underlying43, rfl, rfl, 0, by kernel_rfl⟩
instance : CF Try.prog 43 4 4 := ⟨_, _, Try.underlying43, rfl, rfl, 0, by kernel_rfl⟩
instance : CF Try.prog 64 0 0 := ⟨_, _, Try.underlying64, rfl, rfl, 0, by kernel_rfl⟩
instance : CF Try.prog 64 1 1 := ⟨_, _, Try.underlying64, rfl, rfl, 0, by kernel_rfl⟩
instance : CF Try.prog 64 2 2 := ⟨_, _, Try.underlying64, rfl, rfl, 0, by kernel_rfl⟩
instance : CF Try.prog 67 0 0 := ⟨_, _, Try.underlying67, rfl, rfl, 0, by kernel_rfl⟩
instance : CF Try.prog 67 1 1 := ⟨_, _, Try.underlying67, rfl, rfl, 0, by kernel_rfl⟩
instance : CF Try.prog 69 0 0 := ⟨_, _, Try.underlying69, rfl, rfl, 0, by kernel_rfl⟩
instance : CF Try.prog 69 1 1 := ⟨_, _, Try.underlying69, rfl, rfl, 0, by kernel_rfl⟩
instance : CF Try.prog 75 0 0 := ⟨_, _, Try.underlying75, rfl, rfl, 0, by kernel_rfl⟩
instance : CF Try.prog 75 1 1 := ⟨_, _, Try.underlying75, rfl, rfl, 0, by kernel_rfl⟩
instance : CF Try.prog 87 0 0 := ⟨_, _, Try.underlying87, rfl, rfl, 1, by kernel_rfl⟩
instance : CF Try.prog 87 1 2 := ⟨_, _, Try.underlying87, rfl, rfl, 1, by kernel_rfl⟩
instance : CF Try.prog 87 2 4 := ⟨_, _, Try.underlying87, rfl, rfl, 0, by kernel_rfl⟩
instance : CF Try.prog 87 3 5 := ⟨_, _, Try.underlying87, rfl, rfl, 0, by kernel_rfl⟩
instance : CF Try.prog 101 0 0 := ⟨_, _, Try.underlying101, rfl, rfl, 1, by kernel_rfl⟩
instance : CF Try.prog 101 1 2 := ⟨_, _, Try.underlying101, rfl, rfl, 1, by kernel_rfl⟩
instance : CF Try.prog 101 2 4 := ⟨_, _, Try.underlying101, rfl, rfl, 0, by kernel_rfl⟩
instance : CL Try.prog 22 3 1 8 (.int .i64 0) := CL.of Try.underlying22 (by kernel_rfl) rfl (by decide)
instance : CL Try.prog 31 43 5 40 (.agg #[.int .i64 0, .int .i64 0, .int .i64 0, .int .i64 0, .int .i64 0]) := CL.of Try.underlying31 (by kernel_rfl) rfl (by decide)
instance : CL Try.prog 35 34 2 16 (.agg #[.int .i64 0, .int .i64 0]) := CL.of Try.underlying35 (by kernel_rfl) rfl (by decide)
instance : CL Try.prog 60 67 2 16 (.agg #[.int .i64 0, .int .i64 0]) := CL.of Try.underlying60 (by kernel_rfl) rfl (by decide)
instance : CL Try.prog 83 87 6 40 (.agg #[.int .i64 0, .int .i64 0, .int .i64 0, .int .i64 0, .bool false, .bool false]) := CL.of Try.underlying83 (by kernel_rfl) rfl (by decide)
instance : CL Try.prog 96 22 1 24 (.slice none 0 0) := CL.of Try.underlying96 (by kernel_rfl) rfl (by decide)
instance : CB Try.prog 24 [.int .i64 0, .slice none 0 0, .slice none 0 0] #[(0, 1), (1, 1), (2, 1)] := ⟨.agg #[.int .i64 0, .slice none 0 0, .slice none 0 0], _, by kernel_rfl, rfl, Try.underlying24, fun _ => by kernel_rfl⟩
instance : CB Try.prog 34 [.int .i64 0, .int .i64 0] #[(0, 1), (1, 1)] := ⟨.agg #[.int .i64 0, .int .i64 0], _, by kernel_rfl, rfl, Try.underlying34, fun _ => by kernel_rfl⟩
instance : CB Try.prog 37 [.int .i64 0, .int .i64 0, .slice none 0 0, .int .i64 0, .slice none 0 0] #[(0, 2), (2, 1), (3, 1), (4, 1)] := ⟨.agg #[.int .i64 0, .int .i64 0, .slice none 0 0, .int .i64 0, .slice none 0 0], _, by kernel_rfl, rfl, Try.underlying37, fun _ => by kernel_rfl⟩
instance : CB Try.prog 43 [.int .i64 0, .int .i64 0, .int .i64 0, .int .i64 0, .int .i64 0] #[(0, 1), (1, 1), (2, 1), (3, 1), (4, 1)] := ⟨.agg #[.int .i64 0, .int .i64 0, .int .i64 0, .int .i64 0, .int .i64 0], _, by kernel_rfl, rfl, Try.underlying43, fun _ => by kernel_rfl⟩
instance : CB Try.prog 64 [.int .i64 0, .slice none 0 0, .slice none 0 0] #[(0, 1), (1, 1), (2, 1)] := ⟨.agg #[.int .i64 0, .slice none 0 0, .slice none 0 0], _, by kernel_rfl, rfl, Try.underlying64, fun _ => by kernel_rfl⟩
instance : CB Try.prog 67 [.int .i64 0, .int .i64 0] #[(0, 1), (1, 1)] := ⟨.agg #[.int .i64 0, .int .i64 0], _, by kernel_rfl, rfl, Try.underlying67, fun _ => by kernel_rfl⟩
instance : CB Try.prog 69 [.int .i64 0, .int .i64 0] #[(0, 1), (1, 1)] := ⟨.agg #[.int .i64 0, .int .i64 0], _, by kernel_rfl, rfl, Try.underlying69, fun _ => by kernel_rfl⟩
instance : CB Try.prog 75 [.slice none 0 0, .int .i64 0] #[(0, 1), (1, 1)] := ⟨.agg #[.slice none 0 0, .int .i64 0], _, by kernel_rfl, rfl, Try.underlying75, fun _ => by kernel_rfl⟩
instance : CB Try.prog 87 [.int .i64 0, .int .i64 0, .int .i64 0, .int .i64 0, .bool false, .bool false] #[(0, 2), (2, 2), (4, 1), (5, 1)] := ⟨.agg #[.int .i64 0, .int .i64 0, .int .i64 0, .int .i64 0, .bool false, .bool false], _, by kernel_rfl, rfl, Try.underlying87, fun _ => by kernel_rfl⟩
instance : CB Try.prog 101 [.int .i64 0, .int .i64 0, .int .i64 0, .int .i64 0, .bool false] #[(0, 2), (2, 2), (4, 1)] := ⟨.agg #[.int .i64 0, .int .i64 0, .int .i64 0, .int .i64 0, .bool false], _, by kernel_rfl, rfl, Try.underlying101, fun _ => by kernel_rfl⟩
instance : CFn Try.prog 8 := CFn.of Try.func8 rfl (by decide +kernel)
instance : CFn Try.prog 9 := CFn.of Try.func9 rfl (by decide +kernel)
instance : CFn Try.prog 10 := CFn.of Try.func10 rfl (by decide +kernel)
instance : CFn Try.prog 11 := CFn.of Try.func11 rfl (by decide +kernel)
instance : CFn Try.prog 12 := CFn.of Try.func12 rfl (by decide +kernel)
instance : CFn Try.prog 13 := CFn.of Try.func13 rfl (by decide +kernel)
instance : CFn Try.prog 14 := CFn.of Try.func14 rfl (by decide +kernel)
instance : CFn Try.prog 15 := CFn.of Try.func15 rfl (by decide +kernel)
instance : CFn Try.prog 16 := CFn.of Try.func16 rfl (by decide +kernel)
instance : CFn Try.prog 17 := CFn.of Try.func17 rfl (by decide +kernel)
instance : CFn Try.prog 18 := CFn.of Try.func18 rfl (by decide +kernel)
instance : CFn Try.prog 19 := CFn.of Try.func19 rfl (by decide +kernel)
instance : CFn Try.prog 20 := CFn.of Try.func20 rfl (by decide +kernel)
instance : CFn Try.prog 21 := CFn.of Try.func21 rfl (by decide +kernel)
instance : CFn Try.prog 22 := CFn.of Try.func22 rfl (by decide +kernel)
instance : CFn Try.prog 23 := CFn.of Try.func23 rfl (by decide +kernel)
instance : CFn Try.prog 24 := CFn.of Try.func24 rfl (by decide +kernel)
instance : CFn Try.prog 25 := CFn.of Try.func25 rfl (by decide +kernel)
instance : CFn Try.prog 26 := CFn.of Try.func26 rfl (by decide +kernel)
instance : CFn Try.prog 27 := CFn.of Try.func27 rfl (by decide +kernel)
instance : CFn Try.prog 28 := CFn.of Try.func28 rfl (by decide +kernel)
instance : CFn Try.prog 29 := CFn.of Try.func29 rfl (by decide +kernel)
instance : CFn Try.prog 30 := CFn.of Try.func30 rfl (by decide +kernel)
instance : CFn Try.prog 31 := CFn.of Try.func31 rfl (by decide +kernel)
instance : CFn Try.prog 32 := CFn.of Try.func32 rfl (by decide +kernel)
instance : CFn Try.prog 33 := CFn.of Try.func33 rfl (by decide +kernel)
instance : CFn Try.prog 34 := CFn.of Try.func34 rfl (by decide +kernel)
instance : CFn Try.prog 35 := CFn.of Try.func35 rfl (by decide +kernel)
instance : CFn Try.prog 36 := CFn.of Try.func36 rfl (by decide +kernel)
instance : CFn Try.prog 37 := CFn.of Try.func37 rfl (by decide +kernel)
instance : CFn Try.prog 38 := CFn.of Try.func38 rfl (by decide +kernel)
instance : CFn Try.prog 39 := CFn.of Try.func39 rfl (by decide +kernel)
instance : CFn Try.prog 40 := CFn.of Try.func40 rfl (by decide +kernel)
instance : CFn Try.prog 41 := CFn.of Try.func41 rfl (by decide +kernel)
instance : CFn Try.prog 42 := CFn.of Try.func42 rfl (by decide +kernel)
instance : CFn Try.prog 43 := CFn.of Try.func43 rfl (by decide +kernel)
instance : CFn Try.prog 44 := CFn.of Try.func44 rfl (by decide +kernel)
instance : CFn Try.prog 45 := CFn.of Try.func45 rfl (by decide +kernel)
instance : CFn Try.prog 46 := CFn.of Try.func46 rfl (by decide +kernel)
instance : CFn Try.prog 47 := CFn.of Try.func47 rfl (by decide +kernel)
instance : CFn Try.prog 48 := CFn.of Try.func48 rfl (by decide +kernel)
instance : CFn Try.prog 49 := CFn.of Try.func49 rfl (by decide +kernel)
instance : CFn Try.prog 50 := CFn.of Try.func50 rfl (by decide +kernel)
instance : CFn Try.prog 51 := CFn.of Try.func51 rfl (by decide +kernel)
instance : CFn Try.prog 52 := CFn.of Try.func52 rfl (by decide +kernel)
instance : CFn Try.prog 53 := CFn.of Try.func53 rfl (by decide +kernel)
instance : CFn Try.prog 54 := CFn.of Try.func54 rfl (by decide +kernel)
instance : CFn Try.prog 55 := CFn.of Try.func55 rfl (by decide +kernel)
instance : CFn Try.prog 56 := CFn.of Try.func56 rfl (by decide +kernel)
instance : CFn Try.prog 57 := CFn.of Try.func57 rfl (by decide +kernel)
instance : CFn Try.prog 58 := CFn.of Try.func58 rfl (by decide +kernel)
instance : CFn Try.prog 59 := CFn.of Try.func59 rfl (by decide +kernel)
instance : CFn Try.prog 60 := CFn.of Try.func60 rfl (by decide +kernel)
instance : CFn Try.prog 61 := CFn.of Try.func61 rfl (by decide +kernel)
instance : CFn Try.prog 62 := CFn.of Try.func62 rfl (by decide +kernel)
instance : CFn Try.prog 63 := CFn.of Try.func63 rfl (by decide +kernel)
instance : CFn Try.prog 64 := CFn.of Try.func64 rfl (by decide +kernel)
instance : CFn Try.prog 65 := CFn.of Try.func65 rfl (by decide +kernel)
instance : CFn Try.prog 66 := CFn.of Try.func66 rfl (by decide +kernel)
instance : CFn Try.prog 67 := CFn.of Try.func67 rfl (by decide +kernel)
instance : CFn Try.prog 68 := CFn.of Try.func68 rfl (by decide +kernel)
instance : CFn Try.prog 69 := CFn.of Try.func69 rfl (by decide +kernel)
instance : CFn Try.prog 70 := CFn.of Try.func70 rfl (by decide +kernel)
instance : CFn Try.prog 71 := CFn.of Try.func71 rfl (by decide +kernel)
instance : CFn Try.prog 72 := CFn.of Try.func72 rfl (by decide +kernel)
instance : CFn Try.prog 73 := CFn.of Try.func73 rfl (by decide +kernel)
instance : CFn Try.prog 74 := CFn.of Try.func74 rfl (by decide +kernel)
instance : CFn Try.prog 75 := CFn.of Try.func75 rfl (by decide +kernel)
instance : CFn Try.prog 76 := CFn.of Try.func76 rfl (by decide +kernel)
instance : CFn Try.prog 77 := CFn.of Try.func77 rfl (by decide +kernel)
instance : CFn Try.prog 78 := CFn.of Try.func78 rfl (by decide +kernel)
instance : CFn Try.prog 79 := CFn.of Try.func79 rfl (by decide +kernel)
instance : CFn Try.prog 80 := CFn.of Try.func80 rfl (by decide +kernel)
instance : CFn Try.prog 81 := CFn.of Try.func81 rfl (by decide +kernel)
instance : CFn Try.prog 82 := CFn.of Try.func82 rfl (by decide +kernel)
instance : CFn Try.prog 83 := CFn.of Try.func83 rfl (by decide +kernel)
instance : CM Try.prog := ⟨by kernel_rfl⟩
instance : CK Try.prog 95 kvI := CK.of Try.underlying95 Try.underlying3 (fun _ => rfl) (fun _ _ h => (Value.int.inj h).2) (by kernel_rfl)
theorem qin34 (d : Nat) (a0 b0 : Int) (a1 b1 : Int) (w : World) : (Op.equalIn (d + 3) 34 (.agg #[.int .i64 a0, .int .i64 a1]) (.agg #[.int .i64 b0, .int .i64 b1])).run Try.prog w = .ok (decide (a0 = b0 ∧ a1 = b1)) w := by
  rw [run_equalIn_agg w (d + 2) 34 _ _ (by kernel_rfl) (by kernel_rfl)]
  rw [show Try.prog.fieldsOf 34 = #[{ name := "Lo", type := 3, offset := 0, embedded := false, tag := "", pkgPath := "", byteOffset := 0 }, { name := "Hi", type := 3, offset := 1, embedded := false, tag := "", pkgPath := "", byteOffset := 8 }] from by kernel_rfl]
  have p3 : ∀ cs off v w, cs[off]? = some v → (part 3 cs off).run Try.prog w = .ok v w := fun cs off v w h => by simp [part, run_isAgg1, h]
  have q3 := fun d a b w => run_equalIn_int (P := Try.prog) w d 3 .i64 .i64 a b Try.underlying3
  simp [Op.eqFields, p3, q3]
  by_cases h0 : a0 = b0 <;> by_cases h1 : a1 = b1 <;> simp [h0, h1]
theorem yeq34 {N : Nat} {ρ : Env} {w : World} {d : Option Nat} {ty : TypeId} {ps : String} {af : Array Edge} {gd : Option (Nat × Bool)} {x y : Operand} {yt : TypeId} {a0 b0 : Int} {a1 b1 : Int} (hx : evo ρ x = some (.agg #[.int .i64 a0, .int .i64 a1])) (hy : evo ρ y = some (.agg #[.int .i64 b0, .int .i64 b1])) : Yv Try.prog N ρ w ⟨d, .binOp .eql 34 x y yt, ty, ps, af, gd⟩ (.bool (decide (a0 = b0 ∧ a1 = b1))) := yv_eqS (by kernel_rfl) (qin34 9997 a0 b0 a1 b1 w) hx hy
theorem yne34 {N : Nat} {ρ : Env} {w : World} {d : Option Nat} {ty : TypeId} {ps : String} {af : Array Edge} {gd : Option (Nat × Bool)} {x y : Operand} {yt : TypeId} {a0 b0 : Int} {a1 b1 : Int} (hx : evo ρ x = some (.agg #[.int .i64 a0, .int .i64 a1])) (hy : evo ρ y = some (.agg #[.int .i64 b0, .int .i64 b1])) : Yv Try.prog N ρ w ⟨d, .binOp .neq 34 x y yt, ty, ps, af, gd⟩ (.bool (decide (¬ (a0 = b0 ∧ a1 = b1)))) := yv_neS (by kernel_rfl) (qin34 9997 a0 b0 a1 b1 w) hx hy
theorem qin43 (d : Nat) (a0 b0 : Int) (a1 b1 : Int) (a2 b2 : Int) (a3 b3 : Int) (a4 b4 : Int) (w : World) : (Op.equalIn (d + 3) 43 (.agg #[.int .i64 a0, .int .i64 a1, .int .i64 a2, .int .i64 a3, .int .i64 a4]) (.agg #[.int .i64 b0, .int .i64 b1, .int .i64 b2, .int .i64 b3, .int .i64 b4])).run Try.prog w = .ok (decide (a0 = b0 ∧ a1 = b1 ∧ a2 = b2 ∧ a3 = b3 ∧ a4 = b4)) w := by
  rw [run_equalIn_agg w (d + 2) 43 _ _ (by kernel_rfl) (by kernel_rfl)]
  rw [show Try.prog.fieldsOf 43 = #[{ name := "Element", type := 3, offset := 0, embedded := false, tag := "", pkgPath := "", byteOffset := 0 }, { name := "Length", type := 3, offset := 1, embedded := false, tag := "", pkgPath := "", byteOffset := 8 }, { name := "Grade", type := 3, offset := 2, embedded := false, tag := "", pkgPath := "", byteOffset := 16 }, { name := "Curve", type := 3, offset := 3, embedded := false, tag := "", pkgPath := "", byteOffset := 24 }, { name := "Power", type := 3, offset := 4, embedded := false, tag := "", pkgPath := "", byteOffset := 32 }] from by kernel_rfl]
  have p3 : ∀ cs off v w, cs[off]? = some v → (part 3 cs off).run Try.prog w = .ok v w := fun cs off v w h => by simp [part, run_isAgg1, h]
  have q3 := fun d a b w => run_equalIn_int (P := Try.prog) w d 3 .i64 .i64 a b Try.underlying3
  simp [Op.eqFields, p3, q3]
  repeat (split <;> simp_all)
theorem yeq43 {N : Nat} {ρ : Env} {w : World} {d : Option Nat} {ty : TypeId} {ps : String} {af : Array Edge} {gd : Option (Nat × Bool)} {x y : Operand} {yt : TypeId} {a0 b0 : Int} {a1 b1 : Int} {a2 b2 : Int} {a3 b3 : Int} {a4 b4 : Int} (hx : evo ρ x = some (.agg #[.int .i64 a0, .int .i64 a1, .int .i64 a2, .int .i64 a3, .int .i64 a4])) (hy : evo ρ y = some (.agg #[.int .i64 b0, .int .i64 b1, .int .i64 b2, .int .i64 b3, .int .i64 b4])) : Yv Try.prog N ρ w ⟨d, .binOp .eql 43 x y yt, ty, ps, af, gd⟩ (.bool (decide (a0 = b0 ∧ a1 = b1 ∧ a2 = b2 ∧ a3 = b3 ∧ a4 = b4))) := yv_eqS (by kernel_rfl) (qin43 9997 a0 b0 a1 b1 a2 b2 a3 b3 a4 b4 w) hx hy
theorem yne43 {N : Nat} {ρ : Env} {w : World} {d : Option Nat} {ty : TypeId} {ps : String} {af : Array Edge} {gd : Option (Nat × Bool)} {x y : Operand} {yt : TypeId} {a0 b0 : Int} {a1 b1 : Int} {a2 b2 : Int} {a3 b3 : Int} {a4 b4 : Int} (hx : evo ρ x = some (.agg #[.int .i64 a0, .int .i64 a1, .int .i64 a2, .int .i64 a3, .int .i64 a4])) (hy : evo ρ y = some (.agg #[.int .i64 b0, .int .i64 b1, .int .i64 b2, .int .i64 b3, .int .i64 b4])) : Yv Try.prog N ρ w ⟨d, .binOp .neq 43 x y yt, ty, ps, af, gd⟩ (.bool (decide (¬ (a0 = b0 ∧ a1 = b1 ∧ a2 = b2 ∧ a3 = b3 ∧ a4 = b4)))) := yv_neS (by kernel_rfl) (qin43 9997 a0 b0 a1 b1 a2 b2 a3 b3 a4 b4 w) hx hy
end Go.Proofs.Ytdabnfhkojapjaa
