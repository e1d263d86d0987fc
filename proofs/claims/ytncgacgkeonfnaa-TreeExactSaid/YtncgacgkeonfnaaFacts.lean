/-
  Facts on the types and functions that this seat's functions meet, each a closed fact of the loaded program. Printed by a program.
-/
import Derived.Test.YtncgacgkeonfnaaClo
import Derived.Test.YtncgacgkeonfnaaProg
namespace Go.Proofs.Ytncgacgkeonfnaa
open Go.Hy

instance : C1 Try.prog 3 := ⟨⟨_, Try.underlying3, trivial⟩⟩
instance : CN Try.prog 3 1 := ⟨by kernel_rfl⟩
instance : CZ Try.prog 3 (.int .i64 0) := ⟨by kernel_rfl⟩
instance : C1 Try.prog 4 := ⟨⟨_, Try.underlying4, trivial⟩⟩
instance : CN Try.prog 4 1 := ⟨by kernel_rfl⟩
instance : CZ Try.prog 4 (.bool false) := ⟨by kernel_rfl⟩
instance : C1 Try.prog 9 := ⟨⟨_, Try.underlying9, trivial⟩⟩
instance : CN Try.prog 9 1 := ⟨by kernel_rfl⟩
instance : CZ Try.prog 9 (.string ⟨#[]⟩) := ⟨by kernel_rfl⟩
instance : C1 Try.prog 22 := ⟨⟨_, Try.underlying22, trivial⟩⟩
instance : CN Try.prog 22 1 := ⟨by kernel_rfl⟩
instance : CZ Try.prog 22 (.slice none 0 0) := ⟨by kernel_rfl⟩
instance : CS Try.prog 32 8 := ⟨⟨_, Try.underlying32, trivial⟩, by kernel_rfl⟩
instance : CN Try.prog 32 8 := ⟨by kernel_rfl⟩
instance : CZ Try.prog 32 (.agg #[.int .i64 0, .string ⟨#[]⟩, .int .i64 0, .int .i64 0, .int .i64 0, .int .i64 0, .int .i64 0, .int .i64 0]) := ⟨by kernel_rfl⟩
instance : CS Try.prog 46 2 := ⟨⟨_, Try.underlying46, trivial⟩, by kernel_rfl⟩
instance : CN Try.prog 46 2 := ⟨by kernel_rfl⟩
instance : CZ Try.prog 46 (.agg #[.int .i64 0, .int .i64 0]) := ⟨by kernel_rfl⟩
instance : C1 Try.prog 48 := ⟨⟨_, Try.underlying48, trivial⟩⟩
instance : CN Try.prog 48 1 := ⟨by kernel_rfl⟩
instance : CZ Try.prog 48 (.slice none 0 0) := ⟨by kernel_rfl⟩
instance : CS Try.prog 50 3 := ⟨⟨_, Try.underlying50, trivial⟩, by kernel_rfl⟩
instance : CN Try.prog 50 3 := ⟨by kernel_rfl⟩
instance : CZ Try.prog 50 (.agg #[.int .i64 0, .int .i64 0, .int .i64 0]) := ⟨by kernel_rfl⟩
instance : CS Try.prog 53 4 := ⟨⟨_, Try.underlying53, trivial⟩, by kernel_rfl⟩
instance : CN Try.prog 53 4 := ⟨by kernel_rfl⟩
instance : CZ Try.prog 53 (.agg #[.int .i64 0, .int .i64 0, .int .i64 0, .int .i64 0]) := ⟨by kernel_rfl⟩
instance : CS Try.prog 55 2 := ⟨⟨_, Try.underlying55, trivial⟩, by kernel_rfl⟩
instance : CN Try.prog 55 2 := ⟨by kernel_rfl⟩
instance : CZ Try.prog 55 (.agg #[.int .i64 0, .int .i64 0]) := ⟨by kernel_rfl⟩
instance : CS Try.prog 62 4 := ⟨⟨_, Try.underlying62, trivial⟩, by kernel_rfl⟩
instance : CN Try.prog 62 4 := ⟨by kernel_rfl⟩
instance : CZ Try.prog 62 (.agg #[.int .i64 0, .int .i64 0, .int .i64 0, .int .i64 0]) := ⟨by kernel_rfl⟩
instance : CS Try.prog 77 5 := ⟨⟨_, Try.underlying77, trivial⟩, by kernel_rfl⟩
instance : CN Try.prog 77 5 := ⟨by kernel_rfl⟩
instance : CZ Try.prog 77 (.agg #[.int .i64 0, .int .i64 0, .int .i64 0, .int .i64 0, .int .i64 0]) := ⟨by kernel_rfl⟩
instance : CS Try.prog 84 2 := ⟨⟨_, Try.underlying84, trivial⟩, by kernel_rfl⟩
instance : CN Try.prog 84 2 := ⟨by kernel_rfl⟩
instance : CZ Try.prog 84 (.agg #[.slice none 0 0, .int .i64 0]) := ⟨by kernel_rfl⟩
instance : CS Try.prog 109 2 := ⟨⟨_, Try.underlying109, trivial⟩, by kernel_rfl⟩
instance : CN Try.prog 109 2 := ⟨by kernel_rfl⟩
instance : CZ Try.prog 109 (.agg #[.int .i64 0, .int .i64 0]) := ⟨by kernel_rfl⟩
instance : CF Try.prog 32 0 0 := ⟨_, _, Try.underlying32, rfl, rfl, 0, by kernel_rfl⟩
instance : CF Try.prog 32 1 1 := ⟨_, _, Try.underlying32, rfl, rfl, 0, by kernel_rfl⟩
instance : CF Try.prog 32 2 2 := ⟨_, _, Try.underlying32, rfl, rfl, 0, by kernel_rfl⟩
instance : CF Try.prog 32 3 3 := ⟨_, _, Try.underlying32, rfl, rfl, 0, by kernel_rfl⟩
instance : CF Try.prog 32 4 4 := ⟨_, _, Try.underlying32, rfl, rfl, 0, by kernel_rfl⟩
instance : CF Try.prog 32 5 5 := ⟨_, _, Try.underlying32, rfl, rfl, 0, by kernel_rfl⟩
instance : CF Try.prog 32 6 6 := ⟨_, _, Try.underlying32, rfl, rfl, 0, by kernel_rfl⟩
instance : CF Try.prog 32 7 7 := ⟨_, _, Try.underlying32, rfl, rfl, 0, by kernel_rfl⟩
instance : CF Try.prog 50 0 0 := ⟨_, _, Try.underlying50, rfl, rfl, 0, by kernel_rfl⟩
instance : CF Try.prog 50 1 1 := ⟨_, _, Try.underlying50, rfl, rfl, 0, by kernel_rfl⟩
instance : CF Try.prog 50 2 2 := ⟨_, _, Try.underlying50, rfl, rfl, 0, by kernel_rfl⟩
instance : CF Try.prog 53 0 0 := ⟨_, _, Try.underlying53, rfl, rfl, 0, by kernel_rfl⟩
instance : CF Try.prog 53 1 1 := ⟨_, _, Try.underlying53, rfl, rfl, 0, by kernel_rfl⟩
instance : CF Try.prog 53 2 2 := ⟨_, _, Try.underlying53, rfl, rfl, 0, by kernel_rfl⟩
instance : CF Try.prog 53 3 3 := ⟨_, _, Try.underlying53, rfl, rfl, 0, by kernel_rfl⟩
instance : CF Try.prog 55 0 0 := ⟨_, _, Try.underlying55, rfl, rfl, 0, by kernel_rfl⟩
instance : CF Try.prog 55 1 1 := ⟨_, _, Try.underlying55, rfl, rfl, 0, by kernel_rfl⟩
instance : CF Try.prog 62 0 0 := ⟨_, _, Try.underlying62, rfl, rfl, 1, by kernel_rfl⟩
instance : CF Try.prog 62 1 2 := ⟨_, _, Try.underlying62, rfl, rfl, 1, by kernel_rfl⟩
instance : CF Try.prog 77 3 3 := ⟨_, _, Try.underlying77, rfl, rfl, 0, by kernel_rfl⟩
instance : CF Try.prog 77 4 4 := ⟨_, _, Try.underlying77, rfl, rfl, 0, by kernel_rfl⟩
instance : CF Try.prog 84 0 0 := ⟨_, _, Try.underlying84, rfl, rfl, 0, by kernel_rfl⟩
instance : CF Try.prog 84 1 1 := ⟨_, _, Try.underlying84, rfl, rfl, 0, by kernel_rfl⟩
instance : CL Try.prog 22 3 1 8 (.int .i64 0) := CL.of Try.underlying22 (by kernel_rfl) rfl (by decide)
instance : CL Try.prog 25 32 8 72 (.agg #[.int .i64 0, .string ⟨#[]⟩, .int .i64 0, .int .i64 0, .int .i64 0, .int .i64 0, .int .i64 0, .int .i64 0]) := CL.of Try.underlying25 (by kernel_rfl) rfl (by decide)
instance : CL Try.prog 43 46 2 16 (.agg #[.int .i64 0, .int .i64 0]) := CL.of Try.underlying43 (by kernel_rfl) rfl (by decide)
instance : CL Try.prog 47 4 1 1 (.bool false) := CL.of Try.underlying47 (by kernel_rfl) rfl (by decide)
instance : CL Try.prog 48 50 3 24 (.agg #[.int .i64 0, .int .i64 0, .int .i64 0]) := CL.of Try.underlying48 (by kernel_rfl) rfl (by decide)
instance : CL Try.prog 51 53 4 32 (.agg #[.int .i64 0, .int .i64 0, .int .i64 0, .int .i64 0]) := CL.of Try.underlying51 (by kernel_rfl) rfl (by decide)
instance : CL Try.prog 73 77 5 40 (.agg #[.int .i64 0, .int .i64 0, .int .i64 0, .int .i64 0, .int .i64 0]) := CL.of Try.underlying73 (by kernel_rfl) rfl (by decide)
instance : CL Try.prog 78 55 2 16 (.agg #[.int .i64 0, .int .i64 0]) := CL.of Try.underlying78 (by kernel_rfl) rfl (by decide)
instance : CL Try.prog 92 9 1 16 (.string ⟨#[]⟩) := CL.of Try.underlying92 (by kernel_rfl) rfl (by decide)
instance : CL Try.prog 100 5 1 1 (.int .u8 0) := CL.of Try.underlying100 (by kernel_rfl) rfl (by decide)
instance : CB Try.prog 32 [.int .i64 0, .string ⟨#[]⟩, .int .i64 0, .int .i64 0, .int .i64 0, .int .i64 0, .int .i64 0, .int .i64 0] #[(0, 1), (1, 1), (2, 1), (3, 1), (4, 1), (5, 1), (6, 1), (7, 1)] := ⟨.agg #[.int .i64 0, .string ⟨#[]⟩, .int .i64 0, .int .i64 0, .int .i64 0, .int .i64 0, .int .i64 0, .int .i64 0], _, by kernel_rfl, rfl, Try.underlying32, fun _ => by kernel_rfl⟩
instance : CA Try.prog 46 2 3 1 [.int .i64 0, .int .i64 0] := ⟨Try.underlying46, by kernel_rfl, .agg #[.int .i64 0, .int .i64 0], by kernel_rfl, rfl⟩
instance : CB Try.prog 50 [.int .i64 0, .int .i64 0, .int .i64 0] #[(0, 1), (1, 1), (2, 1)] := ⟨.agg #[.int .i64 0, .int .i64 0, .int .i64 0], _, by kernel_rfl, rfl, Try.underlying50, fun _ => by kernel_rfl⟩
instance : CB Try.prog 53 [.int .i64 0, .int .i64 0, .int .i64 0, .int .i64 0] #[(0, 1), (1, 1), (2, 1), (3, 1)] := ⟨.agg #[.int .i64 0, .int .i64 0, .int .i64 0, .int .i64 0], _, by kernel_rfl, rfl, Try.underlying53, fun _ => by kernel_rfl⟩
instance : CB Try.prog 55 [.int .i64 0, .int .i64 0] #[(0, 1), (1, 1)] := ⟨.agg #[.int .i64 0, .int .i64 0], _, by kernel_rfl, rfl, Try.underlying55, fun _ => by kernel_rfl⟩
instance : CB Try.prog 62 [.int .i64 0, .int .i64 0, .int .i64 0, .int .i64 0] #[(0, 2), (2, 2)] := ⟨.agg #[.int .i64 0, .int .i64 0, .int .i64 0, .int .i64 0], _, by kernel_rfl, rfl, Try.underlying62, fun _ => by kernel_rfl⟩
instance : CB Try.prog 77 [.int .i64 0, .int .i64 0, .int .i64 0, .int .i64 0, .int .i64 0] #[(0, 1), (1, 1), (2, 1), (3, 1), (4, 1)] := ⟨.agg #[.int .i64 0, .int .i64 0, .int .i64 0, .int .i64 0, .int .i64 0], _, by kernel_rfl, rfl, Try.underlying77, fun _ => by kernel_rfl⟩
instance : CB Try.prog 84 [.slice none 0 0, .int .i64 0] #[(0, 1), (1, 1)] := ⟨.agg #[.slice none 0 0, .int .i64 0], _, by kernel_rfl, rfl, Try.underlying84, fun _ => by kernel_rfl⟩
instance : CB Try.prog 109 [.int .i64 0, .int .i64 0] #[(0, 1), (1, 1)] := ⟨.agg #[.int .i64 0, .int .i64 0], _, by kernel_rfl, rfl, Try.underlying109, fun _ => by kernel_rfl⟩
instance : CFn Try.prog 14 := CFn.of Try.func14 rfl (by decide +kernel)
instance : CFn Try.prog 15 := CFn.of Try.func15 rfl (by decide +kernel)
instance : CFn Try.prog 16 := CFn.of Try.func16 rfl (by decide +kernel)
instance : CFn Try.prog 17 := CFn.of Try.func17 rfl (by decide +kernel)
instance : CFn Try.prog 18 := CFn.of Try.func18 rfl (by decide +kernel)
instance : CFn Try.prog 19 := CFn.of Try.func19 rfl (by decide +kernel)
instance : CFn Try.prog 20 := CFn.of Try.func20 rfl (by decide +kernel)
instance : CFn Try.prog 21 := CFn.of Try.func21 rfl (by decide +kernel)
instance : CFn Try.prog 22 := CFn.of Try.func22 rfl (by decide +kernel)
instance : CFn Try.prog 23 := CFn.of Try.func23 rfl (by decide +kernel)
instance : CFn Try.prog 24 := CFn.of Try.func24 rfl (by decide +kernel)
instance : CFn Try.prog 25 := CFn.of Try.func25 rfl (by decide +kernel)
instance : CFn Try.prog 26 := CFn.of Try.func26 rfl (by decide +kernel)
instance : CFn Try.prog 27 := CFn.of Try.func27 rfl (by decide +kernel)
instance : CFn Try.prog 28 := CFn.of Try.func28 rfl (by decide +kernel)
instance : CFn Try.prog 29 := CFn.of Try.func29 rfl (by decide +kernel)
instance : CFn Try.prog 30 := CFn.of Try.func30 rfl (by decide +kernel)
instance : CFn Try.prog 31 := CFn.of Try.func31 rfl (by decide +kernel)
instance : CFn Try.prog 32 := CFn.of Try.func32 rfl (by decide +kernel)
instance : CFn Try.prog 33 := CFn.of Try.func33 rfl (by decide +kernel)
instance : CFn Try.prog 34 := CFn.of Try.func34 rfl (by decide +kernel)
instance : CFn Try.prog 35 := CFn.of Try.func35 rfl (by decide +kernel)
instance : CFn Try.prog 36 := CFn.of Try.func36 rfl (by decide +kernel)
instance : CFn Try.prog 37 := CFn.of Try.func37 rfl (by decide +kernel)
instance : CFn Try.prog 38 := CFn.of Try.func38 rfl (by decide +kernel)
instance : CFn Try.prog 39 := CFn.of Try.func39 rfl (by decide +kernel)
instance : CFn Try.prog 40 := CFn.of Try.func40 rfl (by decide +kernel)
instance : CFn Try.prog 41 := CFn.of Try.func41 rfl (by decide +kernel)
instance : CFn Try.prog 42 := CFn.of Try.func42 rfl (by decide +kernel)
instance : CFn Try.prog 43 := CFn.of Try.func43 rfl (by decide +kernel)
instance : CFn Try.prog 44 := CFn.of Try.func44 rfl (by decide +kernel)
instance : CFn Try.prog 45 := CFn.of Try.func45 rfl (by decide +kernel)
instance : CFn Try.prog 46 := CFn.of Try.func46 rfl (by decide +kernel)
instance : CFn Try.prog 47 := CFn.of Try.func47 rfl (by decide +kernel)
instance : CFn Try.prog 48 := CFn.of Try.func48 rfl (by decide +kernel)
instance : CFn Try.prog 49 := CFn.of Try.func49 rfl (by decide +kernel)
instance : CFn Try.prog 50 := CFn.of Try.func50 rfl (by decide +kernel)
instance : CFn Try.prog 51 := CFn.of Try.func51 rfl (by decide +kernel)
instance : CFn Try.prog 52 := CFn.of Try.func52 rfl (by decide +kernel)
instance : CFn Try.prog 53 := CFn.of Try.func53 rfl (by decide +kernel)
instance : CFn Try.prog 54 := CFn.of Try.func54 rfl (by decide +kernel)
instance : CFn Try.prog 55 := CFn.of Try.func55 rfl (by decide +kernel)
instance : CFn Try.prog 56 := CFn.of Try.func56 rfl (by decide +kernel)
instance : CFn Try.prog 57 := CFn.of Try.func57 rfl (by decide +kernel)
instance : CFn Try.prog 58 := CFn.of Try.func58 rfl (by decide +kernel)
instance : CFn Try.prog 59 := CFn.of Try.func59 rfl (by decide +kernel)
instance : CFn Try.prog 60 := CFn.of Try.func60 rfl (by decide +kernel)
instance : CFn Try.prog 61 := CFn.of Try.func61 rfl (by decide +kernel)
instance : CFn Try.prog 62 := CFn.of Try.func62 rfl (by decide +kernel)
instance : CFn Try.prog 63 := CFn.of Try.func63 rfl (by decide +kernel)
instance : CFn Try.prog 64 := CFn.of Try.func64 rfl (by decide +kernel)
instance : CFn Try.prog 65 := CFn.of Try.func65 rfl (by decide +kernel)
instance : CFn Try.prog 66 := CFn.of Try.func66 rfl (by decide +kernel)
instance : CFn Try.prog 67 := CFn.of Try.func67 rfl (by decide +kernel)
instance : CFn Try.prog 68 := CFn.of Try.func68 rfl (by decide +kernel)
instance : CFn Try.prog 69 := CFn.of Try.func69 rfl (by decide +kernel)
instance : CFn Try.prog 70 := CFn.of Try.func70 rfl (by decide +kernel)
instance : CFn Try.prog 71 := CFn.of Try.func71 rfl (by decide +kernel)
instance : CFn Try.prog 72 := CFn.of Try.func72 rfl (by decide +kernel)
instance : CFn Try.prog 73 := CFn.of Try.func73 rfl (by decide +kernel)
instance : CFn Try.prog 74 := CFn.of Try.func74 rfl (by decide +kernel)
instance : CFn Try.prog 75 := CFn.of Try.func75 rfl (by decide +kernel)
instance : CFn Try.prog 76 := CFn.of Try.func76 rfl (by decide +kernel)
instance : CFn Try.prog 77 := CFn.of Try.func77 rfl (by decide +kernel)
instance : CFn Try.prog 78 := CFn.of Try.func78 rfl (by decide +kernel)
instance : CFn Try.prog 79 := CFn.of Try.func79 rfl (by decide +kernel)
instance : CFn Try.prog 80 := CFn.of Try.func80 rfl (by decide +kernel)
instance : CFn Try.prog 81 := CFn.of Try.func81 rfl (by decide +kernel)
instance : CFn Try.prog 82 := CFn.of Try.func82 rfl (by decide +kernel)
instance : CFn Try.prog 83 := CFn.of Try.func83 rfl (by decide +kernel)
instance : CFn Try.prog 84 := CFn.of Try.func84 rfl (by decide +kernel)
instance : CFn Try.prog 85 := CFn.of Try.func85 rfl (by decide +kernel)
instance : CFn Try.prog 86 := CFn.of Try.func86 rfl (by decide +kernel)
instance : CFn Try.prog 87 := CFn.of Try.func87 rfl (by decide +kernel)
instance : CM Try.prog := ⟨by kernel_rfl⟩
instance : CK Try.prog 105 kvZ := CK.of Try.underlying105 Try.underlying9 (fun _ => trivial) (fun _ _ h => Value.string.inj h) (by kernel_rfl)
theorem qin32 (d : Nat) (a0 b0 : Int) (a1 b1 : ByteArray) (a2 b2 : Int) (a3 b3 : Int) (a4 b4 : Int) (a5 b5 : Int) (a6 b6 : Int) (a7 b7 : Int) (w : World) : (Op.equalIn (d + 3) 32 (.agg #[.int .i64 a0, .string a1, .int .i64 a2, .int .i64 a3, .int .i64 a4, .int .i64 a5, .int .i64 a6, .int .i64 a7]) (.agg #[.int .i64 b0, .string b1, .int .i64 b2, .int .i64 b3, .int .i64 b4, .int .i64 b5, .int .i64 b6, .int .i64 b7])).run Try.prog w = .ok (decide (a0 = b0 ∧ a1 = b1 ∧ a2 = b2 ∧ a3 = b3 ∧ a4 = b4 ∧ a5 = b5 ∧ a6 = b6 ∧ a7 = b7)) w := by
  rw [run_equalIn_agg w (d + 2) 32 _ _ (by kernel_rfl) (by kernel_rfl)]
  rw [show Try.prog.fieldsOf 32 = #[{ name := "Kind", type := 3, offset := 0, embedded := false, tag := "", pkgPath := "", byteOffset := 0 }, { name := "Name", type := 9, offset := 1, embedded := false, tag := "", pkgPath := "", byteOffset := 8 }, { name := "Parent", type := 3, offset := 2, embedded := false, tag := "", pkgPath := "", byteOffset := 24 }, { name := "Side", type := 3, offset := 3, embedded := false, tag := "", pkgPath := "", byteOffset := 32 }, { name := "Length", type := 3, offset := 4, embedded := false, tag := "", pkgPath := "", byteOffset := 40 }, { name := "Grade", type := 3, offset := 5, embedded := false, tag := "", pkgPath := "", byteOffset := 48 }, { name := "Curve", type := 3, offset := 6, embedded := false, tag := "", pkgPath := "", byteOffset := 56 }, { name := "Power", type := 3, offset := 7, embedded := false, tag := "", pkgPath := "", byteOffset := 64 }] from by kernel_rfl]
  have p3 : ∀ cs off v w, cs[off]? = some v → (part 3 cs off).run Try.prog w = .ok v w := fun cs off v w h => by simp [part, run_isAgg1, h]
  have q3 := fun d a b w => run_equalIn_int (P := Try.prog) w d 3 .i64 .i64 a b Try.underlying3
  have p9 : ∀ cs off v w, cs[off]? = some v → (part 9 cs off).run Try.prog w = .ok v w := fun cs off v w h => by simp [part, run_isAgg1, h]
  have q9 : ∀ (d : Nat) (a b : ByteArray) (w : World), (Op.equalIn (d + 1) 9 (.string a) (.string b)).run Try.prog w = .ok (decide (a = b)) w := fun d a b w => by rw [run_equalIn_string (P := Try.prog) w d 9 a b Try.underlying9]; rw [str_beq]
  simp [Op.eqFields, p3, q3, p9, q9]
  repeat (split <;> simp_all)
theorem yeq32 {N : Nat} {ρ : Env} {w : World} {d : Option Nat} {ty : TypeId} {ps : String} {af : Array Edge} {gd : Option (Nat × Bool)} {x y : Operand} {yt : TypeId} {a0 b0 : Int} {a1 b1 : ByteArray} {a2 b2 : Int} {a3 b3 : Int} {a4 b4 : Int} {a5 b5 : Int} {a6 b6 : Int} {a7 b7 : Int} (hx : evo ρ x = some (.agg #[.int .i64 a0, .string a1, .int .i64 a2, .int .i64 a3, .int .i64 a4, .int .i64 a5, .int .i64 a6, .int .i64 a7])) (hy : evo ρ y = some (.agg #[.int .i64 b0, .string b1, .int .i64 b2, .int .i64 b3, .int .i64 b4, .int .i64 b5, .int .i64 b6, .int .i64 b7])) : Yv Try.prog N ρ w ⟨d, .binOp .eql 32 x y yt, ty, ps, af, gd⟩ (.bool (decide (a0 = b0 ∧ a1 = b1 ∧ a2 = b2 ∧ a3 = b3 ∧ a4 = b4 ∧ a5 = b5 ∧ a6 = b6 ∧ a7 = b7))) := yv_eqS (by kernel_rfl) (qin32 9997 a0 b0 a1 b1 a2 b2 a3 b3 a4 b4 a5 b5 a6 b6 a7 b7 w) hx hy
theorem yne32 {N : Nat} {ρ : Env} {w : World} {d : Option Nat} {ty : TypeId} {ps : String} {af : Array Edge} {gd : Option (Nat × Bool)} {x y : Operand} {yt : TypeId} {a0 b0 : Int} {a1 b1 : ByteArray} {a2 b2 : Int} {a3 b3 : Int} {a4 b4 : Int} {a5 b5 : Int} {a6 b6 : Int} {a7 b7 : Int} (hx : evo ρ x = some (.agg #[.int .i64 a0, .string a1, .int .i64 a2, .int .i64 a3, .int .i64 a4, .int .i64 a5, .int .i64 a6, .int .i64 a7])) (hy : evo ρ y = some (.agg #[.int .i64 b0, .string b1, .int .i64 b2, .int .i64 b3, .int .i64 b4, .int .i64 b5, .int .i64 b6, .int .i64 b7])) : Yv Try.prog N ρ w ⟨d, .binOp .neq 32 x y yt, ty, ps, af, gd⟩ (.bool (decide (¬ (a0 = b0 ∧ a1 = b1 ∧ a2 = b2 ∧ a3 = b3 ∧ a4 = b4 ∧ a5 = b5 ∧ a6 = b6 ∧ a7 = b7)))) := yv_neS (by kernel_rfl) (qin32 9997 a0 b0 a1 b1 a2 b2 a3 b3 a4 b4 a5 b5 a6 b6 a7 b7 w) hx hy
theorem qin46 (d : Nat) (a0 b0 : Int) (a1 b1 : Int) (w : World) : (Op.equalIn (d + 2) 46 (.agg #[.int .i64 a0, .int .i64 a1]) (.agg #[.int .i64 b0, .int .i64 b1])).run Try.prog w = .ok (decide (a0 = b0 ∧ a1 = b1)) w := by
  have p : ∀ cs off v w, cs[off]? = some v → (part 3 cs off).run Try.prog w = .ok v w := fun cs off v w h => by simp [part, run_isAgg1, h]
  have q := fun d a b w => run_equalIn_int (P := Try.prog) w d 3 .i64 .i64 a b Try.underlying3
  have hs : (Try.prog.info? 3).map (·.size) = some 1 := by kernel_rfl
  unfold Op.equalIn
  simp only [Sem.run_bind, run_underlying Try.underlying46, Result.andThen_ok, run_sizeOf' hs]
  simp [List.range', p, q]
  by_cases h0 : a0 = b0 <;> by_cases h1 : a1 = b1 <;> simp_all
theorem yeq46 {N : Nat} {ρ : Env} {w : World} {d : Option Nat} {ty : TypeId} {ps : String} {af : Array Edge} {gd : Option (Nat × Bool)} {x y : Operand} {yt : TypeId} {a0 b0 : Int} {a1 b1 : Int} (hx : evo ρ x = some (.agg #[.int .i64 a0, .int .i64 a1])) (hy : evo ρ y = some (.agg #[.int .i64 b0, .int .i64 b1])) : Yv Try.prog N ρ w ⟨d, .binOp .eql 46 x y yt, ty, ps, af, gd⟩ (.bool (decide (a0 = b0 ∧ a1 = b1))) := yv_eqS (by kernel_rfl) (qin46 9998 a0 b0 a1 b1 w) hx hy
theorem yne46 {N : Nat} {ρ : Env} {w : World} {d : Option Nat} {ty : TypeId} {ps : String} {af : Array Edge} {gd : Option (Nat × Bool)} {x y : Operand} {yt : TypeId} {a0 b0 : Int} {a1 b1 : Int} (hx : evo ρ x = some (.agg #[.int .i64 a0, .int .i64 a1])) (hy : evo ρ y = some (.agg #[.int .i64 b0, .int .i64 b1])) : Yv Try.prog N ρ w ⟨d, .binOp .neq 46 x y yt, ty, ps, af, gd⟩ (.bool (decide (¬ (a0 = b0 ∧ a1 = b1)))) := yv_neS (by kernel_rfl) (qin46 9998 a0 b0 a1 b1 w) hx hy
theorem qin55 (d : Nat) (a0 b0 : Int) (a1 b1 : Int) (w : World) : (Op.equalIn (d + 3) 55 (.agg #[.int .i64 a0, .int .i64 a1]) (.agg #[.int .i64 b0, .int .i64 b1])).run Try.prog w = .ok (decide (a0 = b0 ∧ a1 = b1)) w := by
  rw [run_equalIn_agg w (d + 2) 55 _ _ (by kernel_rfl) (by kernel_rfl)]
  rw [show Try.prog.fieldsOf 55 = #[{ name := "Lo", type := 3, offset := 0, embedded := false, tag := "", pkgPath := "", byteOffset := 0 }, { name := "Hi", type := 3, offset := 1, embedded := false, tag := "", pkgPath := "", byteOffset := 8 }] from by kernel_rfl]
  have p3 : ∀ cs off v w, cs[off]? = some v → (part 3 cs off).run Try.prog w = .ok v w := fun cs off v w h => by simp [part, run_isAgg1, h]
  have q3 := fun d a b w => run_equalIn_int (P := Try.prog) w d 3 .i64 .i64 a b Try.underlying3
  simp [Op.eqFields, p3, q3]
  by_cases h0 : a0 = b0 <;> by_cases h1 : a1 = b1 <;> simp [h0, h1]
theorem yeq55 {N : Nat} {ρ : Env} {w : World} {d : Option Nat} {ty : TypeId} {ps : String} {af : Array Edge} {gd : Option (Nat × Bool)} {x y : Operand} {yt : TypeId} {a0 b0 : Int} {a1 b1 : Int} (hx : evo ρ x = some (.agg #[.int .i64 a0, .int .i64 a1])) (hy : evo ρ y = some (.agg #[.int .i64 b0, .int .i64 b1])) : Yv Try.prog N ρ w ⟨d, .binOp .eql 55 x y yt, ty, ps, af, gd⟩ (.bool (decide (a0 = b0 ∧ a1 = b1))) := yv_eqS (by kernel_rfl) (qin55 9997 a0 b0 a1 b1 w) hx hy
theorem yne55 {N : Nat} {ρ : Env} {w : World} {d : Option Nat} {ty : TypeId} {ps : String} {af : Array Edge} {gd : Option (Nat × Bool)} {x y : Operand} {yt : TypeId} {a0 b0 : Int} {a1 b1 : Int} (hx : evo ρ x = some (.agg #[.int .i64 a0, .int .i64 a1])) (hy : evo ρ y = some (.agg #[.int .i64 b0, .int .i64 b1])) : Yv Try.prog N ρ w ⟨d, .binOp .neq 55 x y yt, ty, ps, af, gd⟩ (.bool (decide (¬ (a0 = b0 ∧ a1 = b1)))) := yv_neS (by kernel_rfl) (qin55 9997 a0 b0 a1 b1 w) hx hy
theorem qin109 (d : Nat) (a0 b0 : Int) (a1 b1 : Int) (w : World) : (Op.equalIn (d + 3) 109 (.agg #[.int .i64 a0, .int .i64 a1]) (.agg #[.int .i64 b0, .int .i64 b1])).run Try.prog w = .ok (decide (a0 = b0 ∧ a1 = b1)) w := by
  rw [run_equalIn_agg w (d + 2) 109 _ _ (by kernel_rfl) (by kernel_rfl)]
  rw [show Try.prog.fieldsOf 109 = #[{ name := "parent", type := 3, offset := 0, embedded := false, tag := "", pkgPath := "humpyard/layout", byteOffset := 0 }, { name := "side", type := 3, offset := 1, embedded := false, tag := "", pkgPath := "humpyard/layout", byteOffset := 8 }] from by kernel_rfl]
  have p3 : ∀ cs off v w, cs[off]? = some v → (part 3 cs off).run Try.prog w = .ok v w := fun cs off v w h => by simp [part, run_isAgg1, h]
  have q3 := fun d a b w => run_equalIn_int (P := Try.prog) w d 3 .i64 .i64 a b Try.underlying3
  simp [Op.eqFields, p3, q3]
  by_cases h0 : a0 = b0 <;> by_cases h1 : a1 = b1 <;> simp [h0, h1]
theorem yeq109 {N : Nat} {ρ : Env} {w : World} {d : Option Nat} {ty : TypeId} {ps : String} {af : Array Edge} {gd : Option (Nat × Bool)} {x y : Operand} {yt : TypeId} {a0 b0 : Int} {a1 b1 : Int} (hx : evo ρ x = some (.agg #[.int .i64 a0, .int .i64 a1])) (hy : evo ρ y = some (.agg #[.int .i64 b0, .int .i64 b1])) : Yv Try.prog N ρ w ⟨d, .binOp .eql 109 x y yt, ty, ps, af, gd⟩ (.bool (decide (a0 = b0 ∧ a1 = b1))) := yv_eqS (by kernel_rfl) (qin109 9997 a0 b0 a1 b1 w) hx hy
theorem yne109 {N : Nat} {ρ : Env} {w : World} {d : Option Nat} {ty : TypeId} {ps : String} {af : Array Edge} {gd : Option (Nat × Bool)} {x y : Operand} {yt : TypeId} {a0 b0 : Int} {a1 b1 : Int} (hx : evo ρ x = some (.agg #[.int .i64 a0, .int .i64 a1])) (hy : evo ρ y = some (.agg #[.int .i64 b0, .int .i64 b1])) : Yv Try.prog N ρ w ⟨d, .binOp .neq 109 x y yt, ty, ps, af, gd⟩ (.bool (decide (¬ (a0 = b0 ∧ a1 = b1)))) := yv_neS (by kernel_rfl) (qin109 9997 a0 b0 a1 b1 w) hx hy
end Go.Proofs.Ytncgacgkeonfnaa
