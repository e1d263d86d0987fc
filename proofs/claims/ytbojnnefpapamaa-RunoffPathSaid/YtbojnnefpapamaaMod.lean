/-
  Plain models of the program's functions. Printed by a program out of the translation.
-/
import Derived.Test.YtbojnnefpapamaaData
namespace Go.Hy
set_option linter.unusedVariables false
set_option linter.unusedSimpArgs false
set_option maxHeartbeats 2000000
set_option maxRecDepth 100000
def gen_New (a0 : (List Int)) : Option HumpgenMaker :=
  some (HumpgenMaker.mk a0 0)
def gen_word (a0 : Int) : Option ByteArray :=
  vl (Int.tmod (w64 (Int.tdiv a0 100)) 10) fun x1 =>
     vl (IntKind.wrap .u8 (w64 (48 + x1))) fun x2 =>
     vl (Int.tmod (w64 (Int.tdiv a0 10)) 10) fun x3 =>
     vl (IntKind.wrap .u8 (w64 (48 + x3))) fun x4 =>
     vl (IntKind.wrap .u8 (w64 (48 + (Int.tmod a0 10)))) fun x5 =>
     some (strOf ([101, x2, x4, x5] : List Int))
def gen_Maker_Next (a0 : HumpgenMaker) (a1 : Int) : Option (Int × Int) :=
  jp (fun (z1 : Int) =>
     ck (decide (a1 ≠ 0)) <|
     cond (decide ((Int.tmod z1 a1) < 0))
     (some (w64 ((Int.tmod z1 a1) + a1), w64 (a0.fn + 1)))
     (some (Int.tmod z1 a1, w64 (a0.fn + 1)))) fun k3 =>
     cond (decide (0 < (a0.fl.length : Int)))
     (ck (decide ((a0.fl.length : Int) ≠ 0)) <|
     vl (Int.tmod a0.fn (a0.fl.length : Int)) fun x7 =>
     ix a0.fl x7 fun x8 =>
     ck (decide ((a0.fl.length : Int) ≠ 0)) <|
     vl (w64 (Int.tdiv a0.fn (a0.fl.length : Int))) fun x11 =>
     k3 (w64 (x8 + (w64 (x11 * 7919)))))
     (k3 0)
def gen_Maker_Pick (a0 : HumpgenMaker) (a1 : (List Int)) : Option (Int × Int) :=
  bd (gen_Maker_Next a0 (a1.length : Int)) fun v1 =>
     ix a1 v1.1 fun x3 =>
     some (x3, v1.2)
def gen_Maker_element (a0 : HumpgenMaker) (a1 : Int) (a2 : Int) (a3 : Int) (a4 : Int) : Option (Element × Int) :=
  bd (gen_word a2) fun v2 =>
     bd (gen_Maker_Pick a0 ([1000, 5000, 9000, 12000, 30000, 100000] : List Int)) fun v4 =>
     bd (gen_Maker_Pick (HumpgenMaker.mk a0.fl v4.2) ([0, 100, (-150), 400, 1000, 3500, 5000] : List Int)) fun v7 =>
     bd (gen_Maker_Pick (HumpgenMaker.mk a0.fl v7.2) ([0, 0, 20, 150] : List Int)) fun v10 =>
     cond (decide (a1 = 2))
     (bd (gen_Maker_Pick (HumpgenMaker.mk a0.fl v10.2) ([500000, 2000000, 8000000, 30000000] : List Int)) fun v14 =>
     some ((Element.mk a1 v2 a3 a4 v4.1 v7.1 v10.1 v14.1), v14.2))
     (cond (decide (a1 = 4))
     (bd (gen_Maker_Pick (HumpgenMaker.mk a0.fl v10.2) ([100000, 400000, 700000] : List Int)) fun v17 =>
     bd (gen_Maker_Pick (HumpgenMaker.mk a0.fl v17.2) ([(-100), 0, 50, 150] : List Int)) fun v20 =>
     some ((Element.mk a1 v2 a3 a4 v17.1 v20.1 v10.1 0), v20.2))
     (some ((Element.mk a1 v2 a3 a4 v4.1 v7.1 v10.1 0), v10.2)))
def gen_Maker_Layout (a0 : HumpgenMaker) (a1 : Int) : Option ((List Element) × Int) :=
  bd (gen_word 0) fun v1 =>
     bd (gen_Maker_Next a0 (w64 (a1 + 1))) fun v4 =>
     lp (fun (z6 : ((List Element) × (List Arr2Int) × Int × Int)) k8 =>
     cond (decide (0 < (z6.2.1.length : Int)))
     (ix z6.2.1 0 fun x11 =>
     ck (decide ((0 : Int) ≤ 1 ∧ 1 ≤ (z6.2.1.length : Int))) <|
     jp (fun (z15 : ((List Element) × Int × Int × Int)) =>
     cond (decide (0 < z6.2.2.1))
     (bd (gen_Maker_element (HumpgenMaker.mk a0.fl z15.2.2.2) 3 (z15.1.length : Int) z15.2.1 z15.2.2.1) fun v19 =>
     ck (decide (z15.1.length + ([v19.1] : List Element).length ≤ 1000000000)) <|
     vl (z15.1 ++ ([v19.1] : List Element)) fun y22 =>
     ck (decide ((z6.2.1.drop (Int.toNat 1)).length + ([(Arr2Int.mk (w64 ((y22.length : Int) - 1)) 1), (Arr2Int.mk (w64 ((y22.length : Int) - 1)) 2)] : List Arr2Int).length ≤ 1000000000)) <|
     vl ((z6.2.1.drop (Int.toNat 1)) ++ ([(Arr2Int.mk (w64 ((y22.length : Int) - 1)) 1), (Arr2Int.mk (w64 ((y22.length : Int) - 1)) 2)] : List Arr2Int)) fun y25 =>
     k8 (y22, y25, w64 (z6.2.2.1 - 1), v19.2))
     (bd (gen_Maker_element (HumpgenMaker.mk a0.fl z15.2.2.2) 4 (z15.1.length : Int) z15.2.1 z15.2.2.1) fun v27 =>
     ck (decide (z15.1.length + ([v27.1] : List Element).length ≤ 1000000000)) <|
     vl (z15.1 ++ ([v27.1] : List Element)) fun y30 =>
     k8 (y30, z6.2.1.drop (Int.toNat 1), z6.2.2.1, v27.2))) fun k17 =>
     bd (gen_Maker_Next (HumpgenMaker.mk a0.fl z6.2.2.2) 3) fun v32 =>
     lp (fun (z34 : ((List Element) × Int × Int × Int × Int)) k36 =>
     cond (decide (0 < z34.2.2.2.1))
     (bd (gen_Maker_Pick (HumpgenMaker.mk a0.fl z34.2.2.2.2) ([1, 1, 2] : List Int)) fun v40 =>
     bd (gen_Maker_element (HumpgenMaker.mk a0.fl v40.2) v40.1 (z34.1.length : Int) z34.2.1 z34.2.2.1) fun v42 =>
     ck (decide (z34.1.length + ([v42.1] : List Element).length ≤ 1000000000)) <|
     vl (z34.1 ++ ([v42.1] : List Element)) fun y45 =>
     k36 (y45, w64 ((y45.length : Int) - 1), 0, w64 (z34.2.2.2.1 - 1), v42.2))
     (k17 (z34.1, z34.2.1, z34.2.2.1, z34.2.2.2.2))) big (z6.1, x11.a0, x11.a1, v32.1, v32.2))
     (some (z6.1, z6.2.2.2))) big (([(Element.mk 0 v1 (-1) 0 0 0 0 0)] : List Element), ([(Arr2Int.mk 0 0)] : List Arr2Int), v4.1, v4.2)
def gen_Maker_SpoilLayout (a0 : HumpgenMaker) (a1 : (List Element)) : Option ((List Element) × Int) :=
  ck (decide (([] : List Element).length + a1.length ≤ 1000000000)) <|
     vl (([] : List Element) ++ a1) fun y2 =>
     cond (decide ((y2.length : Int) = 0))
     (some (y2, a0.fn))
     (bd (gen_Maker_Next a0 (y2.length : Int)) fun v4 =>
     ix y2 v4.1 fun x6 =>
     bd (gen_Maker_Next (HumpgenMaker.mk a0.fl v4.2) 11) fun v8 =>
     cond (decide (v8.1 = 0))
     (bd (gen_Maker_Pick (HumpgenMaker.mk a0.fl v8.2) ([(-1), 0, 1, 2, 3, 4, 5] : List Int)) fun v11 =>
     vl (y2.set (Int.toNat v4.1) (Element.mk v11.1 x6.Name x6.Parent x6.Side x6.Length x6.Grade x6.Curve x6.Power)) fun y13 =>
     some (y13, v11.2))
     (cond (decide (v8.1 = 1))
     (bd (gen_Maker_Next (HumpgenMaker.mk a0.fl v8.2) 6) fun v15 =>
     ix ([⟨#[]⟩, ⟨#[65]⟩, ⟨#[101, 48, 48, 48]⟩, ⟨#[101, 48, 48, 49]⟩, ⟨#[97, 98, 99, 100, 101, 102, 103, 104, 105, 106, 107, 108, 109]⟩, ⟨#[97, 58, 108, 101, 102, 116]⟩] : List ByteArray) v15.1 fun x17 =>
     vl (y2.set (Int.toNat v4.1) (Element.mk x6.Kind x17 x6.Parent x6.Side x6.Length x6.Grade x6.Curve x6.Power)) fun y19 =>
     some (y19, v15.2))
     (cond (decide (v8.1 = 2))
     (bd (gen_Maker_Pick (HumpgenMaker.mk a0.fl v8.2) ([(-1), 0, 1, v4.1, w64 (v4.1 + 1), (y2.length : Int)] : List Int)) fun v21 =>
     vl (y2.set (Int.toNat v4.1) (Element.mk x6.Kind x6.Name v21.1 x6.Side x6.Length x6.Grade x6.Curve x6.Power)) fun y23 =>
     some (y23, v21.2))
     (cond (decide (v8.1 = 3))
     (bd (gen_Maker_Pick (HumpgenMaker.mk a0.fl v8.2) ([(-1), 0, 1, 2, 3] : List Int)) fun v25 =>
     vl (y2.set (Int.toNat v4.1) (Element.mk x6.Kind x6.Name x6.Parent v25.1 x6.Length x6.Grade x6.Curve x6.Power)) fun y27 =>
     some (y27, v25.2))
     (cond (decide (v8.1 = 4))
     (bd (gen_Maker_Pick (HumpgenMaker.mk a0.fl v8.2) ([0, 1, 1000000, 1000001, (-1)] : List Int)) fun v29 =>
     vl (y2.set (Int.toNat v4.1) (Element.mk x6.Kind x6.Name x6.Parent x6.Side v29.1 x6.Grade x6.Curve x6.Power)) fun y31 =>
     some (y31, v29.2))
     (cond (decide (v8.1 = 5))
     (bd (gen_Maker_Pick (HumpgenMaker.mk a0.fl v8.2) ([(-10001), (-10000), 10000, 10001] : List Int)) fun v33 =>
     vl (y2.set (Int.toNat v4.1) (Element.mk x6.Kind x6.Name x6.Parent x6.Side x6.Length v33.1 x6.Curve x6.Power)) fun y35 =>
     some (y35, v33.2))
     (cond (decide (v8.1 = 6))
     (bd (gen_Maker_Pick (HumpgenMaker.mk a0.fl v8.2) ([(-1), 5000, 5001] : List Int)) fun v37 =>
     vl (y2.set (Int.toNat v4.1) (Element.mk x6.Kind x6.Name x6.Parent x6.Side x6.Length x6.Grade v37.1 x6.Power)) fun y39 =>
     some (y39, v37.2))
     (cond (decide (v8.1 = 7))
     (bd (gen_Maker_Pick (HumpgenMaker.mk a0.fl v8.2) ([(-1), 0, 1, 1000000000, 1000000001] : List Int)) fun v41 =>
     vl (y2.set (Int.toNat v4.1) (Element.mk x6.Kind x6.Name x6.Parent x6.Side x6.Length x6.Grade x6.Curve v41.1)) fun y43 =>
     some (y43, v41.2))
     (cond (decide (v8.1 = 8))
     (ck (decide ((0 : Int) ≤ v4.1 ∧ v4.1 ≤ (y2.length : Int))) <|
     ck (decide ((0 : Int) ≤ w64 (v4.1 + 1) ∧ w64 (v4.1 + 1) ≤ (y2.length : Int))) <|
     ck (decide ((y2.take (Int.toNat v4.1)).length + (y2.drop (Int.toNat (w64 (v4.1 + 1)))).length ≤ 1000000000)) <|
     vl ((y2.take (Int.toNat v4.1)) ++ (y2.drop (Int.toNat (w64 (v4.1 + 1))))) fun y46 =>
     some (y46, v8.2))
     (cond (decide (v8.1 = 9))
     (ck (decide ((0 : Int) ≤ v4.1 ∧ v4.1 ≤ (y2.length : Int))) <|
     some (y2.take (Int.toNat v4.1), v8.2))
     (some (y2, v8.2))))))))))))
def gen_Maker_From (a0 : HumpgenMaker) (a1 : Int) (a2 : Int) : Option (Int × Int) :=
  bd (gen_Maker_Next a0 (w64 ((w64 (a2 - a1)) + 1))) fun v1 =>
     some (w64 (a1 + v1.1), v1.2)
def layout_name (a0 : ByteArray) : Option Bool :=
  jp (fun (z1 : Unit) =>
     cond (decide (0 < (a0.size : Int))) (some (decide ((a0.size : Int) ≤ 12))) (some false)) fun k3 =>
     lp (fun (z5 : Int) k7 =>
     cond (decide (z5 < (a0.size : Int)))
     (ck (decide ((0 : Int) ≤ z5 ∧ z5 < (a0.size : Int))) <|
     cond (decide ((byteAt a0 z5) < 97)) (cond (decide ((byteAt a0 z5) < 48)) (some false) (cond (decide (57 < (byteAt a0 z5)))
     (some false)
     (k7 (w64 (z5 + 1))))) (cond (decide (122 < (byteAt a0 z5))) (cond (decide ((byteAt a0 z5) < 48)) (some false) (cond (decide (57 < (byteAt a0 z5)))
     (some false)
     (k7 (w64 (z5 + 1))))) (k7 (w64 (z5 + 1)))))
     (k3 ())) big 0
def layout_sound (a0 : Element) : Option Bool :=
  cond (decide (a0.Kind < 0)) (some false) (cond (decide (4 < a0.Kind)) (some false) (bd (layout_name a0.Name) fun v2 =>
     cond (!v2)
     (some false)
     (cond (decide (a0.Kind = 0))
     (some (decide (a0.Kind = 0 ∧ a0.Name = a0.Name ∧ a0.Parent = (-1) ∧ a0.Side = 0 ∧ a0.Length = 0 ∧ a0.Grade = 0 ∧ a0.Curve = 0 ∧ a0.Power = 0)))
     (jp (fun (z3 : Bool) =>
     cond z3 (cond (decide (1 ≤ a0.Length)) (cond (decide (a0.Length ≤ 1000000)) (cond (decide ((-10000) ≤ a0.Grade)) (cond (decide (a0.Grade ≤ 10000)) (cond (decide (0 ≤ a0.Curve)) (cond (decide (a0.Curve ≤ 5000)) (cond (decide (0 ≤ a0.Side)) (some (decide (a0.Side ≤ 2))) (some false)) (some false)) (some false)) (some false)) (some false)) (some false)) (some false)) (some false)) fun k5 =>
     cond (decide (a0.Kind = 2))
     (cond (decide (1 ≤ a0.Power)) (k5 (decide (a0.Power ≤ 1000000000))) (k5 false))
     (k5 (decide (a0.Power = 0)))))))
def layout_Valid (a0 : (List Element)) : Option Int :=
  cond (decide (128 < (a0.length : Int)))
     (some 3)
     (cond (decide ((a0.length : Int) = 0))
     (some 13)
     (ck (decide ((0 : Int) ≤ (a0.length : Int) ∧ (a0.length : Int) ≤ 1000000000)) <|
     vl (List.replicate (Int.toNat (a0.length : Int)) 0) fun y3 =>
     jp (fun (z5 : ((List Int) × Int)) =>
     lp (fun (z9 : Int) k11 =>
     cond (decide (z9 < (a0.length : Int)))
     (ix a0 z9 fun x14 =>
     cond (decide (x14.Kind = 3)) (ix z5.1 z9 fun x17 =>
     cond (decide (x17 < 2)) (some 13) (cond (decide (x14.Kind ≠ 4)) (ix z5.1 z9 fun x19 =>
     cond (decide (x19 < 1))
     (some 13)
     (k11 (w64 (z9 + 1)))) (k11 (w64 (z9 + 1))))) (cond (decide (x14.Kind ≠ 4)) (ix z5.1 z9 fun x21 =>
     cond (decide (x21 < 1))
     (some 13)
     (k11 (w64 (z9 + 1)))) (k11 (w64 (z9 + 1)))))
     (cond (decide (32 < z5.2))
     (some 3)
     (some 0))) big 0) fun k7 =>
     lp (fun (z23 : ((List ByteArray) × (List LayoutPlace) × (List Int) × Int × Int)) k25 =>
     cond (decide (z23.2.2.2.2 < (a0.length : Int)))
     (ix a0 z23.2.2.2.2 fun x28 =>
     bd (layout_sound x28) fun v31 =>
     cond (!v31) (some 1) (cond (!((decide (x28.Kind = 0)) == (decide (z23.2.2.2.2 = 0))))
     (some 1)
     (cond (inS x28.Name z23.1)
     (some 8)
     (ck (!(inS x28.Name z23.1)) <|
     vl (z23.1 ++ [x28.Name]) fun y32 =>
     cond (decide (z23.2.2.2.2 = 0))
     (k25 (y32, z23.2.1, z23.2.2.1, z23.2.2.2.1, w64 (z23.2.2.2.2 + 1)))
     (cond (decide (x28.Parent < 0)) (some 12) (cond (decide (z23.2.2.2.2 ≤ x28.Parent))
     (some 12)
     (ix a0 x28.Parent fun x33 =>
     cond (decide (x33.Kind = 4)) (some 17) (cond (!((decide (x33.Kind = 3)) == (decide (x28.Side ≠ 0)))) (some 17) (cond (inS (LayoutPlace.mk x28.Parent x28.Side) z23.2.1)
     (some 17)
     (ck (!(inS (LayoutPlace.mk x28.Parent x28.Side) z23.2.1)) <|
     vl (z23.2.1 ++ [(LayoutPlace.mk x28.Parent x28.Side)]) fun y36 =>
     ix z23.2.2.1 x28.Parent fun x37 =>
     ix z23.2.2.1 x28.Parent fun x39 =>
     vl (z23.2.2.1.set (Int.toNat x28.Parent) (w64 (x37 + 1))) fun y41 =>
     cond (decide (x28.Kind = 4))
     (k25 (y32, y36, y41, w64 (z23.2.2.2.1 + 1), w64 (z23.2.2.2.2 + 1)))
     (k25 (y32, y36, y41, z23.2.2.2.1, w64 (z23.2.2.2.2 + 1)))))))))))))
     (k7 (z23.2.2.1, z23.2.2.2.1))) big (([] : List ByteArray), ([] : List LayoutPlace), y3, 0, 0)))
def tree_check (a0 : (List Element)) (a1 : (List Int)) : Option Int :=
  bd (layout_Valid a0) fun v1 =>
     cond (decide (v1 ≠ 0))
     (some v1)
     (lp (fun (z2 : Int) k4 =>
     cond (decide (z2 < (a1.length : Int)))
     (ix a1 z2 fun x7 =>
     cond (decide (x7 < 0)) (some 2) (cond (decide ((a0.length : Int) ≤ x7))
     (some 2)
     (k4 (w64 (z2 + 1)))))
     (some 0)) big 0)
def tree_path_n : Nat → (List Element) → Int → Option (List Int)
  | 0, _, _ => none
  | n + 1, a0, a1 =>
  cond (decide (a1 = 0))
     (some ([0] : List Int))
     (ix a0 a1 fun x2 =>
     bd (tree_path_n n a0 x2.Parent) fun v4 =>
     ck (decide (v4.length + ([a1] : List Int).length ≤ 1000000000)) <|
     vl (v4 ++ ([a1] : List Int)) fun y7 =>
     some y7)
def tree_path (a0 : (List Element)) (a1 : Int) : Option (List Int) := tree_path_n big a0 a1
def tree_Path (a0 : (List Element)) (a1 : Int) : Option ((List Int) × Int) :=
  bd (tree_check a0 ([a1] : List Int)) fun v2 =>
     cond (decide (v2 ≠ 0))
     (some (([] : List Int), v2))
     (bd (tree_path a0 a1) fun v3 =>
     some (v3, 0))
def runoff_Path (a0 : (List Element)) (a1 : Int) : Option ((List Piece) × Int) :=
  bd (tree_Path a0 a1) fun v1 =>
     cond (decide (v1.2 ≠ 0))
     (some (([] : List Piece), v1.2))
     (ix a0 a1 fun x3 =>
     cond (decide (x3.Kind ≠ 4))
     (some (([] : List Piece), 2))
     (ck (decide ((0 : Int) ≤ 1 ∧ 1 ≤ (v1.1.length : Int))) <|
     vl ((v1.1.drop (Int.toNat 1)).length : Int) fun x6 =>
     lp (fun (z7 : ((List Piece) × Int)) k9 =>
     cond (decide (z7.2 < x6))
     (ix (v1.1.drop (Int.toNat 1)) z7.2 fun x12 =>
     ix a0 x12 fun x14 =>
     ck (decide (z7.1.length + ([(Piece.mk x12 x14.Length x14.Grade x14.Curve x14.Power)] : List Piece).length ≤ 1000000000)) <|
     vl (z7.1 ++ ([(Piece.mk x12 x14.Length x14.Grade x14.Curve x14.Power)] : List Piece)) fun y18 =>
     k9 (y18, w64 (z7.2 + 1)))
     (some (z7.1, 0))) big (([] : List Piece), 0)))
def r06_Name (a0 : ByteArray) : Option Bool :=
  jp (fun (z1 : Unit) =>
     cond (decide (1 ≤ (a0.size : Int))) (some (decide ((a0.size : Int) ≤ 12))) (some false)) fun k3 =>
     lp (fun (z5 : Int) k7 =>
     cond (decide (z5 < (a0.size : Int)))
     (ck (decide ((0 : Int) ≤ z5 ∧ z5 < (a0.size : Int))) <|
     cond (decide (97 ≤ (byteAt a0 z5))) (ck (decide ((0 : Int) ≤ z5 ∧ z5 < (a0.size : Int))) <|
     cond (decide ((byteAt a0 z5) ≤ 122)) (cond (!true)
     (some false)
     (k7 (w64 (z5 + 1)))) (ck (decide ((0 : Int) ≤ z5 ∧ z5 < (a0.size : Int))) <|
     cond (decide (48 ≤ (byteAt a0 z5))) (ck (decide ((0 : Int) ≤ z5 ∧ z5 < (a0.size : Int))) <|
     cond (!(decide ((byteAt a0 z5) ≤ 57)))
     (some false)
     (k7 (w64 (z5 + 1)))) (cond (!false)
     (some false)
     (k7 (w64 (z5 + 1)))))) (ck (decide ((0 : Int) ≤ z5 ∧ z5 < (a0.size : Int))) <|
     cond (decide (48 ≤ (byteAt a0 z5))) (ck (decide ((0 : Int) ≤ z5 ∧ z5 < (a0.size : Int))) <|
     cond (!(decide ((byteAt a0 z5) ≤ 57)))
     (some false)
     (k7 (w64 (z5 + 1)))) (cond (!false)
     (some false)
     (k7 (w64 (z5 + 1))))))
     (k3 ())) big 0
def r09_sound (a0 : Element) : Option Bool :=
  bd (r06_Name a0.Name) fun v2 =>
     cond (!v2)
     (some false)
     (cond (decide (a0.Kind = 0))
     (cond (decide (a0.Parent = (-1))) (cond (decide (a0.Side = 0)) (cond (decide (a0.Length = 0)) (cond (decide (a0.Grade = 0)) (cond (decide (a0.Curve = 0)) (some (decide (a0.Power = 0))) (some false)) (some false)) (some false)) (some false)) (some false))
     (cond (decide (a0.Kind < 1)) (some false) (cond (decide (4 < a0.Kind)) (some false) (cond (decide (a0.Length < 1)) (some false) (cond (decide (1000000 < a0.Length)) (some false) (cond (decide (a0.Grade < (-10000))) (some false) (cond (decide (10000 < a0.Grade)) (some false) (cond (decide (a0.Curve < 0)) (some false) (cond (decide (5000 < a0.Curve)) (some false) (cond (decide (a0.Side < 0)) (some false) (cond (decide (2 < a0.Side))
     (some false)
     (cond (decide (a0.Kind = 2))
     (cond (decide (1 ≤ a0.Power)) (some (decide (a0.Power ≤ 1000000000))) (some false))
     (some (decide (a0.Power = 0)))))))))))))))
def r09_fits (a0 : (List Element)) (a1 : Int) : Option Int :=
  ix a0 a1 fun x1 =>
     bd (r09_sound x1) fun v4 =>
     cond (!v4) (some 1) (cond (!((decide (x1.Kind = 0)) == (decide (a1 = 0))))
     (some 1)
     (jp (fun (z5 : Unit) =>
     cond (decide (a1 = 0))
     (some 0)
     (cond (decide (x1.Parent < 0)) (some 12) (cond (decide (a1 ≤ x1.Parent))
     (some 12)
     (ix a0 x1.Parent fun x9 =>
     cond (decide (x9.Kind = 4)) (some 17) (cond ((decide (x9.Kind = 3)) == (decide (x1.Side = 0)))
     (some 17)
     (lp (fun (z11 : Int) k13 =>
     cond (decide (z11 < a1))
     (ix a0 z11 fun x16 =>
     cond (decide (x16.Parent = x1.Parent)) (ix a0 z11 fun x18 =>
     cond (decide (x18.Side = x1.Side))
     (some 17)
     (k13 (w64 (z11 + 1)))) (k13 (w64 (z11 + 1))))
     (some 0)) big 1)))))) fun k7 =>
     lp (fun (z20 : Int) k22 =>
     cond (decide (z20 < a1))
     (ix a0 z20 fun x25 =>
     cond (decide (x25.Name = x1.Name))
     (some 8)
     (k22 (w64 (z20 + 1))))
     (k7 ())) big 0))
def r09_Valid (a0 : (List Element)) : Option Int :=
  cond (decide (128 < (a0.length : Int)))
     (some 3)
     (cond (decide ((a0.length : Int) = 0))
     (some 13)
     (jp (fun (z1 : Int) =>
     lp (fun (z5 : Int) k7 =>
     cond (decide (z5 < (a0.length : Int)))
     (jp (fun (z10 : Int) =>
     ix a0 z5 fun x14 =>
     cond (decide (x14.Kind = 3))
     (cond (decide (z10 < 2))
     (some 13)
     (k7 (w64 (z5 + 1))))
     (cond (decide (x14.Kind = 4))
     (cond (decide (z10 < 0))
     (some 13)
     (k7 (w64 (z5 + 1))))
     (cond (decide (z10 < 1))
     (some 13)
     (k7 (w64 (z5 + 1)))))) fun k12 =>
     lp (fun (z16 : (Int × Int)) k18 =>
     cond (decide (z16.2 < (a0.length : Int)))
     (ix a0 z16.2 fun x21 =>
     cond (decide (x21.Parent = z5))
     (k18 (w64 (z16.1 + 1), w64 (z16.2 + 1)))
     (k18 (z16.1, w64 (z16.2 + 1))))
     (k12 z16.1)) big (0, 1))
     (cond (decide (32 < z1))
     (some 3)
     (some 0))) big 0) fun k3 =>
     lp (fun (z23 : (Int × Int)) k25 =>
     cond (decide (z23.2 < (a0.length : Int)))
     (bd (r09_fits a0 z23.2) fun v28 =>
     cond (decide (v28 ≠ 0))
     (some v28)
     (ix a0 z23.2 fun x29 =>
     cond (decide (x29.Kind = 4))
     (k25 (w64 (z23.1 + 1), w64 (z23.2 + 1)))
     (k25 (z23.1, w64 (z23.2 + 1)))))
     (k3 z23.1)) big (0, 0)))
def r10_Way_n : Nat → (List Element) → Int → Option (List Int)
  | 0, _, _ => none
  | n + 1, a0, a1 =>
  cond (decide (a1 < 0))
     (some ([] : List Int))
     (ix a0 a1 fun x1 =>
     bd (r10_Way_n n a0 x1.Parent) fun v3 =>
     ck (decide (v3.length + ([a1] : List Int).length ≤ 1000000000)) <|
     vl (v3 ++ ([a1] : List Int)) fun y6 =>
     some y6)
def r10_Way (a0 : (List Element)) (a1 : Int) : Option (List Int) := r10_Way_n big a0 a1
def r20_Path (a0 : (List Element)) (a1 : Int) : Option ((List Piece) × Int) :=
  bd (r09_Valid a0) fun v1 =>
     cond (decide (v1 ≠ 0))
     (some (([] : List Piece), v1))
     (cond (decide (a1 < 0)) (some (([] : List Piece), 2)) (cond (decide ((a0.length : Int) ≤ a1)) (some (([] : List Piece), 2)) (ix a0 a1 fun x2 =>
     cond (decide (x2.Kind ≠ 4))
     (some (([] : List Piece), 2))
     (bd (r10_Way a0 a1) fun v4 =>
     lp (fun (z6 : ((List Piece) × Int)) k8 =>
     cond (decide (z6.2 < (v4.length : Int)))
     (ix v4 z6.2 fun x11 =>
     ix a0 x11 fun x13 =>
     ix v4 z6.2 fun x16 =>
     ck (decide (z6.1.length + ([(Piece.mk x16 x13.Length x13.Grade x13.Curve x13.Power)] : List Piece).length ≤ 1000000000)) <|
     vl (z6.1 ++ ([(Piece.mk x16 x13.Length x13.Grade x13.Curve x13.Power)] : List Piece)) fun y19 =>
     k8 (y19, w64 (z6.2 + 1)))
     (some (z6.1, 0))) big (([] : List Piece), 1)))))
def gen_Pieces (a0 : (List Piece)) (a1 : (List Piece)) : Option Bool :=
  cond (decide ((a0.length : Int) ≠ (a1.length : Int)))
     (some false)
     (lp (fun (z1 : Int) k3 =>
     cond (decide (z1 < (a0.length : Int)))
     (ix a0 z1 fun x6 =>
     ix a1 z1 fun x8 =>
     cond (decide (¬ (x6.Element = x8.Element ∧ x6.Length = x8.Length ∧ x6.Grade = x8.Grade ∧ x6.Curve = x8.Curve ∧ x6.Power = x8.Power)))
     (some false)
     (k3 (w64 (z1 + 1))))
     (some true)) big 0)
def runoff_in (a0 : Int) (a1 : Int) (a2 : Int) : Option Bool :=
  cond (decide (a1 ≤ a0)) (some (decide (a0 ≤ a2))) (some false)
def runoff_Valid (a0 : (List Piece)) : Option Int :=
  cond (decide ((a0.length : Int) < 1)) (some 3) (cond (decide (128 < (a0.length : Int)))
     (some 3)
     (lp (fun (z1 : Int) k3 =>
     cond (decide (z1 < (a0.length : Int)))
     (ix a0 z1 fun x6 =>
     bd (runoff_in x6.Element 0 127) fun v9 =>
     cond (!v9) (some 1) (bd (runoff_in x6.Length 1 1000000) fun v10 =>
     cond (!v10) (some 1) (bd (runoff_in x6.Grade (-10000) 10000) fun v11 =>
     cond (!v11) (some 1) (bd (runoff_in x6.Curve 0 5000) fun v12 =>
     cond (!v12) (some 1) (bd (runoff_in x6.Power 0 1000000000) fun v13 =>
     cond (!v13)
     (some 1)
     (k3 (w64 (z1 + 1))))))))
     (some 0)) big 0))
def runoff_retarders (a0 : (List Piece)) : Option Int :=
  lp (fun (z1 : (Int × Int)) k3 =>
     cond (decide (z1.2 < (a0.length : Int)))
     (ix a0 z1.2 fun x6 =>
     cond (decide (0 < x6.Power))
     (k3 (w64 (z1.1 + 1), w64 (z1.2 + 1)))
     (k3 (z1.1, w64 (z1.2 + 1))))
     (some z1.1)) big (0, 0)
def runoff_targets (a0 : (List Int)) : Option Bool :=
  lp (fun (z1 : Int) k3 =>
     cond (decide (z1 < (a0.length : Int)))
     (ix a0 z1 fun x6 =>
     bd (runoff_in x6 (-1) 20000) fun v8 =>
     cond (!v8)
     (some false)
     (k3 (w64 (z1 + 1))))
     (some true)) big 0
def interval_inside (a0 : Int) : Option Bool :=
  cond (decide ((-1000000000000) ≤ a0)) (some (decide (a0 ≤ 1000000000000))) (some false)
def interval_Valid (a0 : Interval) : Option Bool :=
  cond (decide (a0.Lo ≤ a0.Hi)) (bd (interval_inside a0.Lo) fun v2 =>
     cond v2 (bd (interval_inside a0.Hi) fun v3 =>
     some v3) (some false)) (some false)
def interval_root (a0 : Int) : Option Int :=
  lp (fun (z1 : (Int × Int)) k3 =>
     cond (decide (1 < (w64 (z1.2 - z1.1))))
     (vl (w64 (Int.tdiv (w64 (z1.1 + z1.2)) 2)) fun x6 =>
     cond (decide ((w64 (x6 * x6)) ≤ a0))
     (k3 (x6, z1.2))
     (k3 (z1.1, x6)))
     (some z1.1)) big (0, 1000001)
def interval_Root (a0 : Interval) : Option (Interval × Int) :=
  bd (interval_Valid a0) fun v3 =>
     cond (!v3)
     (some ((Interval.mk 0 0), 1))
     (cond (decide (a0.Lo < 0))
     (some ((Interval.mk 0 0), 2))
     (bd (interval_root a0.Hi) fun v4 =>
     jp (fun (z5 : Int) =>
     bd (interval_root a0.Lo) fun v9 =>
     some ((Interval.mk v9 z5), 0)) fun k7 =>
     cond (decide ((w64 (v4 * v4)) < a0.Hi))
     (k7 (w64 (v4 + 1)))
     (k7 v4)))
def runoff_roots (a0 : Int) : Option (Int × Int) :=
  bd (interval_Root (Interval.mk a0 a0)) fun v1 =>
     some (v1.1.Lo, v1.1.Hi)
def interval_down (a0 : Int) (a1 : Int) : Option Int :=
  ck (decide (a1 ≠ 0)) <|
     ck (decide (a1 ≠ 0)) <|
     cond (decide ((Int.tmod a0 a1) ≠ 0)) (cond (!((decide ((Int.tmod a0 a1) < 0)) == (decide (a1 < 0))))
     (vl (w64 ((w64 (Int.tdiv a0 a1)) - 1)) fun x3 =>
     some x3)
     (some (w64 (Int.tdiv a0 a1)))) (some (w64 (Int.tdiv a0 a1)))
def interval_Floor (a0 : Int) (a1 : Int) : Option (Int × Int) :=
  cond (decide (a1 = 0))
     (some (0, 5))
     (bd (interval_down a0 a1) fun v1 =>
     bd (interval_inside v1) fun v2 =>
     cond v2
     (some (v1, 0))
     (some (0, 4)))
def interval_up (a0 : Int) (a1 : Int) : Option Int :=
  ck (decide (a1 ≠ 0)) <|
     ck (decide (a1 ≠ 0)) <|
     cond (decide ((Int.tmod a0 a1) ≠ 0)) (cond ((decide ((Int.tmod a0 a1) < 0)) == (decide (a1 < 0)))
     (vl (w64 ((w64 (Int.tdiv a0 a1)) + 1)) fun x3 =>
     some x3)
     (some (w64 (Int.tdiv a0 a1)))) (some (w64 (Int.tdiv a0 a1)))
def interval_Ceil (a0 : Int) (a1 : Int) : Option (Int × Int) :=
  cond (decide (a1 = 0))
     (some (0, 5))
     (bd (interval_up a0 a1) fun v1 =>
     bd (interval_inside v1) fun v2 =>
     cond v2
     (some (v1, 0))
     (some (0, 4)))
def runoff_gain (a0 : Piece) (a1 : Int) : Option (Int × Int) :=
  vl (w64 (19620 * (w64 (a0.Grade - a1)))) fun x2 =>
     bd (interval_Floor (w64 (x2 * a0.Length)) 100000) fun v3 =>
     bd (interval_Ceil (w64 (x2 * a0.Length)) 100000) fun v4 =>
     some (v3.1, v4.1)
def runoff_Point (a0 : (List Piece)) (a1 : Run) : Option ((List Moment) × Int × Int) :=
  bd (runoff_Valid a0) fun v2 =>
     cond (decide (v2 ≠ 0))
     (some (([] : List Moment), 0, v2))
     (cond (decide ((a1.Resist.length : Int) ≠ (a0.length : Int))) (some (([] : List Moment), 0, 1)) (bd (runoff_retarders a0) fun v3 =>
     cond (decide ((a1.Targets.length : Int) ≠ v3))
     (some (([] : List Moment), 0, 1))
     (jp (fun (z4 : Unit) =>
     bd (runoff_in a1.Speed 0 20000) fun v8 =>
     cond (!v8) (some (([] : List Moment), 0, 2)) (bd (runoff_targets a1.Targets) fun v9 =>
     cond (!v9)
     (some (([] : List Moment), 0, 2))
     (lp (fun (z12 : (Int × Int × (List Moment) × Int × Int)) k14 =>
     cond (decide (z12.2.2.2.2 < (a0.length : Int)))
     (ix a0 z12.2.2.2.2 fun x17 =>
     bd (runoff_roots z12.2.1) fun v20 =>
     ix a1.Resist z12.2.2.2.2 fun x21 =>
     bd (runoff_gain x17 x21) fun v23 =>
     cond (decide ((w64 (z12.2.1 + v23.1)) < 0))
     (some (z12.2.2.1, z12.2.2.2.2, 0))
     (bd (runoff_roots (w64 (z12.2.1 + v23.1))) fun v24 =>
     cond (decide ((w64 (v20.1 + v24.1)) = 0))
     (some (z12.2.2.1, z12.2.2.2.2, 0))
     (vl (w64 ((w64 (2000 * x17.Length)) + v20.1)) fun x25 =>
     ck (decide ((w64 (v20.1 + v24.1)) ≠ 0)) <|
     vl (w64 (Int.tdiv (w64 ((w64 (x25 + v24.1)) - 1)) (w64 (v20.1 + v24.1)))) fun x27 =>
     vl (min (w64 (z12.1 + x27)) 1000000000) fun x28 =>
     cond (decide (0 < x17.Power))
     (ix a1.Targets z12.2.2.2.1 fun x29 =>
     cond (decide (0 ≤ x29))
     (vl (min (w64 (z12.2.1 + v23.1)) (w64 (x29 * x29))) fun x31 =>
     vl (w64 ((w64 (z12.2.1 + v23.1)) - x17.Power)) fun x32 =>
     ck (decide (z12.2.2.1.length + ([(Moment.mk x28 (max x31 x32))] : List Moment).length ≤ 1000000000)) <|
     vl (z12.2.2.1 ++ ([(Moment.mk x28 (max x31 x32))] : List Moment)) fun y34 =>
     k14 (x28, max x31 x32, y34, w64 (z12.2.2.2.1 + 1), w64 (z12.2.2.2.2 + 1)))
     (ck (decide (z12.2.2.1.length + ([(Moment.mk x28 (w64 (z12.2.1 + v23.1)))] : List Moment).length ≤ 1000000000)) <|
     vl (z12.2.2.1 ++ ([(Moment.mk x28 (w64 (z12.2.1 + v23.1)))] : List Moment)) fun y37 =>
     k14 (x28, w64 (z12.2.1 + v23.1), y37, w64 (z12.2.2.2.1 + 1), w64 (z12.2.2.2.2 + 1))))
     (ck (decide (z12.2.2.1.length + ([(Moment.mk x28 (w64 (z12.2.1 + v23.1)))] : List Moment).length ≤ 1000000000)) <|
     vl (z12.2.2.1 ++ ([(Moment.mk x28 (w64 (z12.2.1 + v23.1)))] : List Moment)) fun y40 =>
     k14 (x28, w64 (z12.2.1 + v23.1), y40, z12.2.2.2.1, w64 (z12.2.2.2.2 + 1))))))
     (some (z12.2.2.1, (-1), 0))) big (0, w64 (a1.Speed * a1.Speed), ([(Moment.mk 0 (w64 (a1.Speed * a1.Speed)))] : List Moment), 0, 0)))) fun k6 =>
     lp (fun (z42 : Int) k44 =>
     cond (decide (z42 < (a1.Resist.length : Int)))
     (ix a1.Resist z42 fun x47 =>
     bd (runoff_in x47 (-5000) 10000) fun v49 =>
     cond (!v49)
     (some (([] : List Moment), 0, 2))
     (k44 (w64 (z42 + 1))))
     (k6 ())) big 0)))
def runoff_check (a0 : (List Piece)) (a1 : Motion) : Option Int :=
  bd (runoff_Valid a0) fun v2 =>
     cond (decide (v2 ≠ 0))
     (some v2)
     (bd (interval_Valid a1.Speed) fun v3 =>
     cond (!v3) (some 1) (cond (decide ((a1.Class.length : Int) ≠ (a0.length : Int))) (some 1) (bd (runoff_retarders a0) fun v4 =>
     cond (decide ((a1.Targets.length : Int) ≠ v4))
     (some 1)
     (jp (fun (z5 : Unit) =>
     jp (fun (z9 : Unit) =>
     cond (decide (a1.Speed.Lo < 0)) (some 2) (cond (decide (20000 < a1.Speed.Hi)) (some 2) (bd (runoff_in a1.Error 0 1000) fun v13 =>
     cond (!v13) (some 2) (bd (runoff_targets a1.Targets) fun v14 =>
     cond (!v14)
     (some 2)
     (some 0))))) fun k11 =>
     lp (fun (z15 : Int) k17 =>
     cond (decide (z15 < (a1.Class.length : Int)))
     (ix a1.Class z15 fun x20 =>
     cond (decide (x20.Lo < (-5000))) (some 2) (cond (decide (10000 < x20.Hi))
     (some 2)
     (k17 (w64 (z15 + 1)))))
     (k11 ())) big 0) fun k7 =>
     lp (fun (z23 : Int) k25 =>
     cond (decide (z23 < (a1.Class.length : Int)))
     (ix a1.Class z23 fun x28 =>
     bd (interval_Valid x28) fun v31 =>
     cond (!v31)
     (some 1)
     (k25 (w64 (z23 + 1))))
     (k7 ())) big 0))))
def runoff_state_roll (a0 : RunoffState) (a1 : Piece) (a2 : Interval) : Option (Bool × RunoffState) :=
  bd (runoff_gain a1 a2.Hi) fun v3 =>
     bd (runoff_gain a1 a2.Lo) fun v4 =>
     cond (decide ((w64 (a0.fenergy.Hi + v4.2)) < 0))
     (some (false, a0))
     (jp (fun (z6 : (Int × Bool)) =>
     bd (runoff_roots a0.fenergy.Lo) fun v10 =>
     bd (runoff_roots a0.fenergy.Hi) fun v11 =>
     bd (runoff_roots z6.1) fun v12 =>
     bd (runoff_roots (w64 (a0.fenergy.Hi + v4.2))) fun v13 =>
     cond (decide ((w64 (v11.2 + v13.2)) = 0))
     (some (false, (RunoffState.mk a0.ftime a0.fenergy z6.2)))
     (ck (decide ((w64 (v11.2 + v13.2)) ≠ 0)) <|
     vl (w64 (Int.tdiv (w64 (2000 * a1.Length)) (w64 (v11.2 + v13.2)))) fun x15 =>
     vl (min (w64 (a0.ftime.Lo + x15)) 1000000000) fun x16 =>
     jp (fun (z17 : Bool) =>
     cond z17
     (some (true, (RunoffState.mk (Interval.mk x16 1000000000) (Interval.mk z6.1 (w64 (a0.fenergy.Hi + v4.2))) z17)))
     (vl (w64 ((w64 (2000 * a1.Length)) + v10.1)) fun x21 =>
     ck (decide ((w64 (v10.1 + v12.1)) ≠ 0)) <|
     vl (w64 (Int.tdiv (w64 ((w64 (x21 + v12.1)) - 1)) (w64 (v10.1 + v12.1)))) fun x23 =>
     vl (min (w64 (a0.ftime.Hi + x23)) 1000000000) fun x24 =>
     some (true, (RunoffState.mk (Interval.mk x16 x24) (Interval.mk z6.1 (w64 (a0.fenergy.Hi + v4.2))) z17)))) fun k19 =>
     cond (decide ((w64 (v10.1 + v12.1)) = 0))
     (k19 true)
     (k19 z6.2))) fun k8 =>
     cond (decide ((w64 (a0.fenergy.Lo + v3.1)) < 0))
     (k8 (0, true))
     (k8 (w64 (a0.fenergy.Lo + v3.1), a0.fslow)))
def runoff_state_brake (a0 : RunoffState) (a1 : Int) (a2 : Int) (a3 : Int) : Option RunoffState :=
  vl (w64 ((max 0 (w64 (a2 - a3))) * (max 0 (w64 (a2 - a3))))) fun x1 =>
     vl (w64 ((w64 (a2 + a3)) * (w64 (a2 + a3)))) fun x2 =>
     vl (max (min a0.fenergy.Hi x2) (w64 (a0.fenergy.Hi - a1))) fun x3 =>
     some (RunoffState.mk a0.ftime (Interval.mk (min a0.fenergy.Lo x1) x3) a0.fslow)
def runoff_Pass (a0 : (List Piece)) (a1 : Motion) : Option ((List Passage) × Int) :=
  bd (runoff_check a0 a1) fun v2 =>
     cond (decide (v2 ≠ 0))
     (some (([] : List Passage), v2))
     (vl (w64 (a1.Speed.Lo * a1.Speed.Lo)) fun x3 =>
     vl (w64 (a1.Speed.Hi * a1.Speed.Hi)) fun x4 =>
     lp (fun (z7 : (Int × Int × Int × Int × Bool × (List Passage) × Int × Int)) k9 =>
     cond (decide (z7.2.2.2.2.2.2.2 < (a0.length : Int)))
     (ix a0 z7.2.2.2.2.2.2.2 fun x12 =>
     jp (fun (z15 : (Int × Int × Int × Int × Bool)) =>
     jp (fun (z19 : (Int × Int × Int × Int × Bool × Int)) =>
     ck (decide (z7.2.2.2.2.2.1.length + ([(Passage.mk (Interval.mk z19.1 z19.2.1) (Interval.mk z19.2.2.1 z19.2.2.2.1) z19.2.2.2.2.1 false)] : List Passage).length ≤ 1000000000)) <|
     vl (z7.2.2.2.2.2.1 ++ ([(Passage.mk (Interval.mk z19.1 z19.2.1) (Interval.mk z19.2.2.1 z19.2.2.2.1) z19.2.2.2.2.1 false)] : List Passage)) fun y24 =>
     k9 (z19.1, z19.2.1, z19.2.2.1, z19.2.2.2.1, z19.2.2.2.2.1, y24, z19.2.2.2.2.2, w64 (z7.2.2.2.2.2.2.2 + 1))) fun k21 =>
     cond (decide (0 < x12.Power))
     (ix a1.Targets z7.2.2.2.2.2.2.1 fun x26 =>
     cond (decide (0 ≤ x26))
     (bd (runoff_state_brake (RunoffState.mk (Interval.mk z15.1 z15.2.1) (Interval.mk z15.2.2.1 z15.2.2.2.1) z15.2.2.2.2) x12.Power x26 a1.Error) fun v28 =>
     k21 (v28.ftime.Lo, v28.ftime.Hi, v28.fenergy.Lo, v28.fenergy.Hi, v28.fslow, w64 (z7.2.2.2.2.2.2.1 + 1)))
     (k21 (z15.1, z15.2.1, z15.2.2.1, z15.2.2.2.1, z15.2.2.2.2, w64 (z7.2.2.2.2.2.2.1 + 1))))
     (k21 (z15.1, z15.2.1, z15.2.2.1, z15.2.2.2.1, z15.2.2.2.2, z7.2.2.2.2.2.2.1))) fun k17 =>
     ix a1.Class z7.2.2.2.2.2.2.2 fun x30 =>
     bd (runoff_state_roll (RunoffState.mk (Interval.mk z7.1 z7.2.1) (Interval.mk z7.2.2.1 z7.2.2.2.1) z7.2.2.2.2.1) x12 x30) fun v32 =>
     cond (!v32.1)
     (lp (fun (z34 : (List Passage)) k36 =>
     cond (decide ((z34.length : Int) ≤ (a0.length : Int)))
     (ck (decide (z34.length + ([(Passage.mk (Interval.mk 0 0) (Interval.mk 0 0) false true)] : List Passage).length ≤ 1000000000)) <|
     vl (z34 ++ ([(Passage.mk (Interval.mk 0 0) (Interval.mk 0 0) false true)] : List Passage)) fun y40 =>
     k36 y40)
     (some (z34, 0))) big z7.2.2.2.2.2.1)
     (k17 (v32.2.ftime.Lo, v32.2.ftime.Hi, v32.2.fenergy.Lo, v32.2.fenergy.Hi, v32.2.fslow)))
     (some (z7.2.2.2.2.2.1, 0))) big (0, 0, x3, x4, false, ([(Passage.mk (Interval.mk 0 0) (Interval.mk x3 x4) false false)] : List Passage), 0, 0))
def gen_Moments (a0 : (List Moment)) (a1 : (List Moment)) : Option Bool :=
  cond (decide ((a0.length : Int) ≠ (a1.length : Int)))
     (some false)
     (lp (fun (z1 : Int) k3 =>
     cond (decide (z1 < (a0.length : Int)))
     (ix a0 z1 fun x6 =>
     ix a1 z1 fun x8 =>
     cond (decide (¬ (x6.Time = x8.Time ∧ x6.Energy = x8.Energy)))
     (some false)
     (k3 (w64 (z1 + 1))))
     (some true)) big 0)
def law20_sane  : Option Bool :=
  bd (runoff_Point ([(Piece.mk 0 10000 1000 0 2000000), (Piece.mk 0 100000 0 0 0)] : List Piece) (Run.mk 1000 ([0, 100] : List Int) ([1200] : List Int))) fun v4 =>
     ck (decide ((0 : Int) ≤ 1 ∧ 1 ≤ (([(Piece.mk 0 10000 1000 0 2000000), (Piece.mk 0 100000 0 0 0)] : List Piece).length : Int))) <|
     bd (runoff_Pass (([(Piece.mk 0 10000 1000 0 2000000), (Piece.mk 0 100000 0 0 0)] : List Piece).take (Int.toNat 1)) (Motion.mk (Interval.mk 1000 1000) ([(Interval.mk 0 0)] : List Interval) 0 ([(-1)] : List Int))) fun v9 =>
     cond (decide (v4.2.2 = 0)) (cond (decide (v4.2.1 = 1)) (bd (gen_Moments v4.1 ([(Moment.mk 0 1000000), (Moment.mk 7351 1440000)] : List Moment)) fun v12 =>
     cond v12 (cond (decide (v9.2 = 0)) (cond (decide ((v9.1.length : Int) = 2)) (ix v9.1 1 fun x13 =>
     cond (decide (x13.Energy.Lo = 2962000 ∧ x13.Energy.Hi = 2962000)) (ix v9.1 1 fun x15 =>
     cond (decide (x15.Time.Hi = 7351)) (ix v9.1 1 fun x17 =>
     some (!x17.Slow)) (some false)) (some false)) (some false)) (some false)) (some false)) (some false)) (some false)
def law20_RunoffPath (a0 : (List Int)) (a1 : (List Element)) (a2 : Int) : Option Bool :=
  bd (gen_New a0) fun v1 =>
     jp (fun (z3 : Unit) =>
     cond (decide (40 < (a1.length : Int)))
     (bd (law20_sane) fun v7 =>
     some v7)
     (bd (runoff_Path a1 a2) fun v8 =>
     bd (r20_Path a1 a2) fun v10 =>
     bd (gen_Pieces v8.1 v10.1) fun v12 =>
     cond v12 (cond (decide (v8.2 = v10.2)) (bd (law20_sane) fun v13 =>
     some v13) (some false)) (some false))) fun k5 =>
     lp (fun (z14 : (Int × Int)) k16 =>
     cond (decide (z14.2 < 4))
     (bd (gen_Maker_Layout (HumpgenMaker.mk a0 z14.1) 6) fun v19 =>
     jp (fun (z21 : (Int × (List Element))) =>
     bd (gen_Maker_From (HumpgenMaker.mk a0 z21.1) (-1) (z21.2.length : Int)) fun v25 =>
     bd (runoff_Path z21.2 v25.1) fun v27 =>
     bd (r20_Path z21.2 v25.1) fun v29 =>
     bd (gen_Pieces v27.1 v29.1) fun v31 =>
     cond (!v31) (some false) (cond (decide (v27.2 ≠ v29.2))
     (some false)
     (k16 (v25.2, w64 (z14.2 + 1))))) fun k23 =>
     cond (decide (z14.2 = 3))
     (bd (gen_Maker_SpoilLayout (HumpgenMaker.mk a0 v19.2) v19.1) fun v32 =>
     k23 (v32.2, v32.1))
     (k23 (v19.2, v19.1)))
     (k5 ())) big (v1.fn, 0)
def gen_Maker_Pieces (a0 : HumpgenMaker) (a1 : Int) : Option ((List Piece) × Int) :=
  bd (gen_Maker_Next a0 a1) fun v1 =>
     lp (fun (z3 : ((List Piece) × Int × Int)) k5 =>
     cond (decide (0 < z3.2.1))
     (bd (gen_Maker_Pick (HumpgenMaker.mk a0.fl z3.2.2) ([1, 1000, 5000, 9000, 30000, 100000] : List Int)) fun v9 =>
     bd (gen_Maker_Pick (HumpgenMaker.mk a0.fl v9.2) ([0, 100, (-150), 400, 1000, 3500, 5000] : List Int)) fun v12 =>
     bd (gen_Maker_Pick (HumpgenMaker.mk a0.fl v12.2) ([0, 0, 20, 150] : List Int)) fun v15 =>
     bd (gen_Maker_Next (HumpgenMaker.mk a0.fl v15.2) 4) fun v18 =>
     cond (decide (v18.1 = 0))
     (bd (gen_Maker_Pick (HumpgenMaker.mk a0.fl v18.2) ([1, 500000, 2000000, 8000000, 30000000] : List Int)) fun v21 =>
     ck (decide (z3.1.length + ([(Piece.mk (w64 ((z3.1.length : Int) + 1)) v9.1 v12.1 v15.1 v21.1)] : List Piece).length ≤ 1000000000)) <|
     vl (z3.1 ++ ([(Piece.mk (w64 ((z3.1.length : Int) + 1)) v9.1 v12.1 v15.1 v21.1)] : List Piece)) fun y24 =>
     k5 (y24, w64 (z3.2.1 - 1), v21.2))
     (ck (decide (z3.1.length + ([(Piece.mk (w64 ((z3.1.length : Int) + 1)) v9.1 v12.1 v15.1 0)] : List Piece).length ≤ 1000000000)) <|
     vl (z3.1 ++ ([(Piece.mk (w64 ((z3.1.length : Int) + 1)) v9.1 v12.1 v15.1 0)] : List Piece)) fun y27 =>
     k5 (y27, w64 (z3.2.1 - 1), v18.2)))
     (some (z3.1, z3.2.2))) big (([] : List Piece), w64 (1 + v1.1), v1.2)
def r20_Retarders (a0 : (List Piece)) : Option Int :=
  lp (fun (z1 : (Int × Int)) k3 =>
     cond (decide (z1.2 < (a0.length : Int)))
     (ix a0 z1.2 fun x6 =>
     cond (decide (0 < x6.Power))
     (k3 (w64 (z1.1 + 1), w64 (z1.2 + 1)))
     (k3 (z1.1, w64 (z1.2 + 1))))
     (some z1.1)) big (0, 0)
def gen_Maker_Motion (a0 : HumpgenMaker) (a1 : (List Piece)) : Option (Motion × Int) :=
  bd (gen_Maker_Pick a0 ([0, 500, 1200, 1400, 2000] : List Int)) fun v3 =>
     bd (gen_Maker_Pick (HumpgenMaker.mk a0.fl v3.2) ([0, 10, 100] : List Int)) fun v6 =>
     bd (gen_Maker_Pick (HumpgenMaker.mk a0.fl v6.2) ([0, 20, 100] : List Int)) fun v9 =>
     bd (gen_Maker_Pick (HumpgenMaker.mk a0.fl v9.2) ([0, 10, 20, 60] : List Int)) fun v13 =>
     bd (gen_Maker_Pick (HumpgenMaker.mk a0.fl v13.2) ([0, 5, 30, 150] : List Int)) fun v16 =>
     jp (fun (z18 : (List Interval)) =>
     bd (r20_Retarders a1) fun v22 =>
     lp (fun (z23 : ((List Int) × Int × Int)) k25 =>
     cond (decide (0 < z23.2.1))
     (bd (gen_Maker_Pick (HumpgenMaker.mk a0.fl z23.2.2) ([(-1), 0, 800, 1200, 3000, 5000] : List Int)) fun v29 =>
     ck (decide (z23.1.length + ([v29.1] : List Int).length ≤ 1000000000)) <|
     vl (z23.1 ++ ([v29.1] : List Int)) fun y32 =>
     k25 (y32, w64 (z23.2.1 - 1), v29.2))
     (some ((Motion.mk (Interval.mk v3.1 (w64 (v3.1 + v6.1))) z18 v9.1 z23.1), z23.2.2))) big (([] : List Int), v22, v16.2)) fun k20 =>
     lp (fun (z34 : ((List Interval) × Int)) k36 =>
     cond (decide (z34.2 < (a1.length : Int)))
     (ix a1 z34.2 fun x39 =>
     ix a1 z34.2 fun x41 =>
     vl (w64 ((w64 (v13.1 + v16.1)) + x41.Curve)) fun x43 =>
     ck (decide (z34.1.length + ([(Interval.mk (w64 (v13.1 + x39.Curve)) x43)] : List Interval).length ≤ 1000000000)) <|
     vl (z34.1 ++ ([(Interval.mk (w64 (v13.1 + x39.Curve)) x43)] : List Interval)) fun y45 =>
     k36 (y45, w64 (z34.2 + 1)))
     (k20 z34.1)) big (([] : List Interval), 0)
def gen_Maker_Run (a0 : HumpgenMaker) (a1 : Motion) : Option (Run × Int) :=
  bd (gen_Maker_From a0 a1.Speed.Lo a1.Speed.Hi) fun v3 =>
     jp (fun (z6 : ((List Int) × Int)) =>
     lp (fun (z10 : ((List Int) × Int × Int)) k12 =>
     cond (decide (z10.2.1 < (a1.Targets.length : Int)))
     (ix a1.Targets z10.2.1 fun x15 =>
     jp (fun (z17 : (Int × Int)) =>
     ck (decide (z10.1.length + ([z17.1] : List Int).length ≤ 1000000000)) <|
     vl (z10.1 ++ ([z17.1] : List Int)) fun y22 =>
     k12 (y22, w64 (z10.2.1 + 1), z17.2)) fun k19 =>
     cond (decide (0 ≤ x15))
     (bd (gen_Maker_From (HumpgenMaker.mk a0.fl z10.2.2) (w64 (x15 - a1.Error)) (w64 (x15 + a1.Error))) fun v24 =>
     k19 (max 0 (min 20000 v24.1), v24.2))
     (k19 (x15, z10.2.2)))
     (some ((Run.mk v3.1 z6.1 z10.1), z10.2.2))) big (([] : List Int), 0, z6.2)) fun k8 =>
     lp (fun (z26 : ((List Int) × Int × Int)) k28 =>
     cond (decide (z26.2.1 < (a1.Class.length : Int)))
     (ix a1.Class z26.2.1 fun x31 =>
     ix a1.Class z26.2.1 fun x33 =>
     bd (gen_Maker_From (HumpgenMaker.mk a0.fl z26.2.2) x31.Lo x33.Hi) fun v35 =>
     ck (decide (z26.1.length + ([v35.1] : List Int).length ≤ 1000000000)) <|
     vl (z26.1 ++ ([v35.1] : List Int)) fun y38 =>
     k28 (y38, w64 (z26.2.1 + 1), v35.2))
     (k8 (z26.1, z26.2.2))) big (([] : List Int), 0, v3.2)
def law20_RunoffSlower (a0 : (List Int)) : Option Bool :=
  bd (gen_New a0) fun v1 =>
     bd (gen_Maker_Pieces (HumpgenMaker.mk a0 v1.fn) 10) fun v3 =>
     bd (gen_Maker_Motion (HumpgenMaker.mk a0 v3.2) v3.1) fun v5 =>
     bd (gen_Maker_Run (HumpgenMaker.mk a0 v5.2) v5.1) fun v7 =>
     ck (decide (([] : List Int).length + v7.1.Resist.length ≤ 1000000000)) <|
     vl (([] : List Int) ++ v7.1.Resist) fun y12 =>
     jp (fun (z14 : (Int × (List Int))) =>
     bd (gen_Maker_Pick (HumpgenMaker.mk a0 z14.1) ([0, 0, 50] : List Int)) fun v19 =>
     vl (max 0 (w64 (v7.1.Speed - v19.1))) fun x21 =>
     bd (runoff_Point v3.1 v7.1) fun v22 =>
     bd (runoff_Point v3.1 (Run.mk x21 z14.2 v7.1.Targets)) fun v24 =>
     cond (decide (v22.2.2 ≠ 0)) (some false) (cond (decide (v24.2.2 ≠ 0)) (some false) (cond (decide ((v22.1.length : Int) < (v24.1.length : Int)))
     (some false)
     (lp (fun (z26 : Int) k28 =>
     cond (decide (z26 < (v24.1.length : Int)))
     (ix v24.1 z26 fun x31 =>
     ix v22.1 z26 fun x33 =>
     cond (decide (x31.Time < x33.Time)) (some false) (ix v24.1 z26 fun x35 =>
     ix v22.1 z26 fun x37 =>
     cond (decide (x37.Energy < x35.Energy))
     (some false)
     (k28 (w64 (z26 + 1)))))
     (bd (law20_sane) fun v39 =>
     some v39)) big 0)))) fun k16 =>
     lp (fun (z40 : (Int × (List Int) × Int)) k42 =>
     cond (decide (z40.2.2 < (y12.length : Int)))
     (ix z40.2.1 z40.2.2 fun x45 =>
     bd (gen_Maker_Pick (HumpgenMaker.mk a0 z40.1) ([0, 0, 1, 20] : List Int)) fun v48 =>
     ix z40.2.1 z40.2.2 fun x50 =>
     vl (z40.2.1.set (Int.toNat z40.2.2) (w64 (x45 + v48.1))) fun y52 =>
     k42 (v48.2, y52, w64 (z40.2.2 + 1)))
     (k16 (z40.1, z40.2.1))) big (v7.2, y12, 0)
def r20_Valid (a0 : (List Piece)) : Option Int :=
  cond (decide ((a0.length : Int) < 1)) (some 3) (cond (decide (128 < (a0.length : Int)))
     (some 3)
     (lp (fun (z1 : Int) k3 =>
     cond (decide (z1 < (a0.length : Int)))
     (ix a0 z1 fun x6 =>
     cond (decide (x6.Element < 0)) (some 1) (cond (decide (128 ≤ x6.Element)) (some 1) (cond (decide (x6.Length < 1)) (some 1) (cond (decide (1000000 < x6.Length)) (some 1) (cond (decide (x6.Grade < (-10000))) (some 1) (cond (decide (10000 < x6.Grade)) (some 1) (cond (decide (x6.Curve < 0)) (some 1) (cond (decide (5000 < x6.Curve)) (some 1) (cond (decide (x6.Power < 0)) (some 1) (cond (decide (1000000000 < x6.Power))
     (some 1)
     (k3 (w64 (z1 + 1)))))))))))))
     (some 0)) big 0))
def r01_Valid (a0 : Interval) : Option Bool :=
  cond (decide (a0.Lo ≤ a0.Hi)) (cond (decide ((-1000000000000) ≤ a0.Lo)) (some (decide (a0.Hi ≤ 1000000000000))) (some false)) (some false)
def r20_targets (a0 : (List Int)) : Option Bool :=
  lp (fun (z1 : Int) k3 =>
     cond (decide (z1 < (a0.length : Int)))
     (ix a0 z1 fun x6 =>
     cond (decide (x6 < (-1))) (some false) (ix a0 z1 fun x8 =>
     cond (decide (20000 < x8))
     (some false)
     (k3 (w64 (z1 + 1)))))
     (some true)) big 0
def r20_Motion (a0 : (List Piece)) (a1 : Motion) : Option Int :=
  bd (r01_Valid a1.Speed) fun v2 =>
     cond (!v2) (some 1) (cond (decide ((a1.Class.length : Int) ≠ (a0.length : Int))) (some 1) (bd (r20_Retarders a0) fun v3 =>
     cond (decide ((a1.Targets.length : Int) ≠ v3))
     (some 1)
     (jp (fun (z4 : Unit) =>
     jp (fun (z8 : Bool) =>
     lp (fun (z12 : (Bool × Int)) k14 =>
     cond (decide (z12.2 < (a1.Class.length : Int)))
     (cond z12.1 (ix a1.Class z12.2 fun x17 =>
     cond (decide ((-5000) ≤ x17.Lo)) (ix a1.Class z12.2 fun x19 =>
     k14 (decide (x19.Hi ≤ 10000), w64 (z12.2 + 1))) (k14 (false, w64 (z12.2 + 1)))) (k14 (false, w64 (z12.2 + 1))))
     (cond (!z12.1)
     (some 2)
     (some 0))) big (z8, 0)) fun k10 =>
     cond (decide (0 ≤ a1.Speed.Lo)) (cond (decide (a1.Speed.Hi ≤ 20000)) (cond (decide (0 ≤ a1.Error)) (cond (decide (a1.Error ≤ 1000)) (bd (r20_targets a1.Targets) fun v21 =>
     k10 v21) (k10 false)) (k10 false)) (k10 false)) (k10 false)) fun k6 =>
     lp (fun (z22 : Int) k24 =>
     cond (decide (z22 < (a1.Class.length : Int)))
     (ix a1.Class z22 fun x27 =>
     bd (r01_Valid x27) fun v29 =>
     cond (!v29)
     (some 1)
     (k24 (w64 (z22 + 1))))
     (k6 ())) big 0)))
def r20_gain (a0 : Piece) (a1 : Int) : Option Int :=
  vl (w64 (19620 * (w64 (a0.Grade - a1)))) fun x2 =>
     some (w64 (x2 * a0.Length))
def r01_Down (a0 : Int) (a1 : Int) : Option Int :=
  ck (decide (a1 ≠ 0)) <|
     ck (decide (a1 ≠ 0)) <|
     cond (decide ((Int.tmod a0 a1) ≠ 0)) (cond (!((decide ((Int.tmod a0 a1) < 0)) == (decide (a1 < 0))))
     (vl (w64 ((w64 (Int.tdiv a0 a1)) - 1)) fun x3 =>
     some x3)
     (some (w64 (Int.tdiv a0 a1)))) (some (w64 (Int.tdiv a0 a1)))
def r01_Up (a0 : Int) (a1 : Int) : Option Int :=
  ck (decide (a1 ≠ 0)) <|
     ck (decide (a1 ≠ 0)) <|
     cond (decide ((Int.tmod a0 a1) ≠ 0)) (cond ((decide ((Int.tmod a0 a1) < 0)) == (decide (a1 < 0)))
     (vl (w64 ((w64 (Int.tdiv a0 a1)) + 1)) fun x3 =>
     some x3)
     (some (w64 (Int.tdiv a0 a1)))) (some (w64 (Int.tdiv a0 a1)))
def r01_RootDown (a0 : Int) : Option Int :=
  lp (fun (z1 : (Int × Int)) k3 =>
     cond (decide (z1.1 < z1.2))
     (vl (w64 (Int.tdiv (w64 ((w64 (z1.1 + z1.2)) + 1)) 2)) fun x6 =>
     cond (decide ((w64 (x6 * x6)) ≤ a0))
     (k3 (x6, z1.2))
     (k3 (z1.1, w64 (x6 - 1))))
     (some z1.1)) big (0, 1073741824)
def r01_RootUp (a0 : Int) : Option Int :=
  bd (r01_RootDown a0) fun v1 =>
     cond (decide ((w64 (v1 * v1)) < a0))
     (some (w64 (v1 + 1)))
     (some v1)
def r20_step (a0 : Passage) (a1 : Piece) (a2 : Interval) : Option Passage :=
  bd (r20_gain a1 a2.Hi) fun v5 =>
     bd (r01_Down v5 100000) fun v6 =>
     bd (r20_gain a1 a2.Lo) fun v7 =>
     bd (r01_Up v7 100000) fun v8 =>
     cond (decide ((w64 (a0.Energy.Hi + v8)) < 0))
     (some (Passage.mk (Interval.mk 0 0) (Interval.mk 0 0) false true))
     (bd (r01_RootUp a0.Energy.Hi) fun v9 =>
     bd (r01_RootUp (w64 (a0.Energy.Hi + v8))) fun v10 =>
     cond (decide ((w64 (v9 + v10)) = 0))
     (some (Passage.mk (Interval.mk 0 0) (Interval.mk 0 0) false true))
     (jp (fun (z11 : Bool) =>
     vl (max (w64 (a0.Energy.Lo + v6)) 0) fun x15 =>
     bd (r01_RootDown a0.Energy.Lo) fun v16 =>
     bd (r01_RootDown x15) fun v17 =>
     jp (fun (z18 : Bool) =>
     ck (decide ((w64 (v9 + v10)) ≠ 0)) <|
     vl (w64 (Int.tdiv (w64 (2000 * a1.Length)) (w64 (v9 + v10)))) fun x23 =>
     vl (min 1000000000 (w64 (a0.Time.Lo + x23))) fun x24 =>
     cond (!z18)
     (bd (r01_Up (w64 (2000 * a1.Length)) (w64 (v16 + v17))) fun v25 =>
     vl (min 1000000000 (w64 (a0.Time.Hi + v25))) fun x26 =>
     some (Passage.mk (Interval.mk x24 x26) (Interval.mk x15 (w64 (a0.Energy.Hi + v8))) z18 false))
     (some (Passage.mk (Interval.mk x24 1000000000) (Interval.mk x15 (w64 (a0.Energy.Hi + v8))) z18 false))) fun k20 =>
     cond z11 (k20 true) (k20 (decide ((w64 (v16 + v17)) = 0)))) fun k13 =>
     cond a0.Slow (k13 true) (k13 (decide ((w64 (a0.Energy.Lo + v6)) < 0)))))
def r20_brake (a0 : Interval) (a1 : Int) (a2 : Int) (a3 : Int) : Option Interval :=
  vl (w64 ((max 0 (w64 (a2 - a3))) * (max 0 (w64 (a2 - a3))))) fun x3 =>
     vl (w64 ((w64 (a2 + a3)) * (w64 (a2 + a3)))) fun x4 =>
     vl (max (min a0.Hi x4) (w64 (a0.Hi - a1))) fun x5 =>
     some (Interval.mk (min a0.Lo x3) x5)
def r20_Pass (a0 : (List Piece)) (a1 : Motion) : Option ((List Passage) × Int) :=
  bd (r20_Valid a0) fun v2 =>
     cond (decide (v2 ≠ 0))
     (some (([] : List Passage), v2))
     (bd (r20_Motion a0 a1) fun v3 =>
     cond (decide (v3 ≠ 0))
     (some (([] : List Passage), v3))
     (vl (w64 (a1.Speed.Lo * a1.Speed.Lo)) fun x4 =>
     vl (w64 (a1.Speed.Hi * a1.Speed.Hi)) fun x5 =>
     lp (fun (z8 : (Int × Int × Int × Int × Bool × Bool × (List Passage) × Int × Int)) k10 =>
     cond (decide (z8.2.2.2.2.2.2.2.2 < (a0.length : Int)))
     (jp (fun (z13 : (Int × Int × Int × Int × Bool × Bool)) =>
     ix a0 z8.2.2.2.2.2.2.2.2 fun x17 =>
     cond (decide (0 < x17.Power))
     (jp (fun (z19 : Bool) =>
     cond z19
     (ix a0 z8.2.2.2.2.2.2.2.2 fun x23 =>
     ix a1.Targets z8.2.2.2.2.2.2.2.1 fun x25 =>
     bd (r20_brake (Interval.mk z13.2.2.1 z13.2.2.2.1) x23.Power x25 a1.Error) fun v27 =>
     ck (decide (z8.2.2.2.2.2.2.1.length + ([(Passage.mk (Interval.mk z13.1 z13.2.1) v27 z13.2.2.2.2.1 z13.2.2.2.2.2)] : List Passage).length ≤ 1000000000)) <|
     vl (z8.2.2.2.2.2.2.1 ++ ([(Passage.mk (Interval.mk z13.1 z13.2.1) v27 z13.2.2.2.2.1 z13.2.2.2.2.2)] : List Passage)) fun y29 =>
     k10 (z13.1, z13.2.1, v27.Lo, v27.Hi, z13.2.2.2.2.1, z13.2.2.2.2.2, y29, w64 (z8.2.2.2.2.2.2.2.1 + 1), w64 (z8.2.2.2.2.2.2.2.2 + 1)))
     (ck (decide (z8.2.2.2.2.2.2.1.length + ([(Passage.mk (Interval.mk z13.1 z13.2.1) (Interval.mk z13.2.2.1 z13.2.2.2.1) z13.2.2.2.2.1 z13.2.2.2.2.2)] : List Passage).length ≤ 1000000000)) <|
     vl (z8.2.2.2.2.2.2.1 ++ ([(Passage.mk (Interval.mk z13.1 z13.2.1) (Interval.mk z13.2.2.1 z13.2.2.2.1) z13.2.2.2.2.1 z13.2.2.2.2.2)] : List Passage)) fun y32 =>
     k10 (z13.1, z13.2.1, z13.2.2.1, z13.2.2.2.1, z13.2.2.2.2.1, z13.2.2.2.2.2, y32, w64 (z8.2.2.2.2.2.2.2.1 + 1), w64 (z8.2.2.2.2.2.2.2.2 + 1)))) fun k21 =>
     cond (!z13.2.2.2.2.2) (ix a1.Targets z8.2.2.2.2.2.2.2.1 fun x34 =>
     k21 (decide (0 ≤ x34))) (k21 false))
     (ck (decide (z8.2.2.2.2.2.2.1.length + ([(Passage.mk (Interval.mk z13.1 z13.2.1) (Interval.mk z13.2.2.1 z13.2.2.2.1) z13.2.2.2.2.1 z13.2.2.2.2.2)] : List Passage).length ≤ 1000000000)) <|
     vl (z8.2.2.2.2.2.2.1 ++ ([(Passage.mk (Interval.mk z13.1 z13.2.1) (Interval.mk z13.2.2.1 z13.2.2.2.1) z13.2.2.2.2.1 z13.2.2.2.2.2)] : List Passage)) fun y37 =>
     k10 (z13.1, z13.2.1, z13.2.2.1, z13.2.2.2.1, z13.2.2.2.2.1, z13.2.2.2.2.2, y37, z8.2.2.2.2.2.2.2.1, w64 (z8.2.2.2.2.2.2.2.2 + 1)))) fun k15 =>
     cond (!z8.2.2.2.2.2.1)
     (ix a0 z8.2.2.2.2.2.2.2.2 fun x39 =>
     ix a1.Class z8.2.2.2.2.2.2.2.2 fun x41 =>
     bd (r20_step (Passage.mk (Interval.mk z8.1 z8.2.1) (Interval.mk z8.2.2.1 z8.2.2.2.1) z8.2.2.2.2.1 z8.2.2.2.2.2.1) x39 x41) fun v43 =>
     k15 (v43.Time.Lo, v43.Time.Hi, v43.Energy.Lo, v43.Energy.Hi, v43.Slow, v43.Stops))
     (k15 (z8.1, z8.2.1, z8.2.2.1, z8.2.2.2.1, z8.2.2.2.2.1, z8.2.2.2.2.2.1)))
     (some (z8.2.2.2.2.2.2.1, 0))) big (0, 0, x4, x5, false, false, ([(Passage.mk (Interval.mk 0 0) (Interval.mk x4 x5) false false)] : List Passage), 0, 0)))
def r20_Point (a0 : (List Piece)) (a1 : Run) : Option ((List Moment) × Int × Int) :=
  bd (r20_Valid a0) fun v2 =>
     cond (decide (v2 ≠ 0))
     (some (([] : List Moment), 0, v2))
     (cond (decide ((a1.Resist.length : Int) ≠ (a0.length : Int))) (some (([] : List Moment), 0, 1)) (bd (r20_Retarders a0) fun v3 =>
     cond (decide ((a1.Targets.length : Int) ≠ v3))
     (some (([] : List Moment), 0, 1))
     (jp (fun (z4 : Bool) =>
     jp (fun (z8 : Bool) =>
     cond (!z8)
     (some (([] : List Moment), 0, 2))
     (lp (fun (z14 : (Int × Int × (List Moment) × Int × Int)) k16 =>
     cond (decide (z14.2.2.2.2 < (a0.length : Int)))
     (ix a0 z14.2.2.2.2 fun x19 =>
     ix a1.Resist z14.2.2.2.2 fun x21 =>
     bd (r20_gain x19 x21) fun v23 =>
     bd (r01_Down v23 100000) fun v24 =>
     cond (decide ((w64 (z14.2.1 + v24)) < 0))
     (some (z14.2.2.1, z14.2.2.2.2, 0))
     (bd (r01_RootDown z14.2.1) fun v25 =>
     bd (r01_RootDown (w64 (z14.2.1 + v24))) fun v26 =>
     cond (decide ((w64 (v25 + v26)) = 0))
     (some (z14.2.2.1, z14.2.2.2.2, 0))
     (ix a0 z14.2.2.2.2 fun x27 =>
     bd (r01_Up (w64 (2000 * x27.Length)) (w64 (v25 + v26))) fun v29 =>
     vl (min 1000000000 (w64 (z14.1 + v29))) fun x30 =>
     ix a0 z14.2.2.2.2 fun x31 =>
     cond (decide (0 < x31.Power))
     (ix a1.Targets z14.2.2.2.1 fun x33 =>
     cond (decide (0 ≤ x33))
     (vl (min (w64 (z14.2.1 + v24)) (w64 (x33 * x33))) fun x35 =>
     ix a0 z14.2.2.2.2 fun x36 =>
     vl (w64 ((w64 (z14.2.1 + v24)) - x36.Power)) fun x38 =>
     ck (decide (z14.2.2.1.length + ([(Moment.mk x30 (max x35 x38))] : List Moment).length ≤ 1000000000)) <|
     vl (z14.2.2.1 ++ ([(Moment.mk x30 (max x35 x38))] : List Moment)) fun y40 =>
     k16 (x30, max x35 x38, y40, w64 (z14.2.2.2.1 + 1), w64 (z14.2.2.2.2 + 1)))
     (ck (decide (z14.2.2.1.length + ([(Moment.mk x30 (w64 (z14.2.1 + v24)))] : List Moment).length ≤ 1000000000)) <|
     vl (z14.2.2.1 ++ ([(Moment.mk x30 (w64 (z14.2.1 + v24)))] : List Moment)) fun y43 =>
     k16 (x30, w64 (z14.2.1 + v24), y43, w64 (z14.2.2.2.1 + 1), w64 (z14.2.2.2.2 + 1))))
     (ck (decide (z14.2.2.1.length + ([(Moment.mk x30 (w64 (z14.2.1 + v24)))] : List Moment).length ≤ 1000000000)) <|
     vl (z14.2.2.1 ++ ([(Moment.mk x30 (w64 (z14.2.1 + v24)))] : List Moment)) fun y46 =>
     k16 (x30, w64 (z14.2.1 + v24), y46, z14.2.2.2.1, w64 (z14.2.2.2.2 + 1))))))
     (some (z14.2.2.1, (-1), 0))) big (0, w64 (a1.Speed * a1.Speed), ([(Moment.mk 0 (w64 (a1.Speed * a1.Speed)))] : List Moment), 0, 0))) fun k10 =>
     lp (fun (z48 : (Bool × Int)) k50 =>
     cond (decide (z48.2 < (a0.length : Int)))
     (cond z48.1 (ix a1.Resist z48.2 fun x53 =>
     cond (decide ((-5000) ≤ x53)) (ix a1.Resist z48.2 fun x55 =>
     k50 (decide (x55 ≤ 10000), w64 (z48.2 + 1))) (k50 (false, w64 (z48.2 + 1)))) (k50 (false, w64 (z48.2 + 1))))
     (k10 z48.1)) big (z4, 0)) fun k6 =>
     cond (decide (0 ≤ a1.Speed)) (cond (decide (a1.Speed ≤ 20000)) (bd (r20_targets a1.Targets) fun v57 =>
     k6 v57) (k6 false)) (k6 false))))
end Go.Hy
