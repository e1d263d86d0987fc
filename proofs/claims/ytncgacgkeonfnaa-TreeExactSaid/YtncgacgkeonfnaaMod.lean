/-
  Plain models of the program's functions. Printed by a program out of the translation.
-/
import Derived.Test.YtncgacgkeonfnaaData
namespace Go.Hy
set_option linter.unusedVariables false
set_option linter.unusedSimpArgs false
set_option maxHeartbeats 2000000
set_option maxRecDepth 100000
def gen_New (a0 : (List Int)) : Option HumpgenMaker :=
  some (HumpgenMaker.mk a0 0)
def gen_word (a0 : Int) : Option ByteArray :=
  vl (Int.tmod (w64 (Int.tdiv a0 100)) 10) fun x1 =>
     vl (IntKind.wrap .u8 (w64 (48 + x1))) fun x2 =>
     vl (Int.tmod (w64 (Int.tdiv a0 10)) 10) fun x3 =>
     vl (IntKind.wrap .u8 (w64 (48 + x3))) fun x4 =>
     vl (IntKind.wrap .u8 (w64 (48 + (Int.tmod a0 10)))) fun x5 =>
     some (strOf ([101, x2, x4, x5] : List Int))
def gen_Maker_Next (a0 : HumpgenMaker) (a1 : Int) : Option (Int × Int) :=
  jp (fun (z1 : Int) =>
     ck (decide (a1 ≠ 0)) <|
     cond (decide ((Int.tmod z1 a1) < 0))
     (some (w64 ((Int.tmod z1 a1) + a1), w64 (a0.fn + 1)))
     (some (Int.tmod z1 a1, w64 (a0.fn + 1)))) fun k3 =>
     cond (decide (0 < (a0.fl.length : Int)))
     (ck (decide ((a0.fl.length : Int) ≠ 0)) <|
     vl (Int.tmod a0.fn (a0.fl.length : Int)) fun x7 =>
     ix a0.fl x7 fun x8 =>
     ck (decide ((a0.fl.length : Int) ≠ 0)) <|
     vl (w64 (Int.tdiv a0.fn (a0.fl.length : Int))) fun x11 =>
     k3 (w64 (x8 + (w64 (x11 * 7919)))))
     (k3 0)
def gen_Maker_Pick (a0 : HumpgenMaker) (a1 : (List Int)) : Option (Int × Int) :=
  bd (gen_Maker_Next a0 (a1.length : Int)) fun v1 =>
     ix a1 v1.1 fun x3 =>
     some (x3, v1.2)
def gen_Maker_element (a0 : HumpgenMaker) (a1 : Int) (a2 : Int) (a3 : Int) (a4 : Int) : Option (Element × Int) :=
  bd (gen_word a2) fun v2 =>
     bd (gen_Maker_Pick a0 ([1000, 5000, 9000, 12000, 30000, 100000] : List Int)) fun v4 =>
     bd (gen_Maker_Pick (HumpgenMaker.mk a0.fl v4.2) ([0, 100, (-150), 400, 1000, 3500, 5000] : List Int)) fun v7 =>
     bd (gen_Maker_Pick (HumpgenMaker.mk a0.fl v7.2) ([0, 0, 20, 150] : List Int)) fun v10 =>
     cond (decide (a1 = 2))
     (bd (gen_Maker_Pick (HumpgenMaker.mk a0.fl v10.2) ([500000, 2000000, 8000000, 30000000] : List Int)) fun v14 =>
     some ((Element.mk a1 v2 a3 a4 v4.1 v7.1 v10.1 v14.1), v14.2))
     (cond (decide (a1 = 4))
     (bd (gen_Maker_Pick (HumpgenMaker.mk a0.fl v10.2) ([100000, 400000, 700000] : List Int)) fun v17 =>
     bd (gen_Maker_Pick (HumpgenMaker.mk a0.fl v17.2) ([(-100), 0, 50, 150] : List Int)) fun v20 =>
     some ((Element.mk a1 v2 a3 a4 v17.1 v20.1 v10.1 0), v20.2))
     (some ((Element.mk a1 v2 a3 a4 v4.1 v7.1 v10.1 0), v10.2)))
def gen_Maker_Layout (a0 : HumpgenMaker) (a1 : Int) : Option ((List Element) × Int) :=
  bd (gen_word 0) fun v1 =>
     bd (gen_Maker_Next a0 (w64 (a1 + 1))) fun v4 =>
     lp (fun (z6 : ((List Element) × (List Arr2Int) × Int × Int)) k8 =>
     cond (decide (0 < (z6.2.1.length : Int)))
     (ix z6.2.1 0 fun x11 =>
     ck (decide ((0 : Int) ≤ 1 ∧ 1 ≤ (z6.2.1.length : Int))) <|
     jp (fun (z15 : ((List Element) × Int × Int × Int)) =>
     cond (decide (0 < z6.2.2.1))
     (bd (gen_Maker_element (HumpgenMaker.mk a0.fl z15.2.2.2) 3 (z15.1.length : Int) z15.2.1 z15.2.2.1) fun v19 =>
     ck (decide (z15.1.length + ([v19.1] : List Element).length ≤ 1000000000)) <|
     vl (z15.1 ++ ([v19.1] : List Element)) fun y22 =>
     ck (decide ((z6.2.1.drop (Int.toNat 1)).length + ([(Arr2Int.mk (w64 ((y22.length : Int) - 1)) 1), (Arr2Int.mk (w64 ((y22.length : Int) - 1)) 2)] : List Arr2Int).length ≤ 1000000000)) <|
     vl ((z6.2.1.drop (Int.toNat 1)) ++ ([(Arr2Int.mk (w64 ((y22.length : Int) - 1)) 1), (Arr2Int.mk (w64 ((y22.length : Int) - 1)) 2)] : List Arr2Int)) fun y25 =>
     k8 (y22, y25, w64 (z6.2.2.1 - 1), v19.2))
     (bd (gen_Maker_element (HumpgenMaker.mk a0.fl z15.2.2.2) 4 (z15.1.length : Int) z15.2.1 z15.2.2.1) fun v27 =>
     ck (decide (z15.1.length + ([v27.1] : List Element).length ≤ 1000000000)) <|
     vl (z15.1 ++ ([v27.1] : List Element)) fun y30 =>
     k8 (y30, z6.2.1.drop (Int.toNat 1), z6.2.2.1, v27.2))) fun k17 =>
     bd (gen_Maker_Next (HumpgenMaker.mk a0.fl z6.2.2.2) 3) fun v32 =>
     lp (fun (z34 : ((List Element) × Int × Int × Int × Int)) k36 =>
     cond (decide (0 < z34.2.2.2.1))
     (bd (gen_Maker_Pick (HumpgenMaker.mk a0.fl z34.2.2.2.2) ([1, 1, 2] : List Int)) fun v40 =>
     bd (gen_Maker_element (HumpgenMaker.mk a0.fl v40.2) v40.1 (z34.1.length : Int) z34.2.1 z34.2.2.1) fun v42 =>
     ck (decide (z34.1.length + ([v42.1] : List Element).length ≤ 1000000000)) <|
     vl (z34.1 ++ ([v42.1] : List Element)) fun y45 =>
     k36 (y45, w64 ((y45.length : Int) - 1), 0, w64 (z34.2.2.2.1 - 1), v42.2))
     (k17 (z34.1, z34.2.1, z34.2.2.1, z34.2.2.2.2))) big (z6.1, x11.a0, x11.a1, v32.1, v32.2))
     (some (z6.1, z6.2.2.2))) big (([(Element.mk 0 v1 (-1) 0 0 0 0 0)] : List Element), ([(Arr2Int.mk 0 0)] : List Arr2Int), v4.1, v4.2)
def gen_Maker_SpoilLayout (a0 : HumpgenMaker) (a1 : (List Element)) : Option ((List Element) × Int) :=
  ck (decide (([] : List Element).length + a1.length ≤ 1000000000)) <|
     vl (([] : List Element) ++ a1) fun y2 =>
     cond (decide ((y2.length : Int) = 0))
     (some (y2, a0.fn))
     (bd (gen_Maker_Next a0 (y2.length : Int)) fun v4 =>
     ix y2 v4.1 fun x6 =>
     bd (gen_Maker_Next (HumpgenMaker.mk a0.fl v4.2) 11) fun v8 =>
     cond (decide (v8.1 = 0))
     (bd (gen_Maker_Pick (HumpgenMaker.mk a0.fl v8.2) ([(-1), 0, 1, 2, 3, 4, 5] : List Int)) fun v11 =>
     vl (y2.set (Int.toNat v4.1) (Element.mk v11.1 x6.Name x6.Parent x6.Side x6.Length x6.Grade x6.Curve x6.Power)) fun y13 =>
     some (y13, v11.2))
     (cond (decide (v8.1 = 1))
     (bd (gen_Maker_Next (HumpgenMaker.mk a0.fl v8.2) 6) fun v15 =>
     ix ([⟨#[]⟩, ⟨#[65]⟩, ⟨#[101, 48, 48, 48]⟩, ⟨#[101, 48, 48, 49]⟩, ⟨#[97, 98, 99, 100, 101, 102, 103, 104, 105, 106, 107, 108, 109]⟩, ⟨#[97, 58, 108, 101, 102, 116]⟩] : List ByteArray) v15.1 fun x17 =>
     vl (y2.set (Int.toNat v4.1) (Element.mk x6.Kind x17 x6.Parent x6.Side x6.Length x6.Grade x6.Curve x6.Power)) fun y19 =>
     some (y19, v15.2))
     (cond (decide (v8.1 = 2))
     (bd (gen_Maker_Pick (HumpgenMaker.mk a0.fl v8.2) ([(-1), 0, 1, v4.1, w64 (v4.1 + 1), (y2.length : Int)] : List Int)) fun v21 =>
     vl (y2.set (Int.toNat v4.1) (Element.mk x6.Kind x6.Name v21.1 x6.Side x6.Length x6.Grade x6.Curve x6.Power)) fun y23 =>
     some (y23, v21.2))
     (cond (decide (v8.1 = 3))
     (bd (gen_Maker_Pick (HumpgenMaker.mk a0.fl v8.2) ([(-1), 0, 1, 2, 3] : List Int)) fun v25 =>
     vl (y2.set (Int.toNat v4.1) (Element.mk x6.Kind x6.Name x6.Parent v25.1 x6.Length x6.Grade x6.Curve x6.Power)) fun y27 =>
     some (y27, v25.2))
     (cond (decide (v8.1 = 4))
     (bd (gen_Maker_Pick (HumpgenMaker.mk a0.fl v8.2) ([0, 1, 1000000, 1000001, (-1)] : List Int)) fun v29 =>
     vl (y2.set (Int.toNat v4.1) (Element.mk x6.Kind x6.Name x6.Parent x6.Side v29.1 x6.Grade x6.Curve x6.Power)) fun y31 =>
     some (y31, v29.2))
     (cond (decide (v8.1 = 5))
     (bd (gen_Maker_Pick (HumpgenMaker.mk a0.fl v8.2) ([(-10001), (-10000), 10000, 10001] : List Int)) fun v33 =>
     vl (y2.set (Int.toNat v4.1) (Element.mk x6.Kind x6.Name x6.Parent x6.Side x6.Length v33.1 x6.Curve x6.Power)) fun y35 =>
     some (y35, v33.2))
     (cond (decide (v8.1 = 6))
     (bd (gen_Maker_Pick (HumpgenMaker.mk a0.fl v8.2) ([(-1), 5000, 5001] : List Int)) fun v37 =>
     vl (y2.set (Int.toNat v4.1) (Element.mk x6.Kind x6.Name x6.Parent x6.Side x6.Length x6.Grade v37.1 x6.Power)) fun y39 =>
     some (y39, v37.2))
     (cond (decide (v8.1 = 7))
     (bd (gen_Maker_Pick (HumpgenMaker.mk a0.fl v8.2) ([(-1), 0, 1, 1000000000, 1000000001] : List Int)) fun v41 =>
     vl (y2.set (Int.toNat v4.1) (Element.mk x6.Kind x6.Name x6.Parent x6.Side x6.Length x6.Grade x6.Curve v41.1)) fun y43 =>
     some (y43, v41.2))
     (cond (decide (v8.1 = 8))
     (ck (decide ((0 : Int) ≤ v4.1 ∧ v4.1 ≤ (y2.length : Int))) <|
     ck (decide ((0 : Int) ≤ w64 (v4.1 + 1) ∧ w64 (v4.1 + 1) ≤ (y2.length : Int))) <|
     ck (decide ((y2.take (Int.toNat v4.1)).length + (y2.drop (Int.toNat (w64 (v4.1 + 1)))).length ≤ 1000000000)) <|
     vl ((y2.take (Int.toNat v4.1)) ++ (y2.drop (Int.toNat (w64 (v4.1 + 1))))) fun y46 =>
     some (y46, v8.2))
     (cond (decide (v8.1 = 9))
     (ck (decide ((0 : Int) ≤ v4.1 ∧ v4.1 ≤ (y2.length : Int))) <|
     some (y2.take (Int.toNat v4.1), v8.2))
     (some (y2, v8.2))))))))))))
def gen_Maker_From (a0 : HumpgenMaker) (a1 : Int) (a2 : Int) : Option (Int × Int) :=
  bd (gen_Maker_Next a0 (w64 ((w64 (a2 - a1)) + 1))) fun v1 =>
     some (w64 (a1 + v1.1), v1.2)
def layout_name (a0 : ByteArray) : Option Bool :=
  jp (fun (z1 : Unit) =>
     cond (decide (0 < (a0.size : Int))) (some (decide ((a0.size : Int) ≤ 12))) (some false)) fun k3 =>
     lp (fun (z5 : Int) k7 =>
     cond (decide (z5 < (a0.size : Int)))
     (ck (decide ((0 : Int) ≤ z5 ∧ z5 < (a0.size : Int))) <|
     cond (decide ((byteAt a0 z5) < 97)) (cond (decide ((byteAt a0 z5) < 48)) (some false) (cond (decide (57 < (byteAt a0 z5)))
     (some false)
     (k7 (w64 (z5 + 1))))) (cond (decide (122 < (byteAt a0 z5))) (cond (decide ((byteAt a0 z5) < 48)) (some false) (cond (decide (57 < (byteAt a0 z5)))
     (some false)
     (k7 (w64 (z5 + 1))))) (k7 (w64 (z5 + 1)))))
     (k3 ())) big 0
def layout_sound (a0 : Element) : Option Bool :=
  cond (decide (a0.Kind < 0)) (some false) (cond (decide (4 < a0.Kind)) (some false) (bd (layout_name a0.Name) fun v2 =>
     cond (!v2)
     (some false)
     (cond (decide (a0.Kind = 0))
     (some (decide (a0.Kind = 0 ∧ a0.Name = a0.Name ∧ a0.Parent = (-1) ∧ a0.Side = 0 ∧ a0.Length = 0 ∧ a0.Grade = 0 ∧ a0.Curve = 0 ∧ a0.Power = 0)))
     (jp (fun (z3 : Bool) =>
     cond z3 (cond (decide (1 ≤ a0.Length)) (cond (decide (a0.Length ≤ 1000000)) (cond (decide ((-10000) ≤ a0.Grade)) (cond (decide (a0.Grade ≤ 10000)) (cond (decide (0 ≤ a0.Curve)) (cond (decide (a0.Curve ≤ 5000)) (cond (decide (0 ≤ a0.Side)) (some (decide (a0.Side ≤ 2))) (some false)) (some false)) (some false)) (some false)) (some false)) (some false)) (some false)) (some false)) fun k5 =>
     cond (decide (a0.Kind = 2))
     (cond (decide (1 ≤ a0.Power)) (k5 (decide (a0.Power ≤ 1000000000))) (k5 false))
     (k5 (decide (a0.Power = 0)))))))
def layout_Valid (a0 : (List Element)) : Option Int :=
  cond (decide (128 < (a0.length : Int)))
     (some 3)
     (cond (decide ((a0.length : Int) = 0))
     (some 13)
     (ck (decide ((0 : Int) ≤ (a0.length : Int) ∧ (a0.length : Int) ≤ 1000000000)) <|
     vl (List.replicate (Int.toNat (a0.length : Int)) 0) fun y3 =>
     jp (fun (z5 : ((List Int) × Int)) =>
     lp (fun (z9 : Int) k11 =>
     cond (decide (z9 < (a0.length : Int)))
     (ix a0 z9 fun x14 =>
     cond (decide (x14.Kind = 3)) (ix z5.1 z9 fun x17 =>
     cond (decide (x17 < 2)) (some 13) (cond (decide (x14.Kind ≠ 4)) (ix z5.1 z9 fun x19 =>
     cond (decide (x19 < 1))
     (some 13)
     (k11 (w64 (z9 + 1)))) (k11 (w64 (z9 + 1))))) (cond (decide (x14.Kind ≠ 4)) (ix z5.1 z9 fun x21 =>
     cond (decide (x21 < 1))
     (some 13)
     (k11 (w64 (z9 + 1)))) (k11 (w64 (z9 + 1)))))
     (cond (decide (32 < z5.2))
     (some 3)
     (some 0))) big 0) fun k7 =>
     lp (fun (z23 : ((List ByteArray) × (List LayoutPlace) × (List Int) × Int × Int)) k25 =>
     cond (decide (z23.2.2.2.2 < (a0.length : Int)))
     (ix a0 z23.2.2.2.2 fun x28 =>
     bd (layout_sound x28) fun v31 =>
     cond (!v31) (some 1) (cond (!((decide (x28.Kind = 0)) == (decide (z23.2.2.2.2 = 0))))
     (some 1)
     (cond (inS x28.Name z23.1)
     (some 8)
     (ck (!(inS x28.Name z23.1)) <|
     vl (z23.1 ++ [x28.Name]) fun y32 =>
     cond (decide (z23.2.2.2.2 = 0))
     (k25 (y32, z23.2.1, z23.2.2.1, z23.2.2.2.1, w64 (z23.2.2.2.2 + 1)))
     (cond (decide (x28.Parent < 0)) (some 12) (cond (decide (z23.2.2.2.2 ≤ x28.Parent))
     (some 12)
     (ix a0 x28.Parent fun x33 =>
     cond (decide (x33.Kind = 4)) (some 17) (cond (!((decide (x33.Kind = 3)) == (decide (x28.Side ≠ 0)))) (some 17) (cond (inS (LayoutPlace.mk x28.Parent x28.Side) z23.2.1)
     (some 17)
     (ck (!(inS (LayoutPlace.mk x28.Parent x28.Side) z23.2.1)) <|
     vl (z23.2.1 ++ [(LayoutPlace.mk x28.Parent x28.Side)]) fun y36 =>
     ix z23.2.2.1 x28.Parent fun x37 =>
     ix z23.2.2.1 x28.Parent fun x39 =>
     vl (z23.2.2.1.set (Int.toNat x28.Parent) (w64 (x37 + 1))) fun y41 =>
     cond (decide (x28.Kind = 4))
     (k25 (y32, y36, y41, w64 (z23.2.2.2.1 + 1), w64 (z23.2.2.2.2 + 1)))
     (k25 (y32, y36, y41, z23.2.2.2.1, w64 (z23.2.2.2.2 + 1)))))))))))))
     (k7 (z23.2.2.1, z23.2.2.2.1))) big (([] : List ByteArray), ([] : List LayoutPlace), y3, 0, 0)))
def tree_check (a0 : (List Element)) (a1 : (List Int)) : Option Int :=
  bd (layout_Valid a0) fun v1 =>
     cond (decide (v1 ≠ 0))
     (some v1)
     (lp (fun (z2 : Int) k4 =>
     cond (decide (z2 < (a1.length : Int)))
     (ix a1 z2 fun x7 =>
     cond (decide (x7 < 0)) (some 2) (cond (decide ((a0.length : Int) ≤ x7))
     (some 2)
     (k4 (w64 (z2 + 1)))))
     (some 0)) big 0)
def tree_beyond (a0 : (List Element)) (a1 : Int) : Option (List Int) :=
  ck (decide ((0 : Int) ≤ (a0.length : Int) ∧ (a0.length : Int) ≤ 1000000000)) <|
     vl (List.replicate (Int.toNat (a0.length : Int)) false) fun y1 =>
     lp (fun (z3 : ((List Bool) × (List Int) × Int)) k5 =>
     cond (decide (z3.2.2 < (a0.length : Int)))
     (ix a0 z3.2.2 fun x8 =>
     jp (fun (z11 : (List Bool)) =>
     ix z11 z3.2.2 fun x15 =>
     cond x15 (cond (decide (x8.Kind = 4))
     (ck (decide (z3.2.1.length + ([z3.2.2] : List Int).length ≤ 1000000000)) <|
     vl (z3.2.1 ++ ([z3.2.2] : List Int)) fun y18 =>
     k5 (z11, y18, w64 (z3.2.2 + 1)))
     (k5 (z11, z3.2.1, w64 (z3.2.2 + 1)))) (k5 (z11, z3.2.1, w64 (z3.2.2 + 1)))) fun k13 =>
     cond (decide (z3.2.2 = a1)) (ix z3.1 z3.2.2 fun x20 =>
     vl (z3.1.set (Int.toNat z3.2.2) true) fun y22 =>
     k13 y22) (cond (decide (0 < z3.2.2)) (ix z3.1 x8.Parent fun x23 =>
     ix z3.1 z3.2.2 fun x25 =>
     vl (z3.1.set (Int.toNat z3.2.2) x23) fun y27 =>
     k13 y27) (ix z3.1 z3.2.2 fun x28 =>
     vl (z3.1.set (Int.toNat z3.2.2) false) fun y30 =>
     k13 y30)))
     (some z3.2.1)) big (y1, ([] : List Int), 0)
def tree_Tracks (a0 : (List Element)) : Option ((List Int) × Int) :=
  bd (tree_check a0 ([] : List Int)) fun v1 =>
     cond (decide (v1 ≠ 0))
     (some (([] : List Int), v1))
     (bd (tree_beyond a0 0) fun v2 =>
     some (v2, 0))
def r06_Name (a0 : ByteArray) : Option Bool :=
  jp (fun (z1 : Unit) =>
     cond (decide (1 ≤ (a0.size : Int))) (some (decide ((a0.size : Int) ≤ 12))) (some false)) fun k3 =>
     lp (fun (z5 : Int) k7 =>
     cond (decide (z5 < (a0.size : Int)))
     (ck (decide ((0 : Int) ≤ z5 ∧ z5 < (a0.size : Int))) <|
     cond (decide (97 ≤ (byteAt a0 z5))) (ck (decide ((0 : Int) ≤ z5 ∧ z5 < (a0.size : Int))) <|
     cond (decide ((byteAt a0 z5) ≤ 122)) (cond (!true)
     (some false)
     (k7 (w64 (z5 + 1)))) (ck (decide ((0 : Int) ≤ z5 ∧ z5 < (a0.size : Int))) <|
     cond (decide (48 ≤ (byteAt a0 z5))) (ck (decide ((0 : Int) ≤ z5 ∧ z5 < (a0.size : Int))) <|
     cond (!(decide ((byteAt a0 z5) ≤ 57)))
     (some false)
     (k7 (w64 (z5 + 1)))) (cond (!false)
     (some false)
     (k7 (w64 (z5 + 1)))))) (ck (decide ((0 : Int) ≤ z5 ∧ z5 < (a0.size : Int))) <|
     cond (decide (48 ≤ (byteAt a0 z5))) (ck (decide ((0 : Int) ≤ z5 ∧ z5 < (a0.size : Int))) <|
     cond (!(decide ((byteAt a0 z5) ≤ 57)))
     (some false)
     (k7 (w64 (z5 + 1)))) (cond (!false)
     (some false)
     (k7 (w64 (z5 + 1))))))
     (k3 ())) big 0
def r09_sound (a0 : Element) : Option Bool :=
  bd (r06_Name a0.Name) fun v2 =>
     cond (!v2)
     (some false)
     (cond (decide (a0.Kind = 0))
     (cond (decide (a0.Parent = (-1))) (cond (decide (a0.Side = 0)) (cond (decide (a0.Length = 0)) (cond (decide (a0.Grade = 0)) (cond (decide (a0.Curve = 0)) (some (decide (a0.Power = 0))) (some false)) (some false)) (some false)) (some false)) (some false))
     (cond (decide (a0.Kind < 1)) (some false) (cond (decide (4 < a0.Kind)) (some false) (cond (decide (a0.Length < 1)) (some false) (cond (decide (1000000 < a0.Length)) (some false) (cond (decide (a0.Grade < (-10000))) (some false) (cond (decide (10000 < a0.Grade)) (some false) (cond (decide (a0.Curve < 0)) (some false) (cond (decide (5000 < a0.Curve)) (some false) (cond (decide (a0.Side < 0)) (some false) (cond (decide (2 < a0.Side))
     (some false)
     (cond (decide (a0.Kind = 2))
     (cond (decide (1 ≤ a0.Power)) (some (decide (a0.Power ≤ 1000000000))) (some false))
     (some (decide (a0.Power = 0)))))))))))))))
def r09_fits (a0 : (List Element)) (a1 : Int) : Option Int :=
  ix a0 a1 fun x1 =>
     bd (r09_sound x1) fun v4 =>
     cond (!v4) (some 1) (cond (!((decide (x1.Kind = 0)) == (decide (a1 = 0))))
     (some 1)
     (jp (fun (z5 : Unit) =>
     cond (decide (a1 = 0))
     (some 0)
     (cond (decide (x1.Parent < 0)) (some 12) (cond (decide (a1 ≤ x1.Parent))
     (some 12)
     (ix a0 x1.Parent fun x9 =>
     cond (decide (x9.Kind = 4)) (some 17) (cond ((decide (x9.Kind = 3)) == (decide (x1.Side = 0)))
     (some 17)
     (lp (fun (z11 : Int) k13 =>
     cond (decide (z11 < a1))
     (ix a0 z11 fun x16 =>
     cond (decide (x16.Parent = x1.Parent)) (ix a0 z11 fun x18 =>
     cond (decide (x18.Side = x1.Side))
     (some 17)
     (k13 (w64 (z11 + 1)))) (k13 (w64 (z11 + 1))))
     (some 0)) big 1)))))) fun k7 =>
     lp (fun (z20 : Int) k22 =>
     cond (decide (z20 < a1))
     (ix a0 z20 fun x25 =>
     cond (decide (x25.Name = x1.Name))
     (some 8)
     (k22 (w64 (z20 + 1))))
     (k7 ())) big 0))
def r09_Valid (a0 : (List Element)) : Option Int :=
  cond (decide (128 < (a0.length : Int)))
     (some 3)
     (cond (decide ((a0.length : Int) = 0))
     (some 13)
     (jp (fun (z1 : Int) =>
     lp (fun (z5 : Int) k7 =>
     cond (decide (z5 < (a0.length : Int)))
     (jp (fun (z10 : Int) =>
     ix a0 z5 fun x14 =>
     cond (decide (x14.Kind = 3))
     (cond (decide (z10 < 2))
     (some 13)
     (k7 (w64 (z5 + 1))))
     (cond (decide (x14.Kind = 4))
     (cond (decide (z10 < 0))
     (some 13)
     (k7 (w64 (z5 + 1))))
     (cond (decide (z10 < 1))
     (some 13)
     (k7 (w64 (z5 + 1)))))) fun k12 =>
     lp (fun (z16 : (Int × Int)) k18 =>
     cond (decide (z16.2 < (a0.length : Int)))
     (ix a0 z16.2 fun x21 =>
     cond (decide (x21.Parent = z5))
     (k18 (w64 (z16.1 + 1), w64 (z16.2 + 1)))
     (k18 (z16.1, w64 (z16.2 + 1))))
     (k12 z16.1)) big (0, 1))
     (cond (decide (32 < z1))
     (some 3)
     (some 0))) big 0) fun k3 =>
     lp (fun (z23 : (Int × Int)) k25 =>
     cond (decide (z23.2 < (a0.length : Int)))
     (bd (r09_fits a0 z23.2) fun v28 =>
     cond (decide (v28 ≠ 0))
     (some v28)
     (ix a0 z23.2 fun x29 =>
     cond (decide (x29.Kind = 4))
     (k25 (w64 (z23.1 + 1), w64 (z23.2 + 1)))
     (k25 (z23.1, w64 (z23.2 + 1)))))
     (k3 z23.1)) big (0, 0)))
def r10_check (a0 : (List Element)) (a1 : Int) : Option Int :=
  bd (r09_Valid a0) fun v1 =>
     cond (decide (v1 ≠ 0))
     (some v1)
     (cond (decide (a1 < 0)) (some 2) (cond (decide ((a0.length : Int) ≤ a1))
     (some 2)
     (some 0)))
def r10_Beyond (a0 : (List Element)) (a1 : Int) : Option ((List Int) × Int) :=
  bd (r10_check a0 a1) fun v1 =>
     cond (decide (v1 ≠ 0))
     (some (([] : List Int), v1))
     (lp (fun (z2 : ((List Int) × Int)) k4 =>
     cond (decide (z2.2 < (a0.length : Int)))
     (ix a0 z2.2 fun x7 =>
     cond (decide (x7.Kind ≠ 4))
     (k4 (z2.1, w64 (z2.2 + 1)))
     (lp (fun (z9 : ((List Int) × Int)) k11 =>
     cond (decide (0 ≤ z9.2))
     (cond (decide (z9.2 = a1))
     (ck (decide (z9.1.length + ([z2.2] : List Int).length ≤ 1000000000)) <|
     vl (z9.1 ++ ([z2.2] : List Int)) fun y15 =>
     ix a0 z9.2 fun x17 =>
     k11 (y15, x17.Parent))
     (ix a0 z9.2 fun x19 =>
     k11 (z9.1, x19.Parent)))
     (k4 (z9.1, w64 (z2.2 + 1)))) big (z2.1, z2.2)))
     (some (z2.1, 0))) big (([] : List Int), 0))
def r10_Tracks (a0 : (List Element)) : Option ((List Int) × Int) :=
  bd (r10_Beyond a0 0) fun v1 =>
     some (v1.1, v1.2)
def gen_Ints (a0 : (List Int)) (a1 : (List Int)) : Option Bool :=
  cond (decide ((a0.length : Int) ≠ (a1.length : Int)))
     (some false)
     (lp (fun (z1 : Int) k3 =>
     cond (decide (z1 < (a0.length : Int)))
     (ix a0 z1 fun x6 =>
     ix a1 z1 fun x8 =>
     cond (decide (x6 ≠ x8))
     (some false)
     (k3 (w64 (z1 + 1))))
     (some true)) big 0)
def tree_path_n : Nat → (List Element) → Int → Option (List Int)
  | 0, _, _ => none
  | n + 1, a0, a1 =>
  cond (decide (a1 = 0))
     (some ([0] : List Int))
     (ix a0 a1 fun x2 =>
     bd (tree_path_n n a0 x2.Parent) fun v4 =>
     ck (decide (v4.length + ([a1] : List Int).length ≤ 1000000000)) <|
     vl (v4 ++ ([a1] : List Int)) fun y7 =>
     some y7)
def tree_path (a0 : (List Element)) (a1 : Int) : Option (List Int) := tree_path_n big a0 a1
def tree_Path (a0 : (List Element)) (a1 : Int) : Option ((List Int) × Int) :=
  bd (tree_check a0 ([a1] : List Int)) fun v2 =>
     cond (decide (v2 ≠ 0))
     (some (([] : List Int), v2))
     (bd (tree_path a0 a1) fun v3 =>
     some (v3, 0))
def r10_Way_n : Nat → (List Element) → Int → Option (List Int)
  | 0, _, _ => none
  | n + 1, a0, a1 =>
  cond (decide (a1 < 0))
     (some ([] : List Int))
     (ix a0 a1 fun x1 =>
     bd (r10_Way_n n a0 x1.Parent) fun v3 =>
     ck (decide (v3.length + ([a1] : List Int).length ≤ 1000000000)) <|
     vl (v3 ++ ([a1] : List Int)) fun y6 =>
     some y6)
def r10_Way (a0 : (List Element)) (a1 : Int) : Option (List Int) := r10_Way_n big a0 a1
def r10_Path (a0 : (List Element)) (a1 : Int) : Option ((List Int) × Int) :=
  bd (r10_check a0 a1) fun v1 =>
     cond (decide (v1 ≠ 0))
     (some (([] : List Int), v1))
     (bd (r10_Way a0 a1) fun v2 =>
     some (v2, 0))
def tree_Common (a0 : (List Element)) (a1 : Int) (a2 : Int) : Option (Int × Int) :=
  bd (tree_check a0 ([a1, a2] : List Int)) fun v2 =>
     cond (decide (v2 ≠ 0))
     (some (0, v2))
     (bd (tree_path a0 a1) fun v3 =>
     bd (tree_path a0 a2) fun v5 =>
     jp (fun (z7 : Int) =>
     ix v3 (w64 (z7 - 1)) fun x11 =>
     some (x11, 0)) fun k9 =>
     lp (fun (z13 : Int) k15 =>
     cond (decide (z13 < (v3.length : Int))) (cond (decide (z13 < (v5.length : Int))) (ix v3 z13 fun x18 =>
     ix v5 z13 fun x20 =>
     cond (decide (x18 = x20))
     (k15 (w64 (z13 + 1)))
     (k9 z13)) (k9 z13)) (k9 z13)) big 1)
def r10_Common (a0 : (List Element)) (a1 : Int) (a2 : Int) : Option (Int × Int) :=
  bd (r10_check a0 a1) fun v1 =>
     cond (decide (v1 ≠ 0))
     (some (0, v1))
     (bd (r10_check a0 a2) fun v2 =>
     cond (decide (v2 ≠ 0))
     (some (0, v2))
     (bd (r10_Way a0 a1) fun v3 =>
     bd (r10_Way a0 a2) fun v5 =>
     jp (fun (z7 : Int) =>
     ix v3 (w64 (z7 - 1)) fun x11 =>
     some (x11, 0)) fun k9 =>
     lp (fun (z13 : Int) k15 =>
     cond (decide (z13 < (v3.length : Int))) (cond (decide (z13 < (v5.length : Int))) (ix v3 z13 fun x18 =>
     ix v5 z13 fun x20 =>
     cond (decide (x18 = x20))
     (k15 (w64 (z13 + 1)))
     (k9 z13)) (k9 z13)) (k9 z13)) big 0))
def tree_Beyond (a0 : (List Element)) (a1 : Int) : Option ((List Int) × Int) :=
  bd (tree_check a0 ([a1] : List Int)) fun v2 =>
     cond (decide (v2 ≠ 0))
     (some (([] : List Int), v2))
     (bd (tree_beyond a0 a1) fun v3 =>
     some (v3, 0))
def tree_Settings (a0 : (List Element)) (a1 : Int) : Option ((List Arr2Int) × Int) :=
  bd (tree_check a0 ([a1] : List Int)) fun v2 =>
     cond (decide (v2 ≠ 0))
     (some (([] : List Arr2Int), v2))
     (bd (tree_path a0 a1) fun v3 =>
     ck (decide ((0 : Int) ≤ 1 ∧ 1 ≤ (v3.length : Int))) <|
     vl ((v3.drop (Int.toNat 1)).length : Int) fun x6 =>
     lp (fun (z7 : ((List Arr2Int) × Int)) k9 =>
     cond (decide (z7.2 < x6))
     (ix (v3.drop (Int.toNat 1)) z7.2 fun x12 =>
     ix a0 x12 fun x14 =>
     ix a0 x14.Parent fun x17 =>
     cond (decide (x17.Kind = 3))
     (ck (decide (z7.1.length + ([(Arr2Int.mk x14.Parent x14.Side)] : List Arr2Int).length ≤ 1000000000)) <|
     vl (z7.1 ++ ([(Arr2Int.mk x14.Parent x14.Side)] : List Arr2Int)) fun y20 =>
     k9 (y20, w64 (z7.2 + 1)))
     (k9 (z7.1, w64 (z7.2 + 1))))
     (some (z7.1, 0))) big (([] : List Arr2Int), 0))
def r10_Settings (a0 : (List Element)) (a1 : Int) : Option ((List Arr2Int) × Int) :=
  bd (r10_check a0 a1) fun v1 =>
     cond (decide (v1 ≠ 0))
     (some (([] : List Arr2Int), v1))
     (bd (r10_Way a0 a1) fun v2 =>
     lp (fun (z4 : ((List Arr2Int) × Int)) k6 =>
     cond (decide ((w64 (z4.2 + 1)) < (v2.length : Int)))
     (ix v2 z4.2 fun x9 =>
     ix a0 x9 fun x11 =>
     cond (decide (x11.Kind = 3))
     (ix v2 z4.2 fun x13 =>
     ix v2 (w64 (z4.2 + 1)) fun x15 =>
     ix a0 x15 fun x17 =>
     ck (decide (z4.1.length + ([(Arr2Int.mk x13 x17.Side)] : List Arr2Int).length ≤ 1000000000)) <|
     vl (z4.1 ++ ([(Arr2Int.mk x13 x17.Side)] : List Arr2Int)) fun y20 =>
     k6 (y20, w64 (z4.2 + 1)))
     (k6 (z4.1, w64 (z4.2 + 1))))
     (some (z4.1, 0))) big (([] : List Arr2Int), 0))
def gen_Pairs (a0 : (List Arr2Int)) (a1 : (List Arr2Int)) : Option Bool :=
  cond (decide ((a0.length : Int) ≠ (a1.length : Int)))
     (some false)
     (lp (fun (z1 : Int) k3 =>
     cond (decide (z1 < (a0.length : Int)))
     (ix a0 z1 fun x6 =>
     ix a1 z1 fun x8 =>
     cond (decide (¬ (x6.a0 = x8.a0 ∧ x6.a1 = x8.a1)))
     (some false)
     (k3 (w64 (z1 + 1))))
     (some true)) big 0)
def law10_exact (a0 : (List Element)) (a1 : Int) (a2 : Int) : Option Bool :=
  bd (tree_Tracks a0) fun v1 =>
     bd (r10_Tracks a0) fun v3 =>
     bd (gen_Ints v1.1 v3.1) fun v5 =>
     cond (!v5) (some false) (cond (decide (v1.2 ≠ v3.2))
     (some false)
     (bd (tree_Path a0 a1) fun v6 =>
     bd (r10_Path a0 a1) fun v8 =>
     bd (tree_Common a0 a1 a2) fun v10 =>
     bd (r10_Common a0 a1 a2) fun v11 =>
     bd (gen_Ints v6.1 v8.1) fun v12 =>
     cond (!v12) (some false) (cond (decide (v6.2 ≠ v8.2)) (some false) (cond (decide (v10.1 ≠ v11.1)) (some false) (cond (decide (v10.2 ≠ v11.2))
     (some false)
     (bd (tree_Beyond a0 a1) fun v13 =>
     bd (r10_Beyond a0 a1) fun v15 =>
     bd (tree_Settings a0 a1) fun v17 =>
     bd (r10_Settings a0 a1) fun v19 =>
     bd (gen_Ints v13.1 v15.1) fun v21 =>
     cond v21 (cond (decide (v13.2 = v15.2)) (bd (gen_Pairs v17.1 v19.1) fun v22 =>
     cond v22 (some (decide (v17.2 = v19.2))) (some false)) (some false)) (some false)))))))
def law10_example  : Option (List Element) :=
  some ([(Element.mk 0 (⟨#[99]⟩) (-1) 0 0 0 0 0), (Element.mk 3 (⟨#[119]⟩) 0 0 9000 0 0 0), (Element.mk 4 (⟨#[97]⟩) 1 1 5 0 0 0), (Element.mk 4 (⟨#[98]⟩) 1 2 5 0 0 0)] : List Element)
def law10_sane  : Option Bool :=
  bd (law10_example) fun v1 =>
     bd (tree_Path v1 3) fun v3 =>
     bd (tree_Common v1 2 3) fun v5 =>
     bd (tree_Settings v1 3) fun v6 =>
     bd (tree_Beyond v1 1) fun v8 =>
     cond (decide (v3.2 = 0)) (bd (gen_Ints v3.1 ([0, 1, 3] : List Int)) fun v11 =>
     cond v11 (cond (decide (v5.2 = 0)) (cond (decide (v5.1 = 1)) (cond (decide (v6.2 = 0)) (bd (gen_Pairs v6.1 ([(Arr2Int.mk 1 2)] : List Arr2Int)) fun v13 =>
     cond v13 (cond (decide (v8.2 = 0)) (bd (gen_Ints v8.1 ([2, 3] : List Int)) fun v15 =>
     some v15) (some false)) (some false)) (some false)) (some false)) (some false)) (some false)) (some false)
def law10_TreeExact (a0 : (List Int)) (a1 : (List Element)) (a2 : Int) (a3 : Int) : Option Bool :=
  bd (gen_New a0) fun v1 =>
     jp (fun (z3 : Unit) =>
     cond (decide (40 < (a1.length : Int))) (some true) (bd (law10_exact a1 a2 a3) fun v7 =>
     cond v7 (bd (law10_sane) fun v8 =>
     some v8) (some false))) fun k5 =>
     lp (fun (z9 : (Int × Int)) k11 =>
     cond (decide (z9.2 < 4))
     (bd (gen_Maker_Layout (HumpgenMaker.mk a0 z9.1) 6) fun v14 =>
     jp (fun (z16 : (Int × (List Element))) =>
     bd (gen_Maker_From (HumpgenMaker.mk a0 z16.1) (-1) (z16.2.length : Int)) fun v20 =>
     bd (gen_Maker_From (HumpgenMaker.mk a0 v20.2) (-1) (z16.2.length : Int)) fun v22 =>
     bd (law10_exact z16.2 v20.1 v22.1) fun v24 =>
     cond (!v24) (some false) (bd (law10_exact z16.2 a2 a3) fun v25 =>
     cond (!v25)
     (some false)
     (k11 (v22.2, w64 (z9.2 + 1))))) fun k18 =>
     cond (decide (z9.2 = 3))
     (bd (gen_Maker_SpoilLayout (HumpgenMaker.mk a0 v14.2) v14.1) fun v26 =>
     k18 (v26.2, v26.1))
     (k18 (v14.2, v14.1)))
     (k5 ())) big (v1.fn, 0)
def law10_TreePaths (a0 : (List Int)) : Option Bool :=
  bd (gen_New a0) fun v1 =>
     bd (gen_Maker_Layout (HumpgenMaker.mk a0 v1.fn) 8) fun v3 =>
     bd (gen_Maker_Next (HumpgenMaker.mk a0 v3.2) (v3.1.length : Int)) fun v5 =>
     bd (tree_Path v3.1 v5.1) fun v7 =>
     cond (decide (v7.2 ≠ 0)) (some false) (cond (decide ((v7.1.length : Int) = 0)) (some false) (ix v7.1 0 fun x9 =>
     cond (decide (x9 ≠ 0)) (some false) (ix v7.1 (w64 ((v7.1.length : Int) - 1)) fun x11 =>
     cond (decide (x11 ≠ v5.1))
     (some false)
     (jp (fun (z13 : Unit) =>
     bd (gen_Maker_Next (HumpgenMaker.mk a0 v5.2) (v7.1.length : Int)) fun v17 =>
     ix v7.1 v17.1 fun x19 =>
     bd (tree_Path v3.1 x19) fun v21 =>
     cond (decide (v21.2 = 0)) (ck (decide ((0 : Int) ≤ w64 (v17.1 + 1) ∧ w64 (v17.1 + 1) ≤ (v7.1.length : Int))) <|
     bd (gen_Ints v21.1 (v7.1.take (Int.toNat (w64 (v17.1 + 1))))) fun v24 =>
     cond v24 (bd (law10_sane) fun v25 =>
     some v25) (some false)) (some false)) fun k15 =>
     lp (fun (z26 : Int) k28 =>
     cond (decide (z26 < (v7.1.length : Int)))
     (ix v7.1 z26 fun x31 =>
     ix v7.1 (w64 (z26 - 1)) fun x33 =>
     cond (decide (x31 ≤ x33)) (some false) (ix v7.1 z26 fun x35 =>
     cond (decide ((v3.1.length : Int) ≤ x35)) (some false) (ix v7.1 z26 fun x37 =>
     ix v3.1 x37 fun x39 =>
     ix v7.1 (w64 (z26 - 1)) fun x41 =>
     cond (decide (x39.Parent ≠ x41))
     (some false)
     (k28 (w64 (z26 + 1))))))
     (k15 ())) big 1))))
def law10_TreeCommon (a0 : (List Int)) : Option Bool :=
  bd (gen_New a0) fun v1 =>
     bd (gen_Maker_Layout (HumpgenMaker.mk a0 v1.fn) 8) fun v3 =>
     bd (tree_Tracks v3.1) fun v5 =>
     cond (decide (v5.2 ≠ 0)) (some false) (cond (decide ((v5.1.length : Int) = 0))
     (some false)
     (bd (gen_Maker_Next (HumpgenMaker.mk a0 v3.2) (v5.1.length : Int)) fun v7 =>
     ix v5.1 v7.1 fun x9 =>
     bd (gen_Maker_Next (HumpgenMaker.mk a0 v7.2) (v5.1.length : Int)) fun v11 =>
     ix v5.1 v11.1 fun x13 =>
     bd (tree_Common v3.1 x9 x13) fun v15 =>
     bd (tree_Common v3.1 x13 x9) fun v16 =>
     cond (decide (v15.2 ≠ 0)) (some false) (cond (decide (v16.2 ≠ 0)) (some false) (cond (decide (v15.1 ≠ v16.1)) (some false) (cond (decide (v15.1 < 0)) (some false) (cond (decide ((v3.1.length : Int) ≤ v15.1))
     (some false)
     (cond (decide (x9 = x13))
     (cond (decide (v15.1 = x9)) (bd (law10_sane) fun v17 =>
     some v17) (some false))
     (bd (tree_Settings v3.1 x9) fun v18 =>
     bd (tree_Settings v3.1 x13) fun v20 =>
     cond (decide (v18.2 ≠ 0)) (some false) (cond (decide (v20.2 ≠ 0)) (some false) (ix v3.1 v15.1 fun x22 =>
     cond (decide (x22.Kind ≠ 3))
     (some false)
     (lp (fun (z24 : Int) k26 =>
     cond (decide (z24 < (v18.1.length : Int))) (cond (decide (z24 < (v20.1.length : Int)))
     (ix v18.1 z24 fun x29 =>
     ix v20.1 z24 fun x31 =>
     cond (decide (¬ (x29.a0 = x31.a0 ∧ x29.a1 = x31.a1)))
     (ix v18.1 z24 fun x33 =>
     cond (decide (x33.a0 = v15.1)) (ix v20.1 z24 fun x35 =>
     cond (decide (x35.a0 = v15.1)) (ix v18.1 z24 fun x37 =>
     ix v20.1 z24 fun x39 =>
     cond (decide (x37.a1 ≠ x39.a1)) (bd (law10_sane) fun v41 =>
     some v41) (some false)) (some false)) (some false))
     (k26 (w64 (z24 + 1))))
     (some false)) (some false)) big 0)))))))))))
def law10_TreeBeyond (a0 : (List Int)) : Option Bool :=
  bd (gen_New a0) fun v1 =>
     bd (gen_Maker_Layout (HumpgenMaker.mk a0 v1.fn) 8) fun v3 =>
     bd (tree_Tracks v3.1) fun v5 =>
     bd (tree_Beyond v3.1 0) fun v7 =>
     cond (decide (v5.2 ≠ 0)) (some false) (cond (decide (v7.2 ≠ 0)) (some false) (bd (gen_Ints v5.1 v7.1) fun v9 =>
     cond (!v9)
     (some false)
     (lp (fun (z10 : Int) k12 =>
     cond (decide (z10 < (v3.1.length : Int)))
     (bd (tree_Beyond v3.1 z10) fun v15 =>
     cond (decide (v15.2 ≠ 0)) (some false) (cond (decide ((v15.1.length : Int) = 0))
     (some false)
     (ck (decide ((0 : Int) ≤ (v3.1.length : Int) ∧ (v3.1.length : Int) ≤ 1000000000)) <|
     vl (List.replicate (Int.toNat (v3.1.length : Int)) false) fun y17 =>
     jp (fun (z19 : (Int × (List Bool))) =>
     ix v3.1 z10 fun x23 =>
     cond (decide (x23.Kind = 4))
     (bd (gen_Ints v15.1 ([z10] : List Int)) fun v26 =>
     cond (!v26)
     (some false)
     (k12 (w64 (z10 + 1))))
     (cond (decide (z19.1 ≠ (v15.1.length : Int)))
     (some false)
     (lp (fun (z27 : Int) k29 =>
     cond (decide (z27 < (v15.1.length : Int)))
     (ix v15.1 z27 fun x32 =>
     cond (decide (x32 < 0)) (some false) (cond (decide ((v3.1.length : Int) ≤ x32)) (some false) (ix z19.2 x32 fun x34 =>
     cond (!x34)
     (some false)
     (k29 (w64 (z27 + 1))))))
     (k12 (w64 (z10 + 1)))) big 0))) fun k21 =>
     lp (fun (z36 : (Int × (List Bool) × Int)) k38 =>
     cond (decide (z36.2.2 < (v3.1.length : Int)))
     (ix v3.1 z36.2.2 fun x41 =>
     cond (decide (x41.Parent ≠ z10))
     (k38 (z36.1, z36.2.1, w64 (z36.2.2 + 1)))
     (bd (tree_Beyond v3.1 z36.2.2) fun v43 =>
     cond (decide (v43.2 ≠ 0))
     (some false)
     (lp (fun (z45 : (Int × (List Bool) × Int)) k47 =>
     cond (decide (z45.2.2 < (v43.1.length : Int)))
     (ix v43.1 z45.2.2 fun x50 =>
     cond (decide (x50 < 0)) (some false) (cond (decide ((v3.1.length : Int) ≤ x50)) (some false) (ix z45.2.1 x50 fun x52 =>
     cond x52
     (some false)
     (ix z45.2.1 x50 fun x54 =>
     vl (z45.2.1.set (Int.toNat x50) true) fun y56 =>
     k47 (w64 (z45.1 + 1), y56, w64 (z45.2.2 + 1))))))
     (k38 (z45.1, z45.2.1, w64 (z36.2.2 + 1)))) big (z36.1, z36.2.1, 0))))
     (k21 (z36.1, z36.2.1))) big (0, y17, 0))))
     (bd (law10_sane) fun v57 =>
     some v57)) big 0)))
def law10_TreeLeads (a0 : (List Int)) : Option Bool :=
  bd (gen_New a0) fun v1 =>
     bd (gen_Maker_Layout (HumpgenMaker.mk a0 v1.fn) 9) fun v3 =>
     bd (tree_Tracks v3.1) fun v5 =>
     cond (decide (v5.2 ≠ 0)) (some false) (cond (decide ((v5.1.length : Int) = 0))
     (some false)
     (bd (gen_Maker_Next (HumpgenMaker.mk a0 v3.2) (v5.1.length : Int)) fun v7 =>
     ix v5.1 v7.1 fun x9 =>
     bd (tree_Settings v3.1 x9) fun v11 =>
     cond (decide (v11.2 ≠ 0))
     (some false)
     (jp (fun (z13 : (Int × Int)) =>
     cond (decide (z13.1 = x9)) (cond (decide (z13.2 = (v11.1.length : Int))) (bd (law10_sane) fun v17 =>
     some v17) (some false)) (some false)) fun k15 =>
     lp (fun (z18 : (Int × Int)) k20 =>
     ix v3.1 z18.1 fun x23 =>
     cond (decide (x23.Kind ≠ 4))
     (jp (fun (z25 : (Int × Int)) =>
     lp (fun (z29 : (Int × Int)) k31 =>
     cond (decide (z29.2 < (v3.1.length : Int)))
     (ix v3.1 z29.2 fun x34 =>
     cond (decide (x34.Parent = z18.1)) (ix v3.1 z29.2 fun x36 =>
     cond (decide (x36.Side = z25.2))
     (k31 (z29.2, w64 (z29.2 + 1)))
     (k31 (z29.1, w64 (z29.2 + 1)))) (k31 (z29.1, w64 (z29.2 + 1))))
     (cond (decide (z29.1 < 0))
     (some false)
     (k20 (z29.1, z25.1)))) big ((-1), 1)) fun k27 =>
     ix v3.1 z18.1 fun x38 =>
     cond (decide (x38.Kind = 3))
     (cond (decide ((v11.1.length : Int) ≤ z18.2)) (some false) (ix v11.1 z18.2 fun x40 =>
     cond (decide (x40.a0 ≠ z18.1))
     (some false)
     (ix v11.1 z18.2 fun x42 =>
     k27 (w64 (z18.2 + 1), x42.a1))))
     (k27 (z18.2, 0)))
     (k15 (z18.1, z18.2))) big (0, 0))))
end Go.Hy
