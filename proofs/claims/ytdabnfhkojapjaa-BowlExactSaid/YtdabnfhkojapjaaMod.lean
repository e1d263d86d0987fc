/-
  Plain models of the program's functions. Printed by a program out of the translation.
-/
import Derived.Test.YtdabnfhkojapjaaData
namespace Go.Hy
set_option linter.unusedVariables false
set_option linter.unusedSimpArgs false
set_option maxHeartbeats 2000000
set_option maxRecDepth 100000
def gen_New (a0 : (List Int)) : Option HumpgenMaker :=
  some (HumpgenMaker.mk a0 0)
def gen_Maker_Next (a0 : HumpgenMaker) (a1 : Int) : Option (Int × Int) :=
  jp (fun (z1 : Int) =>
     ck (decide (a1 ≠ 0)) <|
     cond (decide ((Int.tmod z1 a1) < 0))
     (some (w64 ((Int.tmod z1 a1) + a1), w64 (a0.fn + 1)))
     (some (Int.tmod z1 a1, w64 (a0.fn + 1)))) fun k3 =>
     cond (decide (0 < (a0.fl.length : Int)))
     (ck (decide ((a0.fl.length : Int) ≠ 0)) <|
     vl (Int.tmod a0.fn (a0.fl.length : Int)) fun x7 =>
     ix a0.fl x7 fun x8 =>
     ck (decide ((a0.fl.length : Int) ≠ 0)) <|
     vl (w64 (Int.tdiv a0.fn (a0.fl.length : Int))) fun x11 =>
     k3 (w64 (x8 + (w64 (x11 * 7919)))))
     (k3 0)
def gen_Maker_Pick (a0 : HumpgenMaker) (a1 : (List Int)) : Option (Int × Int) :=
  bd (gen_Maker_Next a0 (a1.length : Int)) fun v1 =>
     ix a1 v1.1 fun x3 =>
     some (x3, v1.2)
def law32_stand (a0 : HumpgenMaker) : Option (Stand × Int) :=
  bd (gen_Maker_Pick a0 ([0, 300, 1000, 5000, 100000] : List Int)) fun v3 =>
     bd (gen_Maker_Next (HumpgenMaker.mk a0.fl v3.2) 8) fun v6 =>
     lp (fun (z8 : ((List Int) × (List Int) × Int × Int)) k10 =>
     cond (decide (0 < z8.2.2.1))
     (bd (gen_Maker_Next (HumpgenMaker.mk a0.fl z8.2.2.2) 3) fun v153 =>
     vl (w64 ((w64 (3 * (z8.1.length : Int))) + v153.1)) fun x173 =>
     ck (decide (z8.1.length + ([x173] : List Int).length ≤ 1000000000)) <|
     vl (z8.1 ++ ([x173] : List Int)) fun y213 =>
     bd (gen_Maker_Pick (HumpgenMaker.mk a0.fl v153.2) ([80, 142, 262, 400] : List Int)) fun v313 =>
     ck (decide (z8.2.1.length + ([v313.1] : List Int).length ≤ 1000000000)) <|
     vl (z8.2.1 ++ ([v313.1] : List Int)) fun y353 =>
     k10 (y213, y353, w64 (z8.2.2.1 - 1), v313.2))
     (some ((Stand.mk v3.1 z8.1 z8.2.1), z8.2.2.2))) big (([] : List Int), ([] : List Int), v6.1, v6.2)
def law32_more (a0 : HumpgenMaker) : Option ((List Int) × (List Int) × Int) :=
  bd (gen_Maker_Next a0 6) fun v1 =>
     lp (fun (z3 : ((List Int) × (List Int) × Int × Int)) k5 =>
     cond (decide (0 < z3.2.2.1))
     (vl (w64 (100 + (w64 (3 * (z3.1.length : Int))))) fun x8 =>
     bd (gen_Maker_Next (HumpgenMaker.mk a0.fl z3.2.2.2) 3) fun v9 =>
     ck (decide (z3.1.length + ([w64 (x8 + v9.1)] : List Int).length ≤ 1000000000)) <|
     vl (z3.1 ++ ([w64 (x8 + v9.1)] : List Int)) fun y12 =>
     bd (gen_Maker_Pick (HumpgenMaker.mk a0.fl v9.2) ([1, 80, 142, 262, 400] : List Int)) fun v15 =>
     ck (decide (z3.2.1.length + ([v15.1] : List Int).length ≤ 1000000000)) <|
     vl (z3.2.1 ++ ([v15.1] : List Int)) fun y18 =>
     k5 (y12, y18, w64 (z3.2.2.1 - 1), v15.2))
     (some (z3.1, z3.2.1, z3.2.2.2))) big (([] : List Int), ([] : List Int), v1.1, v1.2)
def gen_Maker_Pieces (a0 : HumpgenMaker) (a1 : Int) : Option ((List Piece) × Int) :=
  bd (gen_Maker_Next a0 a1) fun v1 =>
     lp (fun (z3 : ((List Piece) × Int × Int)) k5 =>
     cond (decide (0 < z3.2.1))
     (bd (gen_Maker_Pick (HumpgenMaker.mk a0.fl z3.2.2) ([1, 1000, 5000, 9000, 30000, 100000] : List Int)) fun v9 =>
     bd (gen_Maker_Pick (HumpgenMaker.mk a0.fl v9.2) ([0, 100, (-150), 400, 1000, 3500, 5000] : List Int)) fun v12 =>
     bd (gen_Maker_Pick (HumpgenMaker.mk a0.fl v12.2) ([0, 0, 20, 150] : List Int)) fun v15 =>
     bd (gen_Maker_Next (HumpgenMaker.mk a0.fl v15.2) 4) fun v18 =>
     cond (decide (v18.1 = 0))
     (bd (gen_Maker_Pick (HumpgenMaker.mk a0.fl v18.2) ([1, 500000, 2000000, 8000000, 30000000] : List Int)) fun v21 =>
     ck (decide (z3.1.length + ([(Piece.mk (w64 ((z3.1.length : Int) + 1)) v9.1 v12.1 v15.1 v21.1)] : List Piece).length ≤ 1000000000)) <|
     vl (z3.1 ++ ([(Piece.mk (w64 ((z3.1.length : Int) + 1)) v9.1 v12.1 v15.1 v21.1)] : List Piece)) fun y24 =>
     k5 (y24, w64 (z3.2.1 - 1), v21.2))
     (ck (decide (z3.1.length + ([(Piece.mk (w64 ((z3.1.length : Int) + 1)) v9.1 v12.1 v15.1 0)] : List Piece).length ≤ 1000000000)) <|
     vl (z3.1 ++ ([(Piece.mk (w64 ((z3.1.length : Int) + 1)) v9.1 v12.1 v15.1 0)] : List Piece)) fun y27 =>
     k5 (y27, w64 (z3.2.1 - 1), v18.2)))
     (some (z3.1, z3.2.2))) big (([] : List Piece), w64 (1 + v1.1), v1.2)
def r20_Retarders (a0 : (List Piece)) : Option Int :=
  lp (fun (z1 : (Int × Int)) k3 =>
     cond (decide (z1.2 < (a0.length : Int)))
     (ix a0 z1.2 fun x6 =>
     cond (decide (0 < x6.Power))
     (k3 (w64 (z1.1 + 1), w64 (z1.2 + 1)))
     (k3 (z1.1, w64 (z1.2 + 1))))
     (some z1.1)) big (0, 0)
def gen_Maker_Motion (a0 : HumpgenMaker) (a1 : (List Piece)) : Option (Motion × Int) :=
  bd (gen_Maker_Pick a0 ([0, 500, 1200, 1400, 2000] : List Int)) fun v3 =>
     bd (gen_Maker_Pick (HumpgenMaker.mk a0.fl v3.2) ([0, 10, 100] : List Int)) fun v6 =>
     bd (gen_Maker_Pick (HumpgenMaker.mk a0.fl v6.2) ([0, 20, 100] : List Int)) fun v9 =>
     bd (gen_Maker_Pick (HumpgenMaker.mk a0.fl v9.2) ([0, 10, 20, 60] : List Int)) fun v13 =>
     bd (gen_Maker_Pick (HumpgenMaker.mk a0.fl v13.2) ([0, 5, 30, 150] : List Int)) fun v16 =>
     jp (fun (z18 : (List Interval)) =>
     bd (r20_Retarders a1) fun v22 =>
     lp (fun (z23 : ((List Int) × Int × Int)) k25 =>
     cond (decide (0 < z23.2.1))
     (bd (gen_Maker_Pick (HumpgenMaker.mk a0.fl z23.2.2) ([(-1), 0, 800, 1200, 3000, 5000] : List Int)) fun v29 =>
     ck (decide (z23.1.length + ([v29.1] : List Int).length ≤ 1000000000)) <|
     vl (z23.1 ++ ([v29.1] : List Int)) fun y32 =>
     k25 (y32, w64 (z23.2.1 - 1), v29.2))
     (some ((Motion.mk (Interval.mk v3.1 (w64 (v3.1 + v6.1))) z18 v9.1 z23.1), z23.2.2))) big (([] : List Int), v22, v16.2)) fun k20 =>
     lp (fun (z34 : ((List Interval) × Int)) k36 =>
     cond (decide (z34.2 < (a1.length : Int)))
     (ix a1 z34.2 fun x39 =>
     ix a1 z34.2 fun x41 =>
     vl (w64 ((w64 (v13.1 + v16.1)) + x41.Curve)) fun x43 =>
     ck (decide (z34.1.length + ([(Interval.mk (w64 (v13.1 + x39.Curve)) x43)] : List Interval).length ≤ 1000000000)) <|
     vl (z34.1 ++ ([(Interval.mk (w64 (v13.1 + x39.Curve)) x43)] : List Interval)) fun y45 =>
     k36 (y45, w64 (z34.2 + 1)))
     (k20 z34.1)) big (([] : List Interval), 0)
def bowl_Valid (a0 : Stand) : Option Bool :=
  cond (decide (a0.Room < 0)) (some false) (cond (decide (100000 < a0.Room)) (some false) (cond (decide (96 < (a0.Wagons.length : Int))) (some false) (cond (decide ((a0.Lengths.length : Int) ≠ (a0.Wagons.length : Int)))
     (some false)
     (lp (fun (z3 : ((List Int) × Int)) k5 =>
     cond (decide (z3.2 < (a0.Wagons.length : Int)))
     (ix a0.Wagons z3.2 fun x8 =>
     cond (decide (x8 < 0)) (some false) (cond (inS x8 z3.1) (some false) (ix a0.Lengths z3.2 fun x10 =>
     cond (decide (x10 < 1)) (some false) (ix a0.Lengths z3.2 fun x12 =>
     cond (decide (400 < x12))
     (some false)
     (ck (!(inS x8 z3.1)) <|
     vl (z3.1 ++ [x8]) fun y14 =>
     k5 (y14, w64 (z3.2 + 1)))))))
     (some true)) big (([] : List Int), 0)))))
def slices_Grow_int_int_ (a1 : Int) : Option (List Int) :=
  cond (decide (a1 < 0))
     (none)
     (vl (w64 (a1 - (w64 ((0 : Int) - 0)))) fun x1 =>
     cond (decide (0 < x1))
     (ck (decide (1 ≤ x1 ∧ x1 ≤ 1000000000)) <|
     vl (List.replicate (Int.toNat x1) 0) fun y2 =>
     ck (decide ((0 : Int) ≤ 0 ∧ 0 ≤ (y2.length : Int))) <|
     some (y2.take (Int.toNat 0)))
     (some ([] : List Int)))
def slices_Concat_int_int_ (a0 : (List (List Int))) : Option (List Int) :=
  jp (fun (z1 : Int) =>
     bd (slices_Grow_int_int_ z1) fun v5 =>
     lp (fun (z7 : ((List Int) × Int)) k9 =>
     cond (decide (z7.2 < (a0.length : Int)))
     (ix a0 z7.2 fun x12 =>
     ck (decide (z7.1.length + x12.length ≤ 1000000000)) <|
     vl (z7.1 ++ x12) fun y15 =>
     k9 (y15, w64 (z7.2 + 1)))
     (some z7.1)) big (v5, 0)) fun k3 =>
     lp (fun (z17 : (Int × Int)) k19 =>
     cond (decide (z17.2 < (a0.length : Int)))
     (ix a0 z17.2 fun x22 =>
     vl (w64 (z17.1 + (x22.length : Int))) fun x25 =>
     cond (decide (x25 < 0))
     (none)
     (k19 (x25, w64 (z17.2 + 1))))
     (k3 z17.1)) big (0, 0)
def bowl_foul (a0 : Stand) : Option (Int × Int) :=
  lp (fun (z2 : (Int × Int × Int)) k4 =>
     cond (decide (z2.2.2 < (a0.Lengths.length : Int)))
     (ix a0.Lengths z2.2.2 fun x7 =>
     cond (decide ((w64 (z2.2.1 - x7)) < 0))
     (k4 (w64 (z2.1 + 1), w64 (z2.2.1 - x7), w64 (z2.2.2 + 1)))
     (k4 (z2.1, w64 (z2.2.1 - x7), w64 (z2.2.2 + 1))))
     (some (z2.1, z2.2.1))) big (0, a0.Room, 0)
def bowl_Arrive (a0 : Stand) (a1 : (List Int)) (a2 : (List Int)) : Option (Stand × Int × Int) :=
  bd (bowl_Valid a0) fun v3 =>
     cond (!v3) (some ((Stand.mk 0 ([] : List Int) ([] : List Int)), 0, 1)) (cond (decide ((a1.length : Int) ≠ (a2.length : Int)))
     (some ((Stand.mk 0 ([] : List Int) ([] : List Int)), 0, 1))
     (jp (fun (z4 : Unit) =>
     vl (w64 ((a0.Wagons.length : Int) + (a1.length : Int))) fun x8 =>
     cond (decide (96 < x8))
     (some ((Stand.mk 0 ([] : List Int) ([] : List Int)), 0, 3))
     (jp (fun (z9 : ((List Int) × (List Int))) =>
     bd (bowl_Valid (Stand.mk a0.Room z9.1 z9.2)) fun v13 =>
     cond (!v13)
     (some ((Stand.mk 0 ([] : List Int) ([] : List Int)), 0, 8))
     (bd (bowl_foul (Stand.mk a0.Room z9.1 z9.2)) fun v14 =>
     some ((Stand.mk a0.Room z9.1 z9.2), v14.1, 0))) fun k11 =>
     bd (slices_Concat_int_int_ [a0.Wagons, a1]) fun v135 =>
     bd (slices_Concat_int_int_ [a0.Lengths, a2]) fun v235 =>
     k11 (v135, v235))) fun k6 =>
     lp (fun (z315 : Int) k317 =>
     cond (decide (z315 < (a1.length : Int)))
     (ix a1 z315 fun x320 =>
     cond (decide (x320 < 0)) (some ((Stand.mk 0 ([] : List Int) ([] : List Int)), 0, 1)) (ix a2 z315 fun x322 =>
     cond (decide (x322 < 1)) (some ((Stand.mk 0 ([] : List Int) ([] : List Int)), 0, 1)) (ix a2 z315 fun x324 =>
     cond (decide (400 < x324))
     (some ((Stand.mk 0 ([] : List Int) ([] : List Int)), 0, 1))
     (k317 (w64 (z315 + 1))))))
     (k6 ())) big 0))
def r32_lengths (a0 : (List Int)) : Option Bool :=
  lp (fun (z1 : Int) k3 =>
     cond (decide (z1 < (a0.length : Int)))
     (ix a0 z1 fun x6 =>
     cond (decide (x6 < 1)) (some false) (ix a0 z1 fun x8 =>
     cond (decide (400 < x8))
     (some false)
     (k3 (w64 (z1 + 1)))))
     (some true)) big 0
def r32_has (a0 : (List Int)) (a1 : Int) : Option Bool :=
  lp (fun (z1 : Int) k3 =>
     cond (decide (z1 < (a0.length : Int)))
     (ix a0 z1 fun x6 =>
     cond (decide (x6 = a1))
     (some true)
     (k3 (w64 (z1 + 1))))
     (some false)) big 0
def r32_Valid (a0 : Stand) : Option Bool :=
  cond (decide (a0.Room < 0)) (some false) (cond (decide (100000 < a0.Room)) (some false) (cond (decide (96 < (a0.Wagons.length : Int))) (some false) (cond (decide ((a0.Lengths.length : Int) ≠ (a0.Wagons.length : Int))) (some false) (bd (r32_lengths a0.Lengths) fun v2 =>
     cond (!v2)
     (some false)
     (lp (fun (z3 : Int) k5 =>
     cond (decide (z3 < (a0.Wagons.length : Int)))
     (ix a0.Wagons z3 fun x8 =>
     cond (decide (x8 < 0)) (some false) (ck (decide ((0 : Int) ≤ z3 ∧ z3 ≤ (a0.Wagons.length : Int))) <|
     ix a0.Wagons z3 fun x11 =>
     bd (r32_has (a0.Wagons.take (Int.toNat z3)) x11) fun v13 =>
     cond v13
     (some false)
     (k5 (w64 (z3 + 1)))))
     (some true)) big 0)))))
def r32_Foul (a0 : Stand) : Option Int :=
  lp (fun (z2 : (Int × Int × Int)) k4 =>
     cond (decide (z2.2.2 < (a0.Lengths.length : Int)))
     (ix a0.Lengths z2.2.2 fun x7 =>
     cond (decide (a0.Room < (w64 (z2.2.1 + x7))))
     (k4 (w64 (z2.1 + 1), w64 (z2.2.1 + x7), w64 (z2.2.2 + 1)))
     (k4 (z2.1, w64 (z2.2.1 + x7), w64 (z2.2.2 + 1))))
     (some z2.1)) big (0, 0, 0)
def r32_Arrive (a0 : Stand) (a1 : (List Int)) (a2 : (List Int)) : Option (Stand × Int × Int) :=
  jp (fun (z3 : Bool) =>
     jp (fun (z7 : Bool) =>
     cond (!z7)
     (some ((Stand.mk 0 ([] : List Int) ([] : List Int)), 0, 1))
     (vl (w64 ((a0.Wagons.length : Int) + (a1.length : Int))) fun x11 =>
     cond (decide (96 < x11))
     (some ((Stand.mk 0 ([] : List Int) ([] : List Int)), 0, 3))
     (jp (fun (z12 : ((List Int) × (List Int))) =>
     lp (fun (z16 : ((List Int) × (List Int) × Int)) k18 =>
     cond (decide (z16.2.2 < (a1.length : Int)))
     (ix a1 z16.2.2 fun x21 =>
     bd (r32_has z16.1 x21) fun v23 =>
     cond v23
     (some ((Stand.mk 0 ([] : List Int) ([] : List Int)), 0, 8))
     (ix a1 z16.2.2 fun x104 =>
     ix a2 z16.2.2 fun x264 =>
     ck (decide (z16.1.length + ([x104] : List Int).length ≤ 1000000000)) <|
     vl (z16.1 ++ ([x104] : List Int)) fun y164 =>
     ck (decide (z16.2.1.length + ([x264] : List Int).length ≤ 1000000000)) <|
     vl (z16.2.1 ++ ([x264] : List Int)) fun y324 =>
     k18 (y164, y324, w64 (z16.2.2 + 1))))
     (bd (r32_Foul (Stand.mk a0.Room z16.1 z16.2.1)) fun v424 =>
     some ((Stand.mk a0.Room z16.1 z16.2.1), v424, 0))) big (z12.1, z12.2, 0)) fun k14 =>
     ck (decide (([] : List Int).length + a0.Wagons.length ≤ 1000000000)) <|
     vl (([] : List Int) ++ a0.Wagons) fun y525 =>
     ck (decide (([] : List Int).length + a0.Lengths.length ≤ 1000000000)) <|
     vl (([] : List Int) ++ a0.Lengths) fun y605 =>
     k14 (y525, y605)))) fun k9 =>
     lp (fun (z685 : (Bool × Int)) k687 =>
     cond (decide (z685.2 < (a1.length : Int)))
     (cond z685.1 (ix a1 z685.2 fun x690 =>
     k687 (decide (0 ≤ x690), w64 (z685.2 + 1))) (k687 (false, w64 (z685.2 + 1))))
     (k9 z685.1)) big (z3, 0)) fun k5 =>
     bd (r32_Valid a0) fun v692 =>
     cond v692 (cond (decide ((a2.length : Int) = (a1.length : Int))) (bd (r32_lengths a2) fun v693 =>
     k5 v693) (k5 false)) (k5 false)
def slices_Clone_int_int_ (a0 : (List Int)) : Option (List Int) :=
  ck (decide (([] : List Int).length + a0.length ≤ 1000000000)) <|
     vl (([] : List Int) ++ a0) fun y2 =>
     some y2
def bowl_Leave (a0 : Stand) (a1 : Int) : Option (Stand × (List Int) × Int) :=
  bd (bowl_Valid a0) fun v3 =>
     cond (!v3)
     (some ((Stand.mk 0 ([] : List Int) ([] : List Int)), ([] : List Int), 1))
     (vl (w64 ((a0.Wagons.length : Int) - a1)) fun x4 =>
     cond (decide (a1 < 0)) (some ((Stand.mk 0 ([] : List Int) ([] : List Int)), ([] : List Int), 2)) (cond (decide (x4 < 0))
     (some ((Stand.mk 0 ([] : List Int) ([] : List Int)), ([] : List Int), 2))
     (jp (fun (z5 : ((List Int) × (List Int))) =>
     ck (decide ((0 : Int) ≤ x4 ∧ x4 ≤ (a0.Wagons.length : Int))) <|
     bd (slices_Clone_int_int_ (a0.Wagons.drop (Int.toNat x4))) fun v10 =>
     some ((Stand.mk a0.Room z5.1 z5.2), v10, 0)) fun k7 =>
     ck (decide ((0 : Int) ≤ x4 ∧ x4 ≤ (a0.Wagons.length : Int))) <|
     ck (decide ((0 : Int) ≤ x4 ∧ x4 ≤ (a0.Lengths.length : Int))) <|
     bd (slices_Clone_int_int_ (a0.Wagons.take (Int.toNat x4))) fun v132 =>
     bd (slices_Clone_int_int_ (a0.Lengths.take (Int.toNat x4))) fun v232 =>
     k7 (v132, v232))))
def r32_Leave (a0 : Stand) (a1 : Int) : Option (Stand × (List Int) × Int) :=
  bd (r32_Valid a0) fun v3 =>
     cond (!v3)
     (some ((Stand.mk 0 ([] : List Int) ([] : List Int)), ([] : List Int), 1))
     (vl (w64 ((a0.Wagons.length : Int) - a1)) fun x4 =>
     cond (decide (a1 < 0)) (some ((Stand.mk 0 ([] : List Int) ([] : List Int)), ([] : List Int), 2)) (cond (decide (x4 < 0))
     (some ((Stand.mk 0 ([] : List Int) ([] : List Int)), ([] : List Int), 2))
     (ck (decide ((0 : Int) ≤ x4 ∧ x4 ≤ (a0.Wagons.length : Int))) <|
     ck (decide ((0 : Int) ≤ x4 ∧ x4 ≤ (a0.Lengths.length : Int))) <|
     ck (decide ((0 : Int) ≤ x4 ∧ x4 ≤ (a0.Wagons.length : Int))) <|
     ck (decide (([] : List Int).length + (a0.Wagons.take (Int.toNat x4)).length ≤ 1000000000)) <|
     vl (([] : List Int) ++ (a0.Wagons.take (Int.toNat x4))) fun y145 =>
     ck (decide (([] : List Int).length + (a0.Lengths.take (Int.toNat x4)).length ≤ 1000000000)) <|
     vl (([] : List Int) ++ (a0.Lengths.take (Int.toNat x4))) fun y265 =>
     ck (decide (([] : List Int).length + (a0.Wagons.drop (Int.toNat x4)).length ≤ 1000000000)) <|
     vl (([] : List Int) ++ (a0.Wagons.drop (Int.toNat x4))) fun y405 =>
     some ((Stand.mk a0.Room y145 y265), y405, 0))))
def gen_Ints (a0 : (List Int)) (a1 : (List Int)) : Option Bool :=
  cond (decide ((a0.length : Int) ≠ (a1.length : Int)))
     (some false)
     (lp (fun (z1 : Int) k3 =>
     cond (decide (z1 < (a0.length : Int)))
     (ix a0 z1 fun x6 =>
     ix a1 z1 fun x8 =>
     cond (decide (x6 ≠ x8))
     (some false)
     (k3 (w64 (z1 + 1))))
     (some true)) big 0)
def yardgen_SameStands (a0 : Stand) (a1 : Stand) : Option Bool :=
  cond (decide (a0.Room = a1.Room)) (bd (gen_Ints a0.Wagons a1.Wagons) fun v3 =>
     cond v3 (bd (gen_Ints a0.Lengths a1.Lengths) fun v4 =>
     some v4) (some false)) (some false)
def bowl_Free (a0 : Stand) : Option Int :=
  bd (bowl_Valid a0) fun v2 =>
     cond (!v2)
     (some 0)
     (bd (bowl_foul a0) fun v3 =>
     some v3.2)
def r32_Free (a0 : Stand) : Option Int :=
  bd (r32_Valid a0) fun v2 =>
     cond (!v2)
     (some 0)
     (lp (fun (z3 : (Int × Int)) k5 =>
     cond (decide (z3.2 < (a0.Lengths.length : Int)))
     (ix a0.Lengths z3.2 fun x8 =>
     k5 (w64 (z3.1 - x8), w64 (z3.2 + 1)))
     (some z3.1)) big (a0.Room, 0))
def law32_exact (a0 : Stand) (a1 : (List Int)) (a2 : (List Int)) (a3 : Int) : Option Bool :=
  bd (bowl_Arrive a0 a1 a2) fun v2 =>
     bd (r32_Arrive a0 a1 a2) fun v5 =>
     bd (bowl_Leave a0 a3) fun v8 =>
     bd (r32_Leave a0 a3) fun v11 =>
     bd (yardgen_SameStands v2.1 v5.1) fun v14 =>
     cond v14 (cond (decide (v2.2.1 = v5.2.1)) (cond (decide (v2.2.2 = v5.2.2)) (bd (yardgen_SameStands v8.1 v11.1) fun v15 =>
     cond v15 (bd (gen_Ints v8.2.1 v11.2.1) fun v16 =>
     cond v16 (cond (decide (v8.2.2 = v11.2.2)) (bd (bowl_Valid a0) fun v17 =>
     bd (r32_Valid a0) fun v18 =>
     cond (v17 == v18) (bd (bowl_Free a0) fun v19 =>
     bd (r32_Free a0) fun v20 =>
     some (decide (v19 = v20))) (some false)) (some false)) (some false)) (some false)) (some false)) (some false)) (some false)
def runoff_in (a0 : Int) (a1 : Int) (a2 : Int) : Option Bool :=
  cond (decide (a1 ≤ a0)) (some (decide (a0 ≤ a2))) (some false)
def runoff_Valid (a0 : (List Piece)) : Option Int :=
  cond (decide ((a0.length : Int) < 1)) (some 3) (cond (decide (128 < (a0.length : Int)))
     (some 3)
     (lp (fun (z1 : Int) k3 =>
     cond (decide (z1 < (a0.length : Int)))
     (ix a0 z1 fun x6 =>
     bd (runoff_in x6.Element 0 127) fun v9 =>
     cond (!v9) (some 1) (bd (runoff_in x6.Length 1 1000000) fun v10 =>
     cond (!v10) (some 1) (bd (runoff_in x6.Grade (-10000) 10000) fun v11 =>
     cond (!v11) (some 1) (bd (runoff_in x6.Curve 0 5000) fun v12 =>
     cond (!v12) (some 1) (bd (runoff_in x6.Power 0 1000000000) fun v13 =>
     cond (!v13)
     (some 1)
     (k3 (w64 (z1 + 1))))))))
     (some 0)) big 0))
def slices_Clone_api_Piece_api_Piece_ (a0 : (List Piece)) : Option (List Piece) :=
  ck (decide (([] : List Piece).length + a0.length ≤ 1000000000)) <|
     vl (([] : List Piece) ++ a0) fun y2 =>
     some y2
def bowl_Shorten (a0 : (List Piece)) (a1 : Int) : Option ((List Piece) × Int) :=
  bd (runoff_Valid a0) fun v1 =>
     cond (decide (v1 ≠ 0))
     (some (([] : List Piece), v1))
     (bd (slices_Clone_api_Piece_api_Piece_ a0) fun v2 =>
     ix v2 (w64 ((v2.length : Int) - 1)) fun x4 =>
     cond (decide (a1 < 1)) (some (([] : List Piece), 14)) (cond (decide (x4.Length < a1))
     (some (([] : List Piece), 14))
     (vl (v2.set (Int.toNat (w64 ((v2.length : Int) - 1))) (Piece.mk x4.Element a1 x4.Grade x4.Curve x4.Power)) fun y6 =>
     some (y6, 0))))
def r20_Valid (a0 : (List Piece)) : Option Int :=
  cond (decide ((a0.length : Int) < 1)) (some 3) (cond (decide (128 < (a0.length : Int)))
     (some 3)
     (lp (fun (z1 : Int) k3 =>
     cond (decide (z1 < (a0.length : Int)))
     (ix a0 z1 fun x6 =>
     cond (decide (x6.Element < 0)) (some 1) (cond (decide (128 ≤ x6.Element)) (some 1) (cond (decide (x6.Length < 1)) (some 1) (cond (decide (1000000 < x6.Length)) (some 1) (cond (decide (x6.Grade < (-10000))) (some 1) (cond (decide (10000 < x6.Grade)) (some 1) (cond (decide (x6.Curve < 0)) (some 1) (cond (decide (5000 < x6.Curve)) (some 1) (cond (decide (x6.Power < 0)) (some 1) (cond (decide (1000000000 < x6.Power))
     (some 1)
     (k3 (w64 (z1 + 1)))))))))))))
     (some 0)) big 0))
def r32_Shorten (a0 : (List Piece)) (a1 : Int) : Option ((List Piece) × Int) :=
  bd (r20_Valid a0) fun v1 =>
     cond (decide (v1 ≠ 0))
     (some (([] : List Piece), v1))
     (cond (decide (a1 < 1)) (some (([] : List Piece), 14)) (ix a0 (w64 ((a0.length : Int) - 1)) fun x2 =>
     cond (decide (x2.Length < a1))
     (some (([] : List Piece), 14))
     (ck (decide (([] : List Piece).length + a0.length ≤ 1000000000)) <|
     vl (([] : List Piece) ++ a0) fun y5 =>
     ix y5 (w64 ((a0.length : Int) - 1)) fun x7 =>
     vl (y5.set (Int.toNat (w64 ((a0.length : Int) - 1))) (Piece.mk x7.Element a1 x7.Grade x7.Curve x7.Power)) fun y9 =>
     some (y9, 0))))
def interval_inside (a0 : Int) : Option Bool :=
  cond (decide ((-1000000000000) ≤ a0)) (some (decide (a0 ≤ 1000000000000))) (some false)
def interval_Valid (a0 : Interval) : Option Bool :=
  cond (decide (a0.Lo ≤ a0.Hi)) (bd (interval_inside a0.Lo) fun v2 =>
     cond v2 (bd (interval_inside a0.Hi) fun v3 =>
     some v3) (some false)) (some false)
def runoff_retarders (a0 : (List Piece)) : Option Int :=
  lp (fun (z1 : (Int × Int)) k3 =>
     cond (decide (z1.2 < (a0.length : Int)))
     (ix a0 z1.2 fun x6 =>
     cond (decide (0 < x6.Power))
     (k3 (w64 (z1.1 + 1), w64 (z1.2 + 1)))
     (k3 (z1.1, w64 (z1.2 + 1))))
     (some z1.1)) big (0, 0)
def runoff_targets (a0 : (List Int)) : Option Bool :=
  lp (fun (z1 : Int) k3 =>
     cond (decide (z1 < (a0.length : Int)))
     (ix a0 z1 fun x6 =>
     bd (runoff_in x6 (-1) 20000) fun v8 =>
     cond (!v8)
     (some false)
     (k3 (w64 (z1 + 1))))
     (some true)) big 0
def runoff_check (a0 : (List Piece)) (a1 : Motion) : Option Int :=
  bd (runoff_Valid a0) fun v2 =>
     cond (decide (v2 ≠ 0))
     (some v2)
     (bd (interval_Valid a1.Speed) fun v3 =>
     cond (!v3) (some 1) (cond (decide ((a1.Class.length : Int) ≠ (a0.length : Int))) (some 1) (bd (runoff_retarders a0) fun v4 =>
     cond (decide ((a1.Targets.length : Int) ≠ v4))
     (some 1)
     (jp (fun (z5 : Unit) =>
     jp (fun (z9 : Unit) =>
     cond (decide (a1.Speed.Lo < 0)) (some 2) (cond (decide (20000 < a1.Speed.Hi)) (some 2) (bd (runoff_in a1.Error 0 1000) fun v13 =>
     cond (!v13) (some 2) (bd (runoff_targets a1.Targets) fun v14 =>
     cond (!v14)
     (some 2)
     (some 0))))) fun k11 =>
     lp (fun (z15 : Int) k17 =>
     cond (decide (z15 < (a1.Class.length : Int)))
     (ix a1.Class z15 fun x20 =>
     cond (decide (x20.Lo < (-5000))) (some 2) (cond (decide (10000 < x20.Hi))
     (some 2)
     (k17 (w64 (z15 + 1)))))
     (k11 ())) big 0) fun k7 =>
     lp (fun (z23 : Int) k25 =>
     cond (decide (z23 < (a1.Class.length : Int)))
     (ix a1.Class z23 fun x28 =>
     bd (interval_Valid x28) fun v31 =>
     cond (!v31)
     (some 1)
     (k25 (w64 (z23 + 1))))
     (k7 ())) big 0))))
def interval_down (a0 : Int) (a1 : Int) : Option Int :=
  ck (decide (a1 ≠ 0)) <|
     ck (decide (a1 ≠ 0)) <|
     cond (decide ((Int.tmod a0 a1) ≠ 0)) (cond (!((decide ((Int.tmod a0 a1) < 0)) == (decide (a1 < 0))))
     (vl (w64 ((w64 (Int.tdiv a0 a1)) - 1)) fun x3 =>
     some x3)
     (some (w64 (Int.tdiv a0 a1)))) (some (w64 (Int.tdiv a0 a1)))
def interval_Floor (a0 : Int) (a1 : Int) : Option (Int × Int) :=
  cond (decide (a1 = 0))
     (some (0, 5))
     (bd (interval_down a0 a1) fun v1 =>
     bd (interval_inside v1) fun v2 =>
     cond v2
     (some (v1, 0))
     (some (0, 4)))
def interval_up (a0 : Int) (a1 : Int) : Option Int :=
  ck (decide (a1 ≠ 0)) <|
     ck (decide (a1 ≠ 0)) <|
     cond (decide ((Int.tmod a0 a1) ≠ 0)) (cond ((decide ((Int.tmod a0 a1) < 0)) == (decide (a1 < 0)))
     (vl (w64 ((w64 (Int.tdiv a0 a1)) + 1)) fun x3 =>
     some x3)
     (some (w64 (Int.tdiv a0 a1)))) (some (w64 (Int.tdiv a0 a1)))
def interval_Ceil (a0 : Int) (a1 : Int) : Option (Int × Int) :=
  cond (decide (a1 = 0))
     (some (0, 5))
     (bd (interval_up a0 a1) fun v1 =>
     bd (interval_inside v1) fun v2 =>
     cond v2
     (some (v1, 0))
     (some (0, 4)))
def runoff_gain (a0 : Piece) (a1 : Int) : Option (Int × Int) :=
  vl (w64 (19620 * (w64 (a0.Grade - a1)))) fun x2 =>
     bd (interval_Floor (w64 (x2 * a0.Length)) 100000) fun v3 =>
     bd (interval_Ceil (w64 (x2 * a0.Length)) 100000) fun v4 =>
     some (v3.1, v4.1)
def interval_root (a0 : Int) : Option Int :=
  lp (fun (z1 : (Int × Int)) k3 =>
     cond (decide (1 < (w64 (z1.2 - z1.1))))
     (vl (w64 (Int.tdiv (w64 (z1.1 + z1.2)) 2)) fun x6 =>
     cond (decide ((w64 (x6 * x6)) ≤ a0))
     (k3 (x6, z1.2))
     (k3 (z1.1, x6)))
     (some z1.1)) big (0, 1000001)
def interval_Root (a0 : Interval) : Option (Interval × Int) :=
  bd (interval_Valid a0) fun v3 =>
     cond (!v3)
     (some ((Interval.mk 0 0), 1))
     (cond (decide (a0.Lo < 0))
     (some ((Interval.mk 0 0), 2))
     (bd (interval_root a0.Hi) fun v4 =>
     jp (fun (z5 : Int) =>
     bd (interval_root a0.Lo) fun v9 =>
     some ((Interval.mk v9 z5), 0)) fun k7 =>
     cond (decide ((w64 (v4 * v4)) < a0.Hi))
     (k7 (w64 (v4 + 1)))
     (k7 v4)))
def runoff_roots (a0 : Int) : Option (Int × Int) :=
  bd (interval_Root (Interval.mk a0 a0)) fun v1 =>
     some (v1.1.Lo, v1.1.Hi)
def runoff_state_roll (a0 : RunoffState) (a1 : Piece) (a2 : Interval) : Option (Bool × RunoffState) :=
  bd (runoff_gain a1 a2.Hi) fun v3 =>
     bd (runoff_gain a1 a2.Lo) fun v4 =>
     cond (decide ((w64 (a0.fenergy.Hi + v4.2)) < 0))
     (some (false, a0))
     (jp (fun (z6 : (Int × Bool)) =>
     bd (runoff_roots a0.fenergy.Lo) fun v10 =>
     bd (runoff_roots a0.fenergy.Hi) fun v11 =>
     bd (runoff_roots z6.1) fun v12 =>
     bd (runoff_roots (w64 (a0.fenergy.Hi + v4.2))) fun v13 =>
     cond (decide ((w64 (v11.2 + v13.2)) = 0))
     (some (false, (RunoffState.mk a0.ftime a0.fenergy z6.2)))
     (ck (decide ((w64 (v11.2 + v13.2)) ≠ 0)) <|
     vl (w64 (Int.tdiv (w64 (2000 * a1.Length)) (w64 (v11.2 + v13.2)))) fun x15 =>
     vl (min (w64 (a0.ftime.Lo + x15)) 1000000000) fun x16 =>
     jp (fun (z17 : Bool) =>
     cond z17
     (some (true, (RunoffState.mk (Interval.mk x16 1000000000) (Interval.mk z6.1 (w64 (a0.fenergy.Hi + v4.2))) z17)))
     (vl (w64 ((w64 (2000 * a1.Length)) + v10.1)) fun x21 =>
     ck (decide ((w64 (v10.1 + v12.1)) ≠ 0)) <|
     vl (w64 (Int.tdiv (w64 ((w64 (x21 + v12.1)) - 1)) (w64 (v10.1 + v12.1)))) fun x23 =>
     vl (min (w64 (a0.ftime.Hi + x23)) 1000000000) fun x24 =>
     some (true, (RunoffState.mk (Interval.mk x16 x24) (Interval.mk z6.1 (w64 (a0.fenergy.Hi + v4.2))) z17)))) fun k19 =>
     cond (decide ((w64 (v10.1 + v12.1)) = 0))
     (k19 true)
     (k19 z6.2))) fun k8 =>
     cond (decide ((w64 (a0.fenergy.Lo + v3.1)) < 0))
     (k8 (0, true))
     (k8 (w64 (a0.fenergy.Lo + v3.1), a0.fslow)))
def runoff_state_brake (a0 : RunoffState) (a1 : Int) (a2 : Int) (a3 : Int) : Option RunoffState :=
  vl (w64 ((max 0 (w64 (a2 - a3))) * (max 0 (w64 (a2 - a3))))) fun x1 =>
     vl (w64 ((w64 (a2 + a3)) * (w64 (a2 + a3)))) fun x2 =>
     vl (max (min a0.fenergy.Hi x2) (w64 (a0.fenergy.Hi - a1))) fun x3 =>
     some (RunoffState.mk a0.ftime (Interval.mk (min a0.fenergy.Lo x1) x3) a0.fslow)
def runoff_Pass (a0 : (List Piece)) (a1 : Motion) : Option ((List Passage) × Int) :=
  bd (runoff_check a0 a1) fun v2 =>
     cond (decide (v2 ≠ 0))
     (some (([] : List Passage), v2))
     (vl (w64 (a1.Speed.Lo * a1.Speed.Lo)) fun x3 =>
     vl (w64 (a1.Speed.Hi * a1.Speed.Hi)) fun x4 =>
     lp (fun (z7 : (Int × Int × Int × Int × Bool × (List Passage) × Int × Int)) k9 =>
     cond (decide (z7.2.2.2.2.2.2.2 < (a0.length : Int)))
     (ix a0 z7.2.2.2.2.2.2.2 fun x12 =>
     jp (fun (z15 : (Int × Int × Int × Int × Bool)) =>
     jp (fun (z19 : (Int × Int × Int × Int × Bool × Int)) =>
     ck (decide (z7.2.2.2.2.2.1.length + ([(Passage.mk (Interval.mk z19.1 z19.2.1) (Interval.mk z19.2.2.1 z19.2.2.2.1) z19.2.2.2.2.1 false)] : List Passage).length ≤ 1000000000)) <|
     vl (z7.2.2.2.2.2.1 ++ ([(Passage.mk (Interval.mk z19.1 z19.2.1) (Interval.mk z19.2.2.1 z19.2.2.2.1) z19.2.2.2.2.1 false)] : List Passage)) fun y24 =>
     k9 (z19.1, z19.2.1, z19.2.2.1, z19.2.2.2.1, z19.2.2.2.2.1, y24, z19.2.2.2.2.2, w64 (z7.2.2.2.2.2.2.2 + 1))) fun k21 =>
     cond (decide (0 < x12.Power))
     (ix a1.Targets z7.2.2.2.2.2.2.1 fun x26 =>
     cond (decide (0 ≤ x26))
     (bd (runoff_state_brake (RunoffState.mk (Interval.mk z15.1 z15.2.1) (Interval.mk z15.2.2.1 z15.2.2.2.1) z15.2.2.2.2) x12.Power x26 a1.Error) fun v28 =>
     k21 (v28.ftime.Lo, v28.ftime.Hi, v28.fenergy.Lo, v28.fenergy.Hi, v28.fslow, w64 (z7.2.2.2.2.2.2.1 + 1)))
     (k21 (z15.1, z15.2.1, z15.2.2.1, z15.2.2.2.1, z15.2.2.2.2, w64 (z7.2.2.2.2.2.2.1 + 1))))
     (k21 (z15.1, z15.2.1, z15.2.2.1, z15.2.2.2.1, z15.2.2.2.2, z7.2.2.2.2.2.2.1))) fun k17 =>
     ix a1.Class z7.2.2.2.2.2.2.2 fun x30 =>
     bd (runoff_state_roll (RunoffState.mk (Interval.mk z7.1 z7.2.1) (Interval.mk z7.2.2.1 z7.2.2.2.1) z7.2.2.2.2.1) x12 x30) fun v32 =>
     cond (!v32.1)
     (lp (fun (z34 : (List Passage)) k36 =>
     cond (decide ((z34.length : Int) ≤ (a0.length : Int)))
     (ck (decide (z34.length + ([(Passage.mk (Interval.mk 0 0) (Interval.mk 0 0) false true)] : List Passage).length ≤ 1000000000)) <|
     vl (z34 ++ ([(Passage.mk (Interval.mk 0 0) (Interval.mk 0 0) false true)] : List Passage)) fun y40 =>
     k36 y40)
     (some (z34, 0))) big z7.2.2.2.2.2.1)
     (k17 (v32.2.ftime.Lo, v32.2.ftime.Hi, v32.2.fenergy.Lo, v32.2.fenergy.Hi, v32.2.fslow)))
     (some (z7.2.2.2.2.2.1, 0))) big (0, 0, x3, x4, false, ([(Passage.mk (Interval.mk 0 0) (Interval.mk x3 x4) false false)] : List Passage), 0, 0))
def bowl_root (a0 : Int) : Option Int :=
  jp (fun (z1 : Int) =>
     lp (fun (z5 : (Int × Int)) k7 =>
     cond (decide ((w64 (z5.1 + 1)) < z5.2))
     (vl (w64 (Int.tdiv (w64 (z5.1 + z5.2)) 2)) fun x10 =>
     cond (decide ((w64 (x10 * x10)) ≤ a0))
     (k7 (x10, z5.2))
     (k7 (z5.1, x10)))
     (some z5.1)) big (0, z1)) fun k3 =>
     lp (fun (z11 : Int) k13 =>
     cond (decide ((w64 (z11 * z11)) ≤ a0))
     (k13 (w64 (z11 * 2)))
     (k3 z11)) big 1
def bowl_Coupling (a0 : (List Piece)) (a1 : Motion) (a2 : Int) : Option (Interval × Int) :=
  bd (bowl_Shorten a0 a2) fun v3 =>
     cond (decide (v3.2 ≠ 0))
     (some ((Interval.mk 0 0), v3.2))
     (bd (runoff_Pass v3.1 a1) fun v5 =>
     cond (decide (v5.2 ≠ 0))
     (some ((Interval.mk 0 0), v5.2))
     (ix v5.1 (w64 ((v5.1.length : Int) - 1)) fun x7 =>
     cond x7.Slow (some ((Interval.mk 0 0), 24)) (cond x7.Stops
     (some ((Interval.mk 0 0), 24))
     (bd (bowl_root x7.Energy.Lo) fun v10 =>
     bd (bowl_root x7.Energy.Hi) fun v11 =>
     cond (decide ((w64 (v11 * v11)) < x7.Energy.Hi))
     (some ((Interval.mk v10 (w64 (v11 + 1))), 0))
     (some ((Interval.mk v10 v11), 0))))))
def r01_Valid (a0 : Interval) : Option Bool :=
  cond (decide (a0.Lo ≤ a0.Hi)) (cond (decide ((-1000000000000) ≤ a0.Lo)) (some (decide (a0.Hi ≤ 1000000000000))) (some false)) (some false)
def r20_targets (a0 : (List Int)) : Option Bool :=
  lp (fun (z1 : Int) k3 =>
     cond (decide (z1 < (a0.length : Int)))
     (ix a0 z1 fun x6 =>
     cond (decide (x6 < (-1))) (some false) (ix a0 z1 fun x8 =>
     cond (decide (20000 < x8))
     (some false)
     (k3 (w64 (z1 + 1)))))
     (some true)) big 0
def r20_Motion (a0 : (List Piece)) (a1 : Motion) : Option Int :=
  bd (r01_Valid a1.Speed) fun v2 =>
     cond (!v2) (some 1) (cond (decide ((a1.Class.length : Int) ≠ (a0.length : Int))) (some 1) (bd (r20_Retarders a0) fun v3 =>
     cond (decide ((a1.Targets.length : Int) ≠ v3))
     (some 1)
     (jp (fun (z4 : Unit) =>
     jp (fun (z8 : Bool) =>
     lp (fun (z12 : (Bool × Int)) k14 =>
     cond (decide (z12.2 < (a1.Class.length : Int)))
     (cond z12.1 (ix a1.Class z12.2 fun x17 =>
     cond (decide ((-5000) ≤ x17.Lo)) (ix a1.Class z12.2 fun x19 =>
     k14 (decide (x19.Hi ≤ 10000), w64 (z12.2 + 1))) (k14 (false, w64 (z12.2 + 1)))) (k14 (false, w64 (z12.2 + 1))))
     (cond (!z12.1)
     (some 2)
     (some 0))) big (z8, 0)) fun k10 =>
     cond (decide (0 ≤ a1.Speed.Lo)) (cond (decide (a1.Speed.Hi ≤ 20000)) (cond (decide (0 ≤ a1.Error)) (cond (decide (a1.Error ≤ 1000)) (bd (r20_targets a1.Targets) fun v21 =>
     k10 v21) (k10 false)) (k10 false)) (k10 false)) (k10 false)) fun k6 =>
     lp (fun (z22 : Int) k24 =>
     cond (decide (z22 < (a1.Class.length : Int)))
     (ix a1.Class z22 fun x27 =>
     bd (r01_Valid x27) fun v29 =>
     cond (!v29)
     (some 1)
     (k24 (w64 (z22 + 1))))
     (k6 ())) big 0)))
def r20_gain (a0 : Piece) (a1 : Int) : Option Int :=
  vl (w64 (19620 * (w64 (a0.Grade - a1)))) fun x2 =>
     some (w64 (x2 * a0.Length))
def r01_Down (a0 : Int) (a1 : Int) : Option Int :=
  ck (decide (a1 ≠ 0)) <|
     ck (decide (a1 ≠ 0)) <|
     cond (decide ((Int.tmod a0 a1) ≠ 0)) (cond (!((decide ((Int.tmod a0 a1) < 0)) == (decide (a1 < 0))))
     (vl (w64 ((w64 (Int.tdiv a0 a1)) - 1)) fun x3 =>
     some x3)
     (some (w64 (Int.tdiv a0 a1)))) (some (w64 (Int.tdiv a0 a1)))
def r01_Up (a0 : Int) (a1 : Int) : Option Int :=
  ck (decide (a1 ≠ 0)) <|
     ck (decide (a1 ≠ 0)) <|
     cond (decide ((Int.tmod a0 a1) ≠ 0)) (cond ((decide ((Int.tmod a0 a1) < 0)) == (decide (a1 < 0)))
     (vl (w64 ((w64 (Int.tdiv a0 a1)) + 1)) fun x3 =>
     some x3)
     (some (w64 (Int.tdiv a0 a1)))) (some (w64 (Int.tdiv a0 a1)))
def r01_RootDown (a0 : Int) : Option Int :=
  lp (fun (z1 : (Int × Int)) k3 =>
     cond (decide (z1.1 < z1.2))
     (vl (w64 (Int.tdiv (w64 ((w64 (z1.1 + z1.2)) + 1)) 2)) fun x6 =>
     cond (decide ((w64 (x6 * x6)) ≤ a0))
     (k3 (x6, z1.2))
     (k3 (z1.1, w64 (x6 - 1))))
     (some z1.1)) big (0, 1073741824)
def r01_RootUp (a0 : Int) : Option Int :=
  bd (r01_RootDown a0) fun v1 =>
     cond (decide ((w64 (v1 * v1)) < a0))
     (some (w64 (v1 + 1)))
     (some v1)
def r20_step (a0 : Passage) (a1 : Piece) (a2 : Interval) : Option Passage :=
  bd (r20_gain a1 a2.Hi) fun v5 =>
     bd (r01_Down v5 100000) fun v6 =>
     bd (r20_gain a1 a2.Lo) fun v7 =>
     bd (r01_Up v7 100000) fun v8 =>
     cond (decide ((w64 (a0.Energy.Hi + v8)) < 0))
     (some (Passage.mk (Interval.mk 0 0) (Interval.mk 0 0) false true))
     (bd (r01_RootUp a0.Energy.Hi) fun v9 =>
     bd (r01_RootUp (w64 (a0.Energy.Hi + v8))) fun v10 =>
     cond (decide ((w64 (v9 + v10)) = 0))
     (some (Passage.mk (Interval.mk 0 0) (Interval.mk 0 0) false true))
     (jp (fun (z11 : Bool) =>
     vl (max (w64 (a0.Energy.Lo + v6)) 0) fun x15 =>
     bd (r01_RootDown a0.Energy.Lo) fun v16 =>
     bd (r01_RootDown x15) fun v17 =>
     jp (fun (z18 : Bool) =>
     ck (decide ((w64 (v9 + v10)) ≠ 0)) <|
     vl (w64 (Int.tdiv (w64 (2000 * a1.Length)) (w64 (v9 + v10)))) fun x23 =>
     vl (min 1000000000 (w64 (a0.Time.Lo + x23))) fun x24 =>
     cond (!z18)
     (bd (r01_Up (w64 (2000 * a1.Length)) (w64 (v16 + v17))) fun v25 =>
     vl (min 1000000000 (w64 (a0.Time.Hi + v25))) fun x26 =>
     some (Passage.mk (Interval.mk x24 x26) (Interval.mk x15 (w64 (a0.Energy.Hi + v8))) z18 false))
     (some (Passage.mk (Interval.mk x24 1000000000) (Interval.mk x15 (w64 (a0.Energy.Hi + v8))) z18 false))) fun k20 =>
     cond z11 (k20 true) (k20 (decide ((w64 (v16 + v17)) = 0)))) fun k13 =>
     cond a0.Slow (k13 true) (k13 (decide ((w64 (a0.Energy.Lo + v6)) < 0)))))
def r20_brake (a0 : Interval) (a1 : Int) (a2 : Int) (a3 : Int) : Option Interval :=
  vl (w64 ((max 0 (w64 (a2 - a3))) * (max 0 (w64 (a2 - a3))))) fun x3 =>
     vl (w64 ((w64 (a2 + a3)) * (w64 (a2 + a3)))) fun x4 =>
     vl (max (min a0.Hi x4) (w64 (a0.Hi - a1))) fun x5 =>
     some (Interval.mk (min a0.Lo x3) x5)
def r20_Pass (a0 : (List Piece)) (a1 : Motion) : Option ((List Passage) × Int) :=
  bd (r20_Valid a0) fun v2 =>
     cond (decide (v2 ≠ 0))
     (some (([] : List Passage), v2))
     (bd (r20_Motion a0 a1) fun v3 =>
     cond (decide (v3 ≠ 0))
     (some (([] : List Passage), v3))
     (vl (w64 (a1.Speed.Lo * a1.Speed.Lo)) fun x4 =>
     vl (w64 (a1.Speed.Hi * a1.Speed.Hi)) fun x5 =>
     lp (fun (z8 : (Int × Int × Int × Int × Bool × Bool × (List Passage) × Int × Int)) k10 =>
     cond (decide (z8.2.2.2.2.2.2.2.2 < (a0.length : Int)))
     (jp (fun (z13 : (Int × Int × Int × Int × Bool × Bool)) =>
     ix a0 z8.2.2.2.2.2.2.2.2 fun x17 =>
     cond (decide (0 < x17.Power))
     (jp (fun (z19 : Bool) =>
     cond z19
     (ix a0 z8.2.2.2.2.2.2.2.2 fun x23 =>
     ix a1.Targets z8.2.2.2.2.2.2.2.1 fun x25 =>
     bd (r20_brake (Interval.mk z13.2.2.1 z13.2.2.2.1) x23.Power x25 a1.Error) fun v27 =>
     ck (decide (z8.2.2.2.2.2.2.1.length + ([(Passage.mk (Interval.mk z13.1 z13.2.1) v27 z13.2.2.2.2.1 z13.2.2.2.2.2)] : List Passage).length ≤ 1000000000)) <|
     vl (z8.2.2.2.2.2.2.1 ++ ([(Passage.mk (Interval.mk z13.1 z13.2.1) v27 z13.2.2.2.2.1 z13.2.2.2.2.2)] : List Passage)) fun y29 =>
     k10 (z13.1, z13.2.1, v27.Lo, v27.Hi, z13.2.2.2.2.1, z13.2.2.2.2.2, y29, w64 (z8.2.2.2.2.2.2.2.1 + 1), w64 (z8.2.2.2.2.2.2.2.2 + 1)))
     (ck (decide (z8.2.2.2.2.2.2.1.length + ([(Passage.mk (Interval.mk z13.1 z13.2.1) (Interval.mk z13.2.2.1 z13.2.2.2.1) z13.2.2.2.2.1 z13.2.2.2.2.2)] : List Passage).length ≤ 1000000000)) <|
     vl (z8.2.2.2.2.2.2.1 ++ ([(Passage.mk (Interval.mk z13.1 z13.2.1) (Interval.mk z13.2.2.1 z13.2.2.2.1) z13.2.2.2.2.1 z13.2.2.2.2.2)] : List Passage)) fun y32 =>
     k10 (z13.1, z13.2.1, z13.2.2.1, z13.2.2.2.1, z13.2.2.2.2.1, z13.2.2.2.2.2, y32, w64 (z8.2.2.2.2.2.2.2.1 + 1), w64 (z8.2.2.2.2.2.2.2.2 + 1)))) fun k21 =>
     cond (!z13.2.2.2.2.2) (ix a1.Targets z8.2.2.2.2.2.2.2.1 fun x34 =>
     k21 (decide (0 ≤ x34))) (k21 false))
     (ck (decide (z8.2.2.2.2.2.2.1.length + ([(Passage.mk (Interval.mk z13.1 z13.2.1) (Interval.mk z13.2.2.1 z13.2.2.2.1) z13.2.2.2.2.1 z13.2.2.2.2.2)] : List Passage).length ≤ 1000000000)) <|
     vl (z8.2.2.2.2.2.2.1 ++ ([(Passage.mk (Interval.mk z13.1 z13.2.1) (Interval.mk z13.2.2.1 z13.2.2.2.1) z13.2.2.2.2.1 z13.2.2.2.2.2)] : List Passage)) fun y37 =>
     k10 (z13.1, z13.2.1, z13.2.2.1, z13.2.2.2.1, z13.2.2.2.2.1, z13.2.2.2.2.2, y37, z8.2.2.2.2.2.2.2.1, w64 (z8.2.2.2.2.2.2.2.2 + 1)))) fun k15 =>
     cond (!z8.2.2.2.2.2.1)
     (ix a0 z8.2.2.2.2.2.2.2.2 fun x39 =>
     ix a1.Class z8.2.2.2.2.2.2.2.2 fun x41 =>
     bd (r20_step (Passage.mk (Interval.mk z8.1 z8.2.1) (Interval.mk z8.2.2.1 z8.2.2.2.1) z8.2.2.2.2.1 z8.2.2.2.2.2.1) x39 x41) fun v43 =>
     k15 (v43.Time.Lo, v43.Time.Hi, v43.Energy.Lo, v43.Energy.Hi, v43.Slow, v43.Stops))
     (k15 (z8.1, z8.2.1, z8.2.2.1, z8.2.2.2.1, z8.2.2.2.2.1, z8.2.2.2.2.2.1)))
     (some (z8.2.2.2.2.2.2.1, 0))) big (0, 0, x4, x5, false, false, ([(Passage.mk (Interval.mk 0 0) (Interval.mk x4 x5) false false)] : List Passage), 0, 0)))
def r32_Coupling (a0 : (List Piece)) (a1 : Motion) (a2 : Int) : Option (Interval × Int) :=
  bd (r32_Shorten a0 a2) fun v3 =>
     cond (decide (v3.2 ≠ 0))
     (some ((Interval.mk 0 0), v3.2))
     (bd (r20_Pass v3.1 a1) fun v5 =>
     cond (decide (v5.2 ≠ 0))
     (some ((Interval.mk 0 0), v5.2))
     (ix v5.1 (w64 ((v5.1.length : Int) - 1)) fun x7 =>
     cond x7.Slow (some ((Interval.mk 0 0), 24)) (cond x7.Stops
     (some ((Interval.mk 0 0), 24))
     (bd (r01_RootDown x7.Energy.Lo) fun v10 =>
     bd (r01_RootUp x7.Energy.Hi) fun v11 =>
     some ((Interval.mk v10 v11), 0)))))
def gen_Pieces (a0 : (List Piece)) (a1 : (List Piece)) : Option Bool :=
  cond (decide ((a0.length : Int) ≠ (a1.length : Int)))
     (some false)
     (lp (fun (z1 : Int) k3 =>
     cond (decide (z1 < (a0.length : Int)))
     (ix a0 z1 fun x6 =>
     ix a1 z1 fun x8 =>
     cond (decide (¬ (x6.Element = x8.Element ∧ x6.Length = x8.Length ∧ x6.Grade = x8.Grade ∧ x6.Curve = x8.Curve ∧ x6.Power = x8.Power)))
     (some false)
     (k3 (w64 (z1 + 1))))
     (some true)) big 0)
def law32_rolls (a0 : (List Piece)) (a1 : Motion) (a2 : Int) : Option Bool :=
  bd (bowl_Shorten a0 a2) fun v2 =>
     bd (r32_Shorten a0 a2) fun v4 =>
     bd (bowl_Coupling a0 a1 a2) fun v6 =>
     bd (r32_Coupling a0 a1 a2) fun v8 =>
     bd (gen_Pieces v2.1 v4.1) fun v10 =>
     cond v10 (cond (decide (v2.2 = v4.2)) (cond (decide (v6.1.Lo = v8.1.Lo ∧ v6.1.Hi = v8.1.Hi)) (some (decide (v6.2 = v8.2))) (some false)) (some false)) (some false)
def law32_sane  : Option Bool :=
  bd (bowl_Arrive (Stand.mk 500 ([3] : List Int) ([200] : List Int)) ([4, 1] : List Int) ([200, 150] : List Int)) fun v5 =>
     bd (bowl_Leave v5.1 3) fun v8 =>
     bd (bowl_Coupling ([(Piece.mk 1 90000 1000 0 0)] : List Piece) (Motion.mk (Interval.mk 1000 1000) ([(Interval.mk 0 0)] : List Interval) 0 ([] : List Int)) 10000) fun v13 =>
     cond (decide (v5.2.2 = 0)) (cond (decide (v5.2.1 = 1)) (bd (bowl_Free v5.1) fun v15 =>
     cond (decide (v15 = (-50))) (cond (decide (v8.2.2 = 0)) (cond (decide ((v8.1.Wagons.length : Int) = 0)) (cond (decide (v8.1.Room = 500)) (bd (gen_Ints v8.2.1 ([3, 4, 1] : List Int)) fun v17 =>
     cond v17 (cond (decide (v13.2 = 0)) (some (decide (v13.1.Lo = 1721 ∧ v13.1.Hi = 1722))) (some false)) (some false)) (some false)) (some false)) (some false)) (some false)) (some false)) (some false)
def law32_BowlExact (a0 : (List Int)) (a1 : Stand) (a2 : (List Int)) (a3 : (List Int)) (a4 : Int) : Option Bool :=
  bd (gen_New a0) fun v2 =>
     jp (fun (z4 : Unit) =>
     cond (decide (200 < (a2.length : Int))) (some true) (cond (decide (200 < (a3.length : Int))) (some true) (cond (decide (200 < (a1.Wagons.length : Int))) (some true) (cond (decide (200 < (a1.Lengths.length : Int))) (some true) (bd (law32_exact a1 a2 a3 a4) fun v8 =>
     cond v8 (bd (law32_sane) fun v9 =>
     some v9) (some false)))))) fun k6 =>
     lp (fun (z10 : (Int × Int)) k12 =>
     cond (decide (z10.2 < 3))
     (bd (law32_stand (HumpgenMaker.mk a0 z10.1)) fun v15 =>
     bd (law32_more (HumpgenMaker.mk a0 v15.2)) fun v18 =>
     jp (fun (z20 : (Int × (List Int) × (List Int))) =>
     jp (fun (z24 : (Int × Int × (List Int) × (List Int))) =>
     bd (gen_Maker_Pieces (HumpgenMaker.mk a0 z24.1) 5) fun v28 =>
     bd (gen_Maker_Motion (HumpgenMaker.mk a0 v28.2) v28.1) fun v30 =>
     bd (gen_Maker_Next (HumpgenMaker.mk a0 v30.2) 11) fun v33 =>
     bd (law32_exact (Stand.mk z24.2.1 z24.2.2.1 z24.2.2.2) z20.2.1 z20.2.2 (w64 (v33.1 - 1))) fun v35 =>
     cond (!v35) (some false) (bd (law32_exact (Stand.mk z24.2.1 z24.2.2.1 z24.2.2.2) a2 a3 a4) fun v36 =>
     cond (!v36) (some false) (ix v28.1 (w64 ((v28.1.length : Int) - 1)) fun x37 =>
     ix v28.1 (w64 ((v28.1.length : Int) - 1)) fun x39 =>
     bd (gen_Maker_Pick (HumpgenMaker.mk a0 v33.2) ([0, 1, 500, x37.Length, w64 (x39.Length + 1)] : List Int)) fun v42 =>
     bd (law32_rolls v28.1 v30.1 v42.1) fun v44 =>
     cond (!v44) (some false) (bd (law32_rolls v28.1 v30.1 a4) fun v45 =>
     cond (!v45)
     (some false)
     (k12 (v42.2, w64 (z10.2 + 1))))))) fun k26 =>
     cond (decide (z10.2 = 2))
     (bd (gen_Maker_Pick (HumpgenMaker.mk a0 z20.1) ([(-1), 100001, 500] : List Int)) fun v47 =>
     bd (gen_Maker_Pick (HumpgenMaker.mk a0 v47.2) ([0, 1, 401] : List Int)) fun v50 =>
     ck (decide (v15.1.Lengths.length + ([v50.1] : List Int).length ≤ 1000000000)) <|
     vl (v15.1.Lengths ++ ([v50.1] : List Int)) fun y53 =>
     bd (gen_Maker_Pick (HumpgenMaker.mk a0 v50.2) ([(-1), 0, 1, 2, 99] : List Int)) fun v56 =>
     ck (decide (v15.1.Wagons.length + ([v56.1] : List Int).length ≤ 1000000000)) <|
     vl (v15.1.Wagons ++ ([v56.1] : List Int)) fun y59 =>
     k26 (v56.2, v47.1, y59, y53))
     (k26 (z20.1, v15.1.Room, v15.1.Wagons, v15.1.Lengths))) fun k22 =>
     cond (decide (z10.2 = 1))
     (bd (gen_Maker_Pick (HumpgenMaker.mk a0 v18.2.2) ([(-1), 0, 1, 2, 100, 101, 102] : List Int)) fun v62 =>
     ck (decide (v18.1.length + ([v62.1] : List Int).length ≤ 1000000000)) <|
     vl (v18.1 ++ ([v62.1] : List Int)) fun y65 =>
     bd (gen_Maker_Pick (HumpgenMaker.mk a0 v62.2) ([0, 80, 400, 401] : List Int)) fun v68 =>
     ck (decide (v18.2.1.length + ([v68.1] : List Int).length ≤ 1000000000)) <|
     vl (v18.2.1 ++ ([v68.1] : List Int)) fun y71 =>
     k22 (v68.2, y65, y71))
     (k22 (v18.2.2, v18.1, v18.2.1)))
     (k6 ())) big (v2.fn, 0)
def yardgen_Place (a0 : Int) (a1 : Int) : Option Int :=
  cond (decide (a1 < 1))
     (some 0)
     (ck (decide (a1 ≠ 0)) <|
     cond (decide ((Int.tmod a0 a1) < 0))
     (some (w64 ((Int.tmod a0 a1) + a1)))
     (some (Int.tmod a0 a1)))
def gen_Maker_From (a0 : HumpgenMaker) (a1 : Int) (a2 : Int) : Option (Int × Int) :=
  bd (gen_Maker_Next a0 (w64 ((w64 (a2 - a1)) + 1))) fun v1 =>
     some (w64 (a1 + v1.1), v1.2)
def gen_Maker_Run (a0 : HumpgenMaker) (a1 : Motion) : Option (Run × Int) :=
  bd (gen_Maker_From a0 a1.Speed.Lo a1.Speed.Hi) fun v3 =>
     jp (fun (z6 : ((List Int) × Int)) =>
     lp (fun (z10 : ((List Int) × Int × Int)) k12 =>
     cond (decide (z10.2.1 < (a1.Targets.length : Int)))
     (ix a1.Targets z10.2.1 fun x15 =>
     jp (fun (z17 : (Int × Int)) =>
     ck (decide (z10.1.length + ([z17.1] : List Int).length ≤ 1000000000)) <|
     vl (z10.1 ++ ([z17.1] : List Int)) fun y22 =>
     k12 (y22, w64 (z10.2.1 + 1), z17.2)) fun k19 =>
     cond (decide (0 ≤ x15))
     (bd (gen_Maker_From (HumpgenMaker.mk a0.fl z10.2.2) (w64 (x15 - a1.Error)) (w64 (x15 + a1.Error))) fun v24 =>
     k19 (max 0 (min 20000 v24.1), v24.2))
     (k19 (x15, z10.2.2)))
     (some ((Run.mk v3.1 z6.1 z10.1), z10.2.2))) big (([] : List Int), 0, z6.2)) fun k8 =>
     lp (fun (z26 : ((List Int) × Int × Int)) k28 =>
     cond (decide (z26.2.1 < (a1.Class.length : Int)))
     (ix a1.Class z26.2.1 fun x31 =>
     ix a1.Class z26.2.1 fun x33 =>
     bd (gen_Maker_From (HumpgenMaker.mk a0.fl z26.2.2) x31.Lo x33.Hi) fun v35 =>
     ck (decide (z26.1.length + ([v35.1] : List Int).length ≤ 1000000000)) <|
     vl (z26.1 ++ ([v35.1] : List Int)) fun y38 =>
     k28 (y38, w64 (z26.2.1 + 1), v35.2))
     (k8 (z26.1, z26.2.2))) big (([] : List Int), 0, v3.2)
def r20_Point (a0 : (List Piece)) (a1 : Run) : Option ((List Moment) × Int × Int) :=
  bd (r20_Valid a0) fun v2 =>
     cond (decide (v2 ≠ 0))
     (some (([] : List Moment), 0, v2))
     (cond (decide ((a1.Resist.length : Int) ≠ (a0.length : Int))) (some (([] : List Moment), 0, 1)) (bd (r20_Retarders a0) fun v3 =>
     cond (decide ((a1.Targets.length : Int) ≠ v3))
     (some (([] : List Moment), 0, 1))
     (jp (fun (z4 : Bool) =>
     jp (fun (z8 : Bool) =>
     cond (!z8)
     (some (([] : List Moment), 0, 2))
     (lp (fun (z14 : (Int × Int × (List Moment) × Int × Int)) k16 =>
     cond (decide (z14.2.2.2.2 < (a0.length : Int)))
     (ix a0 z14.2.2.2.2 fun x19 =>
     ix a1.Resist z14.2.2.2.2 fun x21 =>
     bd (r20_gain x19 x21) fun v23 =>
     bd (r01_Down v23 100000) fun v24 =>
     cond (decide ((w64 (z14.2.1 + v24)) < 0))
     (some (z14.2.2.1, z14.2.2.2.2, 0))
     (bd (r01_RootDown z14.2.1) fun v25 =>
     bd (r01_RootDown (w64 (z14.2.1 + v24))) fun v26 =>
     cond (decide ((w64 (v25 + v26)) = 0))
     (some (z14.2.2.1, z14.2.2.2.2, 0))
     (ix a0 z14.2.2.2.2 fun x27 =>
     bd (r01_Up (w64 (2000 * x27.Length)) (w64 (v25 + v26))) fun v29 =>
     vl (min 1000000000 (w64 (z14.1 + v29))) fun x30 =>
     ix a0 z14.2.2.2.2 fun x31 =>
     cond (decide (0 < x31.Power))
     (ix a1.Targets z14.2.2.2.1 fun x33 =>
     cond (decide (0 ≤ x33))
     (vl (min (w64 (z14.2.1 + v24)) (w64 (x33 * x33))) fun x35 =>
     ix a0 z14.2.2.2.2 fun x36 =>
     vl (w64 ((w64 (z14.2.1 + v24)) - x36.Power)) fun x38 =>
     ck (decide (z14.2.2.1.length + ([(Moment.mk x30 (max x35 x38))] : List Moment).length ≤ 1000000000)) <|
     vl (z14.2.2.1 ++ ([(Moment.mk x30 (max x35 x38))] : List Moment)) fun y40 =>
     k16 (x30, max x35 x38, y40, w64 (z14.2.2.2.1 + 1), w64 (z14.2.2.2.2 + 1)))
     (ck (decide (z14.2.2.1.length + ([(Moment.mk x30 (w64 (z14.2.1 + v24)))] : List Moment).length ≤ 1000000000)) <|
     vl (z14.2.2.1 ++ ([(Moment.mk x30 (w64 (z14.2.1 + v24)))] : List Moment)) fun y43 =>
     k16 (x30, w64 (z14.2.1 + v24), y43, w64 (z14.2.2.2.1 + 1), w64 (z14.2.2.2.2 + 1))))
     (ck (decide (z14.2.2.1.length + ([(Moment.mk x30 (w64 (z14.2.1 + v24)))] : List Moment).length ≤ 1000000000)) <|
     vl (z14.2.2.1 ++ ([(Moment.mk x30 (w64 (z14.2.1 + v24)))] : List Moment)) fun y46 =>
     k16 (x30, w64 (z14.2.1 + v24), y46, z14.2.2.2.1, w64 (z14.2.2.2.2 + 1))))))
     (some (z14.2.2.1, (-1), 0))) big (0, w64 (a1.Speed * a1.Speed), ([(Moment.mk 0 (w64 (a1.Speed * a1.Speed)))] : List Moment), 0, 0))) fun k10 =>
     lp (fun (z48 : (Bool × Int)) k50 =>
     cond (decide (z48.2 < (a0.length : Int)))
     (cond z48.1 (ix a1.Resist z48.2 fun x53 =>
     cond (decide ((-5000) ≤ x53)) (ix a1.Resist z48.2 fun x55 =>
     k50 (decide (x55 ≤ 10000), w64 (z48.2 + 1))) (k50 (false, w64 (z48.2 + 1)))) (k50 (false, w64 (z48.2 + 1))))
     (k10 z48.1)) big (z4, 0)) fun k6 =>
     cond (decide (0 ≤ a1.Speed)) (cond (decide (a1.Speed ≤ 20000)) (bd (r20_targets a1.Targets) fun v57 =>
     k6 v57) (k6 false)) (k6 false))))
def law32_BowlCouples (a0 : (List Int)) (a1 : Int) : Option Bool :=
  bd (gen_New a0) fun v1 =>
     bd (gen_Maker_Pieces (HumpgenMaker.mk a0 v1.fn) 5) fun v3 =>
     ix v3.1 (w64 ((v3.1.length : Int) - 1)) fun x5 =>
     bd (yardgen_Place a1 x5.Length) fun v7 =>
     bd (gen_Maker_Motion (HumpgenMaker.mk a0 v3.2) v3.1) fun v8 =>
     bd (bowl_Coupling v3.1 v8.1 (w64 (1 + v7))) fun v11 =>
     bd (bowl_Shorten v3.1 (w64 (1 + v7))) fun v13 =>
     jp (fun (z15 : Bool) =>
     cond z15
     (cond (decide (v13.2 = 0)) (cond (decide (v11.2 = 24)) (bd (law32_sane) fun v19 =>
     some v19) (some false)) (some false))
     (lp (fun (z20 : (Int × Int)) k22 =>
     cond (decide (z20.2 < 3))
     (bd (gen_Maker_Run (HumpgenMaker.mk a0 z20.1) v8.1) fun v25 =>
     bd (r20_Point v13.1 v25.1) fun v27 =>
     cond (decide (v27.2.2 ≠ 0)) (some false) (cond (decide (v27.2.1 ≠ (-1))) (some false) (cond (decide ((v27.1.length : Int) ≠ (w64 ((v13.1.length : Int) + 1)))) (some false) (ix v27.1 (v13.1.length : Int) fun x29 =>
     bd (r01_RootDown x29.Energy) fun v31 =>
     cond (decide (v31 < v11.1.Lo)) (some false) (ix v27.1 (v13.1.length : Int) fun x32 =>
     bd (r01_RootUp x32.Energy) fun v34 =>
     cond (decide (v11.1.Hi < v34))
     (some false)
     (k22 (v25.2, w64 (z20.2 + 1))))))))
     (bd (law32_sane) fun v35 =>
     some v35)) big (v8.2, 0))) fun k17 =>
     cond (decide (v13.2 ≠ 0)) (k17 true) (k17 (decide (v11.2 ≠ 0)))
def law32_BowlRestores (a0 : (List Int)) : Option Bool :=
  bd (gen_New a0) fun v1 =>
     bd (law32_stand (HumpgenMaker.mk a0 v1.fn)) fun v3 =>
     bd (law32_more (HumpgenMaker.mk a0 v3.2)) fun v6 =>
     bd (bowl_Arrive v3.1 v6.1 v6.2.1) fun v8 =>
     bd (bowl_Leave v8.1 (v6.1.length : Int)) fun v11 =>
     jp (fun (z14 : Int) =>
     cond (decide (v8.2.2 = 0)) (cond (decide (v11.2.2 = 0)) (bd (yardgen_SameStands v11.1 v3.1) fun v18 =>
     cond v18 (bd (gen_Ints v11.2.1 v6.1) fun v19 =>
     cond v19 (ck (decide (([] : List Int).length + v3.1.Wagons.length ≤ 1000000000)) <|
     vl (([] : List Int) ++ v3.1.Wagons) fun y21 =>
     ck (decide (y21.length + v6.1.length ≤ 1000000000)) <|
     vl (y21 ++ v6.1) fun y23 =>
     bd (gen_Ints v8.1.Wagons y23) fun v25 =>
     cond v25 (bd (bowl_Free v8.1) fun v26 =>
     bd (bowl_Free v3.1) fun v27 =>
     cond (decide (v26 = (w64 (v27 - z14)))) (bd (law32_sane) fun v28 =>
     some v28) (some false)) (some false)) (some false)) (some false)) (some false)) (some false)) fun k16 =>
     lp (fun (z29 : (Int × Int)) k31 =>
     cond (decide (z29.2 < (v6.2.1.length : Int)))
     (ix v6.2.1 z29.2 fun x34 =>
     k31 (w64 (z29.1 + x34), w64 (z29.2 + 1)))
     (k16 z29.1)) big (0, 0)
def law32_BowlFouls (a0 : (List Int)) : Option Bool :=
  bd (gen_New a0) fun v1 =>
     bd (law32_stand (HumpgenMaker.mk a0 v1.fn)) fun v3 =>
     bd (law32_more (HumpgenMaker.mk a0 v3.2)) fun v6 =>
     bd (bowl_Arrive v3.1 v6.1 v6.2.1) fun v8 =>
     cond (decide (v8.2.2 ≠ 0)) (some false) (cond (decide (v8.2.1 < 0)) (some false) (cond (decide ((v8.1.Wagons.length : Int) < v8.2.1))
     (some false)
     (bd (bowl_Leave v8.1 v8.2.1) fun v11 =>
     cond (decide (v11.2.2 ≠ 0)) (some false) (bd (bowl_Free v11.1) fun v14 =>
     cond (decide (v14 < 0))
     (some false)
     (cond (decide (v8.2.1 = 0))
     (bd (bowl_Free v8.1) fun v15 =>
     cond (decide (0 ≤ v15)) (bd (law32_sane) fun v16 =>
     some v16) (some false))
     (bd (bowl_Leave v8.1 (w64 (v8.2.1 - 1))) fun v17 =>
     cond (decide (v17.2.2 = 0)) (bd (bowl_Free v17.1) fun v20 =>
     cond (decide (v20 < 0)) (bd (law32_sane) fun v21 =>
     some v21) (some false)) (some false)))))))
end Go.Hy
