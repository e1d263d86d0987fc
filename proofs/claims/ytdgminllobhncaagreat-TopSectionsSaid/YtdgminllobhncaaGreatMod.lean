/-
  Plain models of the program's functions. Printed by a program out of the translation.
-/
import Derived.Test.YtdgminllobhncaaGreatData
namespace Go.Hy
set_option linter.unusedVariables false
set_option linter.unusedSimpArgs false
set_option maxHeartbeats 2000000
set_option maxRecDepth 100000
def gen_New (a0 : (List Int)) : Option HumpgenMaker :=
  some (HumpgenMaker.mk a0 0)
def gen_Maker_Next (a0 : HumpgenMaker) (a1 : Int) : Option (Int × Int) :=
  jp (fun (z1 : Int) =>
     ck (decide (a1 ≠ 0)) <|
     cond (decide ((Int.tmod z1 a1) < 0))
     (some (w64 ((Int.tmod z1 a1) + a1), w64 (a0.fn + 1)))
     (some (Int.tmod z1 a1, w64 (a0.fn + 1)))) fun k3 =>
     cond (decide (0 < (a0.fl.length : Int)))
     (ck (decide ((a0.fl.length : Int) ≠ 0)) <|
     vl (Int.tmod a0.fn (a0.fl.length : Int)) fun x7 =>
     ix a0.fl x7 fun x8 =>
     ck (decide ((a0.fl.length : Int) ≠ 0)) <|
     vl (w64 (Int.tdiv a0.fn (a0.fl.length : Int))) fun x11 =>
     k3 (w64 (x8 + (w64 (x11 * 7919)))))
     (k3 0)
def gen_Maker_Pick (a0 : HumpgenMaker) (a1 : (List Int)) : Option (Int × Int) :=
  bd (gen_Maker_Next a0 (a1.length : Int)) fun v1 =>
     ix a1 v1.1 fun x3 =>
     some (x3, v1.2)
def gen_Maker_Pieces (a0 : HumpgenMaker) (a1 : Int) : Option ((List Piece) × Int) :=
  bd (gen_Maker_Next a0 a1) fun v1 =>
     lp (fun (z3 : ((List Piece) × Int × Int)) k5 =>
     cond (decide (0 < z3.2.1))
     (bd (gen_Maker_Pick (HumpgenMaker.mk a0.fl z3.2.2) ([1, 1000, 5000, 9000, 30000, 100000] : List Int)) fun v9 =>
     bd (gen_Maker_Pick (HumpgenMaker.mk a0.fl v9.2) ([0, 100, (-150), 400, 1000, 3500, 5000] : List Int)) fun v12 =>
     bd (gen_Maker_Pick (HumpgenMaker.mk a0.fl v12.2) ([0, 0, 20, 150] : List Int)) fun v15 =>
     bd (gen_Maker_Next (HumpgenMaker.mk a0.fl v15.2) 4) fun v18 =>
     cond (decide (v18.1 = 0))
     (bd (gen_Maker_Pick (HumpgenMaker.mk a0.fl v18.2) ([1, 500000, 2000000, 8000000, 30000000] : List Int)) fun v21 =>
     ck (decide (z3.1.length + ([(Piece.mk (w64 ((z3.1.length : Int) + 1)) v9.1 v12.1 v15.1 v21.1)] : List Piece).length ≤ 1000000000)) <|
     vl (z3.1 ++ ([(Piece.mk (w64 ((z3.1.length : Int) + 1)) v9.1 v12.1 v15.1 v21.1)] : List Piece)) fun y24 =>
     k5 (y24, w64 (z3.2.1 - 1), v21.2))
     (ck (decide (z3.1.length + ([(Piece.mk (w64 ((z3.1.length : Int) + 1)) v9.1 v12.1 v15.1 0)] : List Piece).length ≤ 1000000000)) <|
     vl (z3.1 ++ ([(Piece.mk (w64 ((z3.1.length : Int) + 1)) v9.1 v12.1 v15.1 0)] : List Piece)) fun y27 =>
     k5 (y27, w64 (z3.2.1 - 1), v18.2)))
     (some (z3.1, z3.2.2))) big (([] : List Piece), w64 (1 + v1.1), v1.2)
def r20_Retarders (a0 : (List Piece)) : Option Int :=
  lp (fun (z1 : (Int × Int)) k3 =>
     cond (decide (z1.2 < (a0.length : Int)))
     (ix a0 z1.2 fun x6 =>
     cond (decide (0 < x6.Power))
     (k3 (w64 (z1.1 + 1), w64 (z1.2 + 1)))
     (k3 (z1.1, w64 (z1.2 + 1))))
     (some z1.1)) big (0, 0)
def gen_Maker_Motion (a0 : HumpgenMaker) (a1 : (List Piece)) : Option (Motion × Int) :=
  bd (gen_Maker_Pick a0 ([0, 500, 1200, 1400, 2000] : List Int)) fun v3 =>
     bd (gen_Maker_Pick (HumpgenMaker.mk a0.fl v3.2) ([0, 10, 100] : List Int)) fun v6 =>
     bd (gen_Maker_Pick (HumpgenMaker.mk a0.fl v6.2) ([0, 20, 100] : List Int)) fun v9 =>
     bd (gen_Maker_Pick (HumpgenMaker.mk a0.fl v9.2) ([0, 10, 20, 60] : List Int)) fun v13 =>
     bd (gen_Maker_Pick (HumpgenMaker.mk a0.fl v13.2) ([0, 5, 30, 150] : List Int)) fun v16 =>
     jp (fun (z18 : (List Interval)) =>
     bd (r20_Retarders a1) fun v22 =>
     lp (fun (z23 : ((List Int) × Int × Int)) k25 =>
     cond (decide (0 < z23.2.1))
     (bd (gen_Maker_Pick (HumpgenMaker.mk a0.fl z23.2.2) ([(-1), 0, 800, 1200, 3000, 5000] : List Int)) fun v29 =>
     ck (decide (z23.1.length + ([v29.1] : List Int).length ≤ 1000000000)) <|
     vl (z23.1 ++ ([v29.1] : List Int)) fun y32 =>
     k25 (y32, w64 (z23.2.1 - 1), v29.2))
     (some ((Motion.mk (Interval.mk v3.1 (w64 (v3.1 + v6.1))) z18 v9.1 z23.1), z23.2.2))) big (([] : List Int), v22, v16.2)) fun k20 =>
     lp (fun (z34 : ((List Interval) × Int)) k36 =>
     cond (decide (z34.2 < (a1.length : Int)))
     (ix a1 z34.2 fun x39 =>
     ix a1 z34.2 fun x41 =>
     vl (w64 ((w64 (v13.1 + v16.1)) + x41.Curve)) fun x43 =>
     ck (decide (z34.1.length + ([(Interval.mk (w64 (v13.1 + x39.Curve)) x43)] : List Interval).length ≤ 1000000000)) <|
     vl (z34.1 ++ ([(Interval.mk (w64 (v13.1 + x39.Curve)) x43)] : List Interval)) fun y45 =>
     k36 (y45, w64 (z34.2 + 1)))
     (k20 z34.1)) big (([] : List Interval), 0)
def gen_Maker_From (a0 : HumpgenMaker) (a1 : Int) (a2 : Int) : Option (Int × Int) :=
  bd (gen_Maker_Next a0 (w64 ((w64 (a2 - a1)) + 1))) fun v1 =>
     some (w64 (a1 + v1.1), v1.2)
def gen_Maker_Run (a0 : HumpgenMaker) (a1 : Motion) : Option (Run × Int) :=
  bd (gen_Maker_From a0 a1.Speed.Lo a1.Speed.Hi) fun v3 =>
     jp (fun (z6 : ((List Int) × Int)) =>
     lp (fun (z10 : ((List Int) × Int × Int)) k12 =>
     cond (decide (z10.2.1 < (a1.Targets.length : Int)))
     (ix a1.Targets z10.2.1 fun x15 =>
     jp (fun (z17 : (Int × Int)) =>
     ck (decide (z10.1.length + ([z17.1] : List Int).length ≤ 1000000000)) <|
     vl (z10.1 ++ ([z17.1] : List Int)) fun y22 =>
     k12 (y22, w64 (z10.2.1 + 1), z17.2)) fun k19 =>
     cond (decide (0 ≤ x15))
     (bd (gen_Maker_From (HumpgenMaker.mk a0.fl z10.2.2) (w64 (x15 - a1.Error)) (w64 (x15 + a1.Error))) fun v24 =>
     k19 (max 0 (min 20000 v24.1), v24.2))
     (k19 (x15, z10.2.2)))
     (some ((Run.mk v3.1 z6.1 z10.1), z10.2.2))) big (([] : List Int), 0, z6.2)) fun k8 =>
     lp (fun (z26 : ((List Int) × Int × Int)) k28 =>
     cond (decide (z26.2.1 < (a1.Class.length : Int)))
     (ix a1.Class z26.2.1 fun x31 =>
     ix a1.Class z26.2.1 fun x33 =>
     bd (gen_Maker_From (HumpgenMaker.mk a0.fl z26.2.2) x31.Lo x33.Hi) fun v35 =>
     ck (decide (z26.1.length + ([v35.1] : List Int).length ≤ 1000000000)) <|
     vl (z26.1 ++ ([v35.1] : List Int)) fun y38 =>
     k28 (y38, w64 (z26.2.1 + 1), v35.2))
     (k8 (z26.1, z26.2.2))) big (([] : List Int), 0, v3.2)
def runoff_in (a0 : Int) (a1 : Int) (a2 : Int) : Option Bool :=
  cond (decide (a1 ≤ a0)) (some (decide (a0 ≤ a2))) (some false)
def runoff_Valid (a0 : (List Piece)) : Option Int :=
  cond (decide ((a0.length : Int) < 1)) (some 3) (cond (decide (128 < (a0.length : Int)))
     (some 3)
     (lp (fun (z1 : Int) k3 =>
     cond (decide (z1 < (a0.length : Int)))
     (ix a0 z1 fun x6 =>
     bd (runoff_in x6.Element 0 127) fun v9 =>
     cond (!v9) (some 1) (bd (runoff_in x6.Length 1 1000000) fun v10 =>
     cond (!v10) (some 1) (bd (runoff_in x6.Grade (-10000) 10000) fun v11 =>
     cond (!v11) (some 1) (bd (runoff_in x6.Curve 0 5000) fun v12 =>
     cond (!v12) (some 1) (bd (runoff_in x6.Power 0 1000000000) fun v13 =>
     cond (!v13)
     (some 1)
     (k3 (w64 (z1 + 1))))))))
     (some 0)) big 0))
def runoff_retarders (a0 : (List Piece)) : Option Int :=
  lp (fun (z1 : (Int × Int)) k3 =>
     cond (decide (z1.2 < (a0.length : Int)))
     (ix a0 z1.2 fun x6 =>
     cond (decide (0 < x6.Power))
     (k3 (w64 (z1.1 + 1), w64 (z1.2 + 1)))
     (k3 (z1.1, w64 (z1.2 + 1))))
     (some z1.1)) big (0, 0)
def runoff_targets (a0 : (List Int)) : Option Bool :=
  lp (fun (z1 : Int) k3 =>
     cond (decide (z1 < (a0.length : Int)))
     (ix a0 z1 fun x6 =>
     bd (runoff_in x6 (-1) 20000) fun v8 =>
     cond (!v8)
     (some false)
     (k3 (w64 (z1 + 1))))
     (some true)) big 0
def interval_inside (a0 : Int) : Option Bool :=
  cond (decide ((-1000000000000) ≤ a0)) (some (decide (a0 ≤ 1000000000000))) (some false)
def interval_Valid (a0 : Interval) : Option Bool :=
  cond (decide (a0.Lo ≤ a0.Hi)) (bd (interval_inside a0.Lo) fun v2 =>
     cond v2 (bd (interval_inside a0.Hi) fun v3 =>
     some v3) (some false)) (some false)
def interval_root (a0 : Int) : Option Int :=
  lp (fun (z1 : (Int × Int)) k3 =>
     cond (decide (1 < (w64 (z1.2 - z1.1))))
     (vl (w64 (Int.tdiv (w64 (z1.1 + z1.2)) 2)) fun x6 =>
     cond (decide ((w64 (x6 * x6)) ≤ a0))
     (k3 (x6, z1.2))
     (k3 (z1.1, x6)))
     (some z1.1)) big (0, 1000001)
def interval_Root (a0 : Interval) : Option (Interval × Int) :=
  bd (interval_Valid a0) fun v3 =>
     cond (!v3)
     (some ((Interval.mk 0 0), 1))
     (cond (decide (a0.Lo < 0))
     (some ((Interval.mk 0 0), 2))
     (bd (interval_root a0.Hi) fun v4 =>
     jp (fun (z5 : Int) =>
     bd (interval_root a0.Lo) fun v9 =>
     some ((Interval.mk v9 z5), 0)) fun k7 =>
     cond (decide ((w64 (v4 * v4)) < a0.Hi))
     (k7 (w64 (v4 + 1)))
     (k7 v4)))
def runoff_roots (a0 : Int) : Option (Int × Int) :=
  bd (interval_Root (Interval.mk a0 a0)) fun v1 =>
     some (v1.1.Lo, v1.1.Hi)
def interval_down (a0 : Int) (a1 : Int) : Option Int :=
  ck (decide (a1 ≠ 0)) <|
     ck (decide (a1 ≠ 0)) <|
     cond (decide ((Int.tmod a0 a1) ≠ 0)) (cond (!((decide ((Int.tmod a0 a1) < 0)) == (decide (a1 < 0))))
     (vl (w64 ((w64 (Int.tdiv a0 a1)) - 1)) fun x3 =>
     some x3)
     (some (w64 (Int.tdiv a0 a1)))) (some (w64 (Int.tdiv a0 a1)))
def interval_Floor (a0 : Int) (a1 : Int) : Option (Int × Int) :=
  cond (decide (a1 = 0))
     (some (0, 5))
     (bd (interval_down a0 a1) fun v1 =>
     bd (interval_inside v1) fun v2 =>
     cond v2
     (some (v1, 0))
     (some (0, 4)))
def interval_up (a0 : Int) (a1 : Int) : Option Int :=
  ck (decide (a1 ≠ 0)) <|
     ck (decide (a1 ≠ 0)) <|
     cond (decide ((Int.tmod a0 a1) ≠ 0)) (cond ((decide ((Int.tmod a0 a1) < 0)) == (decide (a1 < 0)))
     (vl (w64 ((w64 (Int.tdiv a0 a1)) + 1)) fun x3 =>
     some x3)
     (some (w64 (Int.tdiv a0 a1)))) (some (w64 (Int.tdiv a0 a1)))
def interval_Ceil (a0 : Int) (a1 : Int) : Option (Int × Int) :=
  cond (decide (a1 = 0))
     (some (0, 5))
     (bd (interval_up a0 a1) fun v1 =>
     bd (interval_inside v1) fun v2 =>
     cond v2
     (some (v1, 0))
     (some (0, 4)))
def runoff_gain (a0 : Piece) (a1 : Int) : Option (Int × Int) :=
  vl (w64 (19620 * (w64 (a0.Grade - a1)))) fun x2 =>
     bd (interval_Floor (w64 (x2 * a0.Length)) 100000) fun v3 =>
     bd (interval_Ceil (w64 (x2 * a0.Length)) 100000) fun v4 =>
     some (v3.1, v4.1)
def runoff_Point (a0 : (List Piece)) (a1 : Run) : Option ((List Moment) × Int × Int) :=
  bd (runoff_Valid a0) fun v2 =>
     cond (decide (v2 ≠ 0))
     (some (([] : List Moment), 0, v2))
     (cond (decide ((a1.Resist.length : Int) ≠ (a0.length : Int))) (some (([] : List Moment), 0, 1)) (bd (runoff_retarders a0) fun v3 =>
     cond (decide ((a1.Targets.length : Int) ≠ v3))
     (some (([] : List Moment), 0, 1))
     (jp (fun (z4 : Unit) =>
     bd (runoff_in a1.Speed 0 20000) fun v8 =>
     cond (!v8) (some (([] : List Moment), 0, 2)) (bd (runoff_targets a1.Targets) fun v9 =>
     cond (!v9)
     (some (([] : List Moment), 0, 2))
     (lp (fun (z12 : (Int × Int × (List Moment) × Int × Int)) k14 =>
     cond (decide (z12.2.2.2.2 < (a0.length : Int)))
     (ix a0 z12.2.2.2.2 fun x17 =>
     bd (runoff_roots z12.2.1) fun v20 =>
     ix a1.Resist z12.2.2.2.2 fun x21 =>
     bd (runoff_gain x17 x21) fun v23 =>
     cond (decide ((w64 (z12.2.1 + v23.1)) < 0))
     (some (z12.2.2.1, z12.2.2.2.2, 0))
     (bd (runoff_roots (w64 (z12.2.1 + v23.1))) fun v24 =>
     cond (decide ((w64 (v20.1 + v24.1)) = 0))
     (some (z12.2.2.1, z12.2.2.2.2, 0))
     (vl (w64 ((w64 (2000 * x17.Length)) + v20.1)) fun x25 =>
     ck (decide ((w64 (v20.1 + v24.1)) ≠ 0)) <|
     vl (w64 (Int.tdiv (w64 ((w64 (x25 + v24.1)) - 1)) (w64 (v20.1 + v24.1)))) fun x27 =>
     vl (min (w64 (z12.1 + x27)) 1000000000) fun x28 =>
     cond (decide (0 < x17.Power))
     (ix a1.Targets z12.2.2.2.1 fun x29 =>
     cond (decide (0 ≤ x29))
     (vl (min (w64 (z12.2.1 + v23.1)) (w64 (x29 * x29))) fun x31 =>
     vl (w64 ((w64 (z12.2.1 + v23.1)) - x17.Power)) fun x32 =>
     ck (decide (z12.2.2.1.length + ([(Moment.mk x28 (max x31 x32))] : List Moment).length ≤ 1000000000)) <|
     vl (z12.2.2.1 ++ ([(Moment.mk x28 (max x31 x32))] : List Moment)) fun y34 =>
     k14 (x28, max x31 x32, y34, w64 (z12.2.2.2.1 + 1), w64 (z12.2.2.2.2 + 1)))
     (ck (decide (z12.2.2.1.length + ([(Moment.mk x28 (w64 (z12.2.1 + v23.1)))] : List Moment).length ≤ 1000000000)) <|
     vl (z12.2.2.1 ++ ([(Moment.mk x28 (w64 (z12.2.1 + v23.1)))] : List Moment)) fun y37 =>
     k14 (x28, w64 (z12.2.1 + v23.1), y37, w64 (z12.2.2.2.1 + 1), w64 (z12.2.2.2.2 + 1))))
     (ck (decide (z12.2.2.1.length + ([(Moment.mk x28 (w64 (z12.2.1 + v23.1)))] : List Moment).length ≤ 1000000000)) <|
     vl (z12.2.2.1 ++ ([(Moment.mk x28 (w64 (z12.2.1 + v23.1)))] : List Moment)) fun y40 =>
     k14 (x28, w64 (z12.2.1 + v23.1), y40, z12.2.2.2.1, w64 (z12.2.2.2.2 + 1))))))
     (some (z12.2.2.1, (-1), 0))) big (0, w64 (a1.Speed * a1.Speed), ([(Moment.mk 0 (w64 (a1.Speed * a1.Speed)))] : List Moment), 0, 0)))) fun k6 =>
     lp (fun (z42 : Int) k44 =>
     cond (decide (z42 < (a1.Resist.length : Int)))
     (ix a1.Resist z42 fun x47 =>
     bd (runoff_in x47 (-5000) 10000) fun v49 =>
     cond (!v49)
     (some (([] : List Moment), 0, 2))
     (k44 (w64 (z42 + 1))))
     (k6 ())) big 0)))
def gen_Maker_Chain (a0 : HumpgenMaker) (a1 : Int) : Option ((List Border) × Int) :=
  lp (fun (z1 : ((List Border) × Int)) k3 =>
     cond (decide (z1.2 < a1))
     (ck (decide (z1.1.length + ([(Border.mk z1.2 z1.2 1), (Border.mk z1.2 (w64 (z1.2 + 1)) (-1))] : List Border).length ≤ 1000000000)) <|
     vl (z1.1 ++ ([(Border.mk z1.2 z1.2 1), (Border.mk z1.2 (w64 (z1.2 + 1)) (-1))] : List Border)) fun y7 =>
     k3 (y7, w64 (z1.2 + 1)))
     (some (z1.1, a0.fn))) big (([] : List Border), 0)
def section_in (a0 : Int) : Option Bool :=
  cond (decide (0 ≤ a0)) (some (decide (a0 < 32))) (some false)
def section_Valid (a0 : (List Border)) : Option Int :=
  cond (decide (64 < (a0.length : Int)))
     (some 3)
     (lp (fun (z2 : ((List SectionPlace) × Int)) k4 =>
     cond (decide (z2.2 < (a0.length : Int)))
     (ix a0 z2.2 fun x7 =>
     jp (fun (z10 : Unit) =>
     cond (inS (SectionPlace.mk x7.Section x7.Detector) z2.1)
     (some 8)
     (ck (!(inS (SectionPlace.mk x7.Section x7.Detector) z2.1)) <|
     vl (z2.1 ++ [(SectionPlace.mk x7.Section x7.Detector)]) fun y15 =>
     k4 (y15, w64 (z2.2 + 1)))) fun k12 =>
     bd (section_in x7.Section) fun v16 =>
     cond (!v16) (some 1) (bd (section_in x7.Detector) fun v17 =>
     cond (!v17) (some 1) (cond (decide (x7.Sense ≠ 1)) (cond (decide (x7.Sense ≠ (-1)))
     (some 1)
     (k12 ())) (k12 ()))))
     (some 0)) big (([] : List SectionPlace), 0))
def detector_Valid (a0 : (List Pulse)) : Option Int :=
  cond (decide (4096 < (a0.length : Int)))
     (some 3)
     (lp (fun (z1 : Int) k3 =>
     cond (decide (z1 < (a0.length : Int)))
     (ix a0 z1 fun x6 =>
     jp (fun (z9 : Unit) =>
     cond (decide (0 < z1)) (ix a0 (w64 (z1 - 1)) fun x13 =>
     cond (decide (x6.Time < x13.Time))
     (some 12)
     (k3 (w64 (z1 + 1)))) (k3 (w64 (z1 + 1)))) fun k11 =>
     cond (decide (x6.Detector < 0)) (some 1) (cond (decide (32 ≤ x6.Detector)) (some 1) (cond (decide (x6.Time < 0)) (some 1) (cond (decide (1000000000 < x6.Time)) (some 1) (cond (decide (x6.Direction ≠ 1)) (cond (decide (x6.Direction ≠ (-1)))
     (some 1)
     (k11 ())) (k11 ()))))))
     (some 0)) big 0)
def section_check (a0 : (List Border)) (a1 : (List Pulse)) (a2 : Int) : Option Int :=
  bd (section_Valid a0) fun v1 =>
     cond (decide (v1 ≠ 0))
     (some v1)
     (bd (detector_Valid a1) fun v2 =>
     cond (decide (v2 ≠ 0))
     (some v2)
     (bd (section_in a2) fun v3 =>
     cond (!v3)
     (some 2)
     (some 0)))
def section_count (a0 : (List Border)) (a1 : (List Pulse)) (a2 : Int) (a3 : Int) : Option (Int × Int) :=
  lp (fun (z2 : ((List (SectionPlace × Int)) × Int)) k4 =>
     cond (decide (z2.2 < (a0.length : Int)))
     (ix a0 z2.2 fun x7 =>
     vl (sput (SectionPlace.mk x7.Section x7.Detector) x7.Sense z2.1) fun y10 =>
     k4 (y10, w64 (z2.2 + 1)))
     (lp (fun (z11 : (Int × Int × Int)) k13 =>
     cond (decide (z11.2.2 < (a1.length : Int)))
     (ix a1 z11.2.2 fun x16 =>
     cond (decide (x16.Time ≤ a3))
     (k13 (z11.1, z11.2.1, w64 (z11.2.2 + 1)))
     (vl (sget (SectionPlace.mk a2 x16.Detector) z2.1) fun x19 =>
     vl (w64 (z11.1 + (w64 (x16.Direction * x19)))) fun x20 =>
     k13 (x20, min z11.2.1 x20, w64 (z11.2.2 + 1))))
     (some (z11.1, z11.2.1))) big (0, 0, 0))) big (([] : List (SectionPlace × Int)), 0)
def section_State (a0 : (List Border)) (a1 : (List Pulse)) (a2 : Int) (a3 : Int) : Option (Int × Int) :=
  bd (section_check a0 a1 a2) fun v1 =>
     cond (decide (v1 ≠ 0))
     (some (0, v1))
     (bd (section_count a0 a1 a2 a3) fun v2 =>
     cond (decide (v2.2 < 0))
     (some (2, 0))
     (cond (decide (0 < v2.1))
     (some (1, 0))
     (some (0, 0))))
def top_awake  : Option Bool :=
  some true
def top_TopSections (a0 : (List Int)) : Option Bool :=
  bd (gen_New a0) fun v1 =>
     bd (gen_Maker_Pieces (HumpgenMaker.mk a0 v1.fn) 8) fun v3 =>
     bd (gen_Maker_Motion (HumpgenMaker.mk a0 v3.2) v3.1) fun v5 =>
     bd (gen_Maker_Run (HumpgenMaker.mk a0 v5.2) v5.1) fun v7 =>
     bd (runoff_Point v3.1 v7.1) fun v9 =>
     cond (decide (v9.2.2 ≠ 0)) (some false) (cond (decide ((v9.1.length : Int) = 0)) (some false) (cond (decide ((w64 ((v3.1.length : Int) + 1)) < (v9.1.length : Int)))
     (some false)
     (bd (gen_Maker_Chain (HumpgenMaker.mk a0 v7.2) (v3.1.length : Int)) fun v11 =>
     lp (fun (z13 : ((List Pulse) × Int)) k15 =>
     cond (decide (z13.2 < (v9.1.length : Int)))
     (ix v9.1 z13.2 fun x18 =>
     ck (decide (z13.1.length + ([(Pulse.mk z13.2 x18.Time 1)] : List Pulse).length ≤ 1000000000)) <|
     vl (z13.1 ++ ([(Pulse.mk z13.2 x18.Time 1)] : List Pulse)) fun y22 =>
     lp (fun (z24 : Int) k26 =>
     cond (decide (z24 < (v3.1.length : Int)))
     (bd (section_State v11.1 y22 z24 (-1)) fun v29 =>
     jp (fun (z30 : Int) =>
     cond (decide (v29.2 ≠ 0)) (some false) (cond (decide (v29.1 ≠ z30))
     (some false)
     (k26 (w64 (z24 + 1))))) fun k32 =>
     cond (decide (z24 = z13.2))
     (k32 1)
     (k32 0))
     (k15 (y22, w64 (z13.2 + 1)))) big 0)
     (bd (top_awake) fun v34 =>
     some v34)) big (([] : List Pulse), 0))))
end Go.Hy
