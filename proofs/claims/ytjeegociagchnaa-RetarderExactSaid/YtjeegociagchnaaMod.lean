/-
  Plain models of the program's functions. Printed by a program out of the translation.
-/
import Derived.Test.YtjeegociagchnaaData
namespace Go.Hy
set_option linter.unusedVariables false
set_option linter.unusedSimpArgs false
set_option maxHeartbeats 2000000
set_option maxRecDepth 100000
def gen_New (a0 : (List Int)) : Option HumpgenMaker :=
  some (HumpgenMaker.mk a0 0)
def gen_Maker_Next (a0 : HumpgenMaker) (a1 : Int) : Option (Int × Int) :=
  jp (fun (z1 : Int) =>
     ck (decide (a1 ≠ 0)) <|
     cond (decide ((Int.tmod z1 a1) < 0))
     (some (w64 ((Int.tmod z1 a1) + a1), w64 (a0.fn + 1)))
     (some (Int.tmod z1 a1, w64 (a0.fn + 1)))) fun k3 =>
     cond (decide (0 < (a0.fl.length : Int)))
     (ck (decide ((a0.fl.length : Int) ≠ 0)) <|
     vl (Int.tmod a0.fn (a0.fl.length : Int)) fun x7 =>
     ix a0.fl x7 fun x8 =>
     ck (decide ((a0.fl.length : Int) ≠ 0)) <|
     vl (w64 (Int.tdiv a0.fn (a0.fl.length : Int))) fun x11 =>
     k3 (w64 (x8 + (w64 (x11 * 7919)))))
     (k3 0)
def gen_Maker_Pick (a0 : HumpgenMaker) (a1 : (List Int)) : Option (Int × Int) :=
  bd (gen_Maker_Next a0 (a1.length : Int)) fun v1 =>
     ix a1 v1.1 fun x3 =>
     some (x3, v1.2)
def gen_Maker_Pieces (a0 : HumpgenMaker) (a1 : Int) : Option ((List Piece) × Int) :=
  bd (gen_Maker_Next a0 a1) fun v1 =>
     lp (fun (z3 : ((List Piece) × Int × Int)) k5 =>
     cond (decide (0 < z3.2.1))
     (bd (gen_Maker_Pick (HumpgenMaker.mk a0.fl z3.2.2) ([1, 1000, 5000, 9000, 30000, 100000] : List Int)) fun v9 =>
     bd (gen_Maker_Pick (HumpgenMaker.mk a0.fl v9.2) ([0, 100, (-150), 400, 1000, 3500, 5000] : List Int)) fun v12 =>
     bd (gen_Maker_Pick (HumpgenMaker.mk a0.fl v12.2) ([0, 0, 20, 150] : List Int)) fun v15 =>
     bd (gen_Maker_Next (HumpgenMaker.mk a0.fl v15.2) 4) fun v18 =>
     cond (decide (v18.1 = 0))
     (bd (gen_Maker_Pick (HumpgenMaker.mk a0.fl v18.2) ([1, 500000, 2000000, 8000000, 30000000] : List Int)) fun v21 =>
     ck (decide (z3.1.length + ([(Piece.mk (w64 ((z3.1.length : Int) + 1)) v9.1 v12.1 v15.1 v21.1)] : List Piece).length ≤ 1000000000)) <|
     vl (z3.1 ++ ([(Piece.mk (w64 ((z3.1.length : Int) + 1)) v9.1 v12.1 v15.1 v21.1)] : List Piece)) fun y24 =>
     k5 (y24, w64 (z3.2.1 - 1), v21.2))
     (ck (decide (z3.1.length + ([(Piece.mk (w64 ((z3.1.length : Int) + 1)) v9.1 v12.1 v15.1 0)] : List Piece).length ≤ 1000000000)) <|
     vl (z3.1 ++ ([(Piece.mk (w64 ((z3.1.length : Int) + 1)) v9.1 v12.1 v15.1 0)] : List Piece)) fun y27 =>
     k5 (y27, w64 (z3.2.1 - 1), v18.2)))
     (some (z3.1, z3.2.2))) big (([] : List Piece), w64 (1 + v1.1), v1.2)
def r20_Retarders (a0 : (List Piece)) : Option Int :=
  lp (fun (z1 : (Int × Int)) k3 =>
     cond (decide (z1.2 < (a0.length : Int)))
     (ix a0 z1.2 fun x6 =>
     cond (decide (0 < x6.Power))
     (k3 (w64 (z1.1 + 1), w64 (z1.2 + 1)))
     (k3 (z1.1, w64 (z1.2 + 1))))
     (some z1.1)) big (0, 0)
def gen_Maker_Motion (a0 : HumpgenMaker) (a1 : (List Piece)) : Option (Motion × Int) :=
  bd (gen_Maker_Pick a0 ([0, 500, 1200, 1400, 2000] : List Int)) fun v3 =>
     bd (gen_Maker_Pick (HumpgenMaker.mk a0.fl v3.2) ([0, 10, 100] : List Int)) fun v6 =>
     bd (gen_Maker_Pick (HumpgenMaker.mk a0.fl v6.2) ([0, 20, 100] : List Int)) fun v9 =>
     bd (gen_Maker_Pick (HumpgenMaker.mk a0.fl v9.2) ([0, 10, 20, 60] : List Int)) fun v13 =>
     bd (gen_Maker_Pick (HumpgenMaker.mk a0.fl v13.2) ([0, 5, 30, 150] : List Int)) fun v16 =>
     jp (fun (z18 : (List Interval)) =>
     bd (r20_Retarders a1) fun v22 =>
     lp (fun (z23 : ((List Int) × Int × Int)) k25 =>
     cond (decide (0 < z23.2.1))
     (bd (gen_Maker_Pick (HumpgenMaker.mk a0.fl z23.2.2) ([(-1), 0, 800, 1200, 3000, 5000] : List Int)) fun v29 =>
     ck (decide (z23.1.length + ([v29.1] : List Int).length ≤ 1000000000)) <|
     vl (z23.1 ++ ([v29.1] : List Int)) fun y32 =>
     k25 (y32, w64 (z23.2.1 - 1), v29.2))
     (some ((Motion.mk (Interval.mk v3.1 (w64 (v3.1 + v6.1))) z18 v9.1 z23.1), z23.2.2))) big (([] : List Int), v22, v16.2)) fun k20 =>
     lp (fun (z34 : ((List Interval) × Int)) k36 =>
     cond (decide (z34.2 < (a1.length : Int)))
     (ix a1 z34.2 fun x39 =>
     ix a1 z34.2 fun x41 =>
     vl (w64 ((w64 (v13.1 + v16.1)) + x41.Curve)) fun x43 =>
     ck (decide (z34.1.length + ([(Interval.mk (w64 (v13.1 + x39.Curve)) x43)] : List Interval).length ≤ 1000000000)) <|
     vl (z34.1 ++ ([(Interval.mk (w64 (v13.1 + x39.Curve)) x43)] : List Interval)) fun y45 =>
     k36 (y45, w64 (z34.2 + 1)))
     (k20 z34.1)) big (([] : List Interval), 0)
def yardgen_Band (a0 : HumpgenMaker) : Option (Band × Int) :=
  bd (gen_Maker_Pick a0 ([0, 500, 900, 1200, 1500] : List Int)) fun v3 =>
     bd (gen_Maker_Pick (HumpgenMaker.mk a0.fl v3.2) ([0, 300, 800, 2500] : List Int)) fun v6 =>
     bd (gen_Maker_Next (HumpgenMaker.mk a0.fl v6.2) 12) fun v9 =>
     cond (decide (v9.1 = 0))
     (bd (gen_Maker_Pick (HumpgenMaker.mk a0.fl v9.2) ([(-1), 5, 20000] : List Int)) fun v12 =>
     bd (gen_Maker_Pick (HumpgenMaker.mk a0.fl v12.2) ([4, 20000, 20001] : List Int)) fun v15 =>
     some ((Band.mk v12.1 v15.1), v15.2))
     (some ((Band.mk v3.1 (w64 (v3.1 + v6.1))), v9.2))
def retarder_Valid (a0 : Band) : Option Bool :=
  cond (decide (0 ≤ a0.Lo)) (cond (decide (a0.Lo ≤ a0.Hi)) (some (decide (a0.Hi ≤ 20000))) (some false)) (some false)
def runoff_in (a0 : Int) (a1 : Int) (a2 : Int) : Option Bool :=
  cond (decide (a1 ≤ a0)) (some (decide (a0 ≤ a2))) (some false)
def runoff_Valid (a0 : (List Piece)) : Option Int :=
  cond (decide ((a0.length : Int) < 1)) (some 3) (cond (decide (128 < (a0.length : Int)))
     (some 3)
     (lp (fun (z1 : Int) k3 =>
     cond (decide (z1 < (a0.length : Int)))
     (ix a0 z1 fun x6 =>
     bd (runoff_in x6.Element 0 127) fun v9 =>
     cond (!v9) (some 1) (bd (runoff_in x6.Length 1 1000000) fun v10 =>
     cond (!v10) (some 1) (bd (runoff_in x6.Grade (-10000) 10000) fun v11 =>
     cond (!v11) (some 1) (bd (runoff_in x6.Curve 0 5000) fun v12 =>
     cond (!v12) (some 1) (bd (runoff_in x6.Power 0 1000000000) fun v13 =>
     cond (!v13)
     (some 1)
     (k3 (w64 (z1 + 1))))))))
     (some 0)) big 0))
def interval_inside (a0 : Int) : Option Bool :=
  cond (decide ((-1000000000000) ≤ a0)) (some (decide (a0 ≤ 1000000000000))) (some false)
def interval_Valid (a0 : Interval) : Option Bool :=
  cond (decide (a0.Lo ≤ a0.Hi)) (bd (interval_inside a0.Lo) fun v2 =>
     cond v2 (bd (interval_inside a0.Hi) fun v3 =>
     some v3) (some false)) (some false)
def runoff_retarders (a0 : (List Piece)) : Option Int :=
  lp (fun (z1 : (Int × Int)) k3 =>
     cond (decide (z1.2 < (a0.length : Int)))
     (ix a0 z1.2 fun x6 =>
     cond (decide (0 < x6.Power))
     (k3 (w64 (z1.1 + 1), w64 (z1.2 + 1)))
     (k3 (z1.1, w64 (z1.2 + 1))))
     (some z1.1)) big (0, 0)
def runoff_targets (a0 : (List Int)) : Option Bool :=
  lp (fun (z1 : Int) k3 =>
     cond (decide (z1 < (a0.length : Int)))
     (ix a0 z1 fun x6 =>
     bd (runoff_in x6 (-1) 20000) fun v8 =>
     cond (!v8)
     (some false)
     (k3 (w64 (z1 + 1))))
     (some true)) big 0
def runoff_check (a0 : (List Piece)) (a1 : Motion) : Option Int :=
  bd (runoff_Valid a0) fun v2 =>
     cond (decide (v2 ≠ 0))
     (some v2)
     (bd (interval_Valid a1.Speed) fun v3 =>
     cond (!v3) (some 1) (cond (decide ((a1.Class.length : Int) ≠ (a0.length : Int))) (some 1) (bd (runoff_retarders a0) fun v4 =>
     cond (decide ((a1.Targets.length : Int) ≠ v4))
     (some 1)
     (jp (fun (z5 : Unit) =>
     jp (fun (z9 : Unit) =>
     cond (decide (a1.Speed.Lo < 0)) (some 2) (cond (decide (20000 < a1.Speed.Hi)) (some 2) (bd (runoff_in a1.Error 0 1000) fun v13 =>
     cond (!v13) (some 2) (bd (runoff_targets a1.Targets) fun v14 =>
     cond (!v14)
     (some 2)
     (some 0))))) fun k11 =>
     lp (fun (z15 : Int) k17 =>
     cond (decide (z15 < (a1.Class.length : Int)))
     (ix a1.Class z15 fun x20 =>
     cond (decide (x20.Lo < (-5000))) (some 2) (cond (decide (10000 < x20.Hi))
     (some 2)
     (k17 (w64 (z15 + 1)))))
     (k11 ())) big 0) fun k7 =>
     lp (fun (z23 : Int) k25 =>
     cond (decide (z23 < (a1.Class.length : Int)))
     (ix a1.Class z23 fun x28 =>
     bd (interval_Valid x28) fun v31 =>
     cond (!v31)
     (some 1)
     (k25 (w64 (z23 + 1))))
     (k7 ())) big 0))))
def interval_down (a0 : Int) (a1 : Int) : Option Int :=
  ck (decide (a1 ≠ 0)) <|
     ck (decide (a1 ≠ 0)) <|
     cond (decide ((Int.tmod a0 a1) ≠ 0)) (cond (!((decide ((Int.tmod a0 a1) < 0)) == (decide (a1 < 0))))
     (vl (w64 ((w64 (Int.tdiv a0 a1)) - 1)) fun x3 =>
     some x3)
     (some (w64 (Int.tdiv a0 a1)))) (some (w64 (Int.tdiv a0 a1)))
def interval_Floor (a0 : Int) (a1 : Int) : Option (Int × Int) :=
  cond (decide (a1 = 0))
     (some (0, 5))
     (bd (interval_down a0 a1) fun v1 =>
     bd (interval_inside v1) fun v2 =>
     cond v2
     (some (v1, 0))
     (some (0, 4)))
def interval_up (a0 : Int) (a1 : Int) : Option Int :=
  ck (decide (a1 ≠ 0)) <|
     ck (decide (a1 ≠ 0)) <|
     cond (decide ((Int.tmod a0 a1) ≠ 0)) (cond ((decide ((Int.tmod a0 a1) < 0)) == (decide (a1 < 0)))
     (vl (w64 ((w64 (Int.tdiv a0 a1)) + 1)) fun x3 =>
     some x3)
     (some (w64 (Int.tdiv a0 a1)))) (some (w64 (Int.tdiv a0 a1)))
def interval_Ceil (a0 : Int) (a1 : Int) : Option (Int × Int) :=
  cond (decide (a1 = 0))
     (some (0, 5))
     (bd (interval_up a0 a1) fun v1 =>
     bd (interval_inside v1) fun v2 =>
     cond v2
     (some (v1, 0))
     (some (0, 4)))
def runoff_gain (a0 : Piece) (a1 : Int) : Option (Int × Int) :=
  vl (w64 (19620 * (w64 (a0.Grade - a1)))) fun x2 =>
     bd (interval_Floor (w64 (x2 * a0.Length)) 100000) fun v3 =>
     bd (interval_Ceil (w64 (x2 * a0.Length)) 100000) fun v4 =>
     some (v3.1, v4.1)
def interval_root (a0 : Int) : Option Int :=
  lp (fun (z1 : (Int × Int)) k3 =>
     cond (decide (1 < (w64 (z1.2 - z1.1))))
     (vl (w64 (Int.tdiv (w64 (z1.1 + z1.2)) 2)) fun x6 =>
     cond (decide ((w64 (x6 * x6)) ≤ a0))
     (k3 (x6, z1.2))
     (k3 (z1.1, x6)))
     (some z1.1)) big (0, 1000001)
def interval_Root (a0 : Interval) : Option (Interval × Int) :=
  bd (interval_Valid a0) fun v3 =>
     cond (!v3)
     (some ((Interval.mk 0 0), 1))
     (cond (decide (a0.Lo < 0))
     (some ((Interval.mk 0 0), 2))
     (bd (interval_root a0.Hi) fun v4 =>
     jp (fun (z5 : Int) =>
     bd (interval_root a0.Lo) fun v9 =>
     some ((Interval.mk v9 z5), 0)) fun k7 =>
     cond (decide ((w64 (v4 * v4)) < a0.Hi))
     (k7 (w64 (v4 + 1)))
     (k7 v4)))
def runoff_roots (a0 : Int) : Option (Int × Int) :=
  bd (interval_Root (Interval.mk a0 a0)) fun v1 =>
     some (v1.1.Lo, v1.1.Hi)
def runoff_state_roll (a0 : RunoffState) (a1 : Piece) (a2 : Interval) : Option (Bool × RunoffState) :=
  bd (runoff_gain a1 a2.Hi) fun v3 =>
     bd (runoff_gain a1 a2.Lo) fun v4 =>
     cond (decide ((w64 (a0.fenergy.Hi + v4.2)) < 0))
     (some (false, a0))
     (jp (fun (z6 : (Int × Bool)) =>
     bd (runoff_roots a0.fenergy.Lo) fun v10 =>
     bd (runoff_roots a0.fenergy.Hi) fun v11 =>
     bd (runoff_roots z6.1) fun v12 =>
     bd (runoff_roots (w64 (a0.fenergy.Hi + v4.2))) fun v13 =>
     cond (decide ((w64 (v11.2 + v13.2)) = 0))
     (some (false, (RunoffState.mk a0.ftime a0.fenergy z6.2)))
     (ck (decide ((w64 (v11.2 + v13.2)) ≠ 0)) <|
     vl (w64 (Int.tdiv (w64 (2000 * a1.Length)) (w64 (v11.2 + v13.2)))) fun x15 =>
     vl (min (w64 (a0.ftime.Lo + x15)) 1000000000) fun x16 =>
     jp (fun (z17 : Bool) =>
     cond z17
     (some (true, (RunoffState.mk (Interval.mk x16 1000000000) (Interval.mk z6.1 (w64 (a0.fenergy.Hi + v4.2))) z17)))
     (vl (w64 ((w64 (2000 * a1.Length)) + v10.1)) fun x21 =>
     ck (decide ((w64 (v10.1 + v12.1)) ≠ 0)) <|
     vl (w64 (Int.tdiv (w64 ((w64 (x21 + v12.1)) - 1)) (w64 (v10.1 + v12.1)))) fun x23 =>
     vl (min (w64 (a0.ftime.Hi + x23)) 1000000000) fun x24 =>
     some (true, (RunoffState.mk (Interval.mk x16 x24) (Interval.mk z6.1 (w64 (a0.fenergy.Hi + v4.2))) z17)))) fun k19 =>
     cond (decide ((w64 (v10.1 + v12.1)) = 0))
     (k19 true)
     (k19 z6.2))) fun k8 =>
     cond (decide ((w64 (a0.fenergy.Lo + v3.1)) < 0))
     (k8 (0, true))
     (k8 (w64 (a0.fenergy.Lo + v3.1), a0.fslow)))
def runoff_state_brake (a0 : RunoffState) (a1 : Int) (a2 : Int) (a3 : Int) : Option RunoffState :=
  vl (w64 ((max 0 (w64 (a2 - a3))) * (max 0 (w64 (a2 - a3))))) fun x1 =>
     vl (w64 ((w64 (a2 + a3)) * (w64 (a2 + a3)))) fun x2 =>
     vl (max (min a0.fenergy.Hi x2) (w64 (a0.fenergy.Hi - a1))) fun x3 =>
     some (RunoffState.mk a0.ftime (Interval.mk (min a0.fenergy.Lo x1) x3) a0.fslow)
def runoff_Pass (a0 : (List Piece)) (a1 : Motion) : Option ((List Passage) × Int) :=
  bd (runoff_check a0 a1) fun v2 =>
     cond (decide (v2 ≠ 0))
     (some (([] : List Passage), v2))
     (vl (w64 (a1.Speed.Lo * a1.Speed.Lo)) fun x3 =>
     vl (w64 (a1.Speed.Hi * a1.Speed.Hi)) fun x4 =>
     lp (fun (z7 : (Int × Int × Int × Int × Bool × (List Passage) × Int × Int)) k9 =>
     cond (decide (z7.2.2.2.2.2.2.2 < (a0.length : Int)))
     (ix a0 z7.2.2.2.2.2.2.2 fun x12 =>
     jp (fun (z15 : (Int × Int × Int × Int × Bool)) =>
     jp (fun (z19 : (Int × Int × Int × Int × Bool × Int)) =>
     ck (decide (z7.2.2.2.2.2.1.length + ([(Passage.mk (Interval.mk z19.1 z19.2.1) (Interval.mk z19.2.2.1 z19.2.2.2.1) z19.2.2.2.2.1 false)] : List Passage).length ≤ 1000000000)) <|
     vl (z7.2.2.2.2.2.1 ++ ([(Passage.mk (Interval.mk z19.1 z19.2.1) (Interval.mk z19.2.2.1 z19.2.2.2.1) z19.2.2.2.2.1 false)] : List Passage)) fun y24 =>
     k9 (z19.1, z19.2.1, z19.2.2.1, z19.2.2.2.1, z19.2.2.2.2.1, y24, z19.2.2.2.2.2, w64 (z7.2.2.2.2.2.2.2 + 1))) fun k21 =>
     cond (decide (0 < x12.Power))
     (ix a1.Targets z7.2.2.2.2.2.2.1 fun x26 =>
     cond (decide (0 ≤ x26))
     (bd (runoff_state_brake (RunoffState.mk (Interval.mk z15.1 z15.2.1) (Interval.mk z15.2.2.1 z15.2.2.2.1) z15.2.2.2.2) x12.Power x26 a1.Error) fun v28 =>
     k21 (v28.ftime.Lo, v28.ftime.Hi, v28.fenergy.Lo, v28.fenergy.Hi, v28.fslow, w64 (z7.2.2.2.2.2.2.1 + 1)))
     (k21 (z15.1, z15.2.1, z15.2.2.1, z15.2.2.2.1, z15.2.2.2.2, w64 (z7.2.2.2.2.2.2.1 + 1))))
     (k21 (z15.1, z15.2.1, z15.2.2.1, z15.2.2.2.1, z15.2.2.2.2, z7.2.2.2.2.2.2.1))) fun k17 =>
     ix a1.Class z7.2.2.2.2.2.2.2 fun x30 =>
     bd (runoff_state_roll (RunoffState.mk (Interval.mk z7.1 z7.2.1) (Interval.mk z7.2.2.1 z7.2.2.2.1) z7.2.2.2.2.1) x12 x30) fun v32 =>
     cond (!v32.1)
     (lp (fun (z34 : (List Passage)) k36 =>
     cond (decide ((z34.length : Int) ≤ (a0.length : Int)))
     (ck (decide (z34.length + ([(Passage.mk (Interval.mk 0 0) (Interval.mk 0 0) false true)] : List Passage).length ≤ 1000000000)) <|
     vl (z34 ++ ([(Passage.mk (Interval.mk 0 0) (Interval.mk 0 0) false true)] : List Passage)) fun y40 =>
     k36 y40)
     (some (z34, 0))) big z7.2.2.2.2.2.1)
     (k17 (v32.2.ftime.Lo, v32.2.ftime.Hi, v32.2.fenergy.Lo, v32.2.fenergy.Hi, v32.2.fslow)))
     (some (z7.2.2.2.2.2.1, 0))) big (0, 0, x3, x4, false, ([(Passage.mk (Interval.mk 0 0) (Interval.mk x3 x4) false false)] : List Passage), 0, 0))
def retarder_last (a0 : (List Piece)) (a1 : Motion) : Option (Passage × Int) :=
  bd (runoff_Pass a0 a1) fun v3 =>
     cond (decide (v3.2 ≠ 0))
     (some ((Passage.mk (Interval.mk 0 0) (Interval.mk 0 0) false false), v3.2))
     (ix v3.1 (w64 ((v3.1.length : Int) - 1)) fun x5 =>
     some (x5, 0))
def retarder_enough (a0 : Passage) (a1 : Int) : Option Bool :=
  cond (!a0.Slow) (cond (!a0.Stops) (some (decide ((w64 (a1 * a1)) ≤ a0.Energy.Lo))) (some false)) (some false)
def retarder_Meets (a0 : (List Piece)) (a1 : Motion) (a2 : Band) : Option (Bool × Int) :=
  bd (retarder_Valid a2) fun v3 =>
     cond (!v3)
     (some (false, 1))
     (bd (retarder_last a0 a1) fun v4 =>
     cond (decide (v4.2 ≠ 0))
     (some (false, v4.2))
     (bd (retarder_enough v4.1 a2.Lo) fun v6 =>
     cond v6 (some (decide (v4.1.Energy.Hi ≤ (w64 (a2.Hi * a2.Hi))), 0)) (some (false, 0))))
def r21_Valid (a0 : Band) : Option Bool :=
  cond (decide (0 ≤ a0.Lo)) (cond (decide (a0.Lo ≤ a0.Hi)) (some (decide (a0.Hi ≤ 20000))) (some false)) (some false)
def r20_Valid (a0 : (List Piece)) : Option Int :=
  cond (decide ((a0.length : Int) < 1)) (some 3) (cond (decide (128 < (a0.length : Int)))
     (some 3)
     (lp (fun (z1 : Int) k3 =>
     cond (decide (z1 < (a0.length : Int)))
     (ix a0 z1 fun x6 =>
     cond (decide (x6.Element < 0)) (some 1) (cond (decide (128 ≤ x6.Element)) (some 1) (cond (decide (x6.Length < 1)) (some 1) (cond (decide (1000000 < x6.Length)) (some 1) (cond (decide (x6.Grade < (-10000))) (some 1) (cond (decide (10000 < x6.Grade)) (some 1) (cond (decide (x6.Curve < 0)) (some 1) (cond (decide (5000 < x6.Curve)) (some 1) (cond (decide (x6.Power < 0)) (some 1) (cond (decide (1000000000 < x6.Power))
     (some 1)
     (k3 (w64 (z1 + 1)))))))))))))
     (some 0)) big 0))
def r01_Valid (a0 : Interval) : Option Bool :=
  cond (decide (a0.Lo ≤ a0.Hi)) (cond (decide ((-1000000000000) ≤ a0.Lo)) (some (decide (a0.Hi ≤ 1000000000000))) (some false)) (some false)
def r20_targets (a0 : (List Int)) : Option Bool :=
  lp (fun (z1 : Int) k3 =>
     cond (decide (z1 < (a0.length : Int)))
     (ix a0 z1 fun x6 =>
     cond (decide (x6 < (-1))) (some false) (ix a0 z1 fun x8 =>
     cond (decide (20000 < x8))
     (some false)
     (k3 (w64 (z1 + 1)))))
     (some true)) big 0
def r20_Motion (a0 : (List Piece)) (a1 : Motion) : Option Int :=
  bd (r01_Valid a1.Speed) fun v2 =>
     cond (!v2) (some 1) (cond (decide ((a1.Class.length : Int) ≠ (a0.length : Int))) (some 1) (bd (r20_Retarders a0) fun v3 =>
     cond (decide ((a1.Targets.length : Int) ≠ v3))
     (some 1)
     (jp (fun (z4 : Unit) =>
     jp (fun (z8 : Bool) =>
     lp (fun (z12 : (Bool × Int)) k14 =>
     cond (decide (z12.2 < (a1.Class.length : Int)))
     (cond z12.1 (ix a1.Class z12.2 fun x17 =>
     cond (decide ((-5000) ≤ x17.Lo)) (ix a1.Class z12.2 fun x19 =>
     k14 (decide (x19.Hi ≤ 10000), w64 (z12.2 + 1))) (k14 (false, w64 (z12.2 + 1)))) (k14 (false, w64 (z12.2 + 1))))
     (cond (!z12.1)
     (some 2)
     (some 0))) big (z8, 0)) fun k10 =>
     cond (decide (0 ≤ a1.Speed.Lo)) (cond (decide (a1.Speed.Hi ≤ 20000)) (cond (decide (0 ≤ a1.Error)) (cond (decide (a1.Error ≤ 1000)) (bd (r20_targets a1.Targets) fun v21 =>
     k10 v21) (k10 false)) (k10 false)) (k10 false)) (k10 false)) fun k6 =>
     lp (fun (z22 : Int) k24 =>
     cond (decide (z22 < (a1.Class.length : Int)))
     (ix a1.Class z22 fun x27 =>
     bd (r01_Valid x27) fun v29 =>
     cond (!v29)
     (some 1)
     (k24 (w64 (z22 + 1))))
     (k6 ())) big 0)))
def r20_gain (a0 : Piece) (a1 : Int) : Option Int :=
  vl (w64 (19620 * (w64 (a0.Grade - a1)))) fun x2 =>
     some (w64 (x2 * a0.Length))
def r01_Down (a0 : Int) (a1 : Int) : Option Int :=
  ck (decide (a1 ≠ 0)) <|
     ck (decide (a1 ≠ 0)) <|
     cond (decide ((Int.tmod a0 a1) ≠ 0)) (cond (!((decide ((Int.tmod a0 a1) < 0)) == (decide (a1 < 0))))
     (vl (w64 ((w64 (Int.tdiv a0 a1)) - 1)) fun x3 =>
     some x3)
     (some (w64 (Int.tdiv a0 a1)))) (some (w64 (Int.tdiv a0 a1)))
def r01_Up (a0 : Int) (a1 : Int) : Option Int :=
  ck (decide (a1 ≠ 0)) <|
     ck (decide (a1 ≠ 0)) <|
     cond (decide ((Int.tmod a0 a1) ≠ 0)) (cond ((decide ((Int.tmod a0 a1) < 0)) == (decide (a1 < 0)))
     (vl (w64 ((w64 (Int.tdiv a0 a1)) + 1)) fun x3 =>
     some x3)
     (some (w64 (Int.tdiv a0 a1)))) (some (w64 (Int.tdiv a0 a1)))
def r01_RootDown (a0 : Int) : Option Int :=
  lp (fun (z1 : (Int × Int)) k3 =>
     cond (decide (z1.1 < z1.2))
     (vl (w64 (Int.tdiv (w64 ((w64 (z1.1 + z1.2)) + 1)) 2)) fun x6 =>
     cond (decide ((w64 (x6 * x6)) ≤ a0))
     (k3 (x6, z1.2))
     (k3 (z1.1, w64 (x6 - 1))))
     (some z1.1)) big (0, 1073741824)
def r01_RootUp (a0 : Int) : Option Int :=
  bd (r01_RootDown a0) fun v1 =>
     cond (decide ((w64 (v1 * v1)) < a0))
     (some (w64 (v1 + 1)))
     (some v1)
def r20_step (a0 : Passage) (a1 : Piece) (a2 : Interval) : Option Passage :=
  bd (r20_gain a1 a2.Hi) fun v5 =>
     bd (r01_Down v5 100000) fun v6 =>
     bd (r20_gain a1 a2.Lo) fun v7 =>
     bd (r01_Up v7 100000) fun v8 =>
     cond (decide ((w64 (a0.Energy.Hi + v8)) < 0))
     (some (Passage.mk (Interval.mk 0 0) (Interval.mk 0 0) false true))
     (bd (r01_RootUp a0.Energy.Hi) fun v9 =>
     bd (r01_RootUp (w64 (a0.Energy.Hi + v8))) fun v10 =>
     cond (decide ((w64 (v9 + v10)) = 0))
     (some (Passage.mk (Interval.mk 0 0) (Interval.mk 0 0) false true))
     (jp (fun (z11 : Bool) =>
     vl (max (w64 (a0.Energy.Lo + v6)) 0) fun x15 =>
     bd (r01_RootDown a0.Energy.Lo) fun v16 =>
     bd (r01_RootDown x15) fun v17 =>
     jp (fun (z18 : Bool) =>
     ck (decide ((w64 (v9 + v10)) ≠ 0)) <|
     vl (w64 (Int.tdiv (w64 (2000 * a1.Length)) (w64 (v9 + v10)))) fun x23 =>
     vl (min 1000000000 (w64 (a0.Time.Lo + x23))) fun x24 =>
     cond (!z18)
     (bd (r01_Up (w64 (2000 * a1.Length)) (w64 (v16 + v17))) fun v25 =>
     vl (min 1000000000 (w64 (a0.Time.Hi + v25))) fun x26 =>
     some (Passage.mk (Interval.mk x24 x26) (Interval.mk x15 (w64 (a0.Energy.Hi + v8))) z18 false))
     (some (Passage.mk (Interval.mk x24 1000000000) (Interval.mk x15 (w64 (a0.Energy.Hi + v8))) z18 false))) fun k20 =>
     cond z11 (k20 true) (k20 (decide ((w64 (v16 + v17)) = 0)))) fun k13 =>
     cond a0.Slow (k13 true) (k13 (decide ((w64 (a0.Energy.Lo + v6)) < 0)))))
def r20_brake (a0 : Interval) (a1 : Int) (a2 : Int) (a3 : Int) : Option Interval :=
  vl (w64 ((max 0 (w64 (a2 - a3))) * (max 0 (w64 (a2 - a3))))) fun x3 =>
     vl (w64 ((w64 (a2 + a3)) * (w64 (a2 + a3)))) fun x4 =>
     vl (max (min a0.Hi x4) (w64 (a0.Hi - a1))) fun x5 =>
     some (Interval.mk (min a0.Lo x3) x5)
def r20_Pass (a0 : (List Piece)) (a1 : Motion) : Option ((List Passage) × Int) :=
  bd (r20_Valid a0) fun v2 =>
     cond (decide (v2 ≠ 0))
     (some (([] : List Passage), v2))
     (bd (r20_Motion a0 a1) fun v3 =>
     cond (decide (v3 ≠ 0))
     (some (([] : List Passage), v3))
     (vl (w64 (a1.Speed.Lo * a1.Speed.Lo)) fun x4 =>
     vl (w64 (a1.Speed.Hi * a1.Speed.Hi)) fun x5 =>
     lp (fun (z8 : (Int × Int × Int × Int × Bool × Bool × (List Passage) × Int × Int)) k10 =>
     cond (decide (z8.2.2.2.2.2.2.2.2 < (a0.length : Int)))
     (jp (fun (z13 : (Int × Int × Int × Int × Bool × Bool)) =>
     ix a0 z8.2.2.2.2.2.2.2.2 fun x17 =>
     cond (decide (0 < x17.Power))
     (jp (fun (z19 : Bool) =>
     cond z19
     (ix a0 z8.2.2.2.2.2.2.2.2 fun x23 =>
     ix a1.Targets z8.2.2.2.2.2.2.2.1 fun x25 =>
     bd (r20_brake (Interval.mk z13.2.2.1 z13.2.2.2.1) x23.Power x25 a1.Error) fun v27 =>
     ck (decide (z8.2.2.2.2.2.2.1.length + ([(Passage.mk (Interval.mk z13.1 z13.2.1) v27 z13.2.2.2.2.1 z13.2.2.2.2.2)] : List Passage).length ≤ 1000000000)) <|
     vl (z8.2.2.2.2.2.2.1 ++ ([(Passage.mk (Interval.mk z13.1 z13.2.1) v27 z13.2.2.2.2.1 z13.2.2.2.2.2)] : List Passage)) fun y29 =>
     k10 (z13.1, z13.2.1, v27.Lo, v27.Hi, z13.2.2.2.2.1, z13.2.2.2.2.2, y29, w64 (z8.2.2.2.2.2.2.2.1 + 1), w64 (z8.2.2.2.2.2.2.2.2 + 1)))
     (ck (decide (z8.2.2.2.2.2.2.1.length + ([(Passage.mk (Interval.mk z13.1 z13.2.1) (Interval.mk z13.2.2.1 z13.2.2.2.1) z13.2.2.2.2.1 z13.2.2.2.2.2)] : List Passage).length ≤ 1000000000)) <|
     vl (z8.2.2.2.2.2.2.1 ++ ([(Passage.mk (Interval.mk z13.1 z13.2.1) (Interval.mk z13.2.2.1 z13.2.2.2.1) z13.2.2.2.2.1 z13.2.2.2.2.2)] : List Passage)) fun y32 =>
     k10 (z13.1, z13.2.1, z13.2.2.1, z13.2.2.2.1, z13.2.2.2.2.1, z13.2.2.2.2.2, y32, w64 (z8.2.2.2.2.2.2.2.1 + 1), w64 (z8.2.2.2.2.2.2.2.2 + 1)))) fun k21 =>
     cond (!z13.2.2.2.2.2) (ix a1.Targets z8.2.2.2.2.2.2.2.1 fun x34 =>
     k21 (decide (0 ≤ x34))) (k21 false))
     (ck (decide (z8.2.2.2.2.2.2.1.length + ([(Passage.mk (Interval.mk z13.1 z13.2.1) (Interval.mk z13.2.2.1 z13.2.2.2.1) z13.2.2.2.2.1 z13.2.2.2.2.2)] : List Passage).length ≤ 1000000000)) <|
     vl (z8.2.2.2.2.2.2.1 ++ ([(Passage.mk (Interval.mk z13.1 z13.2.1) (Interval.mk z13.2.2.1 z13.2.2.2.1) z13.2.2.2.2.1 z13.2.2.2.2.2)] : List Passage)) fun y37 =>
     k10 (z13.1, z13.2.1, z13.2.2.1, z13.2.2.2.1, z13.2.2.2.2.1, z13.2.2.2.2.2, y37, z8.2.2.2.2.2.2.2.1, w64 (z8.2.2.2.2.2.2.2.2 + 1)))) fun k15 =>
     cond (!z8.2.2.2.2.2.1)
     (ix a0 z8.2.2.2.2.2.2.2.2 fun x39 =>
     ix a1.Class z8.2.2.2.2.2.2.2.2 fun x41 =>
     bd (r20_step (Passage.mk (Interval.mk z8.1 z8.2.1) (Interval.mk z8.2.2.1 z8.2.2.2.1) z8.2.2.2.2.1 z8.2.2.2.2.2.1) x39 x41) fun v43 =>
     k15 (v43.Time.Lo, v43.Time.Hi, v43.Energy.Lo, v43.Energy.Hi, v43.Slow, v43.Stops))
     (k15 (z8.1, z8.2.1, z8.2.2.1, z8.2.2.2.1, z8.2.2.2.2.1, z8.2.2.2.2.2.1)))
     (some (z8.2.2.2.2.2.2.1, 0))) big (0, 0, x4, x5, false, false, ([(Passage.mk (Interval.mk 0 0) (Interval.mk x4 x5) false false)] : List Passage), 0, 0)))
def r21_enough (a0 : Passage) (a1 : Band) : Option Bool :=
  cond (!a0.Slow) (cond (!a0.Stops) (some (decide ((w64 (a1.Lo * a1.Lo)) ≤ a0.Energy.Lo))) (some false)) (some false)
def r21_gentle (a0 : Passage) (a1 : Band) : Option Bool :=
  cond a0.Stops (some true) (some (decide (a0.Energy.Hi ≤ (w64 (a1.Hi * a1.Hi)))))
def r21_Meets (a0 : (List Piece)) (a1 : Motion) (a2 : Band) : Option (Bool × Int) :=
  bd (r21_Valid a2) fun v3 =>
     cond (!v3)
     (some (false, 1))
     (bd (r20_Pass a0 a1) fun v4 =>
     cond (decide (v4.2 ≠ 0))
     (some (false, v4.2))
     (ix v4.1 (w64 ((v4.1.length : Int) - 1)) fun x6 =>
     bd (r21_enough x6 a2) fun v8 =>
     cond v8 (ix v4.1 (w64 ((v4.1.length : Int) - 1)) fun x9 =>
     bd (r21_gentle x9 a2) fun v11 =>
     some (v11, 0)) (some (false, 0))))
def retarder_Window_1 (a0 : Int) (c0 : Motion) (c1 : Int) (c2 : (List Piece)) : Option (Passage × Int × List Int) :=
  ix c0.Targets c1 fun x2 =>
     vl (c0.Targets.set (Int.toNat c1) a0) fun y4 =>
     bd (retarder_last c2 (Motion.mk c0.Speed c0.Class c0.Error y4)) fun v5 =>
     some (v5.1, v5.2, y4)
def retarder_least (a0 : Int → List Int → Option (Bool × List Int)) (l0 : List Int) : Option (Int × List Int) :=
  lp (fun (z1 : (Int × Int × List Int)) k3 =>
     cond (decide (z1.1 < z1.2.1))
     (vl (w64 (Int.tdiv (w64 (z1.1 + z1.2.1)) 2)) fun x6 =>
     bd (a0 x6 z1.2.2) fun v7 =>
     cond v7.1
     (k3 (z1.1, x6, v7.2))
     (k3 (w64 (x6 + 1), z1.2.1, v7.2)))
     (some (z1.1, z1.2.2))) big (0, 20001, l0)
def retarder_Window_2 (a0 : Int) (c1 : Motion) (c2 : Int) (c3 : (List Piece)) (c4 : Band) : Option (Bool × List Int) :=
  bd (retarder_Window_1 a0 c1 c2 c3) fun v1 =>
     bd (retarder_enough v1.1 c4.Lo) fun v4 =>
     some (v4, v1.2.2)
def retarder_Window_3 (a0 : Int) (c1 : Motion) (c2 : Int) (c3 : (List Piece)) (c4 : Band) : Option (Bool × List Int) :=
  bd (retarder_Window_1 a0 c1 c2 c3) fun v1 =>
     cond (!v1.1.Stops) (some (decide ((w64 (c4.Hi * c4.Hi)) < v1.1.Energy.Hi), v1.2.2)) (some (false, v1.2.2))
def retarder_Window (a0 : (List Piece)) (a1 : Motion) (a2 : Int) (a3 : Band) : Option (Interval × Int) :=
  bd (retarder_Valid a3) fun v6 =>
     cond (!v6)
     (some ((Interval.mk 0 0), 1))
     (cond (decide (a2 < 0)) (some ((Interval.mk 0 0), 2)) (cond (decide ((a1.Targets.length : Int) ≤ a2))
     (some ((Interval.mk 0 0), 2))
     (ck (decide (([] : List Int).length + a1.Targets.length ≤ 1000000000)) <|
     vl (([] : List Int) ++ a1.Targets) fun y7 =>
     bd (retarder_Window_1 0 (Motion.mk a1.Speed a1.Class a1.Error y7) a2 a0) fun v10 =>
     cond (decide (v10.2.1 ≠ 0))
     (some ((Interval.mk 0 0), v10.2.1))
     (bd (retarder_least (fun i l => retarder_Window_2 i (Motion.mk a1.Speed a1.Class a1.Error l) a2 a0 a3) v10.2.2) fun v13 =>
     bd (retarder_least (fun i l => retarder_Window_3 i (Motion.mk a1.Speed a1.Class a1.Error l) a2 a0 a3) v13.2) fun v15 =>
     cond (decide ((w64 (v15.1 - 1)) < v13.1))
     (some ((Interval.mk 0 0), 15))
     (some ((Interval.mk v13.1 (w64 (v15.1 - 1))), 0))))))
def r21_With (a0 : Motion) (a1 : Int) (a2 : Int) : Option Motion :=
  ck (decide (([] : List Int).length + a0.Targets.length ≤ 1000000000)) <|
     vl (([] : List Int) ++ a0.Targets) fun y4 =>
     ix y4 a1 fun x6 =>
     vl (y4.set (Int.toNat a1) a2) fun y8 =>
     some (Motion.mk a0.Speed a0.Class a0.Error y8)
def r21_last (a0 : (List Piece)) (a1 : Motion) : Option Passage :=
  bd (r20_Pass a0 a1) fun v3 =>
     ix v3.1 (w64 ((v3.1.length : Int) - 1)) fun x5 =>
     some x5
def r21_Window (a0 : (List Piece)) (a1 : Motion) (a2 : Int) (a3 : Band) : Option (Interval × Int) :=
  bd (r21_Valid a3) fun v4 =>
     cond (!v4)
     (some ((Interval.mk 0 0), 1))
     (cond (decide (a2 < 0)) (some ((Interval.mk 0 0), 2)) (cond (decide ((a1.Targets.length : Int) ≤ a2))
     (some ((Interval.mk 0 0), 2))
     (bd (r21_With a1 a2 0) fun v5 =>
     bd (r20_Pass a0 (Motion.mk v5.Speed a1.Class v5.Error v5.Targets)) fun v7 =>
     cond (decide (v7.2 ≠ 0))
     (some ((Interval.mk 0 0), v7.2))
     (jp (fun (z9 : Int) =>
     jp (fun (z13 : Int) =>
     cond (decide (z13 ≤ z9))
     (some ((Interval.mk 0 0), 15))
     (some ((Interval.mk z9 (w64 (z13 - 1))), 0))) fun k15 =>
     lp (fun (z17 : (Int × Int)) k19 =>
     cond (decide (z17.2 < z17.1))
     (vl (w64 (Int.tdiv (w64 (z17.2 + z17.1)) 2)) fun x22 =>
     bd (r21_With a1 a2 x22) fun v23 =>
     bd (r21_last a0 (Motion.mk v23.Speed a1.Class v23.Error v23.Targets)) fun v25 =>
     bd (r21_gentle v25 a3) fun v26 =>
     cond v26
     (k19 (z17.1, w64 (x22 + 1)))
     (k19 (x22, z17.2)))
     (k15 z17.2)) big (20001, 0)) fun k11 =>
     lp (fun (z27 : (Int × Int)) k29 =>
     cond (decide (z27.1 < z27.2))
     (vl (w64 (Int.tdiv (w64 (z27.1 + z27.2)) 2)) fun x32 =>
     bd (r21_With a1 a2 x32) fun v33 =>
     bd (r21_last a0 (Motion.mk v33.Speed a1.Class v33.Error v33.Targets)) fun v35 =>
     bd (r21_enough v35 a3) fun v36 =>
     cond v36
     (k29 (z27.1, x32))
     (k29 (w64 (x32 + 1), z27.2)))
     (k11 z27.1)) big (0, 20001)))))
def retarder_Choose (a0 : (List Piece)) (a1 : Motion) (a2 : Band) : Option (Int × Int) :=
  vl (w64 ((a1.Targets.length : Int) - 1)) fun x3 =>
     bd (retarder_Window a0 a1 x3 a2) fun v4 =>
     some (v4.1.Hi, v4.2)
def r21_Choose (a0 : (List Piece)) (a1 : Motion) (a2 : Band) : Option (Int × Int) :=
  vl (w64 ((a1.Targets.length : Int) - 1)) fun x3 =>
     bd (r21_Window a0 a1 x3 a2) fun v4 =>
     some (v4.1.Hi, v4.2)
def law21_exact (a0 : (List Piece)) (a1 : Motion) (a2 : Int) (a3 : Band) : Option Bool :=
  bd (retarder_Meets a0 a1 a3) fun v3 =>
     bd (r21_Meets a0 a1 a3) fun v4 =>
     bd (retarder_Window a0 a1 a2 a3) fun v5 =>
     bd (r21_Window a0 a1 a2 a3) fun v7 =>
     bd (retarder_Choose a0 a1 a3) fun v9 =>
     bd (r21_Choose a0 a1 a3) fun v10 =>
     bd (retarder_Valid a3) fun v11 =>
     bd (r21_Valid a3) fun v12 =>
     cond (v11 == v12) (cond (v3.1 == v4.1) (cond (decide (v3.2 = v4.2)) (cond (decide (v5.1.Lo = v7.1.Lo ∧ v5.1.Hi = v7.1.Hi)) (cond (decide (v5.2 = v7.2)) (cond (decide (v9.1 = v10.1)) (some (decide (v9.2 = v10.2))) (some false)) (some false)) (some false)) (some false)) (some false)) (some false)
def law21_sane  : Option Bool :=
  bd (retarder_Window ([(Piece.mk 1 1000 0 0 10000000)] : List Piece) (Motion.mk (Interval.mk 3000 3000) ([(Interval.mk 0 0)] : List Interval) 0 ([(-1)] : List Int)) 0 (Band.mk 1000 1500)) fun v5 =>
     bd (retarder_Choose ([(Piece.mk 1 1000 0 0 10000000)] : List Piece) (Motion.mk (Interval.mk 3000 3000) ([(Interval.mk 0 0)] : List Interval) 100 ([(-1)] : List Int)) (Band.mk 1000 1500)) fun v7 =>
     bd (retarder_Window ([(Piece.mk 1 1000 0 0 10000000)] : List Piece) (Motion.mk (Interval.mk 3000 3000) ([(Interval.mk 0 0)] : List Interval) 100 ([(-1)] : List Int)) 0 (Band.mk 1000 1100)) fun v8 =>
     cond (decide (v5.2 = 0)) (cond (decide (v5.1.Lo = 1000 ∧ v5.1.Hi = 1500)) (cond (decide (v7.2 = 0)) (cond (decide (v7.1 = 1400)) (some (decide (v8.2 = 15))) (some false)) (some false)) (some false)) (some false)
def law21_RetarderExact (a0 : (List Int)) (a1 : (List Piece)) (a2 : Motion) (a3 : Int) (a4 : Band) : Option Bool :=
  bd (gen_New a0) fun v3 =>
     jp (fun (z5 : Unit) =>
     cond (decide (30 < (a1.length : Int))) (bd (law21_sane) fun v9 =>
     some v9) (cond (decide (40 < (a2.Class.length : Int))) (bd (law21_sane) fun v10 =>
     some v10) (cond (decide (40 < (a2.Targets.length : Int)))
     (bd (law21_sane) fun v11 =>
     some v11)
     (bd (law21_exact a1 a2 a3 a4) fun v12 =>
     cond v12 (bd (law21_sane) fun v13 =>
     some v13) (some false))))) fun k7 =>
     lp (fun (z14 : (Int × Int)) k16 =>
     cond (decide (z14.2 < 3))
     (bd (gen_Maker_Pieces (HumpgenMaker.mk a0 z14.1) 6) fun v19 =>
     bd (gen_Maker_Motion (HumpgenMaker.mk a0 v19.2) v19.1) fun v21 =>
     vl (w64 ((v21.1.Targets.length : Int) + 2)) fun x24 =>
     bd (gen_Maker_Next (HumpgenMaker.mk a0 v21.2) x24) fun v25 =>
     jp (fun (z27 : (Int × Int × Int)) =>
     bd (yardgen_Band (HumpgenMaker.mk a0 z27.1)) fun v31 =>
     bd (law21_exact v19.1 (Motion.mk (Interval.mk v21.1.Speed.Lo z27.2.1) v21.1.Class z27.2.2 v21.1.Targets) (w64 (v25.1 - 1)) v31.1) fun v33 =>
     cond (!v33) (some false) (bd (law21_exact v19.1 (Motion.mk (Interval.mk v21.1.Speed.Lo z27.2.1) v21.1.Class z27.2.2 v21.1.Targets) a3 a4) fun v34 =>
     cond (!v34)
     (some false)
     (k16 (v31.2, w64 (z14.2 + 1))))) fun k29 =>
     cond (decide (z14.2 = 2))
     (bd (gen_Maker_Pick (HumpgenMaker.mk a0 v25.2) ([(-1), 0, 1000, 1001] : List Int)) fun v36 =>
     bd (gen_Maker_Pick (HumpgenMaker.mk a0 v36.2) ([w64 (v21.1.Speed.Lo - 1), v21.1.Speed.Hi, 20001] : List Int)) fun v39 =>
     k29 (v39.2, v39.1, v36.1))
     (k29 (v25.2, v21.1.Speed.Hi, v21.1.Error)))
     (k7 ())) big (v3.fn, 0)
def yardgen_Place (a0 : Int) (a1 : Int) : Option Int :=
  cond (decide (a1 < 1))
     (some 0)
     (ck (decide (a1 ≠ 0)) <|
     cond (decide ((Int.tmod a0 a1) < 0))
     (some (w64 ((Int.tmod a0 a1) + a1)))
     (some (Int.tmod a0 a1)))
def law21_RetarderInside (a0 : (List Int)) (a1 : Int) : Option Bool :=
  bd (gen_New a0) fun v1 =>
     bd (gen_Maker_Pieces (HumpgenMaker.mk a0 v1.fn) 4) fun v3 =>
     bd (gen_Maker_Pick (HumpgenMaker.mk a0 v3.2) ([0, 50, 100] : List Int)) fun v6 =>
     ck (decide (v3.1.length + ([(Piece.mk 90 9000 0 0 30000000), (Piece.mk 91 20000 v6.1 0 0)] : List Piece).length ≤ 1000000000)) <|
     vl (v3.1 ++ ([(Piece.mk 90 9000 0 0 30000000), (Piece.mk 91 20000 v6.1 0 0)] : List Piece)) fun y9 =>
     bd (gen_Maker_Motion (HumpgenMaker.mk a0 v6.2) y9) fun v11 =>
     bd (yardgen_Band (HumpgenMaker.mk a0 v11.2)) fun v14 =>
     vl (w64 ((v11.1.Targets.length : Int) - 1)) fun x17 =>
     bd (retarder_Window y9 v11.1 x17 v14.1) fun v18 =>
     jp (fun (z20 : Bool) =>
     cond z20
     (bd (r21_Valid v14.1) fun v24 =>
     cond (!v24) (bd (law21_sane) fun v25 =>
     some v25) (some false))
     (bd (yardgen_Place a1 20001) fun v26 =>
     vl (w64 (Int.tdiv (w64 (v18.1.Lo + v18.1.Hi)) 2)) fun x27 =>
     lp (fun (z28 : Int) k30 =>
     cond (decide (z28 < 4))
     (ix ([v26, w64 (v18.1.Lo - 1), w64 (v18.1.Hi + 1), x27] : List Int) z28 fun x33 =>
     cond (decide (x33 < 0)) (k30 (w64 (z28 + 1))) (cond (decide (20000 < x33))
     (k30 (w64 (z28 + 1)))
     (bd (r21_With v11.1 x17 x33) fun v35 =>
     bd (retarder_Meets y9 (Motion.mk v35.Speed v11.1.Class v35.Error v35.Targets) v14.1) fun v37 =>
     cond (decide (v37.2 ≠ 0)) (some false) (cond (decide (v18.2 = 0)) (cond (decide (v18.1.Lo ≤ x33)) (cond (!(v37.1 == (decide (x33 ≤ v18.1.Hi))))
     (some false)
     (k30 (w64 (z28 + 1)))) (cond (!(v37.1 == false))
     (some false)
     (k30 (w64 (z28 + 1))))) (cond (!(v37.1 == false))
     (some false)
     (k30 (w64 (z28 + 1))))))))
     (bd (law21_sane) fun v38 =>
     some v38)) big 0)) fun k22 =>
     cond (decide (v18.2 ≠ 0)) (k22 (decide (v18.2 ≠ 15))) (k22 false)
def gen_Maker_From (a0 : HumpgenMaker) (a1 : Int) (a2 : Int) : Option (Int × Int) :=
  bd (gen_Maker_Next a0 (w64 ((w64 (a2 - a1)) + 1))) fun v1 =>
     some (w64 (a1 + v1.1), v1.2)
def gen_Maker_Run (a0 : HumpgenMaker) (a1 : Motion) : Option (Run × Int) :=
  bd (gen_Maker_From a0 a1.Speed.Lo a1.Speed.Hi) fun v3 =>
     jp (fun (z6 : ((List Int) × Int)) =>
     lp (fun (z10 : ((List Int) × Int × Int)) k12 =>
     cond (decide (z10.2.1 < (a1.Targets.length : Int)))
     (ix a1.Targets z10.2.1 fun x15 =>
     jp (fun (z17 : (Int × Int)) =>
     ck (decide (z10.1.length + ([z17.1] : List Int).length ≤ 1000000000)) <|
     vl (z10.1 ++ ([z17.1] : List Int)) fun y22 =>
     k12 (y22, w64 (z10.2.1 + 1), z17.2)) fun k19 =>
     cond (decide (0 ≤ x15))
     (bd (gen_Maker_From (HumpgenMaker.mk a0.fl z10.2.2) (w64 (x15 - a1.Error)) (w64 (x15 + a1.Error))) fun v24 =>
     k19 (max 0 (min 20000 v24.1), v24.2))
     (k19 (x15, z10.2.2)))
     (some ((Run.mk v3.1 z6.1 z10.1), z10.2.2))) big (([] : List Int), 0, z6.2)) fun k8 =>
     lp (fun (z26 : ((List Int) × Int × Int)) k28 =>
     cond (decide (z26.2.1 < (a1.Class.length : Int)))
     (ix a1.Class z26.2.1 fun x31 =>
     ix a1.Class z26.2.1 fun x33 =>
     bd (gen_Maker_From (HumpgenMaker.mk a0.fl z26.2.2) x31.Lo x33.Hi) fun v35 =>
     ck (decide (z26.1.length + ([v35.1] : List Int).length ≤ 1000000000)) <|
     vl (z26.1 ++ ([v35.1] : List Int)) fun y38 =>
     k28 (y38, w64 (z26.2.1 + 1), v35.2))
     (k8 (z26.1, z26.2.2))) big (([] : List Int), 0, v3.2)
def r20_Point (a0 : (List Piece)) (a1 : Run) : Option ((List Moment) × Int × Int) :=
  bd (r20_Valid a0) fun v2 =>
     cond (decide (v2 ≠ 0))
     (some (([] : List Moment), 0, v2))
     (cond (decide ((a1.Resist.length : Int) ≠ (a0.length : Int))) (some (([] : List Moment), 0, 1)) (bd (r20_Retarders a0) fun v3 =>
     cond (decide ((a1.Targets.length : Int) ≠ v3))
     (some (([] : List Moment), 0, 1))
     (jp (fun (z4 : Bool) =>
     jp (fun (z8 : Bool) =>
     cond (!z8)
     (some (([] : List Moment), 0, 2))
     (lp (fun (z14 : (Int × Int × (List Moment) × Int × Int)) k16 =>
     cond (decide (z14.2.2.2.2 < (a0.length : Int)))
     (ix a0 z14.2.2.2.2 fun x19 =>
     ix a1.Resist z14.2.2.2.2 fun x21 =>
     bd (r20_gain x19 x21) fun v23 =>
     bd (r01_Down v23 100000) fun v24 =>
     cond (decide ((w64 (z14.2.1 + v24)) < 0))
     (some (z14.2.2.1, z14.2.2.2.2, 0))
     (bd (r01_RootDown z14.2.1) fun v25 =>
     bd (r01_RootDown (w64 (z14.2.1 + v24))) fun v26 =>
     cond (decide ((w64 (v25 + v26)) = 0))
     (some (z14.2.2.1, z14.2.2.2.2, 0))
     (ix a0 z14.2.2.2.2 fun x27 =>
     bd (r01_Up (w64 (2000 * x27.Length)) (w64 (v25 + v26))) fun v29 =>
     vl (min 1000000000 (w64 (z14.1 + v29))) fun x30 =>
     ix a0 z14.2.2.2.2 fun x31 =>
     cond (decide (0 < x31.Power))
     (ix a1.Targets z14.2.2.2.1 fun x33 =>
     cond (decide (0 ≤ x33))
     (vl (min (w64 (z14.2.1 + v24)) (w64 (x33 * x33))) fun x35 =>
     ix a0 z14.2.2.2.2 fun x36 =>
     vl (w64 ((w64 (z14.2.1 + v24)) - x36.Power)) fun x38 =>
     ck (decide (z14.2.2.1.length + ([(Moment.mk x30 (max x35 x38))] : List Moment).length ≤ 1000000000)) <|
     vl (z14.2.2.1 ++ ([(Moment.mk x30 (max x35 x38))] : List Moment)) fun y40 =>
     k16 (x30, max x35 x38, y40, w64 (z14.2.2.2.1 + 1), w64 (z14.2.2.2.2 + 1)))
     (ck (decide (z14.2.2.1.length + ([(Moment.mk x30 (w64 (z14.2.1 + v24)))] : List Moment).length ≤ 1000000000)) <|
     vl (z14.2.2.1 ++ ([(Moment.mk x30 (w64 (z14.2.1 + v24)))] : List Moment)) fun y43 =>
     k16 (x30, w64 (z14.2.1 + v24), y43, w64 (z14.2.2.2.1 + 1), w64 (z14.2.2.2.2 + 1))))
     (ck (decide (z14.2.2.1.length + ([(Moment.mk x30 (w64 (z14.2.1 + v24)))] : List Moment).length ≤ 1000000000)) <|
     vl (z14.2.2.1 ++ ([(Moment.mk x30 (w64 (z14.2.1 + v24)))] : List Moment)) fun y46 =>
     k16 (x30, w64 (z14.2.1 + v24), y46, z14.2.2.2.1, w64 (z14.2.2.2.2 + 1))))))
     (some (z14.2.2.1, (-1), 0))) big (0, w64 (a1.Speed * a1.Speed), ([(Moment.mk 0 (w64 (a1.Speed * a1.Speed)))] : List Moment), 0, 0))) fun k10 =>
     lp (fun (z48 : (Bool × Int)) k50 =>
     cond (decide (z48.2 < (a0.length : Int)))
     (cond z48.1 (ix a1.Resist z48.2 fun x53 =>
     cond (decide ((-5000) ≤ x53)) (ix a1.Resist z48.2 fun x55 =>
     k50 (decide (x55 ≤ 10000), w64 (z48.2 + 1))) (k50 (false, w64 (z48.2 + 1)))) (k50 (false, w64 (z48.2 + 1))))
     (k10 z48.1)) big (z4, 0)) fun k6 =>
     cond (decide (0 ≤ a1.Speed)) (cond (decide (a1.Speed ≤ 20000)) (bd (r20_targets a1.Targets) fun v57 =>
     k6 v57) (k6 false)) (k6 false))))
def law21_RetarderRuns (a0 : (List Int)) (a1 : Int) : Option Bool :=
  bd (gen_New a0) fun v1 =>
     bd (gen_Maker_Pieces (HumpgenMaker.mk a0 v1.fn) 3) fun v3 =>
     bd (gen_Maker_Pick (HumpgenMaker.mk a0 v3.2) ([0, 50, 100] : List Int)) fun v6 =>
     ck (decide (v3.1.length + ([(Piece.mk 90 9000 0 0 30000000), (Piece.mk 91 20000 v6.1 0 0)] : List Piece).length ≤ 1000000000)) <|
     vl (v3.1 ++ ([(Piece.mk 90 9000 0 0 30000000), (Piece.mk 91 20000 v6.1 0 0)] : List Piece)) fun y9 =>
     bd (gen_Maker_Motion (HumpgenMaker.mk a0 v6.2) y9) fun v11 =>
     bd (yardgen_Band (HumpgenMaker.mk a0 v11.2)) fun v14 =>
     vl (w64 ((v11.1.Targets.length : Int) - 1)) fun x17 =>
     bd (retarder_Window y9 v11.1 x17 v14.1) fun v18 =>
     cond (decide (v18.2 ≠ 0))
     (bd (law21_sane) fun v20 =>
     some v20)
     (vl (w64 ((w64 (v18.1.Hi - v18.1.Lo)) + 1)) fun x21 =>
     bd (yardgen_Place a1 x21) fun v22 =>
     bd (r21_With v11.1 x17 (w64 (v18.1.Lo + v22))) fun v23 =>
     lp (fun (z25 : (Int × Int)) k27 =>
     cond (decide (z25.2 < 4))
     (bd (gen_Maker_Run (HumpgenMaker.mk a0 z25.1) (Motion.mk v23.Speed v11.1.Class v23.Error v23.Targets)) fun v30 =>
     bd (r20_Point y9 v30.1) fun v32 =>
     cond (decide (v32.2.2 ≠ 0)) (some false) (cond (decide (v32.2.1 ≠ (-1))) (some false) (cond (decide ((v32.1.length : Int) ≠ (w64 ((y9.length : Int) + 1)))) (some false) (ix v32.1 (y9.length : Int) fun x34 =>
     cond (decide (x34.Energy < (w64 (v14.1.Lo * v14.1.Lo)))) (some false) (ix v32.1 (y9.length : Int) fun x36 =>
     cond (decide ((w64 (v14.1.Hi * v14.1.Hi)) < x36.Energy))
     (some false)
     (k27 (v30.2, w64 (z25.2 + 1))))))))
     (bd (law21_sane) fun v38 =>
     some v38)) big (v14.2, 0))
def law21_RetarderWidens (a0 : (List Int)) (a1 : Int) (a2 : Int) : Option Bool :=
  bd (gen_New a0) fun v1 =>
     bd (gen_Maker_Pieces (HumpgenMaker.mk a0 v1.fn) 3) fun v3 =>
     ck (decide (v3.1.length + ([(Piece.mk 90 9000 0 0 30000000)] : List Piece).length ≤ 1000000000)) <|
     vl (v3.1 ++ ([(Piece.mk 90 9000 0 0 30000000)] : List Piece)) fun y6 =>
     bd (gen_Maker_Motion (HumpgenMaker.mk a0 v3.2) y6) fun v8 =>
     bd (yardgen_Band (HumpgenMaker.mk a0 v8.2)) fun v11 =>
     vl (w64 ((v8.1.Targets.length : Int) - 1)) fun x14 =>
     bd (retarder_Window y6 v8.1 x14 v11.1) fun v15 =>
     cond (decide (v15.2 ≠ 0))
     (bd (law21_sane) fun v17 =>
     some v17)
     (bd (yardgen_Place a1 (w64 (v11.1.Lo + 1))) fun v18 =>
     vl (w64 ((w64 (20000 - v11.1.Hi)) + 1)) fun x19 =>
     bd (yardgen_Place a2 x19) fun v20 =>
     bd (retarder_Window y6 v8.1 x14 (Band.mk (w64 (v11.1.Lo - v18)) (w64 (v11.1.Hi + v20)))) fun v22 =>
     bd (yardgen_Place a2 (w64 (v8.1.Error + 1))) fun v24 =>
     bd (retarder_Window y6 (Motion.mk v8.1.Speed v8.1.Class (w64 (v8.1.Error - v24)) v8.1.Targets) x14 v11.1) fun v25 =>
     cond (decide (v22.2 = 0)) (cond (decide (v22.1.Lo ≤ v15.1.Lo)) (cond (decide (v15.1.Hi ≤ v22.1.Hi)) (cond (decide (v25.2 = 0)) (cond (decide (v25.1.Lo ≤ v15.1.Lo)) (cond (decide (v15.1.Hi ≤ v25.1.Hi)) (bd (law21_sane) fun v27 =>
     some v27) (some false)) (some false)) (some false)) (some false)) (some false)) (some false))
def law21_RetarderChooses (a0 : (List Int)) (a1 : Int) : Option Bool :=
  bd (gen_New a0) fun v1 =>
     bd (gen_Maker_Pieces (HumpgenMaker.mk a0 v1.fn) 3) fun v3 =>
     bd (gen_Maker_Pick (HumpgenMaker.mk a0 v3.2) ([0, 50, 100] : List Int)) fun v6 =>
     ck (decide (v3.1.length + ([(Piece.mk 90 9000 0 0 30000000), (Piece.mk 91 20000 v6.1 0 0)] : List Piece).length ≤ 1000000000)) <|
     vl (v3.1 ++ ([(Piece.mk 90 9000 0 0 30000000), (Piece.mk 91 20000 v6.1 0 0)] : List Piece)) fun y9 =>
     bd (gen_Maker_Motion (HumpgenMaker.mk a0 v6.2) y9) fun v11 =>
     bd (yardgen_Band (HumpgenMaker.mk a0 v11.2)) fun v14 =>
     vl (w64 ((v11.1.Targets.length : Int) - 1)) fun x17 =>
     bd (retarder_Choose y9 v11.1 v14.1) fun v18 =>
     bd (r21_Valid v14.1) fun v19 =>
     cond (!v19)
     (cond (decide (v18.2 = 1)) (cond (decide (v18.1 = 0)) (bd (law21_sane) fun v20 =>
     some v20) (some false)) (some false))
     (bd (yardgen_Place a1 20001) fun v21 =>
     bd (r21_With v11.1 x17 v21) fun v22 =>
     bd (retarder_Meets y9 (Motion.mk v22.Speed v11.1.Class v22.Error v22.Targets) v14.1) fun v24 =>
     jp (fun (z25 : Unit) =>
     cond (decide (v18.2 ≠ 0))
     (cond (decide (v18.2 = 15)) (bd (law21_sane) fun v29 =>
     some v29) (some false))
     (bd (r21_With v11.1 x17 v18.1) fun v30 =>
     bd (retarder_Meets y9 (Motion.mk v30.Speed v11.1.Class v30.Error v30.Targets) v14.1) fun v32 =>
     cond (decide (v32.2 = 0)) (cond v32.1 (bd (law21_sane) fun v33 =>
     some v33) (some false)) (some false))) fun k27 =>
     cond (decide (v24.2 ≠ 0)) (some false) (cond v24.1 (cond (decide (v18.2 ≠ 0)) (some false) (cond (decide (v18.1 < v21))
     (some false)
     (k27 ()))) (k27 ())))
end Go.Hy
