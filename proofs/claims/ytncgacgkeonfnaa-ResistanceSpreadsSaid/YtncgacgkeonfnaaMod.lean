/-
  Plain models of the program's functions. Printed by a program out of the translation.
-/
import Derived.Test.YtncgacgkeonfnaaData
namespace Go.Hy
set_option linter.unusedVariables false
set_option linter.unusedSimpArgs false
set_option maxHeartbeats 2000000
set_option maxRecDepth 100000
def resistance_speed (a0 : Int) : Option Bool :=
  cond (decide (0 ≤ a0)) (some (decide (a0 ≤ 20000))) (some false)
def resistance_Measured (a0 : (List Sample)) : Option (Interval × Int) :=
  cond (decide (256 < (a0.length : Int)))
     (some ((Interval.mk 0 0), 3))
     (cond (decide ((a0.length : Int) = 0))
     (some ((Interval.mk 0 0), 13))
     (lp (fun (z3 : (Int × Int × Int)) k5 =>
     cond (decide (z3.2.2 < (a0.length : Int)))
     (ix a0 z3.2.2 fun x8 =>
     cond (decide (x8.Length < 1)) (some ((Interval.mk 0 0), 2)) (cond (decide (1000000 < x8.Length)) (some ((Interval.mk 0 0), 2)) (cond (decide (x8.Grade < (-10000))) (some ((Interval.mk 0 0), 2)) (cond (decide (10000 < x8.Grade)) (some ((Interval.mk 0 0), 2)) (bd (resistance_speed x8.Before) fun v11 =>
     cond (!v11) (some ((Interval.mk 0 0), 2)) (bd (resistance_speed x8.Behind) fun v12 =>
     cond (!v12)
     (some ((Interval.mk 0 0), 2))
     (vl (w64 ((w64 (x8.Behind * x8.Behind)) - (w64 (x8.Before * x8.Before)))) fun x13 =>
     ck (decide ((w64 (19620 * x8.Length)) ≠ 0)) <|
     vl (w64 (Int.tdiv (w64 (x13 * 100000)) (w64 (19620 * x8.Length)))) fun x15 =>
     ck (decide ((w64 (19620 * x8.Length)) ≠ 0)) <|
     vl (Int.tmod (w64 (x13 * 100000)) (w64 (19620 * x8.Length))) fun x17 =>
     jp (fun (z19 : (Int × Int)) =>
     jp (fun (z23 : (Int × Int)) =>
     k5 (min z23.1 z19.1, max z23.2 z19.2, w64 (z3.2.2 + 1))) fun k25 =>
     cond (decide (z3.2.2 = 0))
     (k25 (z19.1, z19.2))
     (k25 (z3.1, z3.2.1))) fun k21 =>
     cond (decide (0 < x17))
     (vl (w64 ((w64 (x8.Grade - x15)) - 1)) fun x27 =>
     k21 (x27, w64 (x8.Grade - x15)))
     (cond (decide (x17 < 0))
     (vl (w64 ((w64 (x8.Grade - x15)) + 1)) fun x28 =>
     k21 (w64 (x8.Grade - x15), x28))
     (k21 (w64 (x8.Grade - x15), w64 (x8.Grade - x15)))))))))))
     (some ((Interval.mk z3.1 z3.2.1), 0))) big (0, 0, 0)))
def resistance_Valid (a0 : (List Resistance)) : Option Int :=
  cond (decide ((a0.length : Int) < 1)) (some 3) (cond (decide (16 < (a0.length : Int)))
     (some 3)
     (lp (fun (z1 : Int) k3 =>
     cond (decide (z1 < (a0.length : Int)))
     (ix a0 z1 fun x6 =>
     cond (decide (x6.Mass < 1)) (some 1) (cond (decide (2000 < x6.Mass)) (some 1) (cond (decide (0 < z1)) (ix a0 (w64 (z1 - 1)) fun x9 =>
     cond (decide (x6.Mass ≤ x9.Mass)) (some 1) (cond (decide (x6.Lo < 0)) (some 1) (cond (decide (x6.Hi < x6.Lo)) (some 1) (cond (decide (5000 < x6.Hi))
     (some 1)
     (k3 (w64 (z1 + 1))))))) (cond (decide (x6.Lo < 0)) (some 1) (cond (decide (x6.Hi < x6.Lo)) (some 1) (cond (decide (5000 < x6.Hi))
     (some 1)
     (k3 (w64 (z1 + 1)))))))))
     (some 0)) big 0))
def sort_Search (a0 : Int) (a1 : Int → Option Bool) : Option Int :=
  lp (fun (z1 : (Int × Int)) k3 =>
     cond (decide (z1.1 < z1.2))
     (vl (IntKind.wrap .u64 (w64 (z1.1 + z1.2))) fun x6 =>
     bd (a1 (IntKind.wrap .i64 (x6 / 2))) fun v7 =>
     cond (!v7)
     (vl (w64 ((IntKind.wrap .i64 (x6 / 2)) + 1)) fun x8 =>
     k3 (x8, z1.2))
     (k3 (z1.1, IntKind.wrap .i64 (x6 / 2))))
     (some z1.1)) big (0, a0)
def resistance_Rolling_1 (a0 : Int) (c0 : (List Resistance)) (c1 : Int) : Option Bool :=
  ix c0 a0 fun x1 =>
     some (decide (c1 < x1.Mass))
def interval_inside (a0 : Int) : Option Bool :=
  cond (decide ((-1000000000000) ≤ a0)) (some (decide (a0 ≤ 1000000000000))) (some false)
def interval_Valid (a0 : Interval) : Option Bool :=
  cond (decide (a0.Lo ≤ a0.Hi)) (bd (interval_inside a0.Lo) fun v2 =>
     cond v2 (bd (interval_inside a0.Hi) fun v3 =>
     some v3) (some false)) (some false)
def interval_down (a0 : Int) (a1 : Int) : Option Int :=
  ck (decide (a1 ≠ 0)) <|
     ck (decide (a1 ≠ 0)) <|
     cond (decide ((Int.tmod a0 a1) ≠ 0)) (cond (!((decide ((Int.tmod a0 a1) < 0)) == (decide (a1 < 0))))
     (vl (w64 ((w64 (Int.tdiv a0 a1)) - 1)) fun x3 =>
     some x3)
     (some (w64 (Int.tdiv a0 a1)))) (some (w64 (Int.tdiv a0 a1)))
def interval_up (a0 : Int) (a1 : Int) : Option Int :=
  ck (decide (a1 ≠ 0)) <|
     ck (decide (a1 ≠ 0)) <|
     cond (decide ((Int.tmod a0 a1) ≠ 0)) (cond ((decide ((Int.tmod a0 a1) < 0)) == (decide (a1 < 0)))
     (vl (w64 ((w64 (Int.tdiv a0 a1)) + 1)) fun x3 =>
     some x3)
     (some (w64 (Int.tdiv a0 a1)))) (some (w64 (Int.tdiv a0 a1)))
def interval_result (a0 : Int) (a1 : Int) : Option (Interval × Int) :=
  bd (interval_inside a0) fun v2 =>
     cond (!v2) (some ((Interval.mk 0 0), 4)) (bd (interval_inside a1) fun v3 =>
     cond (!v3)
     (some ((Interval.mk 0 0), 4))
     (some ((Interval.mk a0 a1), 0)))
def interval_Scale (a0 : Interval) (a1 : Int) (a2 : Int) : Option (Interval × Int) :=
  bd (interval_Valid a0) fun v3 =>
     cond (!v3)
     (some ((Interval.mk 0 0), 1))
     (jp (fun (z4 : Bool) =>
     cond z4
     (some ((Interval.mk 0 0), 2))
     (cond (decide (a2 = 0))
     (some ((Interval.mk 0 0), 5))
     (jp (fun (z8 : (Int × Int)) =>
     bd (interval_down z8.1 a2) fun v12 =>
     bd (interval_up z8.2 a2) fun v13 =>
     bd (interval_result v12 v13) fun v14 =>
     some (v14.1, v14.2)) fun k10 =>
     cond (!((decide (a1 < 0)) == (decide (a2 < 0))))
     (k10 (w64 (a0.Hi * a1), w64 (a0.Lo * a1)))
     (k10 (w64 (a0.Lo * a1), w64 (a0.Hi * a1)))))) fun k6 =>
     cond (decide (a1 < (-1000000))) (k6 true) (cond (decide (1000000 < a1)) (k6 true) (cond (decide (a2 < (-1000000))) (k6 true) (k6 (decide (1000000 < a2))))))
def resistance_between (a0 : Int) (a1 : Int) (a2 : Int) (a3 : Int) (a4 : Int) : Option Interval :=
  bd (interval_Scale (Interval.mk (w64 (a4 - a2)) (w64 (a4 - a2))) (w64 (a0 - a1)) (w64 (a3 - a1))) fun v2 =>
     some (Interval.mk (w64 (a2 + v2.1.Lo)) (w64 (a2 + v2.1.Hi)))
def resistance_Rolling (a0 : (List Resistance)) (a1 : Int) (a2 : Int) : Option (Interval × Int) :=
  bd (resistance_Valid a0) fun v3 =>
     cond (decide (v3 ≠ 0))
     (some ((Interval.mk 0 0), v3))
     (cond (decide (a1 < 1)) (some ((Interval.mk 0 0), 2)) (cond (decide (192000 < a1)) (some ((Interval.mk 0 0), 2)) (cond (decide (a2 < 1)) (some ((Interval.mk 0 0), 2)) (cond (decide (768 < a2))
     (some ((Interval.mk 0 0), 2))
     (ck (decide (a2 ≠ 0)) <|
     bd (sort_Search (a0.length : Int) (fun i => resistance_Rolling_1 i a0 (w64 (Int.tdiv a1 a2)))) fun v6 =>
     cond (decide (v6 = 0))
     (ix a0 0 fun x7 =>
     ix a0 0 fun x9 =>
     some ((Interval.mk x7.Lo x9.Hi), 0))
     (ix a0 (w64 (v6 - 1)) fun x11 =>
     jp (fun (z14 : Bool) =>
     cond z14
     (some ((Interval.mk x11.Lo x11.Hi), 0))
     (ix a0 v6 fun x18 =>
     bd (resistance_between (w64 (Int.tdiv a1 a2)) x11.Mass x11.Lo x18.Mass x18.Lo) fun v21 =>
     bd (resistance_between (w64 (Int.tdiv a1 a2)) x11.Mass x11.Hi x18.Mass x18.Hi) fun v23 =>
     some ((Interval.mk v21.Lo v23.Hi), 0))) fun k16 =>
     cond (decide (v6 = (a0.length : Int))) (k16 true) (k16 (decide (x11.Mass = (w64 (Int.tdiv a1 a2)))))))))))
def resistance_inside (a0 : Interval) (a1 : Int) (a2 : Int) : Option Bool :=
  bd (interval_Valid a0) fun v2 =>
     cond v2 (cond (decide (a1 ≤ a0.Lo)) (some (decide (a0.Hi ≤ a2))) (some false)) (some false)
def resistance_clip (a0 : Interval) : Option Interval :=
  some (Interval.mk (min (max a0.Lo 0) 5000) (min (max a0.Hi 0) 5000))
def resistance_Class (a0 : (List Resistance)) (a1 : Int) (a2 : Int) (a3 : Weather) : Option (Interval × Int) :=
  bd (resistance_Rolling a0 a1 a2) fun v3 =>
     cond (decide (v3.2 ≠ 0))
     (some ((Interval.mk 0 0), v3.2))
     (bd (resistance_inside a3.Wind (-40000) 40000) fun v5 =>
     cond (!v5) (some ((Interval.mk 0 0), 1)) (bd (resistance_inside a3.Cold 0 1000) fun v6 =>
     cond (!v6)
     (some ((Interval.mk 0 0), 1))
     (bd (interval_Scale a3.Wind 3 100) fun v7 =>
     vl (w64 ((w64 (v3.1.Lo + v7.1.Lo)) + a3.Cold.Lo)) fun x9 =>
     vl (w64 ((w64 (v3.1.Hi + v7.1.Hi)) + a3.Cold.Hi)) fun x10 =>
     bd (resistance_clip (Interval.mk x9 x10)) fun v11 =>
     some (v11, 0))))
def law19_sane  : Option Bool :=
  bd (resistance_Rolling ([(Resistance.mk 100 20 30), (Resistance.mk 200 10 20)] : List Resistance) 300 2) fun v2 =>
     bd (resistance_Measured ([(Sample.mk 19620 100 1000 1000)] : List Sample)) fun v5 =>
     bd (resistance_Class ([(Resistance.mk 1 5 5)] : List Resistance) 100 2 (Weather.mk (Interval.mk 0 1000) (Interval.mk 0 0))) fun v8 =>
     cond (decide (v2.2 = 0)) (cond (decide (v2.1.Lo = 15 ∧ v2.1.Hi = 25)) (cond (decide (v5.2 = 0)) (cond (decide (v5.1.Lo = 100 ∧ v5.1.Hi = 100)) (cond (decide (v8.2 = 0)) (some (decide (v8.1.Lo = 5 ∧ v8.1.Hi = 35))) (some false)) (some false)) (some false)) (some false)) (some false)
def law19_ResistanceLimits (a0 : Int) (a1 : Int) : Option Bool :=
  vl (Int.tmod (w64 ((Int.tmod a0 3) + 3)) 3) fun x1 =>
     jp (fun (z2 : (List Resistance)) =>
     jp (fun (z6 : (List Sample)) =>
     bd (resistance_Measured z6) fun v10 =>
     vl (Int.tmod (w64 ((Int.tmod a1 15) + 15)) 15) fun x12 =>
     bd (resistance_Rolling z2 (w64 (2 * (w64 (1980 + x12)))) 2) fun v13 =>
     cond (decide (1 < x1))
     (cond (decide (v10.2 = 3)) (cond (decide (v13.2 = 3)) (bd (resistance_Valid z2) fun v15 =>
     cond (decide (v15 = 3)) (bd (law19_sane) fun v16 =>
     some v16) (some false)) (some false)) (some false))
     (cond (decide (v10.2 = 0)) (cond (decide (v10.1.Lo = 10000 ∧ v10.1.Hi = 10000)) (cond (decide (v13.2 = 0)) (cond (decide (v13.1.Lo = w64 (10 * x12) ∧ v13.1.Hi = 5000)) (bd (law19_sane) fun v17 =>
     some v17) (some false)) (some false)) (some false)) (some false))) fun k8 =>
     lp (fun (z18 : ((List Sample) × Int)) k20 =>
     cond (decide (z18.2 < (w64 (255 + x1))))
     (ck (decide (z18.1.length + ([(Sample.mk 1000000 10000 20000 20000)] : List Sample).length ≤ 1000000000)) <|
     vl (z18.1 ++ ([(Sample.mk 1000000 10000 20000 20000)] : List Sample)) fun y24 =>
     k20 (y24, w64 (z18.2 + 1)))
     (k8 z18.1)) big (([] : List Sample), 0)) fun k4 =>
     lp (fun (z26 : ((List Resistance) × Int)) k28 =>
     cond (decide (z26.2 < (w64 (15 + x1))))
     (ck (decide (z26.1.length + ([(Resistance.mk (w64 (1980 + z26.2)) (w64 (10 * z26.2)) 5000)] : List Resistance).length ≤ 1000000000)) <|
     vl (z26.1 ++ ([(Resistance.mk (w64 (1980 + z26.2)) (w64 (10 * z26.2)) 5000)] : List Resistance)) fun y32 =>
     k28 (y32, w64 (z26.2 + 1)))
     (k4 z26.1)) big (([] : List Resistance), 0)
def gen_New (a0 : (List Int)) : Option HumpgenMaker :=
  some (HumpgenMaker.mk a0 0)
def gen_Maker_Next (a0 : HumpgenMaker) (a1 : Int) : Option (Int × Int) :=
  jp (fun (z1 : Int) =>
     ck (decide (a1 ≠ 0)) <|
     cond (decide ((Int.tmod z1 a1) < 0))
     (some (w64 ((Int.tmod z1 a1) + a1), w64 (a0.fn + 1)))
     (some (Int.tmod z1 a1, w64 (a0.fn + 1)))) fun k3 =>
     cond (decide (0 < (a0.fl.length : Int)))
     (ck (decide ((a0.fl.length : Int) ≠ 0)) <|
     vl (Int.tmod a0.fn (a0.fl.length : Int)) fun x7 =>
     ix a0.fl x7 fun x8 =>
     ck (decide ((a0.fl.length : Int) ≠ 0)) <|
     vl (w64 (Int.tdiv a0.fn (a0.fl.length : Int))) fun x11 =>
     k3 (w64 (x8 + (w64 (x11 * 7919)))))
     (k3 0)
def gen_Maker_From (a0 : HumpgenMaker) (a1 : Int) (a2 : Int) : Option (Int × Int) :=
  bd (gen_Maker_Next a0 (w64 ((w64 (a2 - a1)) + 1))) fun v1 =>
     some (w64 (a1 + v1.1), v1.2)
def gen_Maker_Pick (a0 : HumpgenMaker) (a1 : (List Int)) : Option (Int × Int) :=
  bd (gen_Maker_Next a0 (a1.length : Int)) fun v1 =>
     ix a1 v1.1 fun x3 =>
     some (x3, v1.2)
def gen_Maker_Table (a0 : HumpgenMaker) : Option ((List Resistance) × Int) :=
  bd (gen_Maker_From a0 1 60) fun v1 =>
     bd (gen_Maker_Next (HumpgenMaker.mk a0.fl v1.2) 5) fun v3 =>
     lp (fun (z5 : ((List Resistance) × Int × Int × Int)) k7 =>
     cond (decide (0 < z5.2.2.1))
     (bd (gen_Maker_Pick (HumpgenMaker.mk a0.fl z5.2.2.2) ([0, 10, 25, 40, 90] : List Int)) fun v11 =>
     bd (gen_Maker_Pick (HumpgenMaker.mk a0.fl v11.2) ([0, 5, 40, 200] : List Int)) fun v14 =>
     ck (decide (z5.1.length + ([(Resistance.mk z5.2.1 v11.1 (w64 (v11.1 + v14.1)))] : List Resistance).length ≤ 1000000000)) <|
     vl (z5.1 ++ ([(Resistance.mk z5.2.1 v11.1 (w64 (v11.1 + v14.1)))] : List Resistance)) fun y17 =>
     bd (gen_Maker_From (HumpgenMaker.mk a0.fl v14.2) 1 70) fun v19 =>
     k7 (y17, w64 (z5.2.1 + v19.1), w64 (z5.2.2.1 - 1), v19.2))
     (some (z5.1, z5.2.2.2))) big (([] : List Resistance), v1.1, w64 (1 + v3.1), v3.2)
def interval_Hull (a0 : Interval) (a1 : Interval) : Option (Interval × Int) :=
  bd (interval_Valid a0) fun v4 =>
     cond (!v4) (some ((Interval.mk 0 0), 1)) (bd (interval_Valid a1) fun v5 =>
     cond (!v5)
     (some ((Interval.mk 0 0), 1))
     (some ((Interval.mk (min a0.Lo a1.Lo) (max a0.Hi a1.Hi)), 0)))
def interval_Within (a0 : Interval) (a1 : Interval) : Option Bool :=
  bd (interval_Valid a0) fun v3 =>
     cond v3 (bd (interval_Valid a1) fun v4 =>
     cond v4 (cond (decide (a1.Lo ≤ a0.Lo)) (some (decide (a0.Hi ≤ a1.Hi))) (some false)) (some false)) (some false)
def law19_ResistanceBetween (a0 : (List Int)) (a1 : Int) : Option Bool :=
  bd (gen_New a0) fun v1 =>
     bd (gen_Maker_Table (HumpgenMaker.mk a0 v1.fn)) fun v3 =>
     vl (Int.tmod (w64 ((Int.tmod a1 400) + 400)) 400) fun x5 =>
     bd (resistance_Rolling v3.1 (w64 (1 + x5)) 1) fun v6 =>
     cond (decide (v6.2 ≠ 0))
     (some false)
     (lp (fun (z8 : Int) k10 =>
     cond (decide (z8 < (v3.1.length : Int)))
     (ix v3.1 z8 fun x13 =>
     jp (fun (z17 : Bool) =>
     cond z17
     (cond (decide (v6.1.Lo = x13.Lo ∧ v6.1.Hi = x13.Hi)) (bd (law19_sane) fun v21 =>
     some v21) (some false))
     (jp (fun (z22 : Bool) =>
     cond z22
     (ix v3.1 (w64 (z8 - 1)) fun x26 =>
     ix v3.1 (w64 (z8 - 1)) fun x28 =>
     bd (interval_Hull (Interval.mk x13.Lo x13.Hi) (Interval.mk x26.Lo x28.Hi)) fun v30 =>
     cond (decide (v30.2 = 0)) (bd (interval_Within v6.1 v30.1) fun v32 =>
     cond v32 (bd (law19_sane) fun v33 =>
     some v33) (some false)) (some false))
     (k10 (w64 (z8 + 1)))) fun k24 =>
     cond (decide (0 < z8)) (ix v3.1 (w64 (z8 - 1)) fun x34 =>
     cond (decide (x34.Mass < (w64 (1 + x5)))) (k24 (decide ((w64 (1 + x5)) < x13.Mass))) (k24 false)) (k24 false))) fun k19 =>
     cond (decide ((w64 (1 + x5)) = x13.Mass)) (k19 true) (cond (decide (z8 = 0)) (cond (decide ((w64 (1 + x5)) < x13.Mass)) (k19 true) (cond (decide (z8 = (w64 ((v3.1.length : Int) - 1)))) (k19 (decide (x13.Mass < (w64 (1 + x5))))) (k19 false))) (cond (decide (z8 = (w64 ((v3.1.length : Int) - 1)))) (k19 (decide (x13.Mass < (w64 (1 + x5))))) (k19 false))))
     (some false)) big 0)
def law19_samples (a0 : HumpgenMaker) (a1 : Int) : Option ((List Sample) × Int) :=
  bd (gen_Maker_Next a0 (w64 (a1 + 1))) fun v1 =>
     lp (fun (z3 : ((List Sample) × Int × Int)) k5 =>
     cond (decide (0 < z3.2.1))
     (bd (gen_Maker_Pick (HumpgenMaker.mk a0.fl z3.2.2) ([0, 500, 1400, 5000] : List Int)) fun v9 =>
     bd (gen_Maker_Pick (HumpgenMaker.mk a0.fl v9.2) ([1, 1000, 19620, 50000] : List Int)) fun v12 =>
     bd (gen_Maker_Pick (HumpgenMaker.mk a0.fl v12.2) ([0, 100, (-100), 3000] : List Int)) fun v15 =>
     bd (gen_Maker_From (HumpgenMaker.mk a0.fl v15.2) (-300) 300) fun v17 =>
     ck (decide (z3.1.length + ([(Sample.mk v12.1 v15.1 v9.1 (max 0 (w64 (v9.1 + v17.1))))] : List Sample).length ≤ 1000000000)) <|
     vl (z3.1 ++ ([(Sample.mk v12.1 v15.1 v9.1 (max 0 (w64 (v9.1 + v17.1))))] : List Sample)) fun y20 =>
     k5 (y20, w64 (z3.2.1 - 1), v17.2))
     (some (z3.1, z3.2.2))) big (([] : List Sample), v1.1, v1.2)
def law19_ResistanceSamples (a0 : (List Int)) : Option Bool :=
  bd (gen_New a0) fun v1 =>
     bd (law19_samples (HumpgenMaker.mk a0 v1.fn) 8) fun v3 =>
     bd (resistance_Measured v3.1) fun v5 =>
     cond (decide ((v3.1.length : Int) = 0))
     (cond (decide (v5.2 = 13)) (bd (law19_sane) fun v7 =>
     some v7) (some false))
     (jp (fun (z8 : (Bool × Bool)) =>
     cond z8.1 (cond z8.2 (bd (law19_sane) fun v12 =>
     some v12) (some false)) (some false)) fun k10 =>
     lp (fun (z13 : (Bool × Bool × Int)) k15 =>
     cond (decide (z13.2.2 < (v3.1.length : Int)))
     (ck (decide ((0 : Int) ≤ z13.2.2 ∧ z13.2.2 ≤ w64 (z13.2.2 + 1) ∧ w64 (z13.2.2 + 1) ≤ (v3.1.length : Int))) <|
     bd (resistance_Measured ((v3.1.take (Int.toNat (w64 (z13.2.2 + 1)))).drop (Int.toNat z13.2.2))) fun v21 =>
     cond (decide (v5.2 ≠ 0)) (some false) (cond (decide (v21.2 ≠ 0)) (some false) (bd (interval_Within v21.1 v5.1) fun v23 =>
     cond (!v23)
     (some false)
     (cond z13.1 (cond z13.2.1 (k15 (true, true, w64 (z13.2.2 + 1))) (k15 (true, decide (v21.1.Hi = v5.1.Hi), w64 (z13.2.2 + 1)))) (cond z13.2.1 (k15 (decide (v21.1.Lo = v5.1.Lo), true, w64 (z13.2.2 + 1))) (k15 (decide (v21.1.Lo = v5.1.Lo), decide (v21.1.Hi = v5.1.Hi), w64 (z13.2.2 + 1))))))))
     (k10 (z13.1, z13.2.1))) big (false, false, 0))
def gen_Maker_Weather (a0 : HumpgenMaker) : Option (Weather × Int) :=
  bd (gen_Maker_Pick a0 ([(-8000), (-1000), 0, 333, 5000] : List Int)) fun v3 =>
     bd (gen_Maker_Pick (HumpgenMaker.mk a0.fl v3.2) ([0, 5, 30] : List Int)) fun v6 =>
     bd (gen_Maker_Pick (HumpgenMaker.mk a0.fl v6.2) ([0, 1, 2000] : List Int)) fun v9 =>
     bd (gen_Maker_Pick (HumpgenMaker.mk a0.fl v9.2) ([0, 20] : List Int)) fun v12 =>
     some ((Weather.mk (Interval.mk v3.1 (w64 (v3.1 + v9.1))) (Interval.mk v6.1 (w64 (v6.1 + v12.1)))), v12.2)
def law19_ResistanceWider (a0 : (List Int)) : Option Bool :=
  bd (gen_New a0) fun v1 =>
     bd (gen_Maker_Table (HumpgenMaker.mk a0 v1.fn)) fun v3 =>
     bd (gen_Maker_Weather (HumpgenMaker.mk a0 v3.2)) fun v5 =>
     bd (gen_Maker_From (HumpgenMaker.mk a0 v5.2) 1 900) fun v8 =>
     bd (gen_Maker_From (HumpgenMaker.mk a0 v8.2) 1 6) fun v10 =>
     bd (resistance_Class v3.1 v8.1 v10.1 v5.1) fun v12 =>
     ck (decide (([] : List Resistance).length + v3.1.length ≤ 1000000000)) <|
     vl (([] : List Resistance) ++ v3.1) fun y15 =>
     jp (fun (z17 : (Int × (List Resistance))) =>
     bd (gen_Maker_Next (HumpgenMaker.mk a0 z17.1) 500) fun v22 =>
     bd (gen_Maker_Next (HumpgenMaker.mk a0 v22.2) 9) fun v24 =>
     bd (resistance_Class z17.2 v8.1 v10.1 (Weather.mk (Interval.mk (w64 (v5.1.Wind.Lo - v22.1)) v5.1.Wind.Hi) (Interval.mk v5.1.Cold.Lo (w64 (v5.1.Cold.Hi + v24.1))))) fun v26 =>
     bd (gen_Maker_From (HumpgenMaker.mk a0 v24.2) v5.1.Wind.Lo v5.1.Wind.Hi) fun v28 =>
     bd (gen_Maker_From (HumpgenMaker.mk a0 v28.2) v5.1.Cold.Lo v5.1.Cold.Hi) fun v30 =>
     bd (resistance_Class v3.1 v8.1 v10.1 (Weather.mk (Interval.mk v28.1 v28.1) (Interval.mk v30.1 v30.1))) fun v32 =>
     cond (decide (v12.2 = 0)) (cond (decide (v26.2 = 0)) (cond (decide (v32.2 = 0)) (bd (interval_Within v12.1 v26.1) fun v34 =>
     cond v34 (bd (interval_Within v32.1 v12.1) fun v35 =>
     cond v35 (cond (decide (0 ≤ v12.1.Lo)) (cond (decide (v12.1.Hi ≤ 5000)) (bd (law19_sane) fun v36 =>
     some v36) (some false)) (some false)) (some false)) (some false)) (some false)) (some false)) (some false)) fun k19 =>
     lp (fun (z37 : (Int × (List Resistance) × Int)) k39 =>
     cond (decide (z37.2.2 < (y15.length : Int)))
     (ix z37.2.1 z37.2.2 fun x162 =>
     ix z37.2.1 z37.2.2 fun x342 =>
     bd (gen_Maker_Next (HumpgenMaker.mk a0 z37.1) 5) fun v242 =>
     bd (gen_Maker_Next (HumpgenMaker.mk a0 v242.2) 9) fun v422 =>
     ix z37.2.1 z37.2.2 fun x462 =>
     vl (z37.2.1.set (Int.toNat z37.2.2) (Resistance.mk x462.Mass (max 0 (w64 (x162.Lo - v242.1))) x462.Hi)) fun y502 =>
     ix y502 z37.2.2 fun x522 =>
     vl (y502.set (Int.toNat z37.2.2) (Resistance.mk x522.Mass x522.Lo (w64 (x342.Hi + v422.1)))) fun y562 =>
     k39 (v422.2, y562, w64 (z37.2.2 + 1)))
     (k19 (z37.1, z37.2.1))) big (v10.2, y15, 0)
def gen_Maker_Valid (a0 : HumpgenMaker) : Option (Interval × Int) :=
  bd (gen_Maker_From a0 (-60) 60) fun v2 =>
     bd (gen_Maker_Next (HumpgenMaker.mk a0.fl v2.2) 40) fun v4 =>
     some ((Interval.mk v2.1 (w64 (v2.1 + v4.1))), v4.2)
def gen_Maker_Pieces (a0 : HumpgenMaker) (a1 : Int) : Option ((List Piece) × Int) :=
  bd (gen_Maker_Next a0 a1) fun v1 =>
     lp (fun (z3 : ((List Piece) × Int × Int)) k5 =>
     cond (decide (0 < z3.2.1))
     (bd (gen_Maker_Pick (HumpgenMaker.mk a0.fl z3.2.2) ([1, 1000, 5000, 9000, 30000, 100000] : List Int)) fun v9 =>
     bd (gen_Maker_Pick (HumpgenMaker.mk a0.fl v9.2) ([0, 100, (-150), 400, 1000, 3500, 5000] : List Int)) fun v12 =>
     bd (gen_Maker_Pick (HumpgenMaker.mk a0.fl v12.2) ([0, 0, 20, 150] : List Int)) fun v15 =>
     bd (gen_Maker_Next (HumpgenMaker.mk a0.fl v15.2) 4) fun v18 =>
     cond (decide (v18.1 = 0))
     (bd (gen_Maker_Pick (HumpgenMaker.mk a0.fl v18.2) ([1, 500000, 2000000, 8000000, 30000000] : List Int)) fun v21 =>
     ck (decide (z3.1.length + ([(Piece.mk (w64 ((z3.1.length : Int) + 1)) v9.1 v12.1 v15.1 v21.1)] : List Piece).length ≤ 1000000000)) <|
     vl (z3.1 ++ ([(Piece.mk (w64 ((z3.1.length : Int) + 1)) v9.1 v12.1 v15.1 v21.1)] : List Piece)) fun y24 =>
     k5 (y24, w64 (z3.2.1 - 1), v21.2))
     (ck (decide (z3.1.length + ([(Piece.mk (w64 ((z3.1.length : Int) + 1)) v9.1 v12.1 v15.1 0)] : List Piece).length ≤ 1000000000)) <|
     vl (z3.1 ++ ([(Piece.mk (w64 ((z3.1.length : Int) + 1)) v9.1 v12.1 v15.1 0)] : List Piece)) fun y27 =>
     k5 (y27, w64 (z3.2.1 - 1), v18.2)))
     (some (z3.1, z3.2.2))) big (([] : List Piece), w64 (1 + v1.1), v1.2)
def gen_Maker_Interval (a0 : HumpgenMaker) : Option (Interval × Int) :=
  bd (gen_Maker_Pick a0 ([0, 1, (-1), 2, (-5), 17, (-40), 1000, (-1000000000000), 1000000000000, 999999, (-1000000)] : List Int)) fun v3 =>
     bd (gen_Maker_Pick (HumpgenMaker.mk a0.fl v3.2) ([0, 1, 2, 3, 10, 100, 12345, 1000000000000, 2000000000000] : List Int)) fun v6 =>
     bd (gen_Maker_Next (HumpgenMaker.mk a0.fl v6.2) 12) fun v8 =>
     cond (decide (v8.1 = 0))
     (bd (gen_Maker_Next (HumpgenMaker.mk a0.fl v8.2) 3) fun v10 =>
     some ((Interval.mk v3.1 (w64 ((w64 (v3.1 - 1)) - v10.1))), v10.2))
     (some ((Interval.mk v3.1 (w64 (v3.1 + v6.1))), v8.2))
def resistance_Spread (a0 : Interval) (a1 : (List Piece)) : Option ((List Interval) × Int) :=
  bd (interval_Valid a0) fun v2 =>
     cond (!v2)
     (some (([] : List Interval), 1))
     (cond (decide (128 < (a1.length : Int)))
     (some (([] : List Interval), 3))
     (lp (fun (z3 : ((List Interval) × Int)) k5 =>
     cond (decide (z3.2 < (a1.length : Int)))
     (ix a1 z3.2 fun x8 =>
     cond (decide (x8.Curve < 0)) (some (([] : List Interval), 2)) (cond (decide (5000 < x8.Curve))
     (some (([] : List Interval), 2))
     (bd (resistance_clip (Interval.mk (w64 (a0.Lo + x8.Curve)) (w64 (a0.Hi + x8.Curve)))) fun v11 =>
     ck (decide (z3.1.length + ([v11] : List Interval).length ≤ 1000000000)) <|
     vl (z3.1 ++ ([v11] : List Interval)) fun y13 =>
     k5 (y13, w64 (z3.2 + 1)))))
     (some (z3.1, 0))) big (([] : List Interval), 0)))
def r01_Valid (a0 : Interval) : Option Bool :=
  cond (decide (a0.Lo ≤ a0.Hi)) (cond (decide ((-1000000000000) ≤ a0.Lo)) (some (decide (a0.Hi ≤ 1000000000000))) (some false)) (some false)
def r19_clip (a0 : Interval) : Option Interval :=
  some (Interval.mk (max 0 (min a0.Lo 5000)) (max 0 (min a0.Hi 5000)))
def r19_Spread (a0 : Interval) (a1 : (List Piece)) : Option ((List Interval) × Int) :=
  bd (r01_Valid a0) fun v2 =>
     cond (!v2)
     (some (([] : List Interval), 1))
     (cond (decide (128 < (a1.length : Int)))
     (some (([] : List Interval), 3))
     (lp (fun (z3 : ((List Interval) × Int)) k5 =>
     cond (decide (z3.2 < (a1.length : Int)))
     (ix a1 z3.2 fun x8 =>
     cond (decide (x8.Curve < 0)) (some (([] : List Interval), 2)) (cond (decide (5000 < x8.Curve))
     (some (([] : List Interval), 2))
     (bd (r19_clip (Interval.mk (w64 (a0.Lo + x8.Curve)) (w64 (a0.Hi + x8.Curve)))) fun v10 =>
     ck (decide (z3.1.length + ([v10] : List Interval).length ≤ 1000000000)) <|
     vl (z3.1 ++ ([v10] : List Interval)) fun y12 =>
     k5 (y12, w64 (z3.2 + 1)))))
     (some (z3.1, 0))) big (([] : List Interval), 0)))
def r01_Down (a0 : Int) (a1 : Int) : Option Int :=
  ck (decide (a1 ≠ 0)) <|
     ck (decide (a1 ≠ 0)) <|
     cond (decide ((Int.tmod a0 a1) ≠ 0)) (cond (!((decide ((Int.tmod a0 a1) < 0)) == (decide (a1 < 0))))
     (vl (w64 ((w64 (Int.tdiv a0 a1)) - 1)) fun x3 =>
     some x3)
     (some (w64 (Int.tdiv a0 a1)))) (some (w64 (Int.tdiv a0 a1)))
def r01_Up (a0 : Int) (a1 : Int) : Option Int :=
  ck (decide (a1 ≠ 0)) <|
     ck (decide (a1 ≠ 0)) <|
     cond (decide ((Int.tmod a0 a1) ≠ 0)) (cond ((decide ((Int.tmod a0 a1) < 0)) == (decide (a1 < 0)))
     (vl (w64 ((w64 (Int.tdiv a0 a1)) + 1)) fun x3 =>
     some x3)
     (some (w64 (Int.tdiv a0 a1)))) (some (w64 (Int.tdiv a0 a1)))
def r19_Measured (a0 : (List Sample)) : Option (Interval × Int) :=
  cond (decide (256 < (a0.length : Int)))
     (some ((Interval.mk 0 0), 3))
     (cond (decide ((a0.length : Int) = 0))
     (some ((Interval.mk 0 0), 13))
     (lp (fun (z3 : (Int × Int × Int)) k5 =>
     cond (decide (z3.2.2 < (a0.length : Int)))
     (ix a0 z3.2.2 fun x8 =>
     cond (decide (x8.Length < 1)) (some ((Interval.mk 0 0), 2)) (cond (decide (1000000 < x8.Length)) (some ((Interval.mk 0 0), 2)) (cond (decide (x8.Grade < (-10000))) (some ((Interval.mk 0 0), 2)) (cond (decide (10000 < x8.Grade)) (some ((Interval.mk 0 0), 2)) (cond (decide (x8.Before < 0)) (some ((Interval.mk 0 0), 2)) (cond (decide (20000 < x8.Before)) (some ((Interval.mk 0 0), 2)) (cond (decide (x8.Behind < 0)) (some ((Interval.mk 0 0), 2)) (cond (decide (20000 < x8.Behind))
     (some ((Interval.mk 0 0), 2))
     (vl (w64 ((w64 (x8.Before * x8.Before)) - (w64 (x8.Behind * x8.Behind)))) fun x11 =>
     bd (r01_Down (w64 (x11 * 100000)) (w64 (19620 * x8.Length))) fun v12 =>
     vl (min z3.1 (w64 (x8.Grade + v12))) fun x13 =>
     bd (r01_Up (w64 (x11 * 100000)) (w64 (19620 * x8.Length))) fun v14 =>
     vl (max z3.2.1 (w64 (x8.Grade + v14))) fun x15 =>
     k5 (x13, x15, w64 (z3.2.2 + 1)))))))))))
     (some ((Interval.mk z3.1 z3.2.1), 0))) big (1000000000000, (-1000000000000), 0)))
def gen_Intervals (a0 : (List Interval)) (a1 : (List Interval)) : Option Bool :=
  cond (decide ((a0.length : Int) ≠ (a1.length : Int)))
     (some false)
     (lp (fun (z1 : Int) k3 =>
     cond (decide (z1 < (a0.length : Int)))
     (ix a0 z1 fun x6 =>
     ix a1 z1 fun x8 =>
     cond (decide (¬ (x6.Lo = x8.Lo ∧ x6.Hi = x8.Hi)))
     (some false)
     (k3 (w64 (z1 + 1))))
     (some true)) big 0)
def law19_ResistanceSpreads (a0 : (List Int)) (a1 : Interval) (a2 : (List Piece)) (a3 : (List Sample)) : Option Bool :=
  bd (gen_New a0) fun v2 =>
     lp (fun (z4 : (Int × Int)) k6 =>
     cond (decide (z4.2 < 4))
     (bd (gen_Maker_Valid (HumpgenMaker.mk a0 z4.1)) fun v9 =>
     bd (gen_Maker_Pieces (HumpgenMaker.mk a0 v9.2) 6) fun v11 =>
     bd (law19_samples (HumpgenMaker.mk a0 v11.2) 6) fun v13 =>
     jp (fun (z16 : (Int × Int × Int × (List Piece) × (List Sample))) =>
     jp (fun (z20 : Bool) =>
     cond z20
     (bd (resistance_Spread a1 a2) fun v24 =>
     bd (r19_Spread a1 a2) fun v26 =>
     bd (resistance_Measured a3) fun v28 =>
     bd (r19_Measured a3) fun v30 =>
     bd (gen_Intervals v24.1 v26.1) fun v32 =>
     cond (!v32) (some false) (cond (decide (v24.2 ≠ v26.2)) (some false) (cond (decide (¬ (v28.1.Lo = v30.1.Lo ∧ v28.1.Hi = v30.1.Hi))) (some false) (cond (decide (v28.2 ≠ v30.2))
     (some false)
     (k6 (z16.1, w64 (z4.2 + 1)))))))
     (bd (resistance_Spread (Interval.mk z16.2.1 z16.2.2.1) z16.2.2.2.1) fun v33 =>
     bd (r19_Spread (Interval.mk z16.2.1 z16.2.2.1) z16.2.2.2.1) fun v35 =>
     bd (resistance_Measured z16.2.2.2.2) fun v37 =>
     bd (r19_Measured z16.2.2.2.2) fun v39 =>
     bd (gen_Intervals v33.1 v35.1) fun v41 =>
     cond (!v41) (some false) (cond (decide (v33.2 ≠ v35.2)) (some false) (cond (decide (¬ (v37.1.Lo = v39.1.Lo ∧ v37.1.Hi = v39.1.Hi))) (some false) (cond (decide (v37.2 ≠ v39.2))
     (some false)
     (k6 (z16.1, w64 (z4.2 + 1)))))))) fun k22 =>
     cond (decide (z4.2 = 3)) (cond (decide ((a2.length : Int) ≤ 40)) (k22 (decide ((a3.length : Int) ≤ 40))) (k22 false)) (k22 false)) fun k18 =>
     cond (decide (z4.2 = 2))
     (bd (gen_Maker_Interval (HumpgenMaker.mk a0 v13.2)) fun v42 =>
     bd (gen_Maker_Next (HumpgenMaker.mk a0 v42.2) (v11.1.length : Int)) fun v44 =>
     bd (gen_Maker_Pick (HumpgenMaker.mk a0 v44.2) ([(-1), 5000, 5001] : List Int)) fun v47 =>
     ix v11.1 v44.1 fun x49 =>
     vl (v11.1.set (Int.toNat v44.1) (Piece.mk x49.Element x49.Length x49.Grade v47.1 x49.Power)) fun y51 =>
     cond (decide (0 < (v13.1.length : Int)))
     (bd (gen_Maker_Next (HumpgenMaker.mk a0 v47.2) (v13.1.length : Int)) fun v52 =>
     bd (gen_Maker_Pick (HumpgenMaker.mk a0 v52.2) ([0, 1000000, 1000001] : List Int)) fun v55 =>
     ix v13.1 v52.1 fun x57 =>
     vl (v13.1.set (Int.toNat v52.1) (Sample.mk v55.1 x57.Grade x57.Before x57.Behind)) fun y59 =>
     k18 (v55.2, v42.1.Lo, v42.1.Hi, y51, y59))
     (k18 (v47.2, v42.1.Lo, v42.1.Hi, y51, v13.1)))
     (k18 (v13.2, v9.1.Lo, v9.1.Hi, v11.1, v13.1)))
     (bd (law19_sane) fun v60 =>
     some v60)) big (v2.fn, 0)
def r19_Valid (a0 : (List Resistance)) : Option Int :=
  cond (decide ((a0.length : Int) < 1)) (some 3) (cond (decide (16 < (a0.length : Int)))
     (some 3)
     (lp (fun (z1 : Int) k3 =>
     cond (decide (z1 < (a0.length : Int)))
     (ix a0 z1 fun x6 =>
     cond (decide (x6.Mass < 1)) (some 1) (cond (decide (2000 < x6.Mass)) (some 1) (cond (decide (0 < z1)) (ix a0 (w64 (z1 - 1)) fun x9 =>
     cond (decide (x6.Mass ≤ x9.Mass)) (some 1) (cond (decide (x6.Lo < 0)) (some 1) (cond (decide (x6.Hi < x6.Lo)) (some 1) (cond (decide (5000 < x6.Hi))
     (some 1)
     (k3 (w64 (z1 + 1))))))) (cond (decide (x6.Lo < 0)) (some 1) (cond (decide (x6.Hi < x6.Lo)) (some 1) (cond (decide (5000 < x6.Hi))
     (some 1)
     (k3 (w64 (z1 + 1)))))))))
     (some 0)) big 0))
def r19_Rolling (a0 : (List Resistance)) (a1 : Int) (a2 : Int) : Option (Interval × Int) :=
  bd (r19_Valid a0) fun v2 =>
     cond (decide (v2 ≠ 0))
     (some ((Interval.mk 0 0), v2))
     (cond (decide (a1 < 1)) (some ((Interval.mk 0 0), 2)) (cond (decide (192000 < a1)) (some ((Interval.mk 0 0), 2)) (cond (decide (a2 < 1)) (some ((Interval.mk 0 0), 2)) (cond (decide (768 < a2))
     (some ((Interval.mk 0 0), 2))
     (ck (decide (a2 ≠ 0)) <|
     jp (fun (z4 : Int) =>
     cond (decide (z4 = 0))
     (ix a0 0 fun x8 =>
     ix a0 0 fun x10 =>
     some ((Interval.mk x8.Lo x10.Hi), 0))
     (cond (decide (z4 = (a0.length : Int)))
     (ix a0 (w64 (z4 - 1)) fun x12 =>
     ix a0 (w64 (z4 - 1)) fun x14 =>
     some ((Interval.mk x12.Lo x14.Hi), 0))
     (jp (fun (z16 : (Int × Int × Int × Int × Int × Int)) =>
     vl (w64 ((w64 (Int.tdiv a1 a2)) - z16.1)) fun x20 =>
     vl (w64 ((w64 (z16.2.2.2.2.1 - z16.2.1)) * x20)) fun x21 =>
     bd (r01_Down x21 (w64 (z16.2.2.2.1 - z16.1))) fun v22 =>
     vl (w64 (z16.2.2.2.2.2 - z16.2.2.1)) fun x23 =>
     bd (r01_Up (w64 (x23 * x20)) (w64 (z16.2.2.2.1 - z16.1))) fun v24 =>
     some ((Interval.mk (w64 (z16.2.1 + v22)) (w64 (z16.2.2.1 + v24))), 0)) fun k18 =>
     ix a0 (w64 (z4 - 1)) fun x85 =>
     ix a0 z4 fun x165 =>
     k18 (x85.Mass, x85.Lo, x85.Hi, x165.Mass, x165.Lo, x165.Hi)))) fun k6 =>
     lp (fun (z285 : Int) k287 =>
     cond (decide (z285 < (a0.length : Int))) (ix a0 z285 fun x290 =>
     cond (decide (x290.Mass ≤ (w64 (Int.tdiv a1 a2))))
     (k287 (w64 (z285 + 1)))
     (k6 z285)) (k6 z285)) big 0)))))
def r01_checked (a0 : Int) (a1 : Int) : Option (Interval × Int) :=
  cond (decide (a0 < (-1000000000000))) (some ((Interval.mk 0 0), 4)) (cond (decide (1000000000000 < a1))
     (some ((Interval.mk 0 0), 4))
     (some ((Interval.mk a0 a1), 0)))
def r01_Scale (a0 : Interval) (a1 : Int) (a2 : Int) : Option (Interval × Int) :=
  bd (r01_Valid a0) fun v3 =>
     cond (!v3)
     (some ((Interval.mk 0 0), 1))
     (jp (fun (z4 : Bool) =>
     cond z4
     (some ((Interval.mk 0 0), 2))
     (cond (decide (a2 = 0))
     (some ((Interval.mk 0 0), 5))
     (bd (r01_Down (w64 (a0.Lo * a1)) a2) fun v8 =>
     bd (r01_Down (w64 (a0.Hi * a1)) a2) fun v9 =>
     bd (r01_Up (w64 (a0.Lo * a1)) a2) fun v10 =>
     bd (r01_Up (w64 (a0.Hi * a1)) a2) fun v11 =>
     bd (r01_checked (min v8 v9) (max v10 v11)) fun v12 =>
     some (v12.1, v12.2)))) fun k6 =>
     cond (decide (a1 < (-1000000))) (k6 true) (cond (decide (1000000 < a1)) (k6 true) (cond (decide (a2 < (-1000000))) (k6 true) (k6 (decide (1000000 < a2))))))
def r19_Class (a0 : (List Resistance)) (a1 : Int) (a2 : Int) (a3 : Weather) : Option (Interval × Int) :=
  bd (r19_Rolling a0 a1 a2) fun v3 =>
     cond (decide (v3.2 ≠ 0))
     (some ((Interval.mk 0 0), v3.2))
     (bd (r01_Valid a3.Wind) fun v5 =>
     cond (!v5) (some ((Interval.mk 0 0), 1)) (bd (r01_Valid a3.Cold) fun v6 =>
     cond (!v6) (some ((Interval.mk 0 0), 1)) (cond (decide (a3.Wind.Lo < (-40000))) (some ((Interval.mk 0 0), 1)) (cond (decide (40000 < a3.Wind.Hi)) (some ((Interval.mk 0 0), 1)) (cond (decide (a3.Cold.Lo < 0)) (some ((Interval.mk 0 0), 1)) (cond (decide (1000 < a3.Cold.Hi))
     (some ((Interval.mk 0 0), 1))
     (bd (r01_Scale a3.Wind 3 100) fun v7 =>
     vl (w64 ((w64 (v3.1.Lo + v7.1.Lo)) + a3.Cold.Lo)) fun x9 =>
     vl (w64 ((w64 (v3.1.Hi + v7.1.Hi)) + a3.Cold.Hi)) fun x10 =>
     bd (r19_clip (Interval.mk x9 x10)) fun v11 =>
     some (v11, 0))))))))
def law19_exact (a0 : (List Resistance)) (a1 : Int) (a2 : Int) (a3 : Weather) : Option Bool :=
  bd (resistance_Rolling a0 a1 a2) fun v2 =>
     bd (r19_Rolling a0 a1 a2) fun v4 =>
     bd (resistance_Class a0 a1 a2 a3) fun v6 =>
     bd (r19_Class a0 a1 a2 a3) fun v8 =>
     bd (resistance_Valid a0) fun v10 =>
     bd (r19_Valid a0) fun v11 =>
     cond (decide (v10 = v11)) (cond (decide (v2.1.Lo = v4.1.Lo ∧ v2.1.Hi = v4.1.Hi)) (cond (decide (v2.2 = v4.2)) (cond (decide (v6.1.Lo = v8.1.Lo ∧ v6.1.Hi = v8.1.Hi)) (some (decide (v6.2 = v8.2))) (some false)) (some false)) (some false)) (some false)
def law19_ResistanceExact (a0 : (List Int)) (a1 : (List Resistance)) (a2 : Int) (a3 : Int) (a4 : Weather) : Option Bool :=
  bd (gen_New a0) fun v2 =>
     jp (fun (z4 : Unit) =>
     cond (decide (40 < (a1.length : Int))) (some true) (bd (law19_exact a1 a2 a3 a4) fun v8 =>
     cond v8 (bd (law19_exact a1 400 4 (Weather.mk (Interval.mk 0 0) (Interval.mk 0 0))) fun v9 =>
     cond v9 (bd (law19_sane) fun v10 =>
     some v10) (some false)) (some false))) fun k6 =>
     lp (fun (z11 : (Int × Int)) k13 =>
     cond (decide (z11.2 < 5))
     (bd (gen_Maker_Table (HumpgenMaker.mk a0 z11.1)) fun v16 =>
     bd (gen_Maker_Weather (HumpgenMaker.mk a0 v16.2)) fun v18 =>
     jp (fun (z21 : (Int × (List Resistance) × Int × Int)) =>
     bd (gen_Maker_Pick (HumpgenMaker.mk a0 z21.1) ([1, 50, 100, 101, 777, 3000, 0, 192001] : List Int)) fun v85 =>
     bd (gen_Maker_Pick (HumpgenMaker.mk a0 v85.2) ([1, 2, 4, 7, 0, 769] : List Int)) fun v145 =>
     bd (law19_exact z21.2.1 v85.1 v145.1 (Weather.mk (Interval.mk z21.2.2.1 v18.1.Wind.Hi) (Interval.mk v18.1.Cold.Lo z21.2.2.2))) fun v185 =>
     cond (!v185)
     (some false)
     (k13 (v145.2, w64 (z11.2 + 1)))) fun k23 =>
     cond (decide (z11.2 = 2))
     (bd (gen_Maker_Next (HumpgenMaker.mk a0 v18.2) (v16.1.length : Int)) fun v225 =>
     ix v16.1 v225.1 fun x407 =>
     ix v16.1 v225.1 fun x567 =>
     ix v16.1 v225.1 fun x727 =>
     bd (gen_Maker_Pick (HumpgenMaker.mk a0 v225.2) ([x407.Mass, 0, 2001] : List Int)) fun v487 =>
     bd (gen_Maker_Pick (HumpgenMaker.mk a0 v487.2) ([x567.Lo, (-1), 300] : List Int)) fun v647 =>
     bd (gen_Maker_Pick (HumpgenMaker.mk a0 v647.2) ([x727.Hi, 5000, 5001] : List Int)) fun v807 =>
     ix v16.1 v225.1 fun x827 =>
     vl (v16.1.set (Int.toNat v225.1) (Resistance.mk v487.1 x827.Lo x827.Hi)) fun y867 =>
     ix y867 v225.1 fun x887 =>
     vl (y867.set (Int.toNat v225.1) (Resistance.mk x887.Mass v647.1 x887.Hi)) fun y927 =>
     ix y927 v225.1 fun x947 =>
     vl (y927.set (Int.toNat v225.1) (Resistance.mk x947.Mass x947.Lo v807.1)) fun y987 =>
     k23 (v807.2, y987, v18.1.Wind.Lo, v18.1.Cold.Hi))
     (cond (decide (z11.2 = 3))
     (bd (gen_Maker_Pick (HumpgenMaker.mk a0 v18.2) ([v18.1.Wind.Lo, (-40000), (-40001), 90000] : List Int)) fun v1107 =>
     bd (gen_Maker_Pick (HumpgenMaker.mk a0 v1107.2) ([v18.1.Cold.Hi, 1000, 1001, (-1)] : List Int)) fun v1227 =>
     k23 (v1227.2, v16.1, v1107.1, v1227.1))
     (cond (decide (z11.2 = 4))
     (ix v16.1 (w64 ((v16.1.length : Int) - 1)) fun x1367 =>
     vl (v16.1.set (Int.toNat (w64 ((v16.1.length : Int) - 1))) (Resistance.mk x1367.Mass x1367.Lo 5000)) fun y1369 =>
     k23 (v18.2, y1369, v18.1.Wind.Lo, v18.1.Cold.Hi))
     (k23 (v18.2, v16.1, v18.1.Wind.Lo, v18.1.Cold.Hi)))))
     (k6 ())) big (v2.fn, 0)
end Go.Hy
