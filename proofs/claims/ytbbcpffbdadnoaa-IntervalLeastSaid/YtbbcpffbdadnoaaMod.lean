/-
  Plain models of the program's functions. Printed by a program out of the translation.
-/
import Derived.Test.YtbbcpffbdadnoaaData
namespace Go.Hy
set_option linter.unusedVariables false
set_option linter.unusedSimpArgs false
set_option maxHeartbeats 2000000
set_option maxRecDepth 100000
def interval_down (a0 : Int) (a1 : Int) : Option Int :=
  ck (decide (a1 ≠ 0)) <|
     ck (decide (a1 ≠ 0)) <|
     cond (decide ((Int.tmod a0 a1) ≠ 0)) (cond (!((decide ((Int.tmod a0 a1) < 0)) == (decide (a1 < 0))))
     (vl (w64 ((w64 (Int.tdiv a0 a1)) - 1)) fun x3 =>
     some x3)
     (some (w64 (Int.tdiv a0 a1)))) (some (w64 (Int.tdiv a0 a1)))
def interval_inside (a0 : Int) : Option Bool :=
  cond (decide ((-1000000000000) ≤ a0)) (some (decide (a0 ≤ 1000000000000))) (some false)
def interval_Floor (a0 : Int) (a1 : Int) : Option (Int × Int) :=
  cond (decide (a1 = 0))
     (some (0, 5))
     (bd (interval_down a0 a1) fun v1 =>
     bd (interval_inside v1) fun v2 =>
     cond v2
     (some (v1, 0))
     (some (0, 4)))
def interval_up (a0 : Int) (a1 : Int) : Option Int :=
  ck (decide (a1 ≠ 0)) <|
     ck (decide (a1 ≠ 0)) <|
     cond (decide ((Int.tmod a0 a1) ≠ 0)) (cond ((decide ((Int.tmod a0 a1) < 0)) == (decide (a1 < 0)))
     (vl (w64 ((w64 (Int.tdiv a0 a1)) + 1)) fun x3 =>
     some x3)
     (some (w64 (Int.tdiv a0 a1)))) (some (w64 (Int.tdiv a0 a1)))
def interval_Ceil (a0 : Int) (a1 : Int) : Option (Int × Int) :=
  cond (decide (a1 = 0))
     (some (0, 5))
     (bd (interval_up a0 a1) fun v1 =>
     bd (interval_inside v1) fun v2 =>
     cond v2
     (some (v1, 0))
     (some (0, 4)))
def r01_Down (a0 : Int) (a1 : Int) : Option Int :=
  ck (decide (a1 ≠ 0)) <|
     ck (decide (a1 ≠ 0)) <|
     cond (decide ((Int.tmod a0 a1) ≠ 0)) (cond (!((decide ((Int.tmod a0 a1) < 0)) == (decide (a1 < 0))))
     (vl (w64 ((w64 (Int.tdiv a0 a1)) - 1)) fun x3 =>
     some x3)
     (some (w64 (Int.tdiv a0 a1)))) (some (w64 (Int.tdiv a0 a1)))
def r01_bounded (a0 : Int) : Option (Int × Int) :=
  cond (decide (a0 < (-1000000000000))) (some (0, 4)) (cond (decide (1000000000000 < a0))
     (some (0, 4))
     (some (a0, 0)))
def r01_Floor (a0 : Int) (a1 : Int) : Option (Int × Int) :=
  cond (decide (a1 = 0))
     (some (0, 5))
     (jp (fun (z1 : Unit) =>
     bd (r01_Down a0 a1) fun v5 =>
     bd (r01_bounded v5) fun v6 =>
     some (v6.1, v6.2)) fun k3 =>
     cond (decide (a1 = (-1))) (cond (decide (a0 < (-1000000000000)))
     (some (0, 4))
     (k3 ())) (k3 ()))
def r01_Up (a0 : Int) (a1 : Int) : Option Int :=
  ck (decide (a1 ≠ 0)) <|
     ck (decide (a1 ≠ 0)) <|
     cond (decide ((Int.tmod a0 a1) ≠ 0)) (cond ((decide ((Int.tmod a0 a1) < 0)) == (decide (a1 < 0)))
     (vl (w64 ((w64 (Int.tdiv a0 a1)) + 1)) fun x3 =>
     some x3)
     (some (w64 (Int.tdiv a0 a1)))) (some (w64 (Int.tdiv a0 a1)))
def r01_Ceil (a0 : Int) (a1 : Int) : Option (Int × Int) :=
  cond (decide (a1 = 0))
     (some (0, 5))
     (jp (fun (z1 : Unit) =>
     bd (r01_Up a0 a1) fun v5 =>
     bd (r01_bounded v5) fun v6 =>
     some (v6.1, v6.2)) fun k3 =>
     cond (decide (a1 = (-1))) (cond (decide (a0 < (-1000000000000)))
     (some (0, 4))
     (k3 ())) (k3 ()))
def interval_Valid (a0 : Interval) : Option Bool :=
  cond (decide (a0.Lo ≤ a0.Hi)) (bd (interval_inside a0.Lo) fun v2 =>
     cond v2 (bd (interval_inside a0.Hi) fun v3 =>
     some v3) (some false)) (some false)
def interval_abs (a0 : Int) : Option Int :=
  cond (decide (a0 < 0))
     (some (w64 (-a0)))
     (some a0)
def interval_product (a0 : Int) (a1 : Int) : Option (Int × Bool) :=
  cond (decide (a0 ≠ 0)) (bd (interval_abs a1) fun v1 =>
     bd (interval_abs a0) fun v2 =>
     ck (decide (v2 ≠ 0)) <|
     vl (w64 (Int.tdiv 1000000000000 v2)) fun x4 =>
     cond (decide (x4 < v1))
     (some (0, false))
     (some (w64 (a0 * a1), true))) (some (w64 (a0 * a1), true))
def interval_Mul (a0 : Interval) (a1 : Interval) : Option (Interval × Int) :=
  bd (interval_Valid a0) fun v4 =>
     cond (!v4) (some ((Interval.mk 0 0), 1)) (bd (interval_Valid a1) fun v5 =>
     cond (!v5)
     (some ((Interval.mk 0 0), 1))
     (lp (fun (z7 : (Int × Int × Int)) k9 =>
     cond (decide (z7.2.2 < 2))
     (ix ([a0.Lo, a0.Hi] : List Int) z7.2.2 fun x12 =>
     lp (fun (z14 : (Int × Int × Int)) k16 =>
     cond (decide (z14.2.2 < 2))
     (ix ([a1.Lo, a1.Hi] : List Int) z14.2.2 fun x19 =>
     bd (interval_product x12 x19) fun v21 =>
     cond (!v21.2)
     (some ((Interval.mk 0 0), 4))
     (k16 (min z14.1 v21.1, max z14.2.1 v21.1, w64 (z14.2.2 + 1))))
     (k9 (z14.1, z14.2.1, w64 (z7.2.2 + 1)))) big (z7.1, z7.2.1, 0))
     (some ((Interval.mk z7.1 z7.2.1), 0))) big (1000000000000, (-1000000000000), 0)))
def interval_result (a0 : Int) (a1 : Int) : Option (Interval × Int) :=
  bd (interval_inside a0) fun v2 =>
     cond (!v2) (some ((Interval.mk 0 0), 4)) (bd (interval_inside a1) fun v3 =>
     cond (!v3)
     (some ((Interval.mk 0 0), 4))
     (some ((Interval.mk a0 a1), 0)))
def interval_Scale (a0 : Interval) (a1 : Int) (a2 : Int) : Option (Interval × Int) :=
  bd (interval_Valid a0) fun v3 =>
     cond (!v3)
     (some ((Interval.mk 0 0), 1))
     (jp (fun (z4 : Bool) =>
     cond z4
     (some ((Interval.mk 0 0), 2))
     (cond (decide (a2 = 0))
     (some ((Interval.mk 0 0), 5))
     (jp (fun (z8 : (Int × Int)) =>
     bd (interval_down z8.1 a2) fun v12 =>
     bd (interval_up z8.2 a2) fun v13 =>
     bd (interval_result v12 v13) fun v14 =>
     some (v14.1, v14.2)) fun k10 =>
     cond (!((decide (a1 < 0)) == (decide (a2 < 0))))
     (k10 (w64 (a0.Hi * a1), w64 (a0.Lo * a1)))
     (k10 (w64 (a0.Lo * a1), w64 (a0.Hi * a1)))))) fun k6 =>
     cond (decide (a1 < (-1000000))) (k6 true) (cond (decide (1000000 < a1)) (k6 true) (cond (decide (a2 < (-1000000))) (k6 true) (k6 (decide (1000000 < a2))))))
def interval_root (a0 : Int) : Option Int :=
  lp (fun (z1 : (Int × Int)) k3 =>
     cond (decide (1 < (w64 (z1.2 - z1.1))))
     (vl (w64 (Int.tdiv (w64 (z1.1 + z1.2)) 2)) fun x6 =>
     cond (decide ((w64 (x6 * x6)) ≤ a0))
     (k3 (x6, z1.2))
     (k3 (z1.1, x6)))
     (some z1.1)) big (0, 1000001)
def interval_Root (a0 : Interval) : Option (Interval × Int) :=
  bd (interval_Valid a0) fun v3 =>
     cond (!v3)
     (some ((Interval.mk 0 0), 1))
     (cond (decide (a0.Lo < 0))
     (some ((Interval.mk 0 0), 2))
     (bd (interval_root a0.Hi) fun v4 =>
     jp (fun (z5 : Int) =>
     bd (interval_root a0.Lo) fun v9 =>
     some ((Interval.mk v9 z5), 0)) fun k7 =>
     cond (decide ((w64 (v4 * v4)) < a0.Hi))
     (k7 (w64 (v4 + 1)))
     (k7 v4)))
def law01_sane  : Option Bool :=
  bd (interval_Mul (Interval.mk (-2) 3) (Interval.mk (-5) 4)) fun v1 =>
     bd (interval_Scale (Interval.mk 1 10) 1 3) fun v3 =>
     bd (interval_Root (Interval.mk 2 17)) fun v5 =>
     bd (interval_Floor (-7) 2) fun v7 =>
     bd (interval_Ceil (-7) 2) fun v8 =>
     cond (decide (v1.2 = 0)) (cond (decide (v1.1.Lo = (-15) ∧ v1.1.Hi = 12)) (cond (decide (v3.2 = 0)) (cond (decide (v3.1.Lo = 0 ∧ v3.1.Hi = 4)) (cond (decide (v5.2 = 0)) (cond (decide (v5.1.Lo = 1 ∧ v5.1.Hi = 5)) (cond (decide (v7.2 = 0)) (cond (decide (v7.1 = (-4))) (cond (decide (v8.2 = 0)) (some (decide (v8.1 = (-3)))) (some false)) (some false)) (some false)) (some false)) (some false)) (some false)) (some false)) (some false)) (some false)
def law01_IntervalDivides (a0 : Int) (a1 : Int) (a2 : Int) : Option Bool :=
  jp (fun (z1 : Unit) =>
     vl (Int.tmod (w64 ((Int.tmod a1 500) + 500)) 500) fun x5 =>
     bd (interval_Floor (Int.tmod a0 100000) (w64 (1 + x5))) fun v6 =>
     bd (interval_Ceil (Int.tmod a0 100000) (w64 (1 + x5))) fun v7 =>
     cond (decide (v6.2 = 0)) (cond (decide (v7.2 = 0)) (cond (decide ((w64 (v6.1 * (w64 (1 + x5)))) ≤ (Int.tmod a0 100000))) (vl (w64 ((w64 (v6.1 * (w64 (1 + x5)))) + (w64 (1 + x5)))) fun x8 =>
     cond (decide ((Int.tmod a0 100000) < x8)) (cond (decide ((Int.tmod a0 100000) ≤ (w64 (v7.1 * (w64 (1 + x5)))))) (vl (w64 ((w64 (v7.1 * (w64 (1 + x5)))) - (w64 (1 + x5)))) fun x9 =>
     cond (decide (x9 < (Int.tmod a0 100000))) (bd (law01_sane) fun v10 =>
     some v10) (some false)) (some false)) (some false)) (some false)) (some false)) (some false)) fun k3 =>
     vl (([a1, Int.tmod a2 1000, (-1), 1, 2] : List Int).length : Int) fun x12 =>
     lp (fun (z13 : Int) k15 =>
     cond (decide (z13 < x12))
     (ix ([a1, Int.tmod a2 1000, (-1), 1, 2] : List Int) z13 fun x18 =>
     bd (interval_Floor a0 x18) fun v20 =>
     bd (interval_Ceil a0 x18) fun v21 =>
     bd (r01_Floor a0 x18) fun v22 =>
     bd (r01_Ceil a0 x18) fun v23 =>
     cond (decide (v20.1 ≠ v22.1)) (some false) (cond (decide (v20.2 ≠ v22.2)) (some false) (cond (decide (v21.1 ≠ v23.1)) (some false) (cond (decide (v21.2 ≠ v23.2))
     (some false)
     (k15 (w64 (z13 + 1)))))))
     (k3 ())) big 0
def law01_IntervalRoots (a0 : Int) : Option Bool :=
  jp (fun (z1 : Int) =>
     bd (interval_Root (Interval.mk z1 z1)) fun v5 =>
     cond (decide (v5.2 = 0)) (cond (decide (0 ≤ v5.1.Lo)) (cond (decide ((w64 (v5.1.Lo * v5.1.Lo)) ≤ z1)) (vl (w64 ((w64 (v5.1.Lo + 1)) * (w64 (v5.1.Lo + 1)))) fun x7 =>
     cond (decide (z1 < x7)) (cond (decide (z1 ≤ (w64 (v5.1.Hi * v5.1.Hi)))) (cond (decide (v5.1.Hi = 0)) (bd (law01_sane) fun v8 =>
     some v8) (vl (w64 ((w64 (v5.1.Hi - 1)) * (w64 (v5.1.Hi - 1)))) fun x9 =>
     cond (decide (x9 < z1)) (bd (law01_sane) fun v10 =>
     some v10) (some false))) (some false)) (some false)) (some false)) (some false)) (some false)) fun k3 =>
     cond (decide ((Int.tmod a0 1000000000000) < 0))
     (vl (w64 (-(Int.tmod a0 1000000000000))) fun x11 =>
     k3 x11)
     (k3 (Int.tmod a0 1000000000000))
def gen_New (a0 : (List Int)) : Option HumpgenMaker :=
  some (HumpgenMaker.mk a0 0)
def gen_Maker_Next (a0 : HumpgenMaker) (a1 : Int) : Option (Int × Int) :=
  jp (fun (z1 : Int) =>
     ck (decide (a1 ≠ 0)) <|
     cond (decide ((Int.tmod z1 a1) < 0))
     (some (w64 ((Int.tmod z1 a1) + a1), w64 (a0.fn + 1)))
     (some (Int.tmod z1 a1, w64 (a0.fn + 1)))) fun k3 =>
     cond (decide (0 < (a0.fl.length : Int)))
     (ck (decide ((a0.fl.length : Int) ≠ 0)) <|
     vl (Int.tmod a0.fn (a0.fl.length : Int)) fun x7 =>
     ix a0.fl x7 fun x8 =>
     ck (decide ((a0.fl.length : Int) ≠ 0)) <|
     vl (w64 (Int.tdiv a0.fn (a0.fl.length : Int))) fun x11 =>
     k3 (w64 (x8 + (w64 (x11 * 7919)))))
     (k3 0)
def gen_Maker_From (a0 : HumpgenMaker) (a1 : Int) (a2 : Int) : Option (Int × Int) :=
  bd (gen_Maker_Next a0 (w64 ((w64 (a2 - a1)) + 1))) fun v1 =>
     some (w64 (a1 + v1.1), v1.2)
def gen_Maker_Valid (a0 : HumpgenMaker) : Option (Interval × Int) :=
  bd (gen_Maker_From a0 (-60) 60) fun v2 =>
     bd (gen_Maker_Next (HumpgenMaker.mk a0.fl v2.2) 40) fun v4 =>
     some ((Interval.mk v2.1 (w64 (v2.1 + v4.1))), v4.2)
def interval_Add (a0 : Interval) (a1 : Interval) : Option (Interval × Int) :=
  bd (interval_Valid a0) fun v4 =>
     cond (!v4) (some ((Interval.mk 0 0), 1)) (bd (interval_Valid a1) fun v5 =>
     cond (!v5)
     (some ((Interval.mk 0 0), 1))
     (bd (interval_result (w64 (a0.Lo + a1.Lo)) (w64 (a0.Hi + a1.Hi))) fun v6 =>
     some (v6.1, v6.2)))
def interval_Sub (a0 : Interval) (a1 : Interval) : Option (Interval × Int) :=
  bd (interval_Valid a0) fun v4 =>
     cond (!v4) (some ((Interval.mk 0 0), 1)) (bd (interval_Valid a1) fun v5 =>
     cond (!v5)
     (some ((Interval.mk 0 0), 1))
     (bd (interval_result (w64 (a0.Lo - a1.Hi)) (w64 (a0.Hi - a1.Lo))) fun v6 =>
     some (v6.1, v6.2)))
def law01_IntervalLeast (a0 : (List Int)) : Option Bool :=
  bd (gen_New a0) fun v1 =>
     bd (gen_Maker_Valid (HumpgenMaker.mk a0 v1.fn)) fun v3 =>
     bd (gen_Maker_Valid (HumpgenMaker.mk a0 v3.2)) fun v5 =>
     bd (interval_Add v3.1 v5.1) fun v9 =>
     bd (interval_Sub v3.1 v5.1) fun v11 =>
     bd (interval_Mul v3.1 v5.1) fun v13 =>
     cond (decide (v9.2 ≠ 0)) (some false) (cond (decide (v11.2 ≠ 0)) (some false) (cond (decide (v13.2 ≠ 0))
     (some false)
     (jp (fun (z17 : (Bool × Bool × Bool × Bool × Bool × Bool)) =>
     cond z17.1 (cond z17.2.2.2.1 (cond z17.2.1 (cond z17.2.2.2.2.1 (cond z17.2.2.1 (cond z17.2.2.2.2.2 (bd (law01_sane) fun v21 =>
     some v21) (some false)) (some false)) (some false)) (some false)) (some false)) (some false)) fun k19 =>
     lp (fun (z22 : (Bool × Bool × Bool × Bool × Bool × Bool × Int)) k24 =>
     cond (decide (z22.2.2.2.2.2.2 ≤ v3.1.Hi))
     (lp (fun (z27 : (Bool × Bool × Bool × Bool × Bool × Bool × Int)) k29 =>
     cond (decide (z27.2.2.2.2.2.2 ≤ v5.1.Hi))
     (jp (fun (z32 : (Bool × Bool)) =>
     jp (fun (z36 : (Bool × Bool)) =>
     cond z27.2.2.1 (cond z27.2.2.2.2.2.1 (k29 (z32.1, z36.1, true, z32.2, z36.2, true, w64 (z27.2.2.2.2.2.2 + 1))) (vl (w64 (z22.2.2.2.2.2.2 * z27.2.2.2.2.2.2)) fun x40 =>
     k29 (z32.1, z36.1, true, z32.2, z36.2, decide (x40 = v13.1.Hi), w64 (z27.2.2.2.2.2.2 + 1)))) (vl (w64 (z22.2.2.2.2.2.2 * z27.2.2.2.2.2.2)) fun x41 =>
     cond z27.2.2.2.2.2.1 (k29 (z32.1, z36.1, decide (x41 = v13.1.Lo), z32.2, z36.2, true, w64 (z27.2.2.2.2.2.2 + 1))) (vl (w64 (z22.2.2.2.2.2.2 * z27.2.2.2.2.2.2)) fun x42 =>
     k29 (z32.1, z36.1, decide (x41 = v13.1.Lo), z32.2, z36.2, decide (x42 = v13.1.Hi), w64 (z27.2.2.2.2.2.2 + 1))))) fun k38 =>
     cond z27.2.1 (cond z27.2.2.2.2.1 (k38 (true, true)) (vl (w64 (z22.2.2.2.2.2.2 - z27.2.2.2.2.2.2)) fun x43 =>
     k38 (true, decide (x43 = v11.1.Hi)))) (vl (w64 (z22.2.2.2.2.2.2 - z27.2.2.2.2.2.2)) fun x44 =>
     cond z27.2.2.2.2.1 (k38 (decide (x44 = v11.1.Lo), true)) (vl (w64 (z22.2.2.2.2.2.2 - z27.2.2.2.2.2.2)) fun x45 =>
     k38 (decide (x44 = v11.1.Lo), decide (x45 = v11.1.Hi))))) fun k34 =>
     cond z27.1 (cond z27.2.2.2.1 (k34 (true, true)) (vl (w64 (z22.2.2.2.2.2.2 + z27.2.2.2.2.2.2)) fun x46 =>
     k34 (true, decide (x46 = v9.1.Hi)))) (vl (w64 (z22.2.2.2.2.2.2 + z27.2.2.2.2.2.2)) fun x47 =>
     cond z27.2.2.2.1 (k34 (decide (x47 = v9.1.Lo), true)) (vl (w64 (z22.2.2.2.2.2.2 + z27.2.2.2.2.2.2)) fun x48 =>
     k34 (decide (x47 = v9.1.Lo), decide (x48 = v9.1.Hi)))))
     (k24 (z27.1, z27.2.1, z27.2.2.1, z27.2.2.2.1, z27.2.2.2.2.1, z27.2.2.2.2.2.1, w64 (z22.2.2.2.2.2.2 + 1)))) big (z22.1, z22.2.1, z22.2.2.1, z22.2.2.2.1, z22.2.2.2.2.1, z22.2.2.2.2.2.1, v5.1.Lo))
     (k19 (z22.1, z22.2.1, z22.2.2.1, z22.2.2.2.1, z22.2.2.2.2.1, z22.2.2.2.2.2.1))) big (false, false, false, false, false, false, v3.1.Lo))))
def interval_Contains (a0 : Interval) (a1 : Int) : Option Bool :=
  bd (interval_Valid a0) fun v2 =>
     cond v2 (cond (decide (a0.Lo ≤ a1)) (some (decide (a1 ≤ a0.Hi))) (some false)) (some false)
def gen_Maker_Pick (a0 : HumpgenMaker) (a1 : (List Int)) : Option (Int × Int) :=
  bd (gen_Maker_Next a0 (a1.length : Int)) fun v1 =>
     ix a1 v1.1 fun x3 =>
     some (x3, v1.2)
def law01_IntervalContains (a0 : (List Int)) : Option Bool :=
  bd (gen_New a0) fun v1 =>
     lp (fun (z3 : (Int × Int)) k5 =>
     cond (decide (z3.2 < 5))
     (bd (gen_Maker_Valid (HumpgenMaker.mk a0 z3.1)) fun v8 =>
     bd (gen_Maker_Valid (HumpgenMaker.mk a0 v8.2)) fun v10 =>
     bd (gen_Maker_From (HumpgenMaker.mk a0 v10.2) v8.1.Lo v8.1.Hi) fun v14 =>
     bd (gen_Maker_From (HumpgenMaker.mk a0 v14.2) v10.1.Lo v10.1.Hi) fun v16 =>
     bd (interval_Add v8.1 v10.1) fun v18 =>
     bd (interval_Sub v8.1 v10.1) fun v20 =>
     bd (interval_Mul v8.1 v10.1) fun v22 =>
     cond (decide (v18.2 ≠ 0)) (some false) (cond (decide (v20.2 ≠ 0)) (some false) (cond (decide (v22.2 ≠ 0)) (some false) (bd (interval_Contains v18.1 (w64 (v14.1 + v16.1))) fun v24 =>
     cond (!v24) (some false) (bd (interval_Contains v20.1 (w64 (v14.1 - v16.1))) fun v25 =>
     cond (!v25) (some false) (bd (interval_Contains v22.1 (w64 (v14.1 * v16.1))) fun v26 =>
     cond (!v26)
     (some false)
     (bd (gen_Maker_From (HumpgenMaker.mk a0 v16.2) (-20) 20) fun v27 =>
     bd (gen_Maker_Pick (HumpgenMaker.mk a0 v27.2) ([1, 2, 3, 7, (-4)] : List Int)) fun v30 =>
     bd (interval_Scale v8.1 v27.1 v30.1) fun v32 =>
     cond (decide (v32.2 ≠ 0)) (some false) (bd (r01_Down (w64 (v14.1 * v27.1)) v30.1) fun v34 =>
     bd (interval_Contains v32.1 v34) fun v35 =>
     cond (!v35) (some false) (bd (r01_Up (w64 (v14.1 * v27.1)) v30.1) fun v36 =>
     bd (interval_Contains v32.1 v36) fun v37 =>
     cond (!v37)
     (some false)
     (cond (decide (0 ≤ v8.1.Lo))
     (bd (interval_Root v8.1) fun v38 =>
     cond (decide (v38.2 ≠ 0)) (some false) (cond (decide (v14.1 < (w64 (v38.1.Lo * v38.1.Lo)))) (some false) (cond (decide ((w64 (v38.1.Hi * v38.1.Hi)) < v14.1))
     (some false)
     (k5 (v30.2, w64 (z3.2 + 1))))))
     (k5 (v30.2, w64 (z3.2 + 1)))))))))))))
     (bd (law01_sane) fun v40 =>
     some v40)) big (v1.fn, 0)
def interval_Within (a0 : Interval) (a1 : Interval) : Option Bool :=
  bd (interval_Valid a0) fun v3 =>
     cond v3 (bd (interval_Valid a1) fun v4 =>
     cond v4 (cond (decide (a1.Lo ≤ a0.Lo)) (some (decide (a0.Hi ≤ a1.Hi))) (some false)) (some false)) (some false)
def interval_Hull (a0 : Interval) (a1 : Interval) : Option (Interval × Int) :=
  bd (interval_Valid a0) fun v4 =>
     cond (!v4) (some ((Interval.mk 0 0), 1)) (bd (interval_Valid a1) fun v5 =>
     cond (!v5)
     (some ((Interval.mk 0 0), 1))
     (some ((Interval.mk (min a0.Lo a1.Lo) (max a0.Hi a1.Hi)), 0)))
def law01_IntervalMonotone (a0 : (List Int)) : Option Bool :=
  bd (gen_New a0) fun v1 =>
     lp (fun (z3 : (Int × Int)) k5 =>
     cond (decide (z3.2 < 5))
     (bd (gen_Maker_Valid (HumpgenMaker.mk a0 z3.1)) fun v8 =>
     bd (gen_Maker_Valid (HumpgenMaker.mk a0 v8.2)) fun v10 =>
     bd (gen_Maker_From (HumpgenMaker.mk a0 v10.2) v8.1.Lo v8.1.Hi) fun v14 =>
     bd (gen_Maker_From (HumpgenMaker.mk a0 v14.2) v14.1 v8.1.Hi) fun v16 =>
     bd (interval_Mul v8.1 v10.1) fun v19 =>
     bd (interval_Mul (Interval.mk v14.1 v16.1) v10.1) fun v21 =>
     bd (interval_Sub v10.1 v8.1) fun v23 =>
     bd (interval_Sub v10.1 (Interval.mk v14.1 v16.1)) fun v25 =>
     cond (decide (v19.2 ≠ 0)) (some false) (cond (decide (v21.2 ≠ 0)) (some false) (cond (decide (v23.2 ≠ 0)) (some false) (cond (decide (v25.2 ≠ 0)) (some false) (bd (interval_Within (Interval.mk v14.1 v16.1) v8.1) fun v27 =>
     cond (!v27) (some false) (bd (interval_Within v21.1 v19.1) fun v28 =>
     cond (!v28) (some false) (bd (interval_Within v25.1 v23.1) fun v29 =>
     cond (!v29)
     (some false)
     (bd (gen_Maker_From (HumpgenMaker.mk a0 v16.2) (-9) 9) fun v30 =>
     bd (gen_Maker_Pick (HumpgenMaker.mk a0 v30.2) ([1, 2, (-3), 5] : List Int)) fun v33 =>
     bd (interval_Scale v8.1 v30.1 v33.1) fun v35 =>
     bd (interval_Scale (Interval.mk v14.1 v16.1) v30.1 v33.1) fun v36 =>
     bd (interval_Hull v8.1 v10.1) fun v37 =>
     cond (decide (v35.2 ≠ 0)) (some false) (cond (decide (v36.2 ≠ 0)) (some false) (cond (decide (v37.2 ≠ 0)) (some false) (bd (interval_Within v36.1 v35.1) fun v38 =>
     cond (!v38) (some false) (bd (interval_Within v8.1 v37.1) fun v39 =>
     cond (!v39) (some false) (bd (interval_Within v10.1 v37.1) fun v40 =>
     cond (!v40)
     (some false)
     (k5 (v33.2, w64 (z3.2 + 1))))))))))))))))
     (bd (law01_sane) fun v41 =>
     some v41)) big (v1.fn, 0)
def interval_Meet (a0 : Interval) (a1 : Interval) : Option (Interval × Int) :=
  bd (interval_Valid a0) fun v4 =>
     cond (!v4) (some ((Interval.mk 0 0), 1)) (bd (interval_Valid a1) fun v5 =>
     cond (!v5)
     (some ((Interval.mk 0 0), 1))
     (cond (decide ((min a0.Hi a1.Hi) < (max a0.Lo a1.Lo)))
     (some ((Interval.mk 0 0), 15))
     (some ((Interval.mk (max a0.Lo a1.Lo) (min a0.Hi a1.Hi)), 0))))
def law01_IntervalSets (a0 : (List Int)) (a1 : Int) : Option Bool :=
  bd (gen_New a0) fun v1 =>
     lp (fun (z3 : (Int × Int)) k5 =>
     cond (decide (z3.2 < 5))
     (bd (gen_Maker_Valid (HumpgenMaker.mk a0 z3.1)) fun v8 =>
     bd (gen_Maker_Valid (HumpgenMaker.mk a0 v8.2)) fun v10 =>
     bd (interval_Meet v8.1 v10.1) fun v14 =>
     bd (interval_Hull v8.1 v10.1) fun v16 =>
     jp (fun (z18 : Unit) =>
     bd (gen_Maker_From (HumpgenMaker.mk a0 v10.2) (-80) 120) fun v22 =>
     vl (([Int.tmod a1 100, v8.1.Lo, v8.1.Hi, v10.1.Lo, v10.1.Hi, v22.1] : List Int).length : Int) fun x25 =>
     lp (fun (z26 : Int) k28 =>
     cond (decide (z26 < x25))
     (ix ([Int.tmod a1 100, v8.1.Lo, v8.1.Hi, v10.1.Lo, v10.1.Hi, v22.1] : List Int) z26 fun x31 =>
     jp (fun (z33 : Bool) =>
     cond (decide (v14.2 = 0)) (bd (interval_Contains v14.1 x31) fun v37 =>
     cond (!(z33 == v37))
     (some false)
     (k28 (w64 (z26 + 1)))) (cond (!(z33 == false))
     (some false)
     (k28 (w64 (z26 + 1))))) fun k35 =>
     bd (interval_Contains v8.1 x31) fun v38 =>
     cond v38 (bd (interval_Contains v10.1 x31) fun v39 =>
     k35 v39) (k35 false))
     (k5 (v22.2, w64 (z3.2 + 1)))) big 0) fun k20 =>
     cond (decide (v16.2 ≠ 0)) (some false) (bd (interval_Contains v16.1 v8.1.Lo) fun v40 =>
     cond (!v40) (some false) (bd (interval_Contains v16.1 v10.1.Hi) fun v41 =>
     cond (!v41) (some false) (cond (decide (v16.1.Lo ≠ v8.1.Lo)) (cond (decide (v16.1.Lo ≠ v10.1.Lo)) (some false) (cond (decide (v16.1.Hi ≠ v8.1.Hi)) (cond (decide (v16.1.Hi ≠ v10.1.Hi))
     (some false)
     (k20 ())) (k20 ()))) (cond (decide (v16.1.Hi ≠ v8.1.Hi)) (cond (decide (v16.1.Hi ≠ v10.1.Hi))
     (some false)
     (k20 ())) (k20 ()))))))
     (bd (law01_sane) fun v42 =>
     some v42)) big (v1.fn, 0)
def gen_Maker_Interval (a0 : HumpgenMaker) : Option (Interval × Int) :=
  bd (gen_Maker_Pick a0 ([0, 1, (-1), 2, (-5), 17, (-40), 1000, (-1000000000000), 1000000000000, 999999, (-1000000)] : List Int)) fun v3 =>
     bd (gen_Maker_Pick (HumpgenMaker.mk a0.fl v3.2) ([0, 1, 2, 3, 10, 100, 12345, 1000000000000, 2000000000000] : List Int)) fun v6 =>
     bd (gen_Maker_Next (HumpgenMaker.mk a0.fl v6.2) 12) fun v8 =>
     cond (decide (v8.1 = 0))
     (bd (gen_Maker_Next (HumpgenMaker.mk a0.fl v8.2) 3) fun v10 =>
     some ((Interval.mk v3.1 (w64 ((w64 (v3.1 - 1)) - v10.1))), v10.2))
     (some ((Interval.mk v3.1 (w64 (v3.1 + v6.1))), v8.2))
def r01_Valid (a0 : Interval) : Option Bool :=
  cond (decide (a0.Lo ≤ a0.Hi)) (cond (decide ((-1000000000000) ≤ a0.Lo)) (some (decide (a0.Hi ≤ 1000000000000))) (some false)) (some false)
def r01_checked (a0 : Int) (a1 : Int) : Option (Interval × Int) :=
  cond (decide (a0 < (-1000000000000))) (some ((Interval.mk 0 0), 4)) (cond (decide (1000000000000 < a1))
     (some ((Interval.mk 0 0), 4))
     (some ((Interval.mk a0 a1), 0)))
def r01_Add (a0 : Interval) (a1 : Interval) : Option (Interval × Int) :=
  bd (r01_Valid a0) fun v4 =>
     cond (!v4) (some ((Interval.mk 0 0), 1)) (bd (r01_Valid a1) fun v5 =>
     cond (!v5)
     (some ((Interval.mk 0 0), 1))
     (bd (r01_checked (w64 (a0.Lo + a1.Lo)) (w64 (a0.Hi + a1.Hi))) fun v6 =>
     some (v6.1, v6.2)))
def r01_Contains (a0 : Interval) (a1 : Int) : Option Bool :=
  bd (r01_Valid a0) fun v2 =>
     cond v2 (cond (decide (a0.Lo ≤ a1)) (some (decide (a1 ≤ a0.Hi))) (some false)) (some false)
def r01_Within (a0 : Interval) (a1 : Interval) : Option Bool :=
  bd (r01_Valid a0) fun v3 =>
     cond v3 (bd (r01_Valid a1) fun v4 =>
     cond v4 (cond (decide (a1.Lo ≤ a0.Lo)) (some (decide (a0.Hi ≤ a1.Hi))) (some false)) (some false)) (some false)
def r01_Sub (a0 : Interval) (a1 : Interval) : Option (Interval × Int) :=
  bd (r01_Valid a0) fun v4 =>
     cond (!v4) (some ((Interval.mk 0 0), 1)) (bd (r01_Valid a1) fun v5 =>
     cond (!v5)
     (some ((Interval.mk 0 0), 1))
     (bd (r01_checked (w64 (a0.Lo - a1.Hi)) (w64 (a0.Hi - a1.Lo))) fun v6 =>
     some (v6.1, v6.2)))
def r01_size (a0 : Int) : Option Int :=
  cond (decide (a0 < 0))
     (some (w64 (-a0)))
     (some a0)
def r01_Mul (a0 : Interval) (a1 : Interval) : Option (Interval × Int) :=
  bd (r01_Valid a0) fun v4 =>
     cond (!v4) (some ((Interval.mk 0 0), 1)) (bd (r01_Valid a1) fun v5 =>
     cond (!v5)
     (some ((Interval.mk 0 0), 1))
     (vl (([a0.Lo, a0.Hi] : List Int).length : Int) fun x7 =>
     lp (fun (z8 : (Int × Int × Int)) k10 =>
     cond (decide (z8.2.2 < x7))
     (ix ([a0.Lo, a0.Hi] : List Int) z8.2.2 fun x13 =>
     vl (([a1.Lo, a1.Hi] : List Int).length : Int) fun x16 =>
     lp (fun (z17 : (Int × Int × Int)) k19 =>
     cond (decide (z17.2.2 < x16))
     (ix ([a1.Lo, a1.Hi] : List Int) z17.2.2 fun x22 =>
     jp (fun (z24 : Unit) =>
     k19 (min z17.1 (w64 (x13 * x22)), max z17.2.1 (w64 (x13 * x22)), w64 (z17.2.2 + 1))) fun k26 =>
     cond (decide (x22 ≠ 0)) (bd (r01_size x13) fun v28 =>
     bd (r01_size x22) fun v29 =>
     ck (decide (v29 ≠ 0)) <|
     vl (w64 (Int.tdiv 1000000000000 v29)) fun x31 =>
     cond (decide (x31 < v28))
     (some ((Interval.mk 0 0), 4))
     (k26 ())) (k26 ()))
     (k10 (z17.1, z17.2.1, w64 (z8.2.2 + 1)))) big (z8.1, z8.2.1, 0))
     (some ((Interval.mk z8.1 z8.2.1), 0))) big (1000000000000, (-1000000000000), 0)))
def r01_Scale (a0 : Interval) (a1 : Int) (a2 : Int) : Option (Interval × Int) :=
  bd (r01_Valid a0) fun v3 =>
     cond (!v3)
     (some ((Interval.mk 0 0), 1))
     (jp (fun (z4 : Bool) =>
     cond z4
     (some ((Interval.mk 0 0), 2))
     (cond (decide (a2 = 0))
     (some ((Interval.mk 0 0), 5))
     (bd (r01_Down (w64 (a0.Lo * a1)) a2) fun v8 =>
     bd (r01_Down (w64 (a0.Hi * a1)) a2) fun v9 =>
     bd (r01_Up (w64 (a0.Lo * a1)) a2) fun v10 =>
     bd (r01_Up (w64 (a0.Hi * a1)) a2) fun v11 =>
     bd (r01_checked (min v8 v9) (max v10 v11)) fun v12 =>
     some (v12.1, v12.2)))) fun k6 =>
     cond (decide (a1 < (-1000000))) (k6 true) (cond (decide (1000000 < a1)) (k6 true) (cond (decide (a2 < (-1000000))) (k6 true) (k6 (decide (1000000 < a2))))))
def r01_RootDown (a0 : Int) : Option Int :=
  lp (fun (z1 : (Int × Int)) k3 =>
     cond (decide (z1.1 < z1.2))
     (vl (w64 (Int.tdiv (w64 ((w64 (z1.1 + z1.2)) + 1)) 2)) fun x6 =>
     cond (decide ((w64 (x6 * x6)) ≤ a0))
     (k3 (x6, z1.2))
     (k3 (z1.1, w64 (x6 - 1))))
     (some z1.1)) big (0, 1073741824)
def r01_RootUp (a0 : Int) : Option Int :=
  bd (r01_RootDown a0) fun v1 =>
     cond (decide ((w64 (v1 * v1)) < a0))
     (some (w64 (v1 + 1)))
     (some v1)
def r01_Root (a0 : Interval) : Option (Interval × Int) :=
  bd (r01_Valid a0) fun v3 =>
     cond (!v3)
     (some ((Interval.mk 0 0), 1))
     (cond (decide (a0.Lo < 0))
     (some ((Interval.mk 0 0), 2))
     (bd (r01_RootDown a0.Lo) fun v4 =>
     bd (r01_RootUp a0.Hi) fun v5 =>
     some ((Interval.mk v4 v5), 0)))
def r01_Hull (a0 : Interval) (a1 : Interval) : Option (Interval × Int) :=
  bd (r01_Valid a0) fun v4 =>
     cond (!v4) (some ((Interval.mk 0 0), 1)) (bd (r01_Valid a1) fun v5 =>
     cond (!v5)
     (some ((Interval.mk 0 0), 1))
     (some ((Interval.mk (min a0.Lo a1.Lo) (max a0.Hi a1.Hi)), 0)))
def r01_Meet (a0 : Interval) (a1 : Interval) : Option (Interval × Int) :=
  bd (r01_Valid a0) fun v4 =>
     cond (!v4) (some ((Interval.mk 0 0), 1)) (bd (r01_Valid a1) fun v5 =>
     cond (!v5)
     (some ((Interval.mk 0 0), 1))
     (cond (decide ((min a0.Hi a1.Hi) < (max a0.Lo a1.Lo)))
     (some ((Interval.mk 0 0), 15))
     (some ((Interval.mk (max a0.Lo a1.Lo) (min a0.Hi a1.Hi)), 0))))
def law01_exact (a0 : Interval) (a1 : Interval) (a2 : Int) (a3 : Int) : Option Bool :=
  bd (interval_Add a0 a1) fun v3 =>
     bd (r01_Add a0 a1) fun v5 =>
     cond (decide (¬ (v3.1.Lo = v5.1.Lo ∧ v3.1.Hi = v5.1.Hi))) (some false) (cond (decide (v3.2 ≠ v5.2)) (some false) (bd (interval_Valid a0) fun v7 =>
     bd (r01_Valid a0) fun v8 =>
     cond (!(v7 == v8)) (some false) (bd (interval_Contains a0 a2) fun v9 =>
     bd (r01_Contains a0 a2) fun v10 =>
     cond (!(v9 == v10)) (some false) (bd (interval_Within a0 a1) fun v11 =>
     bd (r01_Within a0 a1) fun v12 =>
     cond (!(v11 == v12))
     (some false)
     (bd (interval_Sub a0 a1) fun v13 =>
     bd (r01_Sub a0 a1) fun v14 =>
     bd (interval_Mul a0 a1) fun v15 =>
     bd (r01_Mul a0 a1) fun v17 =>
     cond (decide (¬ (v13.1.Lo = v14.1.Lo ∧ v13.1.Hi = v14.1.Hi))) (some false) (cond (decide (v13.2 ≠ v14.2)) (some false) (cond (decide (¬ (v15.1.Lo = v17.1.Lo ∧ v15.1.Hi = v17.1.Hi))) (some false) (cond (decide (v15.2 ≠ v17.2))
     (some false)
     (bd (interval_Scale a0 a2 a3) fun v19 =>
     bd (r01_Scale a0 a2 a3) fun v20 =>
     bd (interval_Root a0) fun v21 =>
     bd (r01_Root a0) fun v22 =>
     cond (decide (¬ (v19.1.Lo = v20.1.Lo ∧ v19.1.Hi = v20.1.Hi))) (some false) (cond (decide (v19.2 ≠ v20.2)) (some false) (cond (decide (¬ (v21.1.Lo = v22.1.Lo ∧ v21.1.Hi = v22.1.Hi))) (some false) (cond (decide (v21.2 ≠ v22.2))
     (some false)
     (bd (interval_Hull a0 a1) fun v23 =>
     bd (r01_Hull a0 a1) fun v24 =>
     bd (interval_Meet a0 a1) fun v25 =>
     bd (r01_Meet a0 a1) fun v26 =>
     cond (decide (v23.1.Lo = v24.1.Lo ∧ v23.1.Hi = v24.1.Hi)) (cond (decide (v23.2 = v24.2)) (cond (decide (v25.1.Lo = v26.1.Lo ∧ v25.1.Hi = v26.1.Hi)) (some (decide (v25.2 = v26.2))) (some false)) (some false)) (some false))))))))))))))
def law01_IntervalExact (a0 : (List Int)) (a1 : Interval) (a2 : Interval) (a3 : Int) (a4 : Int) : Option Bool :=
  bd (gen_New a0) fun v3 =>
     jp (fun (z5 : Unit) =>
     bd (law01_exact a1 a2 a3 a4) fun v9 =>
     cond v9 (bd (law01_sane) fun v10 =>
     some v10) (some false)) fun k7 =>
     lp (fun (z11 : (Int × Int)) k13 =>
     cond (decide (z11.2 < 6))
     (bd (gen_Maker_Interval (HumpgenMaker.mk a0 z11.1)) fun v16 =>
     bd (gen_Maker_Interval (HumpgenMaker.mk a0 v16.2)) fun v18 =>
     bd (gen_Maker_Pick (HumpgenMaker.mk a0 v18.2) ([1, (-1), 3, (-7), 0, 1000000, 1000001, a3] : List Int)) fun v21 =>
     bd (gen_Maker_Pick (HumpgenMaker.mk a0 v21.2) ([1, 2, (-3), 100, 0, 1000000, (-1000001), a4] : List Int)) fun v24 =>
     bd (law01_exact v16.1 v18.1 v21.1 v24.1) fun v26 =>
     cond (!v26)
     (some false)
     (k13 (v24.2, w64 (z11.2 + 1))))
     (k7 ())) big (v3.fn, 0)
end Go.Hy
