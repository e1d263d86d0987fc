/-
  What the proof leans on, part 4: plain rules, plain models of the functions, and what they give. No condition.
-/
import Derived.Test.YtdgminllobhncaaK3
namespace Go.Proofs.Ytdgminllobhncaa
open Go.Hy
set_option linter.unusedVariables false
set_option linter.unusedSimpArgs false
set_option maxHeartbeats 2000000
set_option maxRecDepth 100000
theorem ZdO {w : World} {a0 : HumpgenMaker} {a1 : Int} {ha0_fl : Hd} {b0 : Nat} {v : (YardgenPush × Int)} (hm : ZbY a0 a1 = some v) (Hb : Blk w b0 65 [ha0_fl.v, .int .i64 a0.fn]) (Rha0_fl : Sl w ha0_fl encI a0.fl) (Oha0_fl : Offs ha0_fl [b0]) : Calls Try.prog 9 ([.pointer (some ⟨b0, 0, none⟩), .int .i64 a1] : List Value).toArray w (fun e w' => ∃ g : (Hd × Hd × Hd × Hd × List (Rolling × (Hd × Hd)) × Hd × List ((List Span) × Hd) × Hd × List Rw), e = .returned (.agg #[g.1.v, .int .i64 v.1.Scene.Throw, g.2.1.v, g.2.2.1.v, g.2.2.2.1.v, g.2.2.2.2.2.1.v, g.2.2.2.2.2.2.2.1.v, .bool v.1.OK]) ∧ St w w' [.blk b0 65 [ha0_fl.v, .int .i64 v.2]] [(rowH g.1 62 8 Element.enc v.1.Scene.Elements), (rowH g.2.1 90 2 Throw.enc v.1.Scene.Start), (rowH g.2.2.1 53 4 Command.enc v.1.Scene.Commands), (rowH g.2.2.2.1 45 6 Nt.enc g.2.2.2.2.1), (rowH g.2.2.2.2.2.1 41 1 Nt.enc g.2.2.2.2.2.2.1), (rowH g.2.2.2.2.2.2.2.1 3 1 encI v.1.Releases), (Res.nest g.2.2.2.2.2.2.2.2 (NF noAr g.2.2.2.2.2.2.2.2 g.2.2.2.2.1 v.1.Scene.Cuts ∧ NF noAr g.2.2.2.2.2.2.2.2 g.2.2.2.2.2.2.1 v.1.Spans))]) := by
 refine ZbL (vs := [.pointer (some ⟨b0, 0, none⟩), .int .i64 a1]) (R := fun (v : (YardgenPush × Int)) (e : Ending) (w' : World) => ∃ g : (Hd × Hd × Hd × Hd × List (Rolling × (Hd × Hd)) × Hd × List ((List Span) × Hd) × Hd × List Rw), e = .returned (.agg #[g.1.v, .int .i64 v.1.Scene.Throw, g.2.1.v, g.2.2.1.v, g.2.2.2.1.v, g.2.2.2.2.2.1.v, g.2.2.2.2.2.2.2.1.v, .bool v.1.OK]) ∧ St w w' [.blk b0 65 [ha0_fl.v, .int .i64 v.2]] [(rowH g.1 62 8 Element.enc v.1.Scene.Elements), (rowH g.2.1 90 2 Throw.enc v.1.Scene.Start), (rowH g.2.2.1 53 4 Command.enc v.1.Scene.Commands), (rowH g.2.2.2.1 45 6 Nt.enc g.2.2.2.2.1), (rowH g.2.2.2.2.2.1 41 1 Nt.enc g.2.2.2.2.2.2.1), (rowH g.2.2.2.2.2.2.2.1 3 1 encI v.1.Releases), (Res.nest g.2.2.2.2.2.2.2.2 (NF noAr g.2.2.2.2.2.2.2.2 g.2.2.2.2.1 v.1.Scene.Cuts ∧ NF noAr g.2.2.2.2.2.2.2.2 g.2.2.2.2.2.2.1 v.1.Spans))]) Try.func9 e Try.ntmps9 e e (ZiN Hb) hm ?_
 unfold ZbY
 clear hm
 refine Zac (Zad 0 (ZaL (l8 e) e e fun g1 => gz3 0 1 4 e (Zae (Zac (Zad 1 (Zaf e e e (jm_c e (fun v w hs hm => Zen hm (hs.blkM (i := 0) e) (hs.argM Rha0_fl Oha0_fl) Oha0_fl) (fun _ => e) e e fun v2 q3 => jg_L (r2 e) (Zah e e e (gz4 0 1 4 5 e (Zae (Zac (Zad 2 (Zaf e e e (Zaf e e e ?_))))))))))))))
 refine Za2 (enc := encI) [0, 800, 2500] e e e e e e e e fun hd4 => jm_c e (fun v w hs hm => Za7 hm (hs.blkM (i := 0) e) (hs.argM Rha0_fl Oha0_fl) Oha0_fl (hs.row 0 e) (hs.offML 0 0 e e)) (fun _ => e) e e fun v5 q6 => jy (ZaY e (o5 e)) e e (jy (ZaY e (o8 e)) e e (ZaL (l8 e) e e fun g7 => Zax 0 e e e (l8 e) e e e e (l8 e) (r4 e) (gz5 0 1 4 5 6 e (Zae (Zac (Zad 3 (Zah e e e (gz6 0 1 4 5 6 7 e (Zae (Zac (Zad 4 (Zaf e e e (Za2 (enc := encI) [0, 10, 20] e e e e e e e e fun hd8 => ?_)))))))))))))
 refine jm_c e (fun v w hs hm => Za7 hm (hs.blkM (i := 0) e) (hs.argM Rha0_fl Oha0_fl) Oha0_fl (hs.row 0 e) (hs.offML 0 0 e e)) (fun _ => e) e e fun v9 q10 => Zaf e e e (Za2 (enc := encI) [0, 5, 30] e e e e e e e e fun hd11 => jm_c e (fun v w hs hm => Za7 hm (hs.blkM (i := 0) e) (hs.argM Rha0_fl Oha0_fl) Oha0_fl (hs.row 0 e) (hs.offML 0 0 e e)) (fun _ => e) e e fun v12 q13 => Zah e e e (Zah e e e (gz8 0 1 4 5 6 7 8 9 e (ZaF (is := [2, 4, 5]) (s3 e) e (Zae (Zac (Zad 5 (Zah e e e (gz9 0 1 4 5 6 7 8 9 10 e (Zae (Zac (Zad 6 (Zah e e e ?_)))))))))))))
 refine gz10 0 1 4 5 6 7 8 9 10 11 e (Zae (Za6 (fun (s : ((List Int) × (List Interval) × (List Int) × Int)) (g : (Hd × Hd × Hd)) => [(0, .pointer (some ⟨b0, 0, none⟩)), (1, .int .i64 a1), (4, .pointer (some ⟨g1, 0, none⟩)), (5, q3.v), (6, .pointer (some ⟨g7, 0, none⟩)), (7, g.1.v), (10, g.2.1.v), (11, g.2.2.v)]) (fun (s : ((List Int) × (List Interval) × (List Int) × Int)) (g : (Hd × Hd × Hd)) => [(Res.blk b0 65 [ha0_fl.v, .int .i64 s.2.2.2])]) (fun (s : ((List Int) × (List Interval) × (List Int) × Int)) (g : (Hd × Hd × Hd)) => [(Res.blk g1 33 [(Hd.mk none 0 0).v, .int .i64 0, (Hd.mk none 0 0).v, (Hd.mk none 0 0).v, (Hd.mk none 0 0).v, (Hd.mk none 0 0).v, (Hd.mk none 0 0).v, .bool false]), (rowH q3 62 8 Element.enc v2.1), (Res.blk g7 33 [q3.v, .int .i64 v5.1, (Hd.mk none 0 0).v, (Hd.mk none 0 0).v, (Hd.mk none 0 0).v, (Hd.mk none 0 0).v, (Hd.mk none 0 0).v, .bool false]), (rowH g.1 3 1 encI s.1), (rowH g.2.1 70 2 Interval.enc s.2.1), (rowH g.2.2 3 1 encI s.2.2.1)]) ?_ ?_))
 rotate_left
 ·intro k16 H17
  refine Zac (Zad 7 (Zah e e e (gz11 0 1 4 5 6 7 8 9 10 11 12 e (Zae (Zar (Zbm 3 1 encI (Zbm 70 2 Interval.enc (Zbm 3 1 encI (Zbi (n := big) (fun (s : ((List Int) × (List Interval) × (List Int) × Int × Int)) (g : (Hd × Hd × Hd)) => [(0, .pointer (some ⟨b0, 0, none⟩)), (1, .int .i64 a1), (4, .pointer (some ⟨g1, 0, none⟩)), (5, q3.v), (6, .pointer (some ⟨g7, 0, none⟩)), (7, g.1.v), (8, .int .i64 v9.1), (9, .int .i64 v12.1), (10, g.2.1.v), (11, g.2.2.v), (12, .int .i64 s.2.2.2.1)]) (fun (s : ((List Int) × (List Interval) × (List Int) × Int × Int)) (g : (Hd × Hd × Hd)) => [(Res.blk b0 65 [ha0_fl.v, .int .i64 s.2.2.2.2])]) (fun (s : ((List Int) × (List Interval) × (List Int) × Int × Int)) (g : (Hd × Hd × Hd)) => [(Res.blk g1 33 [(Hd.mk none 0 0).v, .int .i64 0, (Hd.mk none 0 0).v, (Hd.mk none 0 0).v, (Hd.mk none 0 0).v, (Hd.mk none 0 0).v, (Hd.mk none 0 0).v, .bool false]), (rowH q3 62 8 Element.enc v2.1), (Res.blk g7 33 [q3.v, .int .i64 v5.1, (Hd.mk none 0 0).v, (Hd.mk none 0 0).v, (Hd.mk none 0 0).v, (Hd.mk none 0 0).v, (Hd.mk none 0 0).v, .bool false]), (rowH g.1 3 1 encI s.1), (rowH g.2.1 70 2 Interval.enc s.2.1), (rowH g.2.2 3 1 encI s.2.2.1)]) (([] : List Int), ([] : List Interval), ([] : List Int), 0, v12.2) ((Hd.mk none 0 0), (Hd.mk none 0 0), (Hd.mk none 0 0)) [5, 4, 3, 2, 1, 0] ⟨e, e, e, e, e, e, e, e, e, e, e, trivial⟩ e e e ?_)))))))))
  intro z501 q502 n505 k503 H504
  refine Zac (Zac (Zad 8 (Zaf e e e (Zaf e e e (jg_y (fun w hs => ZaT e (hs.row 1 e)) e e (jy (ZaB e e) e e (gz12 0 1 4 5 6 7 8 9 10 11 12 49 e (Zae (Zan e ?_ ?_)))))))))
  rotate_left
  ·refine ZaG (Zba (Zbe (Zbb ?_)))
   exact Zav H17 (z501.1, z501.2.1, z501.2.2.1, z501.2.2.2.2) (q502.1, q502.2.1, q502.2.2) [0, 1, 2, 3, 4, 5] ⟨e, e, e, e, e, e, e, e, trivial⟩ e e e
  refine Zam (Zae (Zac (Zar (Zac (ZaV (L' := [_, _, _, _, _, _]) 10 [0, 1, 2, 3, 5, 6] [0, 1, 2, 3, 4, 5, 6, 7, 8, 9, 10, 11, 12, 13, 14, 15, 16, 17, 18, 19, 20] 2097151 2097151 [0, 0, 0, 0, 12, 16, 32, 66, 0, 0, 0, 1536, 2048, 4096, 8448, 0, 49152, 65664, 131072, 262145, 1048575] [0, 0, 0, 0, 12, 28, 60, 126, 0, 0, 0, 1536, 3584, 7680, 16128, 0, 65280, 131070, 262142, 524287, 1048575] [(0, true), (1, true), (2, true), (3, true), (4, true), (5, true), (6, true), (7, true), (8, true), (9, true), (10, true), (11, true), (12, true), (13, true), (14, true), (15, true), (16, true), (17, true), (18, false), (19, false), (20, true)] e (Zay (ZaE (Zay (Za8 (ZaE (Zay Zbn)))))) (by kernel_rfl) (by kernel_rfl) (by kernel_rfl) (by kernel_rfl) (by kernel_rfl) (by kernel_rfl) (by kernel_rfl) (by kernel_rfl) (Zaz e e e e (Zaz e e e e (Zaz e e e e (Zaz e e e e (Zbs fun x506 h507 => jd_y e (fun w hs => ZaD e e (hs.row 1 e) h507) e e (jd_y e (fun w hs => ZaX e (hs.row 1 e) h507.1) e e (jd_y e (fun w hs => ZaK e (hs.row 1 e) h507.1 e) e e (jd_y e (fun w hs => Zap e e) e e (Zaz e e e e (Zaz e e e e ?_)))))))))))))))
  refine Zaz e e e e (Zbs fun x508 h509 => jd_y e (fun w hs => ZaD e e (hs.row 1 e) h509) e e (jd_y e (fun w hs => ZaX e (hs.row 1 e) h509.1) e e (jd_y e (fun w hs => ZaK e (hs.row 1 e) h509.1 e) e e (jd_y e (fun w hs => Zap e e) e e (Zaz e e e e (Zfl e (fun w hs => Zap e e) e e fun x510 => jd_y e (fun w hs => ZaY e (o2 e)) e e (jd_h e (Za2 (enc := Interval.enc) [(Interval.mk (w64 (v9.1 + x506.Curve)) x510)] e e e e e e e e fun hd511 => ZaI (Zb6 [1, 2, 3, 4, 6, 7] e (jd_h e (ZaO 5 e e e (fun w hs => (hs.row 0 e)) e e e fun y512 hd513 => jg_L (r7 e) (ZaI ?_))))))))))))
  refine Zb6 [1, 2, 3, 4, 6, 7] e (Zb4 e e e e (Za9 [(0, _), (1, _), (4, _), (5, _), (6, _), (7, _), (8, _), (9, _), (10, _), (11, _), (12, _)] ⟨e, e, e, e, e, e, e, e, e, e, e, trivial⟩ (Zae (Zac (Zad 11 (Zaf e e e (Zaf e e e (Za2 (enc := encI) [(-1), 1500, 3000, 6000] e e e e e e e e fun hd514 => jm_c e (fun v w hs hm => Za7 hm (hs.blkM (i := 0) e) (hs.argM Rha0_fl Oha0_fl) Oha0_fl (hs.row 0 e) (hs.offML 0 0 e e)) (fun _ => e) e e fun v515 q516 => Za2 (enc := encI) [v515.1] e e e e e e e e fun hd517 => ZaO 8 e e e (fun w hs => (hs.row 0 e)) e e e fun y518 hd519 => jg_L (r9 e) (Zah e e e (gz11 0 1 4 5 6 7 8 9 10 11 12 e (ZaF (is := [3, 4, 5, 6, 7, 8]) (s6 e) e (Zae ?_))))))))))))
  refine Zac (Zad 12 (Zaf e e e (Zaf e e e (Za1 fun x520 h521 => jg_y (fun w hs => ZaD e e (hs.row 1 e) h521) e e (jg_y (fun w hs => ZaX e (hs.row 1 e) h521.1) e e (jg_y (fun w hs => ZaK e (hs.row 1 e) h521.1 e) e e (jy (ZaR e e) e e (gz12 0 1 4 5 6 7 8 9 10 11 12 83 e (Zae (Zan e ?_ ?_))))))))))
  rotate_left
  ·refine Zam (ZaN (Zae ?_))
   refine Zad 9 (Zaf e e e (jy (Zap e e) e e (Zah e e e (gz11 0 1 4 5 6 7 8 9 10 11 12 e (Zav H504 (z501.1, y512, y518, w64 (z501.2.2.2.1 + 1), v515.2) (q502.1, hd513, hd519) [0, 1, 2, 3, 4, 5] ⟨e, e, e, e, e, e, e, e, e, e, e, trivial⟩ e e e)))))
  refine Zad 13 (Zaf e e e (Zaf e e e (Za2 (enc := encI) [z501.2.2.2.1] e e e e e e e e fun hd522 => ZaO 4 e e e (fun w hs => (hs.row 0 e)) e e e fun y523 hd524 => jg_L (r7 e) (Zah e e e (gz11 0 1 4 5 6 7 8 9 10 11 12 e (ZaN (Zae ?_)))))))
  refine Zad 9 (Zaf e e e (jy (Zap e e) e e (Zah e e e (gz11 0 1 4 5 6 7 8 9 10 11 12 e (Zav H504 (y523, y512, y518, w64 (z501.2.2.2.1 + 1), v515.2) (hd524, hd513, hd519) [1, 2, 3, 4, 5, 6] ⟨e, e, e, e, e, e, e, e, e, e, e, trivial⟩ e e e)))))
 intro z14 q15
 refine Zac (Zad 14 (Zaf e e e (Za2 (enc := encI) [0, 20] e e e e e e e e fun hd18 => jm_c e (fun v w hs hm => Za7 hm (hs.blkM (i := 0) e) (hs.argM Rha0_fl Oha0_fl) Oha0_fl (hs.row 0 e) (hs.offML 0 0 e e)) (fun _ => e) e e fun v19 q20 => Zah e e e (gz9 0 1 4 5 6 7 10 11 13 e (Zae (Za6 (fun (s : ((List Rolling) × (List (List Span)) × Int)) (g : (Hd × (List (Rolling × (Hd × Hd))) × Hd × (List ((List Span) × Hd)) × List Rw)) => [(0, .pointer (some ⟨b0, 0, none⟩)), (4, .pointer (some ⟨g1, 0, none⟩)), (5, q3.v), (6, .pointer (some ⟨g7, 0, none⟩))]) (fun (s : ((List Rolling) × (List (List Span)) × Int)) (g : (Hd × (List (Rolling × (Hd × Hd))) × Hd × (List ((List Span) × Hd)) × List Rw)) => [(Res.blk b0 65 [ha0_fl.v, .int .i64 s.2.2])]) (fun (s : ((List Rolling) × (List (List Span)) × Int)) (g : (Hd × (List (Rolling × (Hd × Hd))) × Hd × (List ((List Span) × Hd)) × List Rw)) => [(Res.blk g1 33 [(Hd.mk none 0 0).v, .int .i64 0, (Hd.mk none 0 0).v, (Hd.mk none 0 0).v, (Hd.mk none 0 0).v, (Hd.mk none 0 0).v, (Hd.mk none 0 0).v, .bool false]), (rowH q3 62 8 Element.enc v2.1), (Res.blk g7 33 [q3.v, .int .i64 v5.1, (Hd.mk none 0 0).v, (Hd.mk none 0 0).v, g.1.v, g.2.2.1.v, (Hd.mk none 0 0).v, .bool false]), (rowH g.1 45 6 Nt.enc g.2.1), (rowH g.2.2.1 41 1 Nt.enc g.2.2.2.1), (Res.nest g.2.2.2.2 (NF noAr g.2.2.2.2 g.2.1 s.1 ∧ NF noAr g.2.2.2.2 g.2.2.2.1 s.2.1))]) ?_ ?_))))))
 ·intro z21 q22
  refine ZbA (i := 5) e fun n25 => Za6 (fun (s : ((List Throw) × Int)) (g : Hd) => [(4, .pointer (some ⟨g1, 0, none⟩)), (6, .pointer (some ⟨g7, 0, none⟩))]) (fun (s : ((List Throw) × Int)) (g : Hd) => [(Res.blk b0 65 [ha0_fl.v, .int .i64 s.2])]) (fun (s : ((List Throw) × Int)) (g : Hd) => [(Res.blk g1 33 [(Hd.mk none 0 0).v, .int .i64 0, (Hd.mk none 0 0).v, (Hd.mk none 0 0).v, (Hd.mk none 0 0).v, (Hd.mk none 0 0).v, (Hd.mk none 0 0).v, .bool false]), (Res.blk g7 33 [q3.v, .int .i64 v5.1, g.v, (Hd.mk none 0 0).v, q22.1.v, q22.2.2.1.v, (Hd.mk none 0 0).v, .bool false]), (rowH q3 62 8 Element.enc v2.1), (rowH g 90 2 Throw.enc s.1), (rowH q22.1 45 6 Nt.enc q22.2.1), (rowH q22.2.2.1 41 1 Nt.enc q22.2.2.2.1), (Res.nest q22.2.2.2.2 (NF noAr q22.2.2.2.2 q22.2.1 z21.1 ∧ NF noAr q22.2.2.2.2 q22.2.2.2.1 z21.2.1))]) ?_ ?_
  rotate_left
  ·intro k28 H29
   refine Zac (Zad 43 (Zah e e e (gz5 0 4 5 6 27 e (Zae (Zar (Zbm 90 2 Throw.enc (Zbw (i := 6) (NF noAr q22.2.2.2.2 q22.2.1 z21.1 ∧ NF noAr q22.2.2.2.2 q22.2.2.2.1 z21.2.1) e (fun _ => ⟨n25.1, n25.2⟩) (r7 e) (Zbi (n := big) (fun (s : ((List Throw) × Int × Int)) (g : Hd) => [(0, .pointer (some ⟨b0, 0, none⟩)), (4, .pointer (some ⟨g1, 0, none⟩)), (5, q3.v), (6, .pointer (some ⟨g7, 0, none⟩)), (27, .int .i64 s.2.1)]) (fun (s : ((List Throw) × Int × Int)) (g : Hd) => [(Res.blk b0 65 [ha0_fl.v, .int .i64 s.2.2])]) (fun (s : ((List Throw) × Int × Int)) (g : Hd) => [(Res.blk g1 33 [(Hd.mk none 0 0).v, .int .i64 0, (Hd.mk none 0 0).v, (Hd.mk none 0 0).v, (Hd.mk none 0 0).v, (Hd.mk none 0 0).v, (Hd.mk none 0 0).v, .bool false]), (rowH q3 62 8 Element.enc v2.1), (Res.blk g7 33 [q3.v, .int .i64 v5.1, g.v, (Hd.mk none 0 0).v, q22.1.v, q22.2.2.1.v, (Hd.mk none 0 0).v, .bool false]), (rowH g 90 2 Throw.enc s.1), (rowH q22.1 45 6 Nt.enc q22.2.1), (rowH q22.2.2.1 41 1 Nt.enc q22.2.2.2.1), (Res.nest q22.2.2.2.2 (NF noAr q22.2.2.2.2 q22.2.1 z21.1 ∧ NF noAr q22.2.2.2.2 q22.2.2.2.1 z21.2.1))]) (([] : List Throw), 0, z21.2.2) (Hd.mk none 0 0) [1, 2, 3, 0, 4, 5, 6] ⟨e, e, e, e, e, trivial⟩ e e e ?_))))))))
   intro z60 q61 n64 k62 H63
   refine ZbA (i := 6) e fun n65 => Zac (Zac (Zad 44 (Zaf e e e (Zaf e e e (jg_y (fun w hs => ZaT e (hs.row 1 e)) e e (jy (ZaB e e) e e (gz6 0 4 5 6 27 296 e (Zae (Zan e ?_ ?_)))))))))
   rotate_left
   ·refine ZaG (Zba (Zbe (Zbb ?_)))
    refine ZaC (i := 6) (NF noAr q22.2.2.2.2 q22.2.1 z21.1 ∧ NF noAr q22.2.2.2.2 q22.2.2.2.1 z21.2.1) e (fun _ => ⟨n65.1, n65.2⟩) (r7 e) (Zav H29 (z60.1, z60.2.2) q61 [0, 2, 1, 3, 4, 5, 6] ⟨e, e, trivial⟩ e e e)
   refine Zam (Zae (Zac (Zar (Za6 (fun (s : (Bool × Int)) (g : Unit) => [(0, .pointer (some ⟨b0, 0, none⟩)), (4, .pointer (some ⟨g1, 0, none⟩)), (5, q3.v), (6, .pointer (some ⟨g7, 0, none⟩)), (27, .int .i64 z60.2.1), (309, .bool s.1)]) (fun (s : (Bool × Int)) (g : Unit) => [(Res.blk b0 65 [ha0_fl.v, .int .i64 s.2])]) (fun (s : (Bool × Int)) (g : Unit) => [(Res.blk g1 33 [(Hd.mk none 0 0).v, .int .i64 0, (Hd.mk none 0 0).v, (Hd.mk none 0 0).v, (Hd.mk none 0 0).v, (Hd.mk none 0 0).v, (Hd.mk none 0 0).v, .bool false]), (rowH q3 62 8 Element.enc v2.1), (Res.blk g7 33 [q3.v, .int .i64 v5.1, q61.v, (Hd.mk none 0 0).v, q22.1.v, q22.2.2.1.v, (Hd.mk none 0 0).v, .bool false]), (rowH q61 90 2 Throw.enc z60.1), (rowH q22.1 45 6 Nt.enc q22.2.1), (rowH q22.2.2.1 41 1 Nt.enc q22.2.2.2.1), (Res.nest q22.2.2.2.2 (NF noAr q22.2.2.2.2 q22.2.1 z21.1 ∧ NF noAr q22.2.2.2.2 q22.2.2.2.1 z21.2.1))]) ?_ ?_))))
   rotate_left
   ·intro k68 H69
    refine Zad 46 (Zaf e e e (Zaf e e e (Za1 fun x77 h78 => jg_y (fun w hs => ZaD e e (hs.row 1 e) h78) e e (jg_y (fun w hs => ZaX e (hs.row 1 e) h78.1) e e (jg_y (fun w hs => ZaK e (hs.row 1 e) h78.1 e) e e (jy (ZaR e e) e e (Zaf e e e (Zat 305 e ?_ ?_))))))))
    ·refine Zaf e e e (jm_c e (fun v w hs hm => ZbB hm (hs.blkM (i := 0) e) (hs.argM Rha0_fl Oha0_fl) Oha0_fl) (fun _ => e) e e fun v79 q80 => jy (ZaR e e) e e (jy (Zai e e) e e (gz6 0 4 5 6 27 309 e (ZaC (i := 6) (NF noAr q22.2.2.2.2 q22.2.1 z21.1 ∧ NF noAr q22.2.2.2.2 q22.2.2.2.1 z21.2.1) e (fun _ => ⟨n65.1, n65.2⟩) (r7 e) (Zav H69 (decide (v79.1 = 0), v79.2) () [0, 1, 2, 3, 4, 5, 6] ⟨e, e, e, e, e, e, trivial⟩ e e e)))))
    refine Zaa e e (Zaa e e (Zaa e e (jy (Zag e e) e e (gz6 0 4 5 6 27 309 e (ZaC (i := 6) (NF noAr q22.2.2.2.2 q22.2.1 z21.1 ∧ NF noAr q22.2.2.2.2 q22.2.2.2.1 z21.2.1) e (fun _ => ⟨n65.1, n65.2⟩) (r7 e) (Zav H69 (false, z60.2.2) () [0, 1, 2, 3, 4, 5, 6] ⟨e, e, e, e, e, e, trivial⟩ e e e))))))
   intro z66 q67
   refine ZbA (i := 6) e fun n70 => Zan e ?_ ?_
   rotate_left
   ·refine Zam (ZaN (Zae ?_))
    refine Zad 45 (Zaf e e e (jy (Zap e e) e e (Zah e e e (gz5 0 4 5 6 27 e (ZaC (i := 6) (NF noAr q22.2.2.2.2 q22.2.1 z21.1 ∧ NF noAr q22.2.2.2.2 q22.2.2.2.1 z21.2.1) e (fun _ => ⟨n70.1, n70.2⟩) (r7 e) (Zav H63 (z60.1, w64 (z60.2.1 + 1), z66.2) q61 [0, 1, 2, 3, 4, 5, 6] ⟨e, e, e, e, e, trivial⟩ e e e))))))
   refine ZaV (L' := [_, _, _, _, _, _]) 47 [0, 1, 2, 4, 5, 6] [0, 1, 2, 3, 4, 5, 6, 7, 8, 9, 10, 11] 4095 8191 [0, 1, 2, 0, 0, 0, 48, 72, 128, 324, 1023, 2047, 3071] [0, 1, 3, 0, 0, 0, 48, 120, 248, 511, 1023, 2047, 4095] [(0, true), (1, true), (2, true), (3, true), (4, true), (5, false), (6, false), (7, true), (8, false), (9, false), (10, true), (11, true), (12, false)] e (ZaE (Zay (Za8 (ZaE (Zay Zbn))))) (by kernel_rfl) (by kernel_rfl) (by kernel_rfl) (by kernel_rfl) (by kernel_rfl) (by kernel_rfl) (by kernel_rfl) (by kernel_rfl) (jd_y e (fun w hs => Zab e) e e (jd_y e (fun w hs => Zab e) e e (jd_y e (fun w hs => Zaj e (ld1B (hs.blk (i := 2) e) e)) e e (Zaz e e e e (Zaz e e e e (jd_h e (Za2 (enc := encI) [1, 2] e e e e e e e e fun hd71 => ZaI (Zb6 [1, 2, 3, 5, 6, 7] e (jd_h e (jm_c e (fun v w hs hm => Za7 hm (hs.blkM (i := 0) e) (hs.argM Rha0_fl Oha0_fl) Oha0_fl (hs.row 0 e) (hs.offML 0 0 e e)) (fun _ => e) e e fun v72 q73 => ZaI (Zb6 [1, 2, 3, 5, 6, 7] e (jd_y e (fun w hs => ZaY e (o2 e)) e e (jd_h e (Za2 (enc := Throw.enc) [(Throw.mk z60.2.1 v72.1)] e e e e e e e e fun hd74 => ?_))))))))))))))
   refine ZaI (Zb6 [2, 3, 4, 6, 7, 8] e (jd_h e (ZaO 5 e e e (fun w hs => (hs.row 0 e)) e e e fun y75 hd76 => jg_L (r9 e) (ZaI (Zb6 [2, 3, 4, 6, 7, 8] e (jd_y e (fun w hs => Zab e) e e (jd_y e (fun w hs => Zab e) e e (jd_h e (Zax 4 e e e (l1 e) e e e e (l8 e) (r9 e) (ZaI (Zcr e (Zby [(0, _), (4, _), (5, _), (6, _), (27, _)] ⟨e, e, e, e, e, trivial⟩ (ZaF (is := [2, 3, 4, 5, 6, 7, 8]) (s7 e) e (ZaN (Zae ?_)))))))))))))))
   refine Zad 45 (Zaf e e e (jy (Zap e e) e e (Zah e e e (gz5 0 4 5 6 27 e (ZaC (i := 6) (NF noAr q22.2.2.2.2 q22.2.1 z21.1 ∧ NF noAr q22.2.2.2.2 q22.2.2.2.1 z21.2.1) e (fun _ => ⟨n70.1, n70.2⟩) (r7 e) (Zav H63 (y75, w64 (z60.2.1 + 1), v72.2) hd76 [0, 1, 2, 3, 4, 5, 6] ⟨e, e, e, e, e, trivial⟩ e e e))))))
  intro z26 q27
  refine ZbA (i := 6) e fun n30 => Zac (Zad 48 (jy (Zab e) e e (jg_y (fun w hs => Zaj e (ld1B (hs.blkL (i := 1) e) e)) e e (jy (Zab e) e e (jy (Zab e) e e (jg_y (fun w hs => Zaj e (ld1B (hs.blkL (i := 1) e) e)) e e (jg_c e (fun v w hs hm => Zfz hm n30.2.1 (hs.row 5 e) (hs.nD 6 e n30.2.2 Zbh)) e e fun v31 q32 => jg_L (r8 e) (Zaf e e e (jy (ZaH e e) e e (jy (ZaH e e) e e (Zah e e e (Zah e e e (gz4 4 6 28 29 e (Zae ?_))))))))))))))
  refine Zac (Zac (Zad 49 (Zaf e e e (jy (Zbj e e) e e (gz4 4 6 28 332 e (Zae (Zan e ?_ ?_)))))))
  ·refine Zac (Zad 50 (jg_y (fun w hs => Zaj e (ldBB (hs.blkL (i := 2) e) e)) e e (Zax 1 e e e (l8 e) e e e e (l8 e) (r8 e) (gz1 4 e (ZaF (is := [1, 3, 4, 5, 6, 7]) (s6 e) e (Zae (Zao (Zau (ZaU 53 4 Command.enc (ZaU 3 1 encI (ZaC (i := 7) (NF noAr q22.2.2.2.2 q22.2.1 z21.1 ∧ NF noAr q22.2.2.2.2 q22.2.2.2.1 z21.2.1) e (fun _ => ⟨n30.1, n30.2⟩) (r8 e) (Zal e (fun w hs => .cell e (ldBB (hs.blkL (i := 2) e) e)) (fun w hs => ⟨(q3, q27, (Hd.mk none 0 0), q22.1, q22.2.1, q22.2.2.1, q22.2.2.2.1, (Hd.mk none 0 0), q22.2.2.2.2), e, hs.sel (is := [3, 4, 1, 5, 6, 0, 7]) e e⟩)))))))))))))
  refine Zam (Zae (Za6 (fun (s : ((List Rolling) × (List Int))) (g : (List (Rolling × (Hd × Hd)))) => [(4, .pointer (some ⟨g1, 0, none⟩)), (6, .pointer (some ⟨g7, 0, none⟩)), (28, q32.v)]) (fun (s : ((List Rolling) × (List Int))) (g : (List (Rolling × (Hd × Hd)))) => [(Res.blk b0 65 [ha0_fl.v, .int .i64 z26.2])]) (fun (s : ((List Rolling) × (List Int))) (g : (List (Rolling × (Hd × Hd)))) => [(Res.blk g1 33 [(Hd.mk none 0 0).v, .int .i64 0, (Hd.mk none 0 0).v, (Hd.mk none 0 0).v, (Hd.mk none 0 0).v, (Hd.mk none 0 0).v, (Hd.mk none 0 0).v, .bool false]), (Res.blk g7 33 [q3.v, .int .i64 v5.1, q27.v, (Hd.mk none 0 0).v, q22.1.v, q22.2.2.1.v, (Hd.mk none 0 0).v, .bool false]), (rowH q3 62 8 Element.enc v2.1), (rowH q27 90 2 Throw.enc z26.1), (rowH q22.1 45 6 Nt.enc g), (rowH q22.2.2.1 41 1 Nt.enc q22.2.2.2.1), (rowH q32 3 1 encI s.2), (Res.nest q22.2.2.2.2 (NF noAr q22.2.2.2.2 g s.1 ∧ NF noAr q22.2.2.2.2 q22.2.2.2.1 z21.2.1))]) ?_ ?_))
  ·intro z33 q34
   refine ZbA (i := 7) e fun n37 => Zac (Zad 56 (jy (Zab e) e e (jg_y (fun w hs => Zaj e (ld1B (hs.blkL (i := 1) e) e)) e e (Zaf e e e (jy (Zab e) e e (jy (Zab e) e e (jg_y (fun w hs => Zaj e (ld1B (hs.blkL (i := 1) e) e)) e e (jy (Zab e) e e (jy (Zab e) e e (jg_y (fun w hs => Zaj e (ld1B (hs.blkL (i := 1) e) e)) e e (jg_c e (fun v w hs hm => Zfy hm (hs.row 6 e) (hs.row 3 e) n37.2.1 (hs.row 5 e) (hs.nD 7 e n37.2.2 Zbh)) e e fun v38 q39 => jg_L (r9 e) (Zaf e e e (jy (ZaH e e) e e (jy (ZaH e e) e e ?_))))))))))))))
   refine Zah e e e (Zah e e e (gz5 4 6 28 29 31 e (Zae (Zac (Zad 57 (Zaf e e e (Zaf e e e (Zaf e e e (jy (ZaR e e) e e (jy (Zab e) e e (jy (Zab e) e e (Zax 2 e e e (l1 e) e e e e (l8 e) (r9 e) (jy (Zab e) e e (Zax 2 e e e (l1 e) e e e e (l8 e) (r9 e) (jy (Zab e) e e (Zax 2 e e e (l1 e) e e e e (l8 e) (r9 e) ?_))))))))))))))))
   refine gz2 4 6 e (Zae (Zac (Zad 58 (jg_y (fun w hs => Zaj e (ldBB (hs.blkL (i := 2) e) e)) e e (Zax 1 e e e (l8 e) e e e e (l8 e) (r9 e) (gz1 4 e (Zae (Zao (ZaC (i := 8) (NF noAr q22.2.2.2.2 q34 z33.1 ∧ NF noAr q22.2.2.2.2 q22.2.2.2.1 z21.2.1) e (fun _ => ⟨n37.1, n37.2⟩) (r9 e) (Zal e (fun w hs => .cell e (ldBB (hs.blkL (i := 1) e) e)) (fun w hs => ⟨(q3, q27, q39, q22.1, q34, q22.2.2.1, q22.2.2.2.1, q32, q22.2.2.2.2), e, hs.sel (is := [3, 4, 0, 5, 6, 7, 8]) e e⟩)))))))))))
  intro k35 H36
  refine Zac (Zad 51 (Zah e e e (gz4 4 6 28 30 e (Zae (Zar (Zbw (i := 7) (NF noAr q22.2.2.2.2 q22.2.1 z21.1 ∧ NF noAr q22.2.2.2.2 q22.2.2.2.1 z21.2.1) e (fun _ => ⟨n30.1, n30.2⟩) (r8 e) (Zbi (n := big) (fun (s : ((List Rolling) × (List Int) × Int)) (g : (List (Rolling × (Hd × Hd)))) => [(4, .pointer (some ⟨g1, 0, none⟩)), (6, .pointer (some ⟨g7, 0, none⟩)), (28, q32.v), (30, .int .i64 s.2.2)]) (fun (s : ((List Rolling) × (List Int) × Int)) (g : (List (Rolling × (Hd × Hd)))) => [(Res.blk b0 65 [ha0_fl.v, .int .i64 z26.2])]) (fun (s : ((List Rolling) × (List Int) × Int)) (g : (List (Rolling × (Hd × Hd)))) => [(Res.blk g1 33 [(Hd.mk none 0 0).v, .int .i64 0, (Hd.mk none 0 0).v, (Hd.mk none 0 0).v, (Hd.mk none 0 0).v, (Hd.mk none 0 0).v, (Hd.mk none 0 0).v, .bool false]), (Res.blk g7 33 [q3.v, .int .i64 v5.1, q27.v, (Hd.mk none 0 0).v, q22.1.v, q22.2.2.1.v, (Hd.mk none 0 0).v, .bool false]), (rowH q3 62 8 Element.enc v2.1), (rowH q27 90 2 Throw.enc z26.1), (rowH q22.1 45 6 Nt.enc g), (rowH q22.2.2.1 41 1 Nt.enc q22.2.2.2.1), (rowH q32 3 1 encI s.2.1), (Res.nest q22.2.2.2.2 (NF noAr q22.2.2.2.2 g s.1 ∧ NF noAr q22.2.2.2.2 q22.2.2.2.1 z21.2.1))]) (z21.1, v31.1, 0) q22.2.1 [1, 2, 3, 4, 5, 6, 0, 7] ⟨e, e, e, e, trivial⟩ e e e ?_)))))))
  intro z40 q41 n44 k42 H43
  refine ZbA (i := 7) e fun n45 => Zac (Zac (Zad 52 (Zaf e e e (Zaf e e e (jg_y (fun w hs => ZaT e (hs.row 6 e)) e e (jy (ZaB e e) e e (gz5 4 6 28 30 337 e (Zae (Zan e ?_ ?_)))))))))
  rotate_left
  ·refine ZaG (Zba (Zbe (Zbb ?_)))
   refine ZaC (i := 7) (NF noAr q22.2.2.2.2 q41 z40.1 ∧ NF noAr q22.2.2.2.2 q22.2.2.2.1 z21.2.1) e (fun _ => ⟨n45.1, n45.2⟩) (r8 e) (Zav H36 (z40.1, z40.2.1) q41 [0, 1, 2, 3, 4, 5, 6, 7] ⟨e, e, e, trivial⟩ e e e)
  refine Zam (Zae (Zac (Zar (Zac (ZaV (L' := [_, _, _, _, _, _, _, _]) 54 [0, 1, 2, 3, 4, 5, 6, 7] [0, 1, 2, 3, 4, 5, 6, 7, 8] 511 1023 [0, 0, 3, 4, 0, 16, 32, 72, 255, 511] [0, 0, 3, 7, 0, 16, 48, 127, 255, 511] [(0, true), (1, true), (2, true), (3, true), (4, true), (5, true), (6, true), (7, true), (8, true), (9, false)] e (Zay (ZaE (Zay (Za8 (ZaE (Zay Zbn)))))) (by kernel_rfl) (by kernel_rfl) (by kernel_rfl) (by kernel_rfl) (by kernel_rfl) (by kernel_rfl) (by kernel_rfl) (by kernel_rfl) (Zaz e e e e (Zaz e e e e (Zbs fun x46 h47 => jd_y e (fun w hs => ZaD e e (hs.row 6 e) h47) e e (jd_y e (fun w hs => ZaK e (hs.row 6 e) h47.1 e) e e (jd_y e (fun w hs => Zab e) e e (jd_y e (fun w hs => Zab e) e e (jd_y e (fun w hs => Zaj e (ld1B (hs.blk (i := 1) e) e)) e e (jd_y e (fun w hs => Zap e e) e e (Zbs fun x48 h49 => jd_y e (fun w hs => ZaD e e (hs.row 6 e) h49) e e ?_))))))))))))))
  refine jd_h e (Zc5 6 (a' := w64 (x46 + v5.1)) e e h49.1 e (l1 e) e e e e fun y50 => jg_L (r8 e) (ZaI (Zcr e (Zby [(4, _), (6, _), (28, _), (30, _)] ⟨e, e, e, e, trivial⟩ (Zae (ZaV (L' := [_, _, _, _, _, _, _, _]) 55 [0, 1, 2, 3, 4, 5, 6, 7] [0, 1, 2, 3, 4, 5, 6, 7, 8, 9] 1023 2047 [0, 1, 2, 0, 0, 0, 48, 64, 255, 511, 767] [0, 1, 3, 0, 0, 0, 48, 112, 255, 511, 1023] [(0, true), (1, true), (2, true), (3, true), (4, true), (5, true), (6, true), (7, true), (8, true), (9, true), (10, false)] e (ZaE (Zay (Za8 (ZaE (Zay Zbn))))) (by kernel_rfl) (by kernel_rfl) (by kernel_rfl) (by kernel_rfl) (by kernel_rfl) (by kernel_rfl) (by kernel_rfl) (by kernel_rfl) (jd_y e (fun w hs => Zab e) e e (jd_y e (fun w hs => Zab e) e e (jd_y e (fun w hs => Zaj e (ld1B (hs.blk (i := 1) e) e)) e e (Zaz e e e e (Zaz e e e e (Zaz e e e e (Zbs fun x51 h52 => jd_y e (fun w hs => ZaD e e (hs.row 6 e) h52) e e (jd_y e (fun w hs => ZaK e (hs.row 6 e) h52.1 e) e e ?_))))))))))))))
  refine ZcM (fun w hs => n45.1.1) fun x53 d55 h54 => ?_
  have n56 : okN noAr q22.2.2.2.2 (x53, d55) := n45.1.2 _ (List.mem_of_getElem? h54.1)
  refine jd_y e (fun w hs => ZaD e e (hs.row 4 e) h54) e e (jd_y e (fun w hs => ZaX e (hs.row 4 e) h54.1) e e (jd_h e (ZgX 4 (a' := (Rolling.mk x51 x53.Length x53.Track x53.Speed x53.Resist x53.Targets)) e e h54.1 e (l1 e) e e e e fun y57 H58 => jg_L (r8 e) ?_)))
  have n59 : NF noAr q22.2.2.2.2 (q41.set (Int.toNat z40.2.2) ((Rolling.mk x51 x53.Length x53.Track x53.Speed x53.Resist x53.Targets), (d55.1, d55.2))) y57 := n45.1.setp h54.1 e H58
  refine ZaI (Zcr e (Zby [(4, _), (6, _), (28, _), (30, _)] ⟨e, e, e, e, trivial⟩ (ZaN (Zae ?_))))
  refine Zad 53 (Zaf e e e (jy (Zap e e) e e (Zah e e e (gz4 4 6 28 30 e (ZaC (i := 7) (NF noAr q22.2.2.2.2 (q41.set (Int.toNat z40.2.2) ((Rolling.mk x51 x53.Length x53.Track x53.Speed x53.Resist x53.Targets), (d55.1, d55.2))) y57 ∧ NF noAr q22.2.2.2.2 q22.2.2.2.1 z21.2.1) e (fun _ => ⟨n59, n45.2⟩) (r8 e) (Zav H43 (y57, y50, w64 (z40.2.2 + 1)) (q41.set (Int.toNat z40.2.2) ((Rolling.mk x51 x53.Length x53.Track x53.Speed x53.Resist x53.Targets), (d55.1, d55.2))) [0, 1, 2, 3, 4, 5, 6, 7] ⟨e, e, e, e, trivial⟩ e e e))))))
 intro k23 H24
 refine Zac (Zad 15 (Zaf e e e (Zaf e e e (jy (Zap e e) e e (jm_c e (fun v w hs hm => ZbB hm (hs.blkM (i := 0) e) (hs.argM Rha0_fl Oha0_fl) Oha0_fl) (fun _ => e) e e fun v81 q82 => Zah e e e (gz9 0 4 5 6 7 10 11 13 14 e (Zae (Zar (Zbm 45 6 (Nt.enc (α := Rolling) (η := (Hd × Hd))) (Zbm 41 1 (Nt.enc (α := (List Span)) (η := Hd)) (ZfT (Zbw (i := 0) (NF noAr [] ([] : List (Rolling × (Hd × Hd))) ([] : List Rolling) ∧ NF noAr [] ([] : List ((List Span) × Hd)) ([] : List (List Span))) e (fun _ => ⟨NF.nil, NF.nil⟩) (r10 e) (Zbi (n := big) (fun (s : ((List Rolling) × (List (List Span)) × Int × Int)) (g : (Hd × (List (Rolling × (Hd × Hd))) × Hd × (List ((List Span) × Hd)) × List Rw)) => [(0, .pointer (some ⟨b0, 0, none⟩)), (4, .pointer (some ⟨g1, 0, none⟩)), (5, q3.v), (6, .pointer (some ⟨g7, 0, none⟩)), (7, q15.1.v), (10, q15.2.1.v), (11, q15.2.2.v), (13, .int .i64 v19.1), (14, .int .i64 s.2.2.1)]) (fun (s : ((List Rolling) × (List (List Span)) × Int × Int)) (g : (Hd × (List (Rolling × (Hd × Hd))) × Hd × (List ((List Span) × Hd)) × List Rw)) => [(Res.blk b0 65 [ha0_fl.v, .int .i64 s.2.2.2])]) (fun (s : ((List Rolling) × (List (List Span)) × Int × Int)) (g : (Hd × (List (Rolling × (Hd × Hd))) × Hd × (List ((List Span) × Hd)) × List Rw)) => [(Res.blk g1 33 [(Hd.mk none 0 0).v, .int .i64 0, (Hd.mk none 0 0).v, (Hd.mk none 0 0).v, (Hd.mk none 0 0).v, (Hd.mk none 0 0).v, (Hd.mk none 0 0).v, .bool false]), (rowH q3 62 8 Element.enc v2.1), (Res.blk g7 33 [q3.v, .int .i64 v5.1, (Hd.mk none 0 0).v, (Hd.mk none 0 0).v, g.1.v, g.2.2.1.v, (Hd.mk none 0 0).v, .bool false]), (rowH g.1 45 6 Nt.enc g.2.1), (rowH g.2.2.1 41 1 Nt.enc g.2.2.2.1), (rowH q15.1 3 1 encI z14.1), (rowH q15.2.1 70 2 Interval.enc z14.2.1), (rowH q15.2.2 3 1 encI z14.2.2.1), (Res.nest g.2.2.2.2 (NF noAr g.2.2.2.2 g.2.1 s.1 ∧ NF noAr g.2.2.2.2 g.2.2.2.1 s.2.1))]) (([] : List Rolling), ([] : List (List Span)), v81.1, v81.2) ((Hd.mk none 0 0), ([] : List (Rolling × (Hd × Hd))), (Hd.mk none 0 0), ([] : List ((List Span) × Hd)), []) [4, 5, 6, 2, 1, 7, 8, 9, 0] ⟨e, e, e, e, e, e, e, e, e, trivial⟩ e e e ?_)))))))))))))
 intro z83 q84 n87 k85 H86
 refine ZbA (i := 8) e fun n88 => Zac (Zac (Zad 16 (Zaf e e e (jy (Zbc e e) e e (gz10 0 4 5 6 7 10 11 13 14 96 e (Zae (Zan e ?_ ?_)))))))
 rotate_left
 ·refine ZaG (Zba (Zbe (Zbb ?_)))
  refine ZaC (i := 8) (NF noAr q84.2.2.2.2 q84.2.1 z83.1 ∧ NF noAr q84.2.2.2.2 q84.2.2.2.1 z83.2.1) e (fun _ => ⟨n88.1, n88.2⟩) (r9 e) (Zav H24 (z83.1, z83.2.1, z83.2.2.2) (q84.1, q84.2.1, q84.2.2.1, q84.2.2.2.1, q84.2.2.2.2) [0, 1, 2, 3, 4, 8] ⟨e, e, e, e, trivial⟩ e e e)
 refine Zam (Zae (Zac (Zar (Zac (Zad 18 (Zaf e e e (Za2 (enc := encI) [8000, 15000, 40000] e e e e e e e e fun hd89 => jm_c e (fun v w hs hm => Za7 hm (hs.blkM (i := 0) e) (hs.argM Rha0_fl Oha0_fl) Oha0_fl (hs.row 0 e) (hs.offML 0 0 e e)) (fun _ => e) e e fun v90 q91 => Zaf e e e (Zaf e e e (Zaf e e e (jg_y (fun w hs => ZaT e (hs.row 6 e)) e e (jm_c e (fun v w hs hm => ZbB hm (hs.blkM (i := 0) e) (hs.argM Rha0_fl Oha0_fl) Oha0_fl) (fun _ => e) e e fun v92 q93 => Za1 fun x94 h95 => jg_y (fun w hs => ZaD e e (hs.row 6 e) h95) e e (jg_y (fun w hs => ZaK e (hs.row 6 e) h95.1 e) e e ?_))))))))))))
 refine jy (ZaY e (o6 e)) e e (ZaL (l6 e) e e fun g96 => Zax 0 e e e (l6 e) e e e e (l6 e) (r11 e) (gz10 0 4 5 6 7 10 11 13 14 15 e (Zae (Zac (ZaV (L' := [_, _, _, _, _, _, _, _, _, _, _]) 19 [0, 2, 3, 4, 5, 6, 7, 8, 9, 10, 11] [0, 1, 2, 3, 4, 5] 63 127 [0, 1, 0, 4, 10, 31, 63] [0, 1, 0, 4, 15, 31, 63] [(0, true), (1, true), (2, true), (3, true), (4, true), (5, true), (6, false)] e (Zay (ZaE (Zay (Za8 (ZaE (Zay Zbn)))))) (by kernel_rfl) (by kernel_rfl) (by kernel_rfl) (by kernel_rfl) (by kernel_rfl) (by kernel_rfl) (by kernel_rfl) (by kernel_rfl) (jd_y e (fun w hs => Zab e) e e (jd_y e (fun w hs => Zaj e (ld1B (hs.blk (i := 0) e) e)) e e (Zaz e e e e (Zdu e e (fun v w hs hm => Zfx hm (hs.row 2 e)) e e fun v97 => jd_y e (fun w hs => Zd3 e e) e e (jd_y e (fun w hs => Zab e) e e (jd_h e (Zax 0 e e e (l1 e) e e e e (l6 e) (r11 e) (ZaI (Zcr e ?_))))))))))))))
 refine Zby [(0, _), (4, _), (5, _), (6, _), (7, _), (10, _), (11, _), (13, _), (14, _), (15, _)] ⟨e, e, e, e, e, e, e, e, e, e, trivial⟩ (Zae (Zac (Zad 20 (Zaf e e e (jy (Zab e) e e (jg_y (fun w hs => Zaj e (ld1B (hs.blkL (i := 0) e) e)) e e (jg_c e (fun v w hs hm => ZiB hm (hs.row 3 e)) e e fun v98 q99 => jg_L (r12 e) (Zaf e e e (jy (ZaH e e) e e (jy (ZaH e e) e e (Zah e e e (Zah e e e (gz11 0 4 5 6 7 10 11 13 14 15 16 e (Zae (Zac ?_)))))))))))))))
 refine Zad 21 (Zaf e e e (jy (Zab e) e e (jg_y (fun w hs => Zaj e (ld1B (hs.blkL (i := 1) e) e)) e e (jg_c e (fun v w hs hm => ZfA hm (hs.row 0 e)) e e fun v100 q101 => jg_L (r13 e) (Zaf e e e (jy (ZaH e e) e e (jy (ZaH e e) e e (Zah e e e (gz11 0 4 5 6 7 10 11 13 14 15 16 e (ZaF (is := [0, 2, 4, 5, 6, 7, 8, 9, 10, 11, 12]) (s11 e) e (Zae (Zac (Zad 22 (Zaf e e e (Za2 (enc := encI) [1200, 1500, 3000] e e e e e e e e fun hd102 => ?_)))))))))))))))
 refine jm_c e (fun v w hs hm => Za7 hm (hs.blkM (i := 0) e) (hs.argM Rha0_fl Oha0_fl) Oha0_fl (hs.row 0 e) (hs.offML 0 0 e e)) (fun _ => e) e e fun v103 q104 => Zah e e e (gz12 0 4 5 6 7 10 11 13 14 15 16 18 e (Zae (Zac (Zad 23 (Zaf e e e (Zaf e e e (Zaf e e e (jy (Zap e e) e e (jy (ZaY e (o2 e)) e e (Zaf e e e (jy (ZaY e (o5 e)) e e (ZaL (l5 e) e e fun g105 => Zax 0 e e e (l5 e) e e e e (l5 e) (r13 e) (gz13 0 4 5 6 7 10 11 13 14 15 16 18 19 e (Zae ?_))))))))))))))
 refine Za6 (fun (s : ((List Interval) × (List Int))) (g : (Hd × Hd)) => [(0, .pointer (some ⟨b0, 0, none⟩)), (4, .pointer (some ⟨g1, 0, none⟩)), (5, q3.v), (6, .pointer (some ⟨g7, 0, none⟩)), (7, q15.1.v), (10, q15.2.1.v), (11, q15.2.2.v), (13, .int .i64 v19.1), (14, .int .i64 z83.2.2.1), (15, .pointer (some ⟨g96, 0, none⟩)), (16, q101.v), (18, .int .i64 v103.1), (19, .pointer (some ⟨g105, 0, none⟩))]) (fun (s : ((List Interval) × (List Int))) (g : (Hd × Hd)) => [(Res.blk b0 65 [ha0_fl.v, .int .i64 v103.2])]) (fun (s : ((List Interval) × (List Int))) (g : (Hd × Hd)) => [(Res.blk g1 33 [(Hd.mk none 0 0).v, .int .i64 0, (Hd.mk none 0 0).v, (Hd.mk none 0 0).v, (Hd.mk none 0 0).v, (Hd.mk none 0 0).v, (Hd.mk none 0 0).v, .bool false]), (rowH q3 62 8 Element.enc v2.1), (Res.blk g7 33 [q3.v, .int .i64 v5.1, (Hd.mk none 0 0).v, (Hd.mk none 0 0).v, q84.1.v, q84.2.2.1.v, (Hd.mk none 0 0).v, .bool false]), (rowH q84.1 45 6 Nt.enc q84.2.1), (rowH q84.2.2.1 41 1 Nt.enc q84.2.2.2.1), (rowH q15.1 3 1 encI z14.1), (rowH q15.2.1 70 2 Interval.enc z14.2.1), (rowH q15.2.2 3 1 encI z14.2.2.1), (Res.blk g96 45 [.int .i64 0, .int .i64 (min v90.1 v97), .int .i64 x94, .int .i64 0, (Hd.mk none 0 0).v, (Hd.mk none 0 0).v]), (rowH q101 80 5 Piece.enc v100.1), (Res.blk g105 78 [.int .i64 v103.1, .int .i64 (w64 (v103.1 + v19.1)), g.1.v, .int .i64 v19.1, g.2.v]), (rowH g.1 70 2 Interval.enc s.1), (rowH g.2 3 1 encI s.2), (Res.nest q84.2.2.2.2 (NF noAr q84.2.2.2.2 q84.2.1 z83.1 ∧ NF noAr q84.2.2.2.2 q84.2.2.2.1 z83.2.1))]) ?_ ?_
 rotate_left
 ·intro k108 H109
  refine Zac (Zad 24 (Zah e e e (gz14 0 4 5 6 7 10 11 13 14 15 16 18 19 20 e (Zae (Zar (Zbm 70 2 Interval.enc (Zbm 3 1 encI (Zbw (i := 14) (NF noAr q84.2.2.2.2 q84.2.1 z83.1 ∧ NF noAr q84.2.2.2.2 q84.2.2.2.1 z83.2.1) e (fun _ => ⟨n88.1, n88.2⟩) (r15 e) (Zbi (n := big) (fun (s : ((List Interval) × (List Int) × Int)) (g : (Hd × Hd)) => [(0, .pointer (some ⟨b0, 0, none⟩)), (4, .pointer (some ⟨g1, 0, none⟩)), (5, q3.v), (6, .pointer (some ⟨g7, 0, none⟩)), (7, q15.1.v), (10, q15.2.1.v), (11, q15.2.2.v), (13, .int .i64 v19.1), (14, .int .i64 z83.2.2.1), (15, .pointer (some ⟨g96, 0, none⟩)), (16, q101.v), (18, .int .i64 v103.1), (19, .pointer (some ⟨g105, 0, none⟩)), (20, .int .i64 s.2.2)]) (fun (s : ((List Interval) × (List Int) × Int)) (g : (Hd × Hd)) => [(Res.blk b0 65 [ha0_fl.v, .int .i64 v103.2])]) (fun (s : ((List Interval) × (List Int) × Int)) (g : (Hd × Hd)) => [(Res.blk g1 33 [(Hd.mk none 0 0).v, .int .i64 0, (Hd.mk none 0 0).v, (Hd.mk none 0 0).v, (Hd.mk none 0 0).v, (Hd.mk none 0 0).v, (Hd.mk none 0 0).v, .bool false]), (rowH q3 62 8 Element.enc v2.1), (Res.blk g7 33 [q3.v, .int .i64 v5.1, (Hd.mk none 0 0).v, (Hd.mk none 0 0).v, q84.1.v, q84.2.2.1.v, (Hd.mk none 0 0).v, .bool false]), (rowH q84.1 45 6 Nt.enc q84.2.1), (rowH q84.2.2.1 41 1 Nt.enc q84.2.2.2.1), (rowH q15.1 3 1 encI z14.1), (rowH q15.2.1 70 2 Interval.enc z14.2.1), (rowH q15.2.2 3 1 encI z14.2.2.1), (Res.blk g96 45 [.int .i64 0, .int .i64 (min v90.1 v97), .int .i64 x94, .int .i64 0, (Hd.mk none 0 0).v, (Hd.mk none 0 0).v]), (rowH q101 80 5 Piece.enc v100.1), (Res.blk g105 78 [.int .i64 v103.1, .int .i64 (w64 (v103.1 + v19.1)), g.1.v, .int .i64 v19.1, g.2.v]), (rowH g.1 70 2 Interval.enc s.1), (rowH g.2 3 1 encI s.2.1), (Res.nest q84.2.2.2.2 (NF noAr q84.2.2.2.2 q84.2.1 z83.1 ∧ NF noAr q84.2.2.2.2 q84.2.2.2.1 z83.2.1))]) (([] : List Interval), ([] : List Int), 0) ((Hd.mk none 0 0), (Hd.mk none 0 0)) [6, 7, 8, 9, 10, 11, 12, 13, 5, 4, 2, 1, 0, 14] ⟨e, e, e, e, e, e, e, e, e, e, e, e, e, e, trivial⟩ e e e ?_)))))))))
  intro z479 q480 n483 k481 H482
  refine ZbA (i := 13) e fun n484 => Zac (Zac (Zad 25 (Zaf e e e (Zaf e e e (jg_y (fun w hs => ZaT e (hs.row 9 e)) e e (jy (ZaB e e) e e (gz15 0 4 5 6 7 10 11 13 14 15 16 18 19 20 143 e (Zae (Zan e ?_ ?_)))))))))
  rotate_left
  ·refine ZaG (Zba (Zbe (Zbb ?_)))
   refine ZaC (i := 13) (NF noAr q84.2.2.2.2 q84.2.1 z83.1 ∧ NF noAr q84.2.2.2.2 q84.2.2.2.1 z83.2.1) e (fun _ => ⟨n484.1, n484.2⟩) (r14 e) (Zav H109 (z479.1, z479.2.1) (q480.1, q480.2) [0, 1, 2, 3, 4, 5, 6, 7, 8, 9, 10, 11, 12, 13] ⟨e, e, e, e, e, e, e, e, e, e, e, e, e, trivial⟩ e e e)
  refine Zam (Zae (Zac (Zar (Zac (ZaV (L' := [_, _, _, _, _, _, _, _, _, _, _, _, _, _]) 27 [0, 1, 2, 3, 4, 5, 6, 7, 8, 9, 10, 12, 13, 14] [0, 1, 2, 3, 4, 5, 6, 7, 8, 9, 10, 11, 12] 8191 16383 [0, 1, 0, 0, 0, 24, 32, 64, 132, 256, 512, 1026, 4095, 8191] [0, 1, 0, 0, 0, 24, 56, 120, 252, 508, 1020, 2047, 4095, 8191] [(0, true), (1, true), (2, true), (3, true), (4, true), (5, true), (6, true), (7, true), (8, true), (9, true), (10, false), (11, false), (12, true), (13, false)] e (Zay (ZaE (Zay (Za8 (ZaE (Zay (ZaE (Zay (Za8 (ZaE (Zay Zbn))))))))))) (by kernel_rfl) (by kernel_rfl) (by kernel_rfl) (by kernel_rfl) (by kernel_rfl) (by kernel_rfl) (by kernel_rfl) (by kernel_rfl) (jd_y e (fun w hs => Zab e) e e (jd_y e (fun w hs => Zaj e (ld1B (hs.blk (i := 10) e) e)) e e (Zaz e e e e (Zaz e e e e (Zaz e e e e (Zbs fun x485 h486 => jd_y e (fun w hs => ZaD e e (hs.row 9 e) h486) e e (jd_y e (fun w hs => ZaX e (hs.row 9 e) h486.1) e e (jd_y e (fun w hs => ZaK e (hs.row 9 e) h486.1 e) e e (Zbs fun x487 h488 => jd_y e (fun w hs => ZaD e e (hs.row 6 e) h488) e e ?_))))))))))))))
  refine jd_y e (fun w hs => ZbH e (hs.row 6 e) h488.1 (l2 e) e) e e (jd_h e (Za2 (enc := Interval.enc) [x487] e e e e e e e e fun hd489 => ZaI (Zb6 [1, 2, 3, 4, 5, 6, 7, 8, 9, 10, 11, 13, 14, 15] e (jd_h e (ZaO 12 e e e (fun w hs => (hs.row 0 e)) e e e fun y490 hd491 => jg_L (r15 e) (ZaI (Zb6 [1, 2, 3, 4, 5, 6, 7, 8, 9, 10, 11, 13, 14, 15] e (jd_y e (fun w hs => Zab e) e e (jd_h e (Zax 11 e e e (l1 e) e e e e (l5 e) (r15 e) (ZaI (Zcr e (Zby [(0, _), (4, _), (5, _), (6, _), (7, _), (10, _), (11, _), (13, _), (14, _), (15, _), (16, _), (18, _), (19, _), (20, _)] ⟨e, e, e, e, e, e, e, e, e, e, e, e, e, e, trivial⟩ (Zae ?_))))))))))))))
  refine Zac (Zad 28 (Zaf e e e (Zaf e e e (Za1 fun x492 h493 => jg_y (fun w hs => ZaD e e (hs.row 10 e) h493) e e (jg_y (fun w hs => ZaX e (hs.row 10 e) h493.1) e e (jg_y (fun w hs => ZaK e (hs.row 10 e) h493.1 e) e e (jy (Zbc e e) e e (gz15 0 4 5 6 7 10 11 13 14 15 16 18 19 20 164 e (Zae (Zan e ?_ ?_))))))))))
  rotate_left
  ·refine Zam (ZaN (Zae ?_))
   refine Zad 26 (Zaf e e e (jy (Zap e e) e e (Zah e e e (gz14 0 4 5 6 7 10 11 13 14 15 16 18 19 20 e (ZaC (i := 14) (NF noAr q84.2.2.2.2 q84.2.1 z83.1 ∧ NF noAr q84.2.2.2.2 q84.2.2.2.1 z83.2.1) e (fun _ => ⟨n484.1, n484.2⟩) (r15 e) (Zav H482 (y490, z479.2.1, w64 (z479.2.2 + 1)) (hd491, q480.2) [1, 2, 3, 4, 5, 6, 7, 8, 9, 10, 11, 12, 13, 14] ⟨e, e, e, e, e, e, e, e, e, e, e, e, e, e, trivial⟩ e e e))))))
  refine ZaV (L' := [_, _, _, _, _, _, _, _, _, _, _, _, _, _]) 29 [1, 2, 3, 4, 5, 6, 7, 8, 9, 10, 11, 12, 14, 15] [0, 1, 2, 3, 4, 5, 6, 7, 8, 9, 10, 11, 12] 8191 16383 [0, 1, 0, 0, 0, 24, 32, 64, 132, 256, 512, 1026, 4095, 8191] [0, 1, 0, 0, 0, 24, 56, 120, 252, 508, 1020, 2047, 4095, 8191] [(0, true), (1, true), (2, true), (3, true), (4, true), (5, true), (6, true), (7, true), (8, true), (9, true), (10, false), (11, false), (12, true), (13, false)] e (ZaE (Zay (Za8 (ZaE (Zay (ZaE (Zay (Za8 (ZaE (Zay Zbn)))))))))) (by kernel_rfl) (by kernel_rfl) (by kernel_rfl) (by kernel_rfl) (by kernel_rfl) (by kernel_rfl) (by kernel_rfl) (by kernel_rfl) (jd_y e (fun w hs => Zab e) e e (jd_y e (fun w hs => Zaj e (ld1B (hs.blk (i := 10) e) e)) e e (Zaz e e e e (Zaz e e e e (Zaz e e e e (Zbs fun x494 h495 => jd_y e (fun w hs => ZaD e e (hs.row 9 e) h495) e e (jd_y e (fun w hs => ZaX e (hs.row 9 e) h495.1) e e (jd_y e (fun w hs => ZaK e (hs.row 9 e) h495.1 e) e e (Zbs fun x496 h497 => jd_y e (fun w hs => ZaD e e (hs.row 7 e) h497) e e (jd_y e (fun w hs => ZaK e (hs.row 7 e) h497.1 e) e e (jd_h e (Za2 (enc := encI) [x496] e e e e e e e e fun hd498 => ZaI (Zb6 [2, 3, 4, 5, 6, 7, 8, 9, 10, 11, 12, 13, 15, 16] e ?_)))))))))))))
  refine jd_h e (ZaO 14 e e e (fun w hs => (hs.row 0 e)) e e e fun y499 hd500 => jg_L (r16 e) (ZaI (Zb6 [2, 3, 4, 5, 6, 7, 8, 9, 10, 11, 12, 13, 15, 16] e (jd_y e (fun w hs => Zab e) e e (jd_h e (Zax 12 e e e (l1 e) e e e e (l5 e) (r16 e) (ZaI (Zcr e (Zby [(0, _), (4, _), (5, _), (6, _), (7, _), (10, _), (11, _), (13, _), (14, _), (15, _), (16, _), (18, _), (19, _), (20, _)] ⟨e, e, e, e, e, e, e, e, e, e, e, e, e, e, trivial⟩ (ZaF (is := [2, 3, 4, 5, 6, 7, 8, 9, 10, 11, 12, 13, 14, 15]) (s14 e) e (ZaN (Zae ?_))))))))))))
  refine Zad 26 (Zaf e e e (jy (Zap e e) e e (Zah e e e (gz14 0 4 5 6 7 10 11 13 14 15 16 18 19 20 e (ZaC (i := 13) (NF noAr q84.2.2.2.2 q84.2.1 z83.1 ∧ NF noAr q84.2.2.2.2 q84.2.2.2.1 z83.2.1) e (fun _ => ⟨n484.1, n484.2⟩) (r14 e) (Zav H482 (y490, y499, w64 (z479.2.2 + 1)) (hd491, hd500) [0, 1, 2, 3, 4, 5, 6, 7, 8, 9, 10, 11, 12, 13] ⟨e, e, e, e, e, e, e, e, e, e, e, e, e, e, trivial⟩ e e e))))))
 intro z106 q107
 refine ZbA (i := 13) e fun n110 => Zac (Zad 30 (Zaf e e e (jg_y (fun w hs => Zaj e (ldBB (hs.blkL (i := 10) e) e)) e e (jg_c e (fun v w hs hm => ZiC (a1 := (Motion.mk (Interval.mk v103.1 (w64 (v103.1 + v19.1))) z106.1 v19.1 z106.2)) hm (hs.row 9 e) (hs.row 11 e) (hs.row 12 e)) e e fun v111 q112 => jg_L (r15 e) (Zaf e e e (jy (ZaH e e) e e (jy (ZaH e e) e e (Zah e e e (Zah e e e (gz13 0 4 5 6 7 10 11 13 14 15 16 18 21 e (ZaF (is := [0, 1, 2, 3, 4, 5, 6, 7, 8, 9, 10, 14]) (s12 e) e (Zae (Zac (Zad 31 ?_))))))))))))))
 refine Zaf e e e (Zaf e e e (Zaf e e e (jy (Zab e) e e (jg_y (fun w hs => Zaj e (ld1B (hs.blkL (i := 9) e) e)) e e (jg_c e (fun v w hs hm => Zhu hm (hs.row 2 e) (hs.row 10 e) (hs.row 0 e)) e e fun v113 q114 => jg_L (r13 e) (Zaf e e e (jy (ZaH e e) e e (jy (ZaH e e) e e (Zah e e e (Zah e e e (gz14 0 4 5 6 7 10 11 13 14 15 18 21 23 24 e (Zae (Zac (Zac (Zad 32 ?_)))))))))))))))
 refine Zaf e e e (jy (Zbj e e) e e (Zaf e e e (Zat 195 e ?_ ?_)))
 ·refine Zaa e e (Zaa e e (Zaa e e (Zaa e e (Zaa e e (Zaa e e (Zaa e e (jy (Zai e e) e e (Zaf e e e (Zaa e e (Zaa e e (Zaa e e (Zaa e e (Zaa e e (Zaa e e (Zaa e e (jy (Zai e e) e e ?_))))))))))))))))
  refine Zaf e e e (Zaa e e (Zaa e e (Zaa e e (Zaa e e (Zaa e e (Zaa e e (Zaa e e (Zaa e e (Zaa e e (jy (Zai e e) e e (Zaf e e e (Zaa e e (Zaa e e (Zaa e e (jy (Zai e e) e e (gz13 0 4 5 6 7 10 11 13 14 15 18 23 228 e ?_))))))))))))))))
  refine ZaF (is := [0, 2, 3, 4, 5, 6, 7, 8, 9, 10, 12]) (s11 e) e (Zae (Zbf e (ZaG (Zba (Zbb (Zae ?_))))))
  refine Zad 17 (Zaf e e e (jy (ZaW e e) e e (Zah e e e (gz9 0 4 5 6 7 10 11 13 14 e (ZaF (is := [1, 2, 3, 4, 5, 6, 7, 8, 10]) (s9 e) e (ZaC (i := 8) (NF noAr q84.2.2.2.2 q84.2.1 z83.1 ∧ NF noAr q84.2.2.2.2 q84.2.2.2.1 z83.2.1) e (fun _ => ⟨n110.1, n110.2⟩) (r9 e) (Zav H86 (z83.1, z83.2.1, w64 (z83.2.2.1 - 1), v103.2) (q84.1, q84.2.1, q84.2.2.1, q84.2.2.2.1, q84.2.2.2.2) [0, 1, 2, 3, 4, 5, 6, 7, 8] ⟨e, e, e, e, e, e, e, e, e, trivial⟩ e e e)))))))
 refine Zaf e e e (Zaf e e e (jg_y (fun w hs => ZaT e (hs.row 1 e)) e e (ZcJ (fun w hs => ZaW e e) e e fun x115 => Za1 fun x116 h117 => jg_y (fun w hs => ZaD e e (hs.row 1 e) h117) e e (jg_y (fun w hs => ZaX e (hs.row 1 e) h117.1) e e (jg_y (fun w hs => ZaK e (hs.row 1 e) h117.1 e) e e (jy (Zag e e) e e (Zaf e e e (Zat 204 e ?_ ?_))))))))
 ·refine Zaa e e (Zaa e e (Zaa e e (Zaa e e (Zaa e e (Zaa e e (Zaa e e (jy (Zai e e) e e (Zaf e e e (Zaa e e (Zaa e e (Zaa e e (Zaa e e (Zaa e e (Zaa e e (Zaa e e (Zaa e e ?_))))))))))))))))
  refine Zaa e e (jy (Zai e e) e e (Zaf e e e (Zaa e e (Zaa e e (Zaa e e (jy (Zai e e) e e (gz13 0 4 5 6 7 10 11 13 14 15 18 23 228 e (ZaF (is := [0, 2, 3, 4, 5, 6, 7, 8, 9, 10, 12]) (s11 e) e (Zae (Zbf e (ZaG (Zba (Zbb (Zae ?_))))))))))))))
  refine Zad 17 (Zaf e e e (jy (ZaW e e) e e (Zah e e e (gz9 0 4 5 6 7 10 11 13 14 e (ZaF (is := [1, 2, 3, 4, 5, 6, 7, 8, 10]) (s9 e) e (ZaC (i := 8) (NF noAr q84.2.2.2.2 q84.2.1 z83.1 ∧ NF noAr q84.2.2.2.2 q84.2.2.2.1 z83.2.1) e (fun _ => ⟨n110.1, n110.2⟩) (r9 e) (Zav H86 (z83.1, z83.2.1, w64 (z83.2.2.1 - 1), v103.2) (q84.1, q84.2.1, q84.2.2.1, q84.2.2.2.1, q84.2.2.2.2) [0, 1, 2, 3, 4, 5, 6, 7, 8] ⟨e, e, e, e, e, e, e, e, e, trivial⟩ e e e)))))))
 refine Zaf e e e (Zaf e e e (jg_y (fun w hs => ZaT e (hs.row 1 e)) e e (ZcJ (fun w hs => ZaW e e) e e fun x118 => Za1 fun x119 h120 => jg_y (fun w hs => ZaD e e (hs.row 1 e) h120) e e (jg_y (fun w hs => ZaX e (hs.row 1 e) h120.1) e e (jg_y (fun w hs => ZaK e (hs.row 1 e) h120.1 e) e e (jy (Zag e e) e e (Zaf e e e (Zat 213 e ?_ ?_))))))))
 ·refine Zaa e e (Zaa e e (Zaa e e (Zaa e e (Zaa e e (Zaa e e (Zaa e e (Zaa e e (Zaa e e (jy (Zai e e) e e (Zaf e e e (Zaa e e (Zaa e e (Zaa e e (jy (Zai e e) e e (gz13 0 4 5 6 7 10 11 13 14 15 18 23 228 e (ZaF (is := [0, 2, 3, 4, 5, 6, 7, 8, 9, 10, 12]) (s11 e) e ?_))))))))))))))))
  refine Zae (Zbf e (ZaG (Zba (Zbb (Zae ?_)))))
  refine Zad 17 (Zaf e e e (jy (ZaW e e) e e (Zah e e e (gz9 0 4 5 6 7 10 11 13 14 e (ZaF (is := [1, 2, 3, 4, 5, 6, 7, 8, 10]) (s9 e) e (ZaC (i := 8) (NF noAr q84.2.2.2.2 q84.2.1 z83.1 ∧ NF noAr q84.2.2.2.2 q84.2.2.2.1 z83.2.1) e (fun _ => ⟨n110.1, n110.2⟩) (r9 e) (Zav H86 (z83.1, z83.2.1, w64 (z83.2.2.1 - 1), v103.2) (q84.1, q84.2.1, q84.2.2.1, q84.2.2.2.1, q84.2.2.2.2) [0, 1, 2, 3, 4, 5, 6, 7, 8] ⟨e, e, e, e, e, e, e, e, e, trivial⟩ e e e)))))))
 refine Zaf e e e (Zaf e e e (jg_y (fun w hs => ZaT e (hs.row 1 e)) e e (ZcJ (fun w hs => ZaW e e) e e fun x121 => Za1 fun x122 h123 => jg_y (fun w hs => ZaD e e (hs.row 1 e) h123) e e (jg_y (fun w hs => ZaX e (hs.row 1 e) h123.1) e e (jg_y (fun w hs => ZaX e (hs.row 1 e) h123.1) e e (jg_y (fun w hs => ZaK e (hs.row 1 e) h123.1 e) e e (jy (Zbc e e) e e (jy (Zag e e) e e (Zaf e e e (Zat 224 e ?_ ?_))))))))))
 ·refine Zaa e e (Zaa e e (Zaa e e (jy (Zai e e) e e (gz13 0 4 5 6 7 10 11 13 14 15 18 23 228 e (ZaF (is := [0, 2, 3, 4, 5, 6, 7, 8, 9, 10, 12]) (s11 e) e (Zae (Zbf e (ZaG (Zba (Zbb (Zae ?_)))))))))))
  refine Zad 17 (Zaf e e e (jy (ZaW e e) e e (Zah e e e (gz9 0 4 5 6 7 10 11 13 14 e (ZaF (is := [1, 2, 3, 4, 5, 6, 7, 8, 10]) (s9 e) e (ZaC (i := 8) (NF noAr q84.2.2.2.2 q84.2.1 z83.1 ∧ NF noAr q84.2.2.2.2 q84.2.2.2.1 z83.2.1) e (fun _ => ⟨n110.1, n110.2⟩) (r9 e) (Zav H86 (z83.1, z83.2.1, w64 (z83.2.2.1 - 1), v103.2) (q84.1, q84.2.1, q84.2.2.1, q84.2.2.2.1, q84.2.2.2.2) [0, 1, 2, 3, 4, 5, 6, 7, 8] ⟨e, e, e, e, e, e, e, e, e, trivial⟩ e e e)))))))
 refine Zaf e e e (Zbg e (fun v w hs hm => Ze8 hm (hs.row 0 e)) e e fun v124 => jy (Zbk e) e e (jy (Zag e e) e e (gz13 0 4 5 6 7 10 11 13 14 15 18 23 228 e (ZaF (is := [0, 2, 3, 4, 5, 6, 7, 8, 9, 10, 12]) (s11 e) e (Zae (Zan e ?_ ?_))))))
 ·refine ZaG (Zba (Zbb (Zae ?_)))
  refine Zad 17 (Zaf e e e (jy (ZaW e e) e e (Zah e e e (gz9 0 4 5 6 7 10 11 13 14 e (ZaF (is := [1, 2, 3, 4, 5, 6, 7, 8, 10]) (s9 e) e (ZaC (i := 8) (NF noAr q84.2.2.2.2 q84.2.1 z83.1 ∧ NF noAr q84.2.2.2.2 q84.2.2.2.1 z83.2.1) e (fun _ => ⟨n110.1, n110.2⟩) (r9 e) (Zav H86 (z83.1, z83.2.1, w64 (z83.2.2.1 - 1), v103.2) (q84.1, q84.2.1, q84.2.2.1, q84.2.2.2.1, q84.2.2.2.2) [0, 1, 2, 3, 4, 5, 6, 7, 8] ⟨e, e, e, e, e, e, e, e, e, trivial⟩ e e e)))))))
 refine Zam (Zae (Zac (Zad 33 (Zaf e e e (Zaf e e e (Zaf e e e (Zaf e e e (jy (Zap e e) e e (jm_c e (fun v w hs hm => ZcL hm (hs.blkM (i := 0) e) (hs.argM Rha0_fl Oha0_fl) Oha0_fl) (fun _ => e) e e fun v125 q126 => jy (Zab e) e e (Zax 9 e e e (l1 e) e e e e (l6 e) (r11 e) (gz11 0 4 5 6 7 10 11 13 14 15 23 e (Zae (Za6 (fun (s : ((List Int) × (List Int) × Int)) (g : (Hd × Hd)) => [(0, .pointer (some ⟨b0, 0, none⟩)), (4, .pointer (some ⟨g1, 0, none⟩)), (5, q3.v), (6, .pointer (some ⟨g7, 0, none⟩)), (7, q15.1.v), (10, q15.2.1.v), (11, q15.2.2.v), (13, .int .i64 v19.1), (14, .int .i64 z83.2.2.1), (15, .pointer (some ⟨g96, 0, none⟩)), (23, q114.v)]) (fun (s : ((List Int) × (List Int) × Int)) (g : (Hd × Hd)) => [(Res.blk b0 65 [ha0_fl.v, .int .i64 s.2.2])]) (fun (s : ((List Int) × (List Int) × Int)) (g : (Hd × Hd)) => [(Res.blk g1 33 [(Hd.mk none 0 0).v, .int .i64 0, (Hd.mk none 0 0).v, (Hd.mk none 0 0).v, (Hd.mk none 0 0).v, (Hd.mk none 0 0).v, (Hd.mk none 0 0).v, .bool false]), (rowH q3 62 8 Element.enc v2.1), (Res.blk g7 33 [q3.v, .int .i64 v5.1, (Hd.mk none 0 0).v, (Hd.mk none 0 0).v, q84.1.v, q84.2.2.1.v, (Hd.mk none 0 0).v, .bool false]), (rowH q84.1 45 6 Nt.enc q84.2.1), (rowH q84.2.2.1 41 1 Nt.enc q84.2.2.2.1), (rowH q15.1 3 1 encI z14.1), (rowH q15.2.1 70 2 Interval.enc z14.2.1), (rowH q15.2.2 3 1 encI z14.2.2.1), (Res.blk g96 45 [.int .i64 0, .int .i64 (min v90.1 v97), .int .i64 x94, .int .i64 v125.1, g.1.v, g.2.v]), (rowH g.1 3 1 encI s.1), (rowH g.2 3 1 encI s.2.1), (rowH q114 47 4 Span.enc v113.1), (Res.nest q84.2.2.2.2 (NF noAr q84.2.2.2.2 q84.2.1 z83.1 ∧ NF noAr q84.2.2.2.2 q84.2.2.2.1 z83.2.1))]) ?_ ?_)))))))))))))
 rotate_left
 ·intro k129 H130
  refine Zac (Zad 34 (Zah e e e (gz12 0 4 5 6 7 10 11 13 14 15 23 25 e (Zae (Zar (Zbm 3 1 encI (Zbm 3 1 encI (Zbw (i := 12) (NF noAr q84.2.2.2.2 q84.2.1 z83.1 ∧ NF noAr q84.2.2.2.2 q84.2.2.2.1 z83.2.1) e (fun _ => ⟨n110.1, n110.2⟩) (r13 e) (Zbi (n := big) (fun (s : ((List Int) × (List Int) × Int × Int)) (g : (Hd × Hd)) => [(0, .pointer (some ⟨b0, 0, none⟩)), (4, .pointer (some ⟨g1, 0, none⟩)), (5, q3.v), (6, .pointer (some ⟨g7, 0, none⟩)), (7, q15.1.v), (10, q15.2.1.v), (11, q15.2.2.v), (13, .int .i64 v19.1), (14, .int .i64 z83.2.2.1), (15, .pointer (some ⟨g96, 0, none⟩)), (23, q114.v), (25, .int .i64 s.2.2.1)]) (fun (s : ((List Int) × (List Int) × Int × Int)) (g : (Hd × Hd)) => [(Res.blk b0 65 [ha0_fl.v, .int .i64 s.2.2.2])]) (fun (s : ((List Int) × (List Int) × Int × Int)) (g : (Hd × Hd)) => [(Res.blk g1 33 [(Hd.mk none 0 0).v, .int .i64 0, (Hd.mk none 0 0).v, (Hd.mk none 0 0).v, (Hd.mk none 0 0).v, (Hd.mk none 0 0).v, (Hd.mk none 0 0).v, .bool false]), (rowH q3 62 8 Element.enc v2.1), (Res.blk g7 33 [q3.v, .int .i64 v5.1, (Hd.mk none 0 0).v, (Hd.mk none 0 0).v, q84.1.v, q84.2.2.1.v, (Hd.mk none 0 0).v, .bool false]), (rowH q84.1 45 6 Nt.enc q84.2.1), (rowH q84.2.2.1 41 1 Nt.enc q84.2.2.2.1), (rowH q15.1 3 1 encI z14.1), (rowH q15.2.1 70 2 Interval.enc z14.2.1), (rowH q15.2.2 3 1 encI z14.2.2.1), (Res.blk g96 45 [.int .i64 0, .int .i64 (min v90.1 v97), .int .i64 x94, .int .i64 v125.1, g.1.v, g.2.v]), (rowH g.1 3 1 encI s.1), (rowH g.2 3 1 encI s.2.1), (rowH q114 47 4 Span.enc v113.1), (Res.nest q84.2.2.2.2 (NF noAr q84.2.2.2.2 q84.2.1 z83.1 ∧ NF noAr q84.2.2.2.2 q84.2.2.2.1 z83.2.1))]) (([] : List Int), ([] : List Int), 0, v125.2) ((Hd.mk none 0 0), (Hd.mk none 0 0)) [3, 4, 5, 6, 7, 8, 9, 10, 11, 1, 0, 2, 12] ⟨e, e, e, e, e, e, e, e, e, e, e, e, trivial⟩ e e e ?_)))))))))
  intro z452 q453 n456 k454 H455
  refine ZbA (i := 12) e fun n457 => Zac (Zac (Zad 35 (Zaf e e e (Zaf e e e (jg_y (fun w hs => ZaT e (hs.row 1 e)) e e (jy (ZaB e e) e e (gz13 0 4 5 6 7 10 11 13 14 15 23 25 239 e (Zae (Zan e ?_ ?_)))))))))
  rotate_left
  ·refine ZaG (Zba (Zbe (Zbb ?_)))
   refine ZaC (i := 12) (NF noAr q84.2.2.2.2 q84.2.1 z83.1 ∧ NF noAr q84.2.2.2.2 q84.2.2.2.1 z83.2.1) e (fun _ => ⟨n457.1, n457.2⟩) (r13 e) (Zav H130 (z452.1, z452.2.1, z452.2.2.2) (q453.1, q453.2) [0, 1, 2, 3, 4, 5, 6, 7, 8, 9, 10, 11, 12] ⟨e, e, e, e, e, e, e, e, e, e, e, trivial⟩ e e e)
  refine Zam (Zae (Zac (Zar (Zac (ZaV (L' := [_, _, _, _, _, _, _, _, _, _, _, _]) 37 [0, 1, 2, 3, 4, 5, 6, 7, 8, 10, 11, 12] [0, 1, 2, 3, 4, 5, 6, 7, 8, 9, 10, 11, 12, 13, 14, 15, 16] 131071 262143 [0, 1, 0, 0, 0, 24, 32, 64, 0, 0, 768, 1024, 2048, 4228, 8192, 24578, 65535, 131071] [0, 1, 0, 0, 0, 24, 56, 120, 0, 0, 768, 1792, 3840, 8188, 16380, 32767, 65535, 131071] [(0, true), (1, true), (2, true), (3, true), (4, true), (5, true), (6, true), (7, true), (8, true), (9, true), (10, true), (11, true), (12, true), (13, false), (14, false), (15, false), (16, true), (17, false)] e (Zay (ZaE (Zay (Za8 (ZaE (Zay (ZaE (Zay (Za8 (ZaE (Zay Zbn))))))))))) (by kernel_rfl) (by kernel_rfl) (by kernel_rfl) (by kernel_rfl) (by kernel_rfl) (by kernel_rfl) (by kernel_rfl) (by kernel_rfl) (jd_y e (fun w hs => Zab e) e e (jd_y e (fun w hs => Zaj e (ld1B (hs.blk (i := 8) e) e)) e e (Zaz e e e e (Zaz e e e e (Zaz e e e e (Zbs fun x458 h459 => jd_y e (fun w hs => ZaD e e (hs.row 6 e) h459) e e (jd_y e (fun w hs => ZaX e (hs.row 6 e) h459.1) e e (jd_y e (fun w hs => ZaK e (hs.row 6 e) h459.1 e) e e (Zaz e e e e (Zaz e e e e ?_)))))))))))))))
  refine Zbs fun x460 h461 => jd_y e (fun w hs => ZaD e e (hs.row 6 e) h461) e e (jd_y e (fun w hs => ZaX e (hs.row 6 e) h461.1) e e (jd_y e (fun w hs => ZaK e (hs.row 6 e) h461.1 e) e e (jd_h e (jm_c e (fun v w hs hm => ZcL hm (hs.blkM (i := 0) e) (hs.argM Rha0_fl Oha0_fl) Oha0_fl) (fun _ => e) e e fun v462 q463 => ZaI (Zb6 [0, 1, 2, 3, 4, 5, 6, 7, 8, 10, 11, 12] e (jd_h e (Za2 (enc := encI) [v462.1] e e e e e e e e fun hd464 => ZaI (Zb6 [1, 2, 3, 4, 5, 6, 7, 8, 9, 11, 12, 13] e (jd_h e (ZaO 10 e e e (fun w hs => (hs.row 0 e)) e e e fun y465 hd466 => jg_L (r14 e) (ZaI (Zb6 [1, 2, 3, 4, 5, 6, 7, 8, 9, 11, 12, 13] e ?_))))))))))))
  refine jd_y e (fun w hs => Zab e) e e (jd_h e (Zax 9 e e e (l1 e) e e e e (l6 e) (r14 e) (ZaI (Zcr e (Zby [(0, _), (4, _), (5, _), (6, _), (7, _), (10, _), (11, _), (13, _), (14, _), (15, _), (23, _), (25, _)] ⟨e, e, e, e, e, e, e, e, e, e, e, e, trivial⟩ (Zae (Zac (Zad 38 (Zaf e e e (Zaf e e e (Za1 fun x467 h468 => jg_y (fun w hs => ZaD e e (hs.row 8 e) h468) e e (jg_y (fun w hs => ZaK e (hs.row 8 e) h468.1 e) e e (Zah e e e (gz13 0 4 5 6 7 10 11 13 14 15 23 25 26 e (Zae ?_)))))))))))))))
  refine Za6 (fun (s : (Int × Int)) (g : Unit) => [(0, .pointer (some ⟨b0, 0, none⟩)), (4, .pointer (some ⟨g1, 0, none⟩)), (5, q3.v), (6, .pointer (some ⟨g7, 0, none⟩)), (7, q15.1.v), (10, q15.2.1.v), (11, q15.2.2.v), (13, .int .i64 v19.1), (14, .int .i64 z83.2.2.1), (15, .pointer (some ⟨g96, 0, none⟩)), (23, q114.v), (25, .int .i64 z452.2.2.1), (26, .int .i64 s.1)]) (fun (s : (Int × Int)) (g : Unit) => [(Res.blk b0 65 [ha0_fl.v, .int .i64 s.2])]) (fun (s : (Int × Int)) (g : Unit) => [(Res.blk g1 33 [(Hd.mk none 0 0).v, .int .i64 0, (Hd.mk none 0 0).v, (Hd.mk none 0 0).v, (Hd.mk none 0 0).v, (Hd.mk none 0 0).v, (Hd.mk none 0 0).v, .bool false]), (rowH q3 62 8 Element.enc v2.1), (Res.blk g7 33 [q3.v, .int .i64 v5.1, (Hd.mk none 0 0).v, (Hd.mk none 0 0).v, q84.1.v, q84.2.2.1.v, (Hd.mk none 0 0).v, .bool false]), (rowH q84.1 45 6 Nt.enc q84.2.1), (rowH q84.2.2.1 41 1 Nt.enc q84.2.2.2.1), (rowH q15.1 3 1 encI z14.1), (rowH q15.2.1 70 2 Interval.enc z14.2.1), (rowH q15.2.2 3 1 encI z14.2.2.1), (Res.blk g96 45 [.int .i64 0, .int .i64 (min v90.1 v97), .int .i64 x94, .int .i64 v125.1, hd466.v, q453.2.v]), (rowH hd466 3 1 encI y465), (rowH q453.2 3 1 encI z452.2.1), (rowH q114 47 4 Span.enc v113.1), (Res.nest q84.2.2.2.2 (NF noAr q84.2.2.2.2 q84.2.1 z83.1 ∧ NF noAr q84.2.2.2.2 q84.2.2.2.1 z83.2.1))]) ?_ ?_
  ·intro z469 q470
   refine ZbA (i := 12) e fun n473 => Zad 41 (jy (Zab e) e e (jg_y (fun w hs => Zaj e (ld1B (hs.blkL (i := 8) e) e)) e e (Zaf e e e (Za2 (enc := encI) [z469.1] e e e e e e e e fun hd474 => ZaO 11 e e e (fun w hs => (hs.row 0 e)) e e e fun y475 hd476 => jg_L (r14 e) (jy (Zab e) e e (Zax 9 e e e (l1 e) e e e e (l6 e) (r14 e) (gz12 0 4 5 6 7 10 11 13 14 15 23 25 e (ZaN (Zae ?_)))))))))
   refine Zad 36 (Zaf e e e (jy (Zap e e) e e (Zah e e e (gz12 0 4 5 6 7 10 11 13 14 15 23 25 e (ZaC (i := 13) (NF noAr q84.2.2.2.2 q84.2.1 z83.1 ∧ NF noAr q84.2.2.2.2 q84.2.2.2.1 z83.2.1) e (fun _ => ⟨n473.1, n473.2⟩) (r14 e) (Zav H455 (y465, y475, w64 (z452.2.2.1 + 1), z469.2) (hd466, hd476) [1, 2, 3, 4, 5, 6, 7, 8, 9, 10, 11, 12, 13] ⟨e, e, e, e, e, e, e, e, e, e, e, e, trivial⟩ e e e))))))
  intro k471 H472
  refine Zac (Zad 39 (Zaf e e e (jy (Zbu e e) e e (gz14 0 4 5 6 7 10 11 13 14 15 23 25 26 264 e (Zae (Zan e ?_ ?_))))))
  rotate_left
  ·refine Zam (ZaC (i := 13) (NF noAr q84.2.2.2.2 q84.2.1 z83.1 ∧ NF noAr q84.2.2.2.2 q84.2.2.2.1 z83.2.1) e (fun _ => ⟨n457.1, n457.2⟩) (r14 e) (Zav H472 (x467, v462.2) () [1, 2, 3, 4, 5, 6, 7, 8, 9, 10, 11, 12, 13] ⟨e, e, e, e, e, e, e, e, e, e, e, e, e, trivial⟩ e e e))
  refine Zad 40 (Zaf e e e (Zaf e e e (Zaf e e e (jy (ZaW e e) e e (Zaf e e e (Zaf e e e (jy (Zap e e) e e (jm_c e (fun v w hs hm => ZcL hm (hs.blkM (i := 0) e) (hs.argM Rha0_fl Oha0_fl) Oha0_fl) (fun _ => e) e e fun v477 q478 => Zah e e e (gz13 0 4 5 6 7 10 11 13 14 15 23 25 26 e (ZaC (i := 13) (NF noAr q84.2.2.2.2 q84.2.1 z83.1 ∧ NF noAr q84.2.2.2.2 q84.2.2.2.1 z83.2.1) e (fun _ => ⟨n457.1, n457.2⟩) (r14 e) (Zav H472 (v477.1, v477.2) () [1, 2, 3, 4, 5, 6, 7, 8, 9, 10, 11, 12, 13] ⟨e, e, e, e, e, e, e, e, e, e, e, e, e, trivial⟩ e e e)))))))))))
 intro z127 q128
 refine ZbA (i := 12) e fun n131 => Zid 42 [0, 1, 2, 3, 4, 5, 6, 7, 8, 9, 10, 11, 12, 13, 14, 15] 65535 256 15 [0, 1, 2, 0, 8, 20, 0, 64, 0, 256, 672, 255, 2303, 5375, 16383, 32767] [0, 1, 3, 0, 8, 31, 0, 64, 0, 256, 1023, 255, 2303, 8191, 16383, 32767] [(8, true)] (ZaE (Zay (Za8 (ZaE (Zay Zbn))))) (by kernel_rfl) (by kernel_rfl) (by kernel_rfl) (by kernel_rfl) (by kernel_rfl) (by kernel_rfl) (by kernel_rfl) (by kernel_rfl) (jt_mv e e e (jd_x (jx_to (L' := [_, _, _, _, _, _, _, _]) [0, 1, 2, 3, 4, 5, 6, 7, 9, 10, 11, 12] [13, 15] [0, 1, 2, 5, 6, 7, 8, 13] e (ZgV [0, 1, 2, 5, 6, 7, 8, 13] 7935 463 9 [0, 1, 3, 0, 8, 31, 0, 64, 0, 256, 1023, 255, 2303, 8191, 16383, 32767] [(0, true), (1, true), (2, true), (3, true), (6, true), (7, true)] e (ZaE (Zay (Za8 (ZaE (Zay Zbn))))) (by kernel_rfl) (by kernel_rfl) (by kernel_rfl) (by kernel_rfl) (by kernel_rfl) (by kernel_rfl) (by kernel_rfl) (by kernel_rfl) (by kernel_rfl) (jd_y e (fun w hs => Zab e) e e (jd_y e (fun w hs => Zab e) e e (jd_y e (fun w hs => Zaj e (ld1B (hs.blk (i := 2) e) e)) e e (jd_y e (fun w hs => Zaj e (ldBB (hs.blk (i := 6) e) e)) e e (jd_y e (fun w hs => Zab e) e e (jd_y e (fun w hs => Zaj e (ld1B (hs.blk (i := 2) e) e)) e e (jd_x (jx2 (i := 4) (i2 := 9) (by kernel_rfl) (by kernel_rfl) e e ?_ ?_))))))))))))
 ·refine Zcf (i := 12) (j := 9) (is := [0, 1, 2, 3, 4, 5, 6, 7, 8, 10, 11, 12]) (h := q128.1) (e := 3) (sz := 1) (enc := encI) (l := z127.1) _ e e e (fun h => h) (s12 e) e e ?_
  have n213 : NF noAr (rw1 q128.1 3 1 encI z127.1 :: q84.2.2.2.2) q84.2.1 z83.1 := n131.1.mono mn1
  have n214 : NF noAr (rw1 q128.1 3 1 encI z127.1 :: q84.2.2.2.2) q84.2.2.2.1 z83.2.1 := n131.2.mono mn1
  refine Zcf (i := 11) (j := 9) (is := [0, 1, 2, 3, 4, 5, 6, 7, 8, 10, 11]) (h := q128.2) (e := 3) (sz := 1) (enc := encI) (l := z127.2.1) _ e e e (fun h => h) (s11 e) e e ?_
  have n215 : NF noAr (rw1 q128.2 3 1 encI z127.2.1 :: (rw1 q128.1 3 1 encI z127.1 :: q84.2.2.2.2)) q84.2.1 z83.1 := n213.mono mn1
  have n216 : NF noAr (rw1 q128.2 3 1 encI z127.2.1 :: (rw1 q128.1 3 1 encI z127.1 :: q84.2.2.2.2)) q84.2.2.2.1 z83.2.1 := n214.mono mn1
  refine Za2 (enc := (Nt.enc (α := Rolling) (η := (Hd × Hd)))) [((Rolling.mk 0 (min v90.1 v97) x94 v125.1 z127.1 z127.2.1), (q128.1, q128.2))] e e e e e e e e fun hd212 => ?_
  have n217 : NF noAr (rw1 q128.2 3 1 encI z127.2.1 :: (rw1 q128.1 3 1 encI z127.1 :: q84.2.2.2.2)) ([((Rolling.mk 0 (min v90.1 v97) x94 v125.1 z127.1 z127.2.1), (q128.1, q128.2))] : List (Rolling × (Hd × Hd))) ([(Rolling.mk 0 (min v90.1 v97) x94 v125.1 z127.1 z127.2.1)] : List Rolling) := NF.one (okc (.inl (.tail _ (.head _))) (okc (.inl (.head _)) ok0))
  refine ZaI (ZdN [1, 2, 3, 6, 7, 8, 9, 12] e (jx2 (i := 5) (i2 := 9) (by kernel_rfl) (by kernel_rfl) e e ?_ ?_))
  ·refine Zco 4 e e e (fun w hs => n215.1) (fun w hs => n217.1) (fun w hs => (hs.row 0 e)) e e e fun y232 hd233 H234 => jg_L (r12 e) ?_
   have n235 : NF noAr (rw1 q128.2 3 1 encI z127.2.1 :: (rw1 q128.1 3 1 encI z127.1 :: q84.2.2.2.2)) (q84.2.1 ++ ([((Rolling.mk 0 (min v90.1 v97) x94 v125.1 z127.1 z127.2.1), (q128.1, q128.2))] : List (Rolling × (Hd × Hd)))) y232 := n215.app n217 H234
   refine ZaI (ZdN [1, 2, 3, 6, 7, 8, 9, 12] e (ZgV [1, 2, 3, 6, 7, 8, 9, 12] 7935 6655 5 [0, 1, 3, 0, 8, 31, 0, 64, 0, 256, 1023, 255, 2303, 8191, 16383, 32767] [(11, true), (12, true)] e (ZaE (Zay (Za8 (ZaE (Zay Zbn))))) (by kernel_rfl) (by kernel_rfl) (by kernel_rfl) (by kernel_rfl) (by kernel_rfl) (by kernel_rfl) (by kernel_rfl) (by kernel_rfl) (by kernel_rfl) (jd_y e (fun w hs => Zab e) e e (jd_y e (fun w hs => Zab e) e e (jd_x (jx1 (i := 9) (by kernel_rfl) (by kernel_rfl) e (Zcf (i := 11) (j := 10) (is := [0, 1, 2, 3, 4, 5, 6, 7, 8, 9, 11]) (h := q114) (e := 47) (sz := 4) (enc := Span.enc) (l := v113.1) _ e e e (fun h => h) (s11 e) e e ?_)))))))
   have n313 : NF noAr (rw1 q114 47 4 Span.enc v113.1 :: (rw1 q128.2 3 1 encI z127.2.1 :: (rw1 q128.1 3 1 encI z127.1 :: q84.2.2.2.2))) q84.2.2.2.1 z83.2.1 := n216.mono mn1
   have n314 : NF noAr (rw1 q114 47 4 Span.enc v113.1 :: (rw1 q128.2 3 1 encI z127.2.1 :: (rw1 q128.1 3 1 encI z127.1 :: q84.2.2.2.2))) ([((Rolling.mk 0 (min v90.1 v97) x94 v125.1 z127.1 z127.2.1), (q128.1, q128.2))] : List (Rolling × (Hd × Hd))) ([(Rolling.mk 0 (min v90.1 v97) x94 v125.1 z127.1 z127.2.1)] : List Rolling) := n217.mono mn1
   have n315 : NF noAr (rw1 q114 47 4 Span.enc v113.1 :: (rw1 q128.2 3 1 encI z127.2.1 :: (rw1 q128.1 3 1 encI z127.1 :: q84.2.2.2.2))) (q84.2.1 ++ ([((Rolling.mk 0 (min v90.1 v97) x94 v125.1 z127.1 z127.2.1), (q128.1, q128.2))] : List (Rolling × (Hd × Hd)))) y232 := n235.mono mn1
   refine Za2 (enc := (Nt.enc (α := (List Span)) (η := Hd))) [(v113.1, q114)] e e e e e e e e fun hd312 => ?_
   have n316 : NF noAr (rw1 q114 47 4 Span.enc v113.1 :: (rw1 q128.2 3 1 encI z127.2.1 :: (rw1 q128.1 3 1 encI z127.1 :: q84.2.2.2.2))) ([(v113.1, q114)] : List ((List Span) × Hd)) ([v113.1] : List (List Span)) := NF.one (okc (.inl (.head _)) ok0)
   refine ZaI (ZdN [2, 3, 4, 7, 8, 9, 10, 12] e (jx1 (i := 10) (by kernel_rfl) (by kernel_rfl) e (Zco 6 e e e (fun w hs => n313.1) (fun w hs => n316.1) (fun w hs => (hs.row 0 e)) e e e fun y332 hd333 H334 => jg_L (r12 e) ?_)))
   have n335 : NF noAr (rw1 q114 47 4 Span.enc v113.1 :: (rw1 q128.2 3 1 encI z127.2.1 :: (rw1 q128.1 3 1 encI z127.1 :: q84.2.2.2.2))) (q84.2.2.2.1 ++ ([(v113.1, q114)] : List ((List Span) × Hd))) y332 := n313.app n316 H334
   refine ZaI (ZdN [2, 3, 4, 7, 8, 9, 10, 12] e (jx1 (i := 13) (by kernel_rfl) (by kernel_rfl) e (Zax 4 e e e (l1 e) e e e e (l8 e) (r12 e) (ZaI (ZbI (by kernel_rfl) (jx1 (i := 14) (by kernel_rfl) (by kernel_rfl) e (jy (Zab e) e e (ZaI (ZbI (by kernel_rfl) (jx1 (i := 15) (by kernel_rfl) (by kernel_rfl) e (Zax 4 e e e (l1 e) e e e e (l8 e) (r12 e) (ZaI (ZbI (by kernel_rfl) (jx0 [(0, _), (4, _), (5, _), (6, _), (7, _), (10, _), (11, _), (13, _), (14, _)] ⟨e, e, e, e, e, e, e, e, e, trivial⟩ (by kernel_rfl) (by kernel_rfl) (ZaF (is := [2, 3, 4, 5, 6, 7, 8, 9, 11]) (s9 e) e (ZaN (Zae ?_)))))))))))))))))
   refine Zad 17 (Zaf e e e (jy (ZaW e e) e e (Zah e e e (gz9 0 4 5 6 7 10 11 13 14 e (ZaC (i := 8) (NF noAr (rw1 q114 47 4 Span.enc v113.1 :: (rw1 q128.2 3 1 encI z127.2.1 :: (rw1 q128.1 3 1 encI z127.1 :: q84.2.2.2.2))) (q84.2.1 ++ ([((Rolling.mk 0 (min v90.1 v97) x94 v125.1 z127.1 z127.2.1), (q128.1, q128.2))] : List (Rolling × (Hd × Hd)))) y232 ∧ NF noAr (rw1 q114 47 4 Span.enc v113.1 :: (rw1 q128.2 3 1 encI z127.2.1 :: (rw1 q128.1 3 1 encI z127.1 :: q84.2.2.2.2))) (q84.2.2.2.1 ++ ([(v113.1, q114)] : List ((List Span) × Hd))) y332) e (fun _ => ⟨n315, n335⟩) (r9 e) (Zav H86 (y232, y332, w64 (z83.2.2.1 - 1), z127.2.2) (hd233, (q84.2.1 ++ ([((Rolling.mk 0 (min v90.1 v97) x94 v125.1 z127.1 z127.2.1), (q128.1, q128.2))] : List (Rolling × (Hd × Hd)))), hd333, (q84.2.2.2.1 ++ ([(v113.1, q114)] : List ((List Span) × Hd))), (rw1 q114 47 4 Span.enc v113.1 :: (rw1 q128.2 3 1 encI z127.2.1 :: (rw1 q128.1 3 1 encI z127.1 :: q84.2.2.2.2)))) [0, 1, 2, 3, 4, 5, 6, 7, 8] ⟨e, e, e, e, e, e, e, e, e, trivial⟩ e e e))))))
  refine Zcf (i := 11) (j := 10) (is := [0, 1, 2, 3, 4, 5, 6, 7, 8, 9, 11]) (h := q114) (e := 47) (sz := 4) (enc := Span.enc) (l := v113.1) _ e e e (fun h => h) (s11 e) e e ?_
  have n313 : NF noAr (rw1 q114 47 4 Span.enc v113.1 :: (rw1 q128.2 3 1 encI z127.2.1 :: (rw1 q128.1 3 1 encI z127.1 :: q84.2.2.2.2))) q84.2.1 z83.1 := n215.mono mn1
  have n314 : NF noAr (rw1 q114 47 4 Span.enc v113.1 :: (rw1 q128.2 3 1 encI z127.2.1 :: (rw1 q128.1 3 1 encI z127.1 :: q84.2.2.2.2))) q84.2.2.2.1 z83.2.1 := n216.mono mn1
  have n315 : NF noAr (rw1 q114 47 4 Span.enc v113.1 :: (rw1 q128.2 3 1 encI z127.2.1 :: (rw1 q128.1 3 1 encI z127.1 :: q84.2.2.2.2))) ([((Rolling.mk 0 (min v90.1 v97) x94 v125.1 z127.1 z127.2.1), (q128.1, q128.2))] : List (Rolling × (Hd × Hd))) ([(Rolling.mk 0 (min v90.1 v97) x94 v125.1 z127.1 z127.2.1)] : List Rolling) := n217.mono mn1
  refine Za2 (enc := (Nt.enc (α := (List Span)) (η := Hd))) [(v113.1, q114)] e e e e e e e e fun hd312 => ?_
  have n316 : NF noAr (rw1 q114 47 4 Span.enc v113.1 :: (rw1 q128.2 3 1 encI z127.2.1 :: (rw1 q128.1 3 1 encI z127.1 :: q84.2.2.2.2))) ([(v113.1, q114)] : List ((List Span) × Hd)) ([v113.1] : List (List Span)) := NF.one (okc (.inl (.head _)) ok0)
  refine ZaI (ZdN [2, 3, 4, 7, 8, 9, 10, 12] e (jx1 (i := 5) (by kernel_rfl) (by kernel_rfl) e (Zco 5 e e e (fun w hs => n313.1) (fun w hs => n315.1) (fun w hs => (hs.row 1 e)) e e e fun y232 hd233 H234 => jg_L (r12 e) ?_)))
  have n235 : NF noAr (rw1 q114 47 4 Span.enc v113.1 :: (rw1 q128.2 3 1 encI z127.2.1 :: (rw1 q128.1 3 1 encI z127.1 :: q84.2.2.2.2))) (q84.2.1 ++ ([((Rolling.mk 0 (min v90.1 v97) x94 v125.1 z127.1 z127.2.1), (q128.1, q128.2))] : List (Rolling × (Hd × Hd)))) y232 := n313.app n315 H234
  refine ZaI (ZdN [2, 3, 4, 7, 8, 9, 10, 12] e (ZgV [2, 3, 4, 7, 8, 9, 10, 12] 7935 7167 4 [0, 1, 3, 0, 8, 31, 0, 64, 0, 256, 1023, 255, 2303, 8191, 16383, 32767] [(11, true), (12, true)] e (ZaE (Zay (Za8 (ZaE (Zay Zbn))))) (by kernel_rfl) (by kernel_rfl) (by kernel_rfl) (by kernel_rfl) (by kernel_rfl) (by kernel_rfl) (by kernel_rfl) (by kernel_rfl) (by kernel_rfl) (jd_y e (fun w hs => Zab e) e e (jd_y e (fun w hs => Zab e) e e (jd_x (jx1 (i := 10) (by kernel_rfl) (by kernel_rfl) e (Zco 6 e e e (fun w hs => n314.1) (fun w hs => n316.1) (fun w hs => (hs.row 0 e)) e e e fun y332 hd333 H334 => jg_L (r12 e) ?_)))))))
  have n335 : NF noAr (rw1 q114 47 4 Span.enc v113.1 :: (rw1 q128.2 3 1 encI z127.2.1 :: (rw1 q128.1 3 1 encI z127.1 :: q84.2.2.2.2))) (q84.2.2.2.1 ++ ([(v113.1, q114)] : List ((List Span) × Hd))) y332 := n314.app n316 H334
  refine ZaI (ZdN [2, 3, 4, 7, 8, 9, 10, 12] e (jx1 (i := 13) (by kernel_rfl) (by kernel_rfl) e (Zax 4 e e e (l1 e) e e e e (l8 e) (r12 e) (ZaI (ZbI (by kernel_rfl) (jx1 (i := 14) (by kernel_rfl) (by kernel_rfl) e (jy (Zab e) e e (ZaI (ZbI (by kernel_rfl) (jx1 (i := 15) (by kernel_rfl) (by kernel_rfl) e (Zax 4 e e e (l1 e) e e e e (l8 e) (r12 e) (ZaI (ZbI (by kernel_rfl) (jx0 [(0, _), (4, _), (5, _), (6, _), (7, _), (10, _), (11, _), (13, _), (14, _)] ⟨e, e, e, e, e, e, e, e, e, trivial⟩ (by kernel_rfl) (by kernel_rfl) (ZaF (is := [2, 3, 4, 5, 6, 7, 8, 9, 11]) (s9 e) e (ZaN (Zae ?_)))))))))))))))))
  refine Zad 17 (Zaf e e e (jy (ZaW e e) e e (Zah e e e (gz9 0 4 5 6 7 10 11 13 14 e (ZaC (i := 8) (NF noAr (rw1 q114 47 4 Span.enc v113.1 :: (rw1 q128.2 3 1 encI z127.2.1 :: (rw1 q128.1 3 1 encI z127.1 :: q84.2.2.2.2))) (q84.2.1 ++ ([((Rolling.mk 0 (min v90.1 v97) x94 v125.1 z127.1 z127.2.1), (q128.1, q128.2))] : List (Rolling × (Hd × Hd)))) y232 ∧ NF noAr (rw1 q114 47 4 Span.enc v113.1 :: (rw1 q128.2 3 1 encI z127.2.1 :: (rw1 q128.1 3 1 encI z127.1 :: q84.2.2.2.2))) (q84.2.2.2.1 ++ ([(v113.1, q114)] : List ((List Span) × Hd))) y332) e (fun _ => ⟨n235, n335⟩) (r9 e) (Zav H86 (y232, y332, w64 (z83.2.2.1 - 1), z127.2.2) (hd233, (q84.2.1 ++ ([((Rolling.mk 0 (min v90.1 v97) x94 v125.1 z127.1 z127.2.1), (q128.1, q128.2))] : List (Rolling × (Hd × Hd)))), hd333, (q84.2.2.2.1 ++ ([(v113.1, q114)] : List ((List Span) × Hd))), (rw1 q114 47 4 Span.enc v113.1 :: (rw1 q128.2 3 1 encI z127.2.1 :: (rw1 q128.1 3 1 encI z127.1 :: q84.2.2.2.2)))) [0, 1, 2, 3, 4, 5, 6, 7, 8] ⟨e, e, e, e, e, e, e, e, e, trivial⟩ e e e))))))
 refine Zcf (i := 12) (j := 11) (is := [0, 1, 2, 3, 4, 5, 6, 7, 8, 9, 10, 12]) (h := q114) (e := 47) (sz := 4) (enc := Span.enc) (l := v113.1) _ e e e (fun h => h) (s12 e) e e ?_
 have n313 : NF noAr (rw1 q114 47 4 Span.enc v113.1 :: q84.2.2.2.2) q84.2.1 z83.1 := n131.1.mono mn1
 have n314 : NF noAr (rw1 q114 47 4 Span.enc v113.1 :: q84.2.2.2.2) q84.2.2.2.1 z83.2.1 := n131.2.mono mn1
 refine Za2 (enc := (Nt.enc (α := (List Span)) (η := Hd))) [(v113.1, q114)] e e e e e e e e fun hd312 => ?_
 have n315 : NF noAr (rw1 q114 47 4 Span.enc v113.1 :: q84.2.2.2.2) ([(v113.1, q114)] : List ((List Span) × Hd)) ([v113.1] : List (List Span)) := NF.one (okc (.inl (.head _)) ok0)
 refine ZaI (ZdN [1, 2, 3, 6, 7, 8, 9, 13] e (jx1 (i := 4) (by kernel_rfl) (by kernel_rfl) e (Zcf (i := 12) (j := 10) (is := [0, 1, 2, 3, 4, 5, 6, 7, 8, 9, 11, 12]) (h := q128.1) (e := 3) (sz := 1) (enc := encI) (l := z127.1) _ e e e (fun h => h) (s12 e) e e ?_)))
 have n213 : NF noAr (rw1 q128.1 3 1 encI z127.1 :: (rw1 q114 47 4 Span.enc v113.1 :: q84.2.2.2.2)) q84.2.1 z83.1 := n313.mono mn1
 have n214 : NF noAr (rw1 q128.1 3 1 encI z127.1 :: (rw1 q114 47 4 Span.enc v113.1 :: q84.2.2.2.2)) q84.2.2.2.1 z83.2.1 := n314.mono mn1
 have n215 : NF noAr (rw1 q128.1 3 1 encI z127.1 :: (rw1 q114 47 4 Span.enc v113.1 :: q84.2.2.2.2)) ([(v113.1, q114)] : List ((List Span) × Hd)) ([v113.1] : List (List Span)) := n315.mono mn1
 refine Zcf (i := 11) (j := 10) (is := [0, 1, 2, 3, 4, 5, 6, 7, 8, 9, 11]) (h := q128.2) (e := 3) (sz := 1) (enc := encI) (l := z127.2.1) _ e e e (fun h => h) (s11 e) e e ?_
 have n216 : NF noAr (rw1 q128.2 3 1 encI z127.2.1 :: (rw1 q128.1 3 1 encI z127.1 :: (rw1 q114 47 4 Span.enc v113.1 :: q84.2.2.2.2))) q84.2.1 z83.1 := n213.mono mn1
 have n217 : NF noAr (rw1 q128.2 3 1 encI z127.2.1 :: (rw1 q128.1 3 1 encI z127.1 :: (rw1 q114 47 4 Span.enc v113.1 :: q84.2.2.2.2))) q84.2.2.2.1 z83.2.1 := n214.mono mn1
 have n218 : NF noAr (rw1 q128.2 3 1 encI z127.2.1 :: (rw1 q128.1 3 1 encI z127.1 :: (rw1 q114 47 4 Span.enc v113.1 :: q84.2.2.2.2))) ([(v113.1, q114)] : List ((List Span) × Hd)) ([v113.1] : List (List Span)) := n215.mono mn1
 refine Za2 (enc := (Nt.enc (α := Rolling) (η := (Hd × Hd)))) [((Rolling.mk 0 (min v90.1 v97) x94 v125.1 z127.1 z127.2.1), (q128.1, q128.2))] e e e e e e e e fun hd212 => ?_
 have n219 : NF noAr (rw1 q128.2 3 1 encI z127.2.1 :: (rw1 q128.1 3 1 encI z127.1 :: (rw1 q114 47 4 Span.enc v113.1 :: q84.2.2.2.2))) ([((Rolling.mk 0 (min v90.1 v97) x94 v125.1 z127.1 z127.2.1), (q128.1, q128.2))] : List (Rolling × (Hd × Hd))) ([(Rolling.mk 0 (min v90.1 v97) x94 v125.1 z127.1 z127.2.1)] : List Rolling) := NF.one (okc (.inl (.tail _ (.head _))) (okc (.inl (.head _)) ok0))
 refine ZaI (ZdN [2, 3, 4, 7, 8, 9, 10, 12] e (jx1 (i := 5) (by kernel_rfl) (by kernel_rfl) e (Zco 5 e e e (fun w hs => n216.1) (fun w hs => n219.1) (fun w hs => (hs.row 0 e)) e e e fun y232 hd233 H234 => jg_L (r12 e) ?_)))
 have n235 : NF noAr (rw1 q128.2 3 1 encI z127.2.1 :: (rw1 q128.1 3 1 encI z127.1 :: (rw1 q114 47 4 Span.enc v113.1 :: q84.2.2.2.2))) (q84.2.1 ++ ([((Rolling.mk 0 (min v90.1 v97) x94 v125.1 z127.1 z127.2.1), (q128.1, q128.2))] : List (Rolling × (Hd × Hd)))) y232 := n216.app n219 H234
 refine ZaI (ZdN [2, 3, 4, 7, 8, 9, 10, 12] e (ZgV [2, 3, 4, 7, 8, 9, 10, 12] 7935 7167 4 [0, 1, 3, 0, 8, 31, 0, 64, 0, 256, 1023, 255, 2303, 8191, 16383, 32767] [(11, true), (12, true)] e (ZaE (Zay (Za8 (ZaE (Zay Zbn))))) (by kernel_rfl) (by kernel_rfl) (by kernel_rfl) (by kernel_rfl) (by kernel_rfl) (by kernel_rfl) (by kernel_rfl) (by kernel_rfl) (by kernel_rfl) (jd_y e (fun w hs => Zab e) e e (jd_y e (fun w hs => Zab e) e e (jd_x (jx1 (i := 10) (by kernel_rfl) (by kernel_rfl) e (Zco 6 e e e (fun w hs => n217.1) (fun w hs => n218.1) (fun w hs => (hs.row 1 e)) e e e fun y332 hd333 H334 => jg_L (r12 e) ?_)))))))
 have n335 : NF noAr (rw1 q128.2 3 1 encI z127.2.1 :: (rw1 q128.1 3 1 encI z127.1 :: (rw1 q114 47 4 Span.enc v113.1 :: q84.2.2.2.2))) (q84.2.2.2.1 ++ ([(v113.1, q114)] : List ((List Span) × Hd))) y332 := n217.app n218 H334
 refine ZaI (ZdN [2, 3, 4, 7, 8, 9, 10, 12] e (jx1 (i := 13) (by kernel_rfl) (by kernel_rfl) e (Zax 4 e e e (l1 e) e e e e (l8 e) (r12 e) (ZaI (ZbI (by kernel_rfl) (jx1 (i := 14) (by kernel_rfl) (by kernel_rfl) e (jy (Zab e) e e (ZaI (ZbI (by kernel_rfl) (jx1 (i := 15) (by kernel_rfl) (by kernel_rfl) e (Zax 4 e e e (l1 e) e e e e (l8 e) (r12 e) (ZaI (ZbI (by kernel_rfl) (jx0 [(0, _), (4, _), (5, _), (6, _), (7, _), (10, _), (11, _), (13, _), (14, _)] ⟨e, e, e, e, e, e, e, e, e, trivial⟩ (by kernel_rfl) (by kernel_rfl) (ZaF (is := [2, 3, 4, 5, 6, 7, 8, 9, 11]) (s9 e) e (ZaN (Zae ?_)))))))))))))))))
 refine Zad 17 (Zaf e e e (jy (ZaW e e) e e (Zah e e e (gz9 0 4 5 6 7 10 11 13 14 e (ZaC (i := 8) (NF noAr (rw1 q128.2 3 1 encI z127.2.1 :: (rw1 q128.1 3 1 encI z127.1 :: (rw1 q114 47 4 Span.enc v113.1 :: q84.2.2.2.2))) (q84.2.1 ++ ([((Rolling.mk 0 (min v90.1 v97) x94 v125.1 z127.1 z127.2.1), (q128.1, q128.2))] : List (Rolling × (Hd × Hd)))) y232 ∧ NF noAr (rw1 q128.2 3 1 encI z127.2.1 :: (rw1 q128.1 3 1 encI z127.1 :: (rw1 q114 47 4 Span.enc v113.1 :: q84.2.2.2.2))) (q84.2.2.2.1 ++ ([(v113.1, q114)] : List ((List Span) × Hd))) y332) e (fun _ => ⟨n235, n335⟩) (r9 e) (Zav H86 (y232, y332, w64 (z83.2.2.1 - 1), z127.2.2) (hd233, (q84.2.1 ++ ([((Rolling.mk 0 (min v90.1 v97) x94 v125.1 z127.1 z127.2.1), (q128.1, q128.2))] : List (Rolling × (Hd × Hd)))), hd333, (q84.2.2.2.1 ++ ([(v113.1, q114)] : List ((List Span) × Hd))), (rw1 q128.2 3 1 encI z127.2.1 :: (rw1 q128.1 3 1 encI z127.1 :: (rw1 q114 47 4 Span.enc v113.1 :: q84.2.2.2.2)))) [0, 1, 2, 3, 4, 5, 6, 7, 8] ⟨e, e, e, e, e, e, e, e, e, trivial⟩ e e e))))))
end Go.Proofs.Ytdgminllobhncaa
namespace Go.Proofs.Ytdgminllobhncaa
open Go.Hy
set_option linter.unusedVariables false
set_option linter.unusedSimpArgs false
set_option maxHeartbeats 2000000
set_option maxRecDepth 100000
theorem Zei {w : World}   {v : Scene} (hm : Zdq = some v) : Calls Try.prog 31 ([] : List Value).toArray w (fun e w' => ∃ g : (Hd × Hd × Hd × Hd × List (Rolling × (Hd × Hd)) × List Rw), e = .returned (.agg #[g.1.v, .int .i64 v.Throw, g.2.1.v, g.2.2.1.v, g.2.2.2.1.v]) ∧ St w w' [] [(rowH g.1 62 8 Element.enc v.Elements), (rowH g.2.1 90 2 Throw.enc v.Start), (rowH g.2.2.1 53 4 Command.enc v.Commands), (rowH g.2.2.2.1 45 6 Nt.enc g.2.2.2.2.1), (Res.nest g.2.2.2.2.2 (NF noAr g.2.2.2.2.2 g.2.2.2.2.1 v.Cuts))]) := by
 refine ZbL (vs := []) (R := fun (v : Scene) (e : Ending) (w' : World) => ∃ g : (Hd × Hd × Hd × Hd × List (Rolling × (Hd × Hd)) × List Rw), e = .returned (.agg #[g.1.v, .int .i64 v.Throw, g.2.1.v, g.2.2.1.v, g.2.2.2.1.v]) ∧ St w w' [] [(rowH g.1 62 8 Element.enc v.Elements), (rowH g.2.1 90 2 Throw.enc v.Start), (rowH g.2.2.1 53 4 Command.enc v.Commands), (rowH g.2.2.2.1 45 6 Nt.enc g.2.2.2.2.1), (Res.nest g.2.2.2.2.2 (NF noAr g.2.2.2.2.2 g.2.2.2.2.1 v.Cuts))]) Try.func31 e Try.ntmps31 e e (St.refl w) hm ?_
 unfold Zdq
 clear hm
 refine Zac (Zad 0 (ZaL (l5 e) e e fun g1 => gz1 0 e (Zae (Zac (Zad 1 (Za2 (enc := encI) [0, 0, 0, 0] e e e e e e e e fun hd2 => Zah e e e (gz2 0 1 e (Zae (Zac (Zad 2 (Zaf e e e (Zaf e e e (jy (ZaY e (o6 e)) e e (ZaL (l6 e) e e fun g3 => ?_))))))))))))))
 refine Zax 0 e e e (l6 e) e e e e (l6 e) (r3 e) (gz2 0 2 e (Zae (Zac (Zad 3 (jy (ZaY e (o8 e)) e e (jy (ZaY e (o8 e)) e e (jy (ZaY e (o8 e)) e e (jy (ZaY e (o8 e)) e e (Za2 (enc := Element.enc) [(Element.mk 0 (⟨#[99]⟩) (-1) 0 0 0 0 0), (Element.mk 3 (⟨#[119]⟩) 0 0 10000 1000 0 0), (Element.mk 4 (⟨#[97]⟩) 1 1 500000 100 0 0), (Element.mk 4 (⟨#[98]⟩) 1 2 500000 100 0 0)] e e e e e e e e fun hd4 => jg_y (fun w hs => Zaj e (ldBB (hs.blkL (i := 1) e) e)) e e (ZiP (Zcf (i := 0) (j := 3) (is := [0, 1, 2, 4]) (h := hd2) (e := 3) (sz := 1) (enc := encI) (l := ([0, 0, 0, 0] : List Int)) _ e e e (fun h => h) (s4 e) e e (Za2 (enc := (Nt.enc (α := Rolling) (η := (Hd × Hd)))) [((Rolling.mk 0 20000 2 1000 ([0, 0, 0, 0] : List Int) ([0, 0, 0, 0] : List Int)), (hd2, hd2))] e e e e e e e e fun hd5 => ?_))))))))))))
 have n6 : NF noAr (rw1 hd2 3 1 encI ([0, 0, 0, 0] : List Int) :: []) ([((Rolling.mk 0 20000 2 1000 ([0, 0, 0, 0] : List Int) ([0, 0, 0, 0] : List Int)), (hd2, hd2))] : List (Rolling × (Hd × Hd))) ([(Rolling.mk 0 20000 2 1000 ([0, 0, 0, 0] : List Int) ([0, 0, 0, 0] : List Int))] : List Rolling) := NF.one (okc (.inl (.head _)) (okc (.inl (.head _)) ok0))
 refine jy (ZaY e (o5 e)) e e (Zax 4 e e e (l5 e) e e e e (l5 e) (r5 e) (gz1 0 e (Zae (Zao (ZaU 90 2 Throw.enc (ZaU 53 4 Command.enc (ZaC (i := 3) (NF noAr (rw1 hd2 3 1 encI ([0, 0, 0, 0] : List Int) :: []) ([((Rolling.mk 0 20000 2 1000 ([0, 0, 0, 0] : List Int) ([0, 0, 0, 0] : List Int)), (hd2, hd2))] : List (Rolling × (Hd × Hd))) ([(Rolling.mk 0 20000 2 1000 ([0, 0, 0, 0] : List Int) ([0, 0, 0, 0] : List Int))] : List Rolling)) e (fun _ => n6) (r7 e) (Zal e (fun w hs => .cell e (ldBB (hs.blkL (i := 6) e) e)) (fun w hs => ⟨(hd4, (Hd.mk none 0 0), (Hd.mk none 0 0), hd5, ([((Rolling.mk 0 20000 2 1000 ([0, 0, 0, 0] : List Int) ([0, 0, 0, 0] : List Int)), (hd2, hd2))] : List (Rolling × (Hd × Hd))), (rw1 hd2 3 1 encI ([0, 0, 0, 0] : List Int) :: [])), e, hs.sel (is := [4, 1, 0, 2, 3]) e e⟩)))))))))
theorem Zge {w : World} {a0 : ByteArray}  {v : Bool} (hm : Zc3 a0 = some v) : Gives Try.prog 86 [.string a0] w (.bool v) := by
 refine ZaS (vs := [.string a0]) (U := fun (v : Bool) => .bool v) Try.func86 e Try.ntmps86 e e hm ?_
 unfold Zc3
 clear hm
 refine Zac (Zad 0 (Zah e e e (gz1 0 e (Zae (Za6 (fun (s : Unit) (g : Unit) => [(0, .string a0)]) (fun (s : Unit) (g : Unit) => []) (fun (s : Unit) (g : Unit) => []) ?_ ?_)))))
 ·intro z1 q2
  refine Zac (Zad 7 (Zaf e e e (jy (ZfF Try.underlying9 e) e e (jy (Zbc e e) e e (Zaf e e e (Zat 31 e ?_ ?_))))))
  ·refine Zaf e e e (jy (ZfF Try.underlying9 e) e e (jy (ZbP e e) e e (jy (Zai e e) e e (Zah e e e (gz1 2 e (Zae (Zao (Zal e (fun w hs => .tmp e) (fun w hs => ⟨e, hs.drop⟩)))))))))
  refine Zaa e e (Zaa e e (Zaa e e (jy (Zag e e) e e (Zah e e e (gz1 2 e (Zae (Zao (Zal e (fun w hs => .tmp e) (fun w hs => ⟨e, hs.drop⟩)))))))))
 intro k3 H4
 refine Zac (Zad 1 (Zah e e e (gz2 0 3 e (Zae (Zar (Zbi (n := big) (fun (s : Int) (g : Unit) => [(0, .string a0), (3, .int .i64 s)]) (fun (s : Int) (g : Unit) => []) (fun (s : Int) (g : Unit) => []) 0 () [] ⟨e, e, trivial⟩ e e e ?_))))))
 intro z5 q6 n9 k7 H8
 refine Zac (Zac (Zad 2 (Zaf e e e (Zaf e e e (jy (ZfF Try.underlying9 e) e e (jy (ZaB e e) e e (gz3 0 3 8 e (Zae (Zan e ?_ ?_)))))))))
 rotate_left
 ·refine ZaG (Zba (Zbe (Zbb ?_)))
  exact Zav H4 () () [] ⟨e, trivial⟩ e e e
 refine Zam (Zae (Zac (Zar (Zac (Zad 4 (Zaf e e e (Zaf e e e (Zgf fun h10 => jy (ZeW Try.underlying9 e e (of_decide_eq_true h10)) e e (Zah e e e (gz3 0 3 4 e (Zae (Zac (Zad 5 (Zaf e e e (jy (ZaB e e) e e ?_)))))))))))))))
 refine Zaf e e e (Zat 16 e ?_ ?_)
 ·refine Zaa e e (Zaa e e (jy (Zai e e) e e (Zaf e e e (Zaf e e e (jy (ZaB e e) e e (Zaf e e e (Zat 23 e ?_ ?_)))))))
  ·refine Zaa e e (Zaa e e (jy (Zai e e) e e (jy (Zai e e) e e (gz3 0 3 27 e (Zae (Zbf e (Zac (Zad 6 (Zah e e e (gz1 2 e (Zae (Zao (ZaA (Zau (Za0 (ZaA (Zau ?_)))))))))))))))))
   exact Zal e (fun w hs => .tmp e) (fun w hs => ⟨e, hs.drop⟩)
  refine Zaf e e e (jy (Zbc e e) e e (jy (Zag e e) e e (jy (Zai e e) e e (gz3 0 3 27 e (Zae (Zan e ?_ ?_))))))
  ·refine Zac (Zad 6 (Zah e e e (gz1 2 e (Zae (Zao (ZaA (Zau (Za0 (ZaA (Zau ?_))))))))))
   exact Zal e (fun w hs => .tmp e) (fun w hs => ⟨e, hs.drop⟩)
  refine Zam (ZaN (Zae ?_))
  refine Zad 3 (Zaf e e e (jy (Zap e e) e e (Zah e e e (gz2 0 3 e (Zav H8 (w64 (z5 + 1)) () [] ⟨e, e, trivial⟩ e e e)))))
 refine Zaf e e e (jy (Zbc e e) e e (jy (Zag e e) e e (Zaf e e e (Zat 20 e ?_ ?_))))
 rotate_left
 ·refine Zaa e e (Zaa e e (Zaa e e (Zaa e e (Zaa e e (Zaa e e (jy (Zag e e) e e (gz3 0 3 27 e (Zae (Zdt e (Zam (ZaN (Zae ?_))))))))))))
  refine Zad 3 (Zaf e e e (jy (Zap e e) e e (Zah e e e (gz2 0 3 e (Zav H8 (w64 (z5 + 1)) () [] ⟨e, e, trivial⟩ e e e)))))
 refine Zaf e e e (jy (ZaB e e) e e (Zaf e e e (Zat 23 e ?_ ?_)))
 ·refine Zaa e e (Zaa e e (jy (Zai e e) e e (jy (Zai e e) e e (gz3 0 3 27 e (Zae (Zbf e (Zac (Zad 6 (Zah e e e (gz1 2 e (Zae (Zao (ZaA (Zau (Za0 (ZaA (Zau ?_)))))))))))))))))
  exact Zal e (fun w hs => .tmp e) (fun w hs => ⟨e, hs.drop⟩)
 refine Zaf e e e (jy (Zbc e e) e e (jy (Zag e e) e e (jy (Zai e e) e e (gz3 0 3 27 e (Zae (Zan e ?_ ?_))))))
 ·refine Zac (Zad 6 (Zah e e e (gz1 2 e (Zae (Zao (ZaA (Zau (Za0 (ZaA (Zau ?_))))))))))
  exact Zal e (fun w hs => .tmp e) (fun w hs => ⟨e, hs.drop⟩)
 refine Zam (ZaN (Zae ?_))
 refine Zad 3 (Zaf e e e (jy (Zap e e) e e (Zah e e e (gz2 0 3 e (Zav H8 (w64 (z5 + 1)) () [] ⟨e, e, trivial⟩ e e e)))))
theorem ZfB {w : World} {a0 : Element}  {v : Bool} (hm : ZcH a0 = some v) : Gives Try.prog 78 [.agg #[.int .i64 a0.Kind, .string a0.Name, .int .i64 a0.Parent, .int .i64 a0.Side, .int .i64 a0.Length, .int .i64 a0.Grade, .int .i64 a0.Curve, .int .i64 a0.Power]] w (.bool v) := by
 refine ZaS (vs := [.agg #[.int .i64 a0.Kind, .string a0.Name, .int .i64 a0.Parent, .int .i64 a0.Side, .int .i64 a0.Length, .int .i64 a0.Grade, .int .i64 a0.Curve, .int .i64 a0.Power]]) (U := fun (v : Bool) => .bool v) Try.func78 e Try.ntmps78 e e hm ?_
 unfold ZcH
 clear hm
 refine Zac (Zad 0 (ZbF e (l8 e) e e fun g1 => Zah e e e (gz1 1 e (Zae (Zac (Zac (Zad 1 (jy (Zab e) e e (jg_y (fun w hs => Zaj e (ld1B (hs.blkL (i := 0) e) e)) e e (jy (ZaB e e) e e (Zaf e e e (Zat 7 e ?_ ?_))))))))))))
 ·refine Zaa e e (Zaa e e (Zaa e e (jy (Zai e e) e e (Zaf e e e (Zaa e e (Zaa e e (Zaa e e (Zaa e e (jy (Zai e e) e e (gz2 1 17 e (Zae (Zbf e (Zac (Zad 2 (Zah e e e (gz1 2 e ?_))))))))))))))))
  refine Zae (Zao (Zau (Zal e (fun w hs => .tmp e) (fun w hs => ⟨e, hs.drop⟩))))
 refine jy (Zab e) e e (jg_y (fun w hs => Zaj e (ld1B (hs.blkL (i := 0) e) e)) e e (jy (Zbc e e) e e (jy (Zag e e) e e (Zaf e e e (Zat 12 e ?_ ?_)))))
 ·refine Zaa e e (Zaa e e (Zaa e e (Zaa e e (jy (Zai e e) e e (gz2 1 17 e (Zae (Zbf e (Zac (Zad 2 (Zah e e e (gz1 2 e (Zae (Zao (Zau (Zal e (fun w hs => .tmp e) (fun w hs => ⟨e, hs.drop⟩))))))))))))))))
 refine jy (Zab e) e e (jg_y (fun w hs => Zaj e (ld1B (hs.blkL (i := 0) e) e)) e e (Zbg e (fun v w hs hm => Zge hm ) e e fun v2 => jy (Zbk e) e e (jy (Zag e e) e e (gz2 1 17 e (Zae (Zan e ?_ ?_))))))
 ·refine Zac (Zad 2 (Zah e e e (gz1 2 e (Zae (Zao (Zau (Zal e (fun w hs => .tmp e) (fun w hs => ⟨e, hs.drop⟩))))))))
 refine Zam (Zae (Zac (Zac (Zad 3 (jy (Zab e) e e (jg_y (fun w hs => Zaj e (ld1B (hs.blkL (i := 0) e) e)) e e (jy (ZaR e e) e e (gz2 1 20 e (Zae (Zan e ?_ ?_))))))))))
 ·refine Zac (Zad 4 (jg_y (fun w hs => Zaj e (ldBB (hs.blkL (i := 0) e) e)) e e (jy (Zab e) e e (jg_y (fun w hs => Zaj e (ld1B (hs.blkL (i := 0) e) e)) e e (jy (ZaY e (o8 e)) e e (jy (yeq62 e e) e e (Zah e e e (gz1 2 e (Zae (Zao (Zau (Zal e (fun w hs => .tmp e) (fun w hs => ⟨e, hs.drop⟩)))))))))))))
 refine Zam (Zae (Zac (Zad 5 (jy (Zab e) e e (jg_y (fun w hs => Zaj e (ld1B (hs.blkL (i := 0) e) e)) e e (jy (ZaR e e) e e (Zah e e e (gz2 1 3 e (Zae (Za6 (fun (s : Bool) (g : Unit) => [(1, .pointer (some ⟨g1, 0, none⟩)), (3, .bool s)]) (fun (s : Bool) (g : Unit) => []) (fun (s : Bool) (g : Unit) => [(Res.blk g1 62 [.int .i64 a0.Kind, .string a0.Name, .int .i64 a0.Parent, .int .i64 a0.Side, .int .i64 a0.Length, .int .i64 a0.Grade, .int .i64 a0.Curve, .int .i64 a0.Power])]) ?_ ?_))))))))))
 rotate_left
 ·intro k5 H6
  refine Zac (Zad 6 (jy (Zab e) e e (jg_y (fun w hs => Zaj e (ld1B (hs.blkL (i := 0) e) e)) e e (jy (ZaR e e) e e (gz3 1 3 31 e (Zae (Zan e ?_ ?_)))))))
  rotate_left
  ·refine Zam (Zav H6 (decide (a0.Power = 0)) () [0] ⟨e, e, trivial⟩ e e e)
  refine Zad 7 (jy (Zab e) e e (jg_y (fun w hs => Zaj e (ld1B (hs.blkL (i := 0) e) e)) e e (jy (Zbu e e) e e (Zaf e e e (Zat 35 e ?_ ?_)))))
  ·refine jy (Zab e) e e (jg_y (fun w hs => Zaj e (ld1B (hs.blkL (i := 0) e) e)) e e (jy (ZbP e e) e e (jy (Zai e e) e e (Zah e e e (gz2 1 3 e (Zav H6 (decide (a0.Power ≤ 1000000000)) () [0] ⟨e, e, trivial⟩ e e e))))))
  refine Zaa e e (Zaa e e (Zaa e e (jy (Zag e e) e e (Zah e e e (gz2 1 3 e (Zav H6 false () [0] ⟨e, e, trivial⟩ e e e))))))
 intro z3 q4
 refine Zac (Zad 8 (Zaf e e e (Zaf e e e (Zat 41 e ?_ ?_))))
 rotate_left
 ·refine Zaa e e (Zaa e e (Zaa e e (jy (Zag e e) e e (Zaf e e e (Zaa e e (Zaa e e (Zaa e e (jy (Zag e e) e e (Zaf e e e (Zaa e e (Zaa e e (Zaa e e (jy (Zag e e) e e (Zaf e e e (Zaa e e (Zaa e e ?_))))))))))))))))
  refine Zaa e e (jy (Zag e e) e e (Zaf e e e (Zaa e e (Zaa e e (Zaa e e (jy (Zag e e) e e (Zaf e e e (Zaa e e (Zaa e e (Zaa e e (jy (Zag e e) e e (Zaf e e e (Zaa e e (Zaa e e (Zaa e e (jy (Zag e e) e e ?_))))))))))))))))
  refine Zaf e e e (Zaa e e (Zaa e e (Zaa e e (jy (Zag e e) e e (Zah e e e (gz1 2 e (Zae (Zao (Zal e (fun w hs => .tmp e) (fun w hs => ⟨e, hs.drop⟩))))))))))
 refine jy (Zab e) e e (jg_y (fun w hs => Zaj e (ld1B (hs.blkL (i := 0) e) e)) e e (jy (Zbu e e) e e (jy (Zai e e) e e (Zaf e e e (Zat 46 e ?_ ?_)))))
 rotate_left
 ·refine Zaa e e (Zaa e e (Zaa e e (jy (Zag e e) e e (Zaf e e e (Zaa e e (Zaa e e (Zaa e e (jy (Zag e e) e e (Zaf e e e (Zaa e e (Zaa e e (Zaa e e (jy (Zag e e) e e (Zaf e e e (Zaa e e (Zaa e e ?_))))))))))))))))
  refine Zaa e e (jy (Zag e e) e e (Zaf e e e (Zaa e e (Zaa e e (Zaa e e (jy (Zag e e) e e (Zaf e e e (Zaa e e (Zaa e e (Zaa e e (jy (Zag e e) e e (Zaf e e e (Zaa e e (Zaa e e (Zaa e e (jy (Zag e e) e e ?_))))))))))))))))
  refine Zah e e e (gz1 2 e (Zae (Zao (Zal e (fun w hs => .tmp e) (fun w hs => ⟨e, hs.drop⟩)))))
 refine jy (Zab e) e e (jg_y (fun w hs => Zaj e (ld1B (hs.blkL (i := 0) e) e)) e e (jy (ZbP e e) e e (jy (Zai e e) e e (Zaf e e e (Zat 51 e ?_ ?_)))))
 rotate_left
 ·refine Zaa e e (Zaa e e (Zaa e e (jy (Zag e e) e e (Zaf e e e (Zaa e e (Zaa e e (Zaa e e (jy (Zag e e) e e (Zaf e e e (Zaa e e (Zaa e e (Zaa e e (jy (Zag e e) e e (Zaf e e e (Zaa e e (Zaa e e ?_))))))))))))))))
  refine Zaa e e (jy (Zag e e) e e (Zaf e e e (Zaa e e (Zaa e e (Zaa e e (jy (Zag e e) e e (Zaf e e e (Zaa e e (Zaa e e (Zaa e e (jy (Zag e e) e e (Zah e e e (gz1 2 e (Zae (Zao (Zal e (fun w hs => .tmp e) (fun w hs => ⟨e, hs.drop⟩)))))))))))))))))
 refine jy (Zab e) e e (jg_y (fun w hs => Zaj e (ld1B (hs.blkL (i := 0) e) e)) e e (jy (Zbu e e) e e (jy (Zai e e) e e (Zaf e e e (Zat 56 e ?_ ?_)))))
 rotate_left
 ·refine Zaa e e (Zaa e e (Zaa e e (jy (Zag e e) e e (Zaf e e e (Zaa e e (Zaa e e (Zaa e e (jy (Zag e e) e e (Zaf e e e (Zaa e e (Zaa e e (Zaa e e (jy (Zag e e) e e (Zaf e e e (Zaa e e (Zaa e e ?_))))))))))))))))
  refine Zaa e e (jy (Zag e e) e e (Zaf e e e (Zaa e e (Zaa e e (Zaa e e (jy (Zag e e) e e (Zah e e e (gz1 2 e (Zae (Zao (Zal e (fun w hs => .tmp e) (fun w hs => ⟨e, hs.drop⟩))))))))))))
 refine jy (Zab e) e e (jg_y (fun w hs => Zaj e (ld1B (hs.blkL (i := 0) e) e)) e e (jy (ZbP e e) e e (jy (Zai e e) e e (Zaf e e e (Zat 61 e ?_ ?_)))))
 rotate_left
 ·refine Zaa e e (Zaa e e (Zaa e e (jy (Zag e e) e e (Zaf e e e (Zaa e e (Zaa e e (Zaa e e (jy (Zag e e) e e (Zaf e e e (Zaa e e (Zaa e e (Zaa e e (jy (Zag e e) e e (Zaf e e e (Zaa e e (Zaa e e ?_))))))))))))))))
  refine Zaa e e (jy (Zag e e) e e (Zah e e e (gz1 2 e (Zae (Zao (Zal e (fun w hs => .tmp e) (fun w hs => ⟨e, hs.drop⟩)))))))
 refine jy (Zab e) e e (jg_y (fun w hs => Zaj e (ld1B (hs.blkL (i := 0) e) e)) e e (jy (Zbu e e) e e (jy (Zai e e) e e (Zaf e e e (Zat 66 e ?_ ?_)))))
 rotate_left
 ·refine Zaa e e (Zaa e e (Zaa e e (jy (Zag e e) e e (Zaf e e e (Zaa e e (Zaa e e (Zaa e e (jy (Zag e e) e e (Zaf e e e (Zaa e e (Zaa e e (Zaa e e (jy (Zag e e) e e (Zah e e e (gz1 2 e (Zae ?_))))))))))))))))
  refine Zao (Zal e (fun w hs => .tmp e) (fun w hs => ⟨e, hs.drop⟩))
 refine jy (Zab e) e e (jg_y (fun w hs => Zaj e (ld1B (hs.blkL (i := 0) e) e)) e e (jy (ZbP e e) e e (jy (Zai e e) e e (Zaf e e e (Zat 71 e ?_ ?_)))))
 rotate_left
 ·refine Zaa e e (Zaa e e (Zaa e e (jy (Zag e e) e e (Zaf e e e (Zaa e e (Zaa e e (Zaa e e (jy (Zag e e) e e (Zah e e e (gz1 2 e (Zae (Zao (Zal e (fun w hs => .tmp e) (fun w hs => ⟨e, hs.drop⟩))))))))))))))
 refine jy (Zab e) e e (jg_y (fun w hs => Zaj e (ld1B (hs.blkL (i := 0) e) e)) e e (jy (Zbu e e) e e (jy (Zai e e) e e (Zaf e e e (Zat 76 e ?_ ?_)))))
 ·refine jy (Zab e) e e (jg_y (fun w hs => Zaj e (ld1B (hs.blkL (i := 0) e) e)) e e (jy (ZbP e e) e e (jy (Zai e e) e e (Zah e e e (gz1 2 e (Zae (Zao (Zal e (fun w hs => .tmp e) (fun w hs => ⟨e, hs.drop⟩)))))))))
 refine Zaa e e (Zaa e e (Zaa e e (jy (Zag e e) e e (Zah e e e (gz1 2 e (Zae (Zao (Zal e (fun w hs => .tmp e) (fun w hs => ⟨e, hs.drop⟩)))))))))
theorem ZfC {w : World} {a0 : (List Element)} {ha0 : Hd} {v : Int} (hm : ZcI a0 = some v) (Rha0 : Sl w ha0 Element.enc a0) : Gives Try.prog 55 [ha0.v] w (.int .i64 v) := by
 refine ZaS (vs := [ha0.v]) (U := fun (v : Int) => .int .i64 v) Try.func55 e Try.ntmps55 e e hm ?_
 unfold ZcI
 clear hm
 refine Zac (Zad 0 (Zah e e e (gz1 0 e (Zae (Zac (Zar (Zac (Zad 1 (Zaf e e e (jg_y (fun w hs => ZaT e (hs.arg Rha0)) e e (jy (Zbc e e) e e (Zah e e e (gz2 0 13 e (Zae (Zan e ?_ ?_)))))))))))))))
 ·refine Zac (Zad 2 (Zah e e e (gz1 2 e (Zae (Zao (ZaA (Zau ?_)))))))
  exact Zal e (fun w hs => .tmp e) (fun w hs => ⟨e, hs.drop⟩)
 refine Zac (Zad 3 (Zaf e e e (jg_y (fun w hs => ZaT e (hs.arg Rha0)) e e (jy (ZaR e e) e e (Zah e e e (gz2 0 17 e (Zae (Zan e ?_ ?_))))))))
 ·refine Zac (Zad 4 (Zah e e e (gz1 2 e (Zae (Zao (ZaA (Zau ?_)))))))
  exact Zal e (fun w hs => .tmp e) (fun w hs => ⟨e, hs.drop⟩)
 refine Zam (ZaN (Zae ?_))
 refine Zac (Zad 5 (ZjD (kv := kvZ) e e fun g1 => Zah e e e (gz2 0 3 e (Zae (Zac (Zad 6 (ZjD (kv := LayoutPlace.kv) e e fun g2 => Zah e e e (gz3 0 3 4 e (Zae (Zac (Zad 7 (Zaf e e e (jg_y (fun w hs => ZaT e (hs.arg Rha0)) e e (jg_make (n := (a0.length : Int)) (enc := encI) ?_ ?_ ?_ ?_ ?_ ?_ fun y3 hd4 => ?_))))))))))))))
 ·rfl
 ·rfl
 ·rfl
 ·rfl
 ·rfl
 ·rfl
 refine Zah e e e (gz4 0 3 4 5 e (Zae (Zac (Zad 8 (Zah e e e (gz5 0 3 4 5 6 e (Zae (Za6 (fun (s : ((List Int) × Int)) (g : Unit) => [(0, ha0.v), (5, hd4.v), (6, .int .i64 s.2)]) (fun (s : ((List Int) × Int)) (g : Unit) => []) (fun (s : ((List Int) × Int)) (g : Unit) => [(rowH hd4 3 1 encI s.1)]) ?_ ?_))))))))
 ·intro z5 q6
  refine Zac (Zac (Zad 29 (Zaf e e e (jg_y (fun w hs => ZaT e (hs.arg Rha0)) e e (Zaf e e e (gz5 5 6 103 104 105 e (Zae (Zar (Zbi (n := big) (fun (s : Int) (g : Unit) => [(5, hd4.v), (6, .int .i64 z5.2), (103, ha0.v), (104, .int .i64 (a0.length : Int)), (105, .int .i64 s)]) (fun (s : Int) (g : Unit) => []) (fun (s : Int) (g : Unit) => [(rowH hd4 3 1 encI z5.1)]) 0 () [0] ⟨e, e, e, e, e, trivial⟩ e e e ?_)))))))))
  intro z9 q10 n13 k11 H12
  refine Zac (Zad 30 (jy (ZaB e e) e e (gz6 5 6 103 104 105 106 e (Zae (Zac (Zan e ?_ ?_))))))
  rotate_left
  ·refine ZaG (Zba (Zbe (Zbb (Zae ?_))))
   refine Zac (Zac (Zad 35 (Zaf e e e (jy (Zbc e e) e e (gz1 134 e (Zae (Zan e ?_ ?_)))))))
   ·refine Zac (Zad 36 (Zah e e e (gz1 2 e (Zae (Zao (Zau (Zal e (fun w hs => .tmp e) (fun w hs => ⟨e, hs.drop⟩))))))))
   refine Zam (Zae (Zac (Zad 37 (Zah e e e (gz1 2 e (Zae (Zao (Zal e (fun w hs => .tmp e) (fun w hs => ⟨e, hs.drop⟩)))))))))
  refine Zam (Zae (Zac (Zar (Zac (Zad 31 (Zaf e e e (Za1 fun x14 h15 => jg_y (fun w hs => ZaD e e (hs.arg Rha0) h15) e e (jg_y (fun w hs => ZbH e (hs.arg Rha0) h15.1 (l8 e) e) e e (ZaL (l8 e) e e fun g16 => Zah e e e (Zax 0 e e e (l8 e) e e e e (l8 e) (r2 e) (gz7 5 6 11 12 103 104 105 e (Zae (Zac (Zad 32 ?_))))))))))))))
  refine jy (Zab e) e e (jg_y (fun w hs => Zaj e (ld1B (hs.blkL (i := 0) e) e)) e e (jy (ZaR e e) e e (Zaf e e e (Zat 113 e ?_ ?_))))
  rotate_left
  ·refine Zaa e e (Zaa e e (Zaa e e (Zaa e e (Zaa e e (jy (Zag e e) e e (Zaf e e e (jy (Zab e) e e (jg_y (fun w hs => Zaj e (ld1B (hs.blkL (i := 0) e) e)) e e (jy (Zbj e e) e e (Zaf e e e (Zat 124 e ?_ ?_)))))))))))
   rotate_left
   ·refine Zaa e e (Zaa e e (Zaa e e (Zaa e e (Zaa e e (jy (Zag e e) e e (jy (Zag e e) e e (gz6 5 6 103 104 105 131 e (Zae (Zdt e (Zam (ZaN (Zae ?_))))))))))))
    refine Zad 34 (jy (Zap e e) e e (Zaf e e e (gz5 5 6 103 104 105 e (Zav H12 (w64 (z9 + 1)) () [1] ⟨e, e, e, e, e, trivial⟩ e e e))))
   refine Zaf e e e (Zaf e e e (Za1 fun x21 h22 => jg_y (fun w hs => ZaD e e (hs.row 1 e) h22) e e (jg_y (fun w hs => ZaK e (hs.row 1 e) h22.1 e) e e (jy (ZaB e e) e e (jy (Zai e e) e e (jy (Zag e e) e e (gz6 5 6 103 104 105 131 e (Zae (Zan e ?_ ?_)))))))))
   rotate_left
   ·refine Zam (ZaN (Zae ?_))
    refine Zad 34 (jy (Zap e e) e e (Zaf e e e (gz5 5 6 103 104 105 e (Zav H12 (w64 (z9 + 1)) () [1] ⟨e, e, e, e, e, trivial⟩ e e e))))
   refine Zac (Zad 33 (Zah e e e (gz1 2 e (ZaF (is := []) (s0 e) e (Zae (Zao (ZaA (Zau (Za0 (ZaA (Zau ?_)))))))))))
   exact Zal e (fun w hs => .tmp e) (fun w hs => ⟨e, hs.drop⟩)
  refine Zaf e e e (Zaf e e e (Za1 fun x17 h18 => jg_y (fun w hs => ZaD e e (hs.row 1 e) h18) e e (jg_y (fun w hs => ZaK e (hs.row 1 e) h18.1 e) e e (jy (ZaB e e) e e (jy (Zai e e) e e (Zaf e e e (Zat 120 e ?_ ?_)))))))
  ·refine Zaa e e (Zaa e e (Zaa e e (Zaa e e (Zaa e e (Zaa e e (Zaa e e (Zaa e e (Zaa e e (Zaa e e (jy (Zai e e) e e (gz6 5 6 103 104 105 131 e (Zae (Zbf e (Zac (Zad 33 (Zah e e e ?_))))))))))))))))
   refine gz1 2 e (ZaF (is := []) (s0 e) e (Zae (Zao (ZaA (Zau (Za0 (ZaA (Zau ?_))))))))
   exact Zal e (fun w hs => .tmp e) (fun w hs => ⟨e, hs.drop⟩)
  refine jy (Zab e) e e (jg_y (fun w hs => Zaj e (ld1B (hs.blkL (i := 0) e) e)) e e (jy (Zbj e e) e e (Zaf e e e (Zat 124 e ?_ ?_))))
  rotate_left
  ·refine Zaa e e (Zaa e e (Zaa e e (Zaa e e (Zaa e e (jy (Zag e e) e e (jy (Zag e e) e e (gz6 5 6 103 104 105 131 e (Zae (Zdt e (Zam (ZaN (Zae ?_))))))))))))
   refine Zad 34 (jy (Zap e e) e e (Zaf e e e (gz5 5 6 103 104 105 e (Zav H12 (w64 (z9 + 1)) () [1] ⟨e, e, e, e, e, trivial⟩ e e e))))
  refine Zaf e e e (Zaf e e e (Za1 fun x19 h20 => jg_y (fun w hs => ZaD e e (hs.row 1 e) h20) e e (jg_y (fun w hs => ZaK e (hs.row 1 e) h20.1 e) e e (jy (ZaB e e) e e (jy (Zai e e) e e (jy (Zag e e) e e (gz6 5 6 103 104 105 131 e (Zae (Zan e ?_ ?_)))))))))
  rotate_left
  ·refine Zam (ZaN (Zae ?_))
   refine Zad 34 (jy (Zap e e) e e (Zaf e e e (gz5 5 6 103 104 105 e (Zav H12 (w64 (z9 + 1)) () [1] ⟨e, e, e, e, e, trivial⟩ e e e))))
  refine Zac (Zad 33 (Zah e e e (gz1 2 e (ZaF (is := []) (s0 e) e (Zae (Zao (ZaA (Zau (Za0 (ZaA (Zau ?_)))))))))))
  exact Zal e (fun w hs => .tmp e) (fun w hs => ⟨e, hs.drop⟩)
 intro k7 H8
 refine Zac (Zad 9 (Zaf e e e (jg_y (fun w hs => ZaT e (hs.arg Rha0)) e e (Zaf e e e (gz8 0 3 4 5 6 26 27 28 e (Zae (Zar (Zbi (n := big) (fun (s : ((List ByteArray) × (List LayoutPlace) × (List Int) × Int × Int)) (g : Unit) => [(0, ha0.v), (3, .map (some g1)), (4, .map (some g2)), (5, hd4.v), (6, .int .i64 s.2.2.2.1), (26, ha0.v), (27, .int .i64 (a0.length : Int)), (28, .int .i64 s.2.2.2.2)]) (fun (s : ((List ByteArray) × (List LayoutPlace) × (List Int) × Int × Int)) (g : Unit) => []) (fun (s : ((List ByteArray) × (List LayoutPlace) × (List Int) × Int × Int)) (g : Unit) => [(Res.obj g1 (mapO kvZ s.1)), (Res.obj g2 (mapO LayoutPlace.kv s.2.1)), (rowH hd4 3 1 encI s.2.2.1)]) (([] : List ByteArray), ([] : List LayoutPlace), y3, 0, 0) () [2, 1, 0] ⟨e, e, e, e, e, e, e, e, trivial⟩ e e e ?_))))))))
 intro z23 q24 n27 k25 H26
 refine Zac (Zad 10 (jy (ZaB e e) e e (gz9 0 3 4 5 6 26 27 28 29 e (Zae (Zac (Zan e ?_ ?_))))))
 rotate_left
 ·refine ZaG (Zba (Zbe (Zbb ?_)))
  exact Zav H8 (z23.2.2.1, z23.2.2.2.1) () [2] ⟨e, e, e, trivial⟩ e e e
 refine Zam (Zae (Zac (Zar (Zac (Zad 11 (Zaf e e e (Za1 fun x28 h29 => jg_y (fun w hs => ZaD e e (hs.arg Rha0) h29) e e (jg_y (fun w hs => ZbH e (hs.arg Rha0) h29.1 (l8 e) e) e e (ZaL (l8 e) e e fun g30 => Zah e e e (Zax 0 e e e (l8 e) e e e e (l8 e) (r4 e) (gz10 0 3 4 5 6 7 8 26 27 28 e (Zae (Zac (Zac ?_))))))))))))))
 refine Zad 12 (jg_y (fun w hs => Zaj e (ldBB (hs.blkL (i := 0) e) e)) e e (Zbg e (fun v w hs hm => ZfB (a0 := x28) hm ) e e fun v31 => jy (Zbk e) e e (Zaf e e e (Zat 36 e ?_ ?_))))
 ·refine Zaa e e (Zaa e e (Zaa e e (Zaa e e (Zaa e e (Zaa e e (jy (Zai e e) e e (gz11 0 3 4 5 6 7 8 26 27 28 43 e (Zae (Zbf e (Zac (Zad 13 (Zah e e e (gz1 2 e (ZaF (is := []) (s0 e) e (Zae (Zao ?_))))))))))))))))
  refine Zau (ZaA (Zau (Za0 (ZaA (Zau ?_)))))
  exact Zal e (fun w hs => .tmp e) (fun w hs => ⟨e, hs.drop⟩)
 refine jy (Zab e) e e (jg_y (fun w hs => Zaj e (ld1B (hs.blkL (i := 0) e) e)) e e (jy (ZaR e e) e e (Zaf e e e (jy (ZaR e e) e e (jy (ZeT Try.underlying4 e e) e e (jy (Zag e e) e e (gz11 0 3 4 5 6 7 8 26 27 28 43 e (Zae (Zan e ?_ ?_)))))))))
 ·refine Zac (Zad 13 (Zah e e e (gz1 2 e (ZaF (is := []) (s0 e) e (Zae (Zao (Zau (ZaA (Zau (Za0 (ZaA (Zau ?_))))))))))))
  exact Zal e (fun w hs => .tmp e) (fun w hs => ⟨e, hs.drop⟩)
 refine Zam (Zae (Zac (Zac (Zad 14 (Zaf e e e (jy (Zab e) e e (jg_y (fun w hs => Zaj e (ld1B (hs.blkL (i := 0) e) e)) e e (jg_y (fun w hs => ZeV (kv := kvZ) (k := x28.Name) e e (hs.mapL (i := 1) e)) e e (gz11 0 3 4 5 6 7 8 26 27 28 47 e (Zae (Zan e ?_ ?_)))))))))))
 ·refine Zac (Zad 15 (Zah e e e (gz1 2 e (ZaF (is := []) (s0 e) e (Zae (Zao (Zau (ZaA (Zau (Za0 (ZaA (Zau ?_))))))))))))
  exact Zal e (fun w hs => .tmp e) (fun w hs => ⟨e, hs.drop⟩)
 refine Zam (Zae (Zac (Zad 16 (Zaf e e e (jy (Zab e) e e (jg_y (fun w hs => Zaj e (ld1B (hs.blkL (i := 0) e) e)) e e (Zfk 1 (kv := kvZ) (k := x28.Name) e e e e e fun y32 => jg_L (r4 e) (gz10 0 3 4 5 6 7 8 26 27 28 e (Zae (Zac (Zac (Zad 17 (Zaf e e e (jy (ZaR e e) e e (gz11 0 3 4 5 6 7 8 26 27 28 52 e ?_)))))))))))))))
 refine Zae (Zan e ?_ ?_)
 ·refine ZaG (Zba (Zbb (Zae ?_)))
  refine Zad 28 (jy (Zap e e) e e (Zaf e e e (gz8 0 3 4 5 6 26 27 28 e (Zav H26 (y32, z23.2.1, z23.2.2.1, z23.2.2.2.1, w64 (z23.2.2.2.2 + 1)) () [1, 2, 3] ⟨e, e, e, e, e, e, e, e, trivial⟩ e e e))))
 refine Zam (Zae (Zac (Zac (Zad 18 (jy (Zab e) e e (jg_y (fun w hs => Zaj e (ld1B (hs.blkL (i := 0) e) e)) e e (jy (ZaB e e) e e (Zaf e e e (Zat 56 e ?_ ?_)))))))))
 ·refine Zaa e e (Zaa e e (Zaa e e (Zaa e e (jy (Zai e e) e e (gz10 0 3 4 5 6 8 26 27 28 61 e (Zae (Zbf e (Zac (Zad 19 (Zah e e e (gz1 2 e (ZaF (is := []) (s0 e) e (Zae (Zao (Zau (ZaA (Zau (Za0 (ZaA (Zau ?_))))))))))))))))))))
  exact Zal e (fun w hs => .tmp e) (fun w hs => ⟨e, hs.drop⟩)
 refine jy (Zab e) e e (jg_y (fun w hs => Zaj e (ld1B (hs.blkL (i := 0) e) e)) e e (Zaf e e e (jy (Zbu e e) e e (jy (Zag e e) e e (gz10 0 3 4 5 6 8 26 27 28 61 e (Zae (Zan e ?_ ?_)))))))
 ·refine Zac (Zad 19 (Zah e e e (gz1 2 e (ZaF (is := []) (s0 e) e (Zae (Zao (Zau (ZaA (Zau (Za0 (ZaA (Zau ?_))))))))))))
  exact Zal e (fun w hs => .tmp e) (fun w hs => ⟨e, hs.drop⟩)
 refine Zam (Zae (Zac (Zad 20 (Zaf e e e (jy (Zab e) e e (jg_y (fun w hs => Zaj e (ld1B (hs.blkL (i := 0) e) e)) e e (Za1 fun x33 h34 => jg_y (fun w hs => ZaD e e (hs.arg Rha0) h34) e e (jg_y (fun w hs => ZaX e (hs.arg Rha0) h34.1) e e (jg_y (fun w hs => ZaK e (hs.arg Rha0) h34.1 e) e e (Zah e e e (gz10 0 3 4 5 6 8 9 26 27 28 e (Zae (Zac (Zad 21 (jy (Zab e) e e ?_)))))))))))))))
 refine jg_y (fun w hs => Zaj e (ld1B (hs.blkL (i := 0) e) e)) e e (jy (Zab e) e e (jg_y (fun w hs => Zaj e (ld1B (hs.blkL (i := 0) e) e)) e e (jy (ZaY e (o2 e)) e e (ZaL (l2 e) e e fun g35 => Zax 0 e e e (l2 e) e e e e (l2 e) (r5 e) (gz11 0 3 4 5 6 8 9 10 26 27 28 e (Zae (Zac (Zac (Zad 22 (Zaf e e e (jy (ZaR e e) e e (Zaf e e e (Zat 75 e ?_ ?_)))))))))))))
 ·refine Zaa e e (Zaa e e (Zaa e e (Zaa e e (Zaa e e (Zaa e e (jy (Zai e e) e e (Zaf e e e (Zaa e e (Zaa e e (Zaa e e (jy (Zai e e) e e (gz11 0 3 4 5 6 8 10 26 27 28 87 e (Zae (Zbf e (Zac (Zad 23 ?_))))))))))))))))
  refine Zah e e e (gz1 2 e (ZaF (is := []) (s0 e) e (Zae (Zao (Zau (ZaA (Zau (Za0 (ZaA (Zau ?_))))))))))
  exact Zal e (fun w hs => .tmp e) (fun w hs => ⟨e, hs.drop⟩)
 refine Zaf e e e (jy (ZaR e e) e e (jy (Zab e) e e (jg_y (fun w hs => Zaj e (ld1B (hs.blkL (i := 1) e) e)) e e (jy (Zbj e e) e e (jy (ZeT Try.underlying4 e e) e e (jy (Zag e e) e e (Zaf e e e (Zat 83 e ?_ ?_))))))))
 ·refine Zaa e e (Zaa e e (Zaa e e (jy (Zai e e) e e (gz11 0 3 4 5 6 8 10 26 27 28 87 e (Zae (Zbf e (Zac (Zad 23 (Zah e e e (gz1 2 e (ZaF (is := []) (s0 e) e (Zae (Zao (Zau (ZaA (Zau (Za0 (ZaA (Zau ?_)))))))))))))))))))
  exact Zal e (fun w hs => .tmp e) (fun w hs => ⟨e, hs.drop⟩)
 refine Zaf e e e (jg_y (fun w hs => Zaj e (ldBB (hs.blkL (i := 0) e) e)) e e (jg_y (fun w hs => ZeV (kv := LayoutPlace.kv) (k := (LayoutPlace.mk x28.Parent x28.Side)) e e (hs.mapL (i := 3) e)) e e (jy (Zag e e) e e (gz11 0 3 4 5 6 8 10 26 27 28 87 e (Zae (Zan e ?_ ?_))))))
 ·refine Zac (Zad 23 (Zah e e e (gz1 2 e (ZaF (is := []) (s0 e) e (Zae (Zao (Zau (ZaA (Zau (Za0 (ZaA (Zau ?_))))))))))))
  exact Zal e (fun w hs => .tmp e) (fun w hs => ⟨e, hs.drop⟩)
 refine Zam (Zae (Zac (Zad 24 (Zaf e e e (jg_y (fun w hs => Zaj e (ldBB (hs.blkL (i := 0) e) e)) e e (Zfk 3 (kv := LayoutPlace.kv) (k := (LayoutPlace.mk x28.Parent x28.Side)) e e e e e fun y36 => jg_L (r5 e) (gz9 0 3 4 5 6 8 26 27 28 e (Zae (Zac (Zad 25 (Zaf e e e (jy (Zab e) e e (jg_y (fun w hs => Zaj e (ld1B (hs.blkL (i := 1) e) e)) e e (Za1 fun x37 h38 => jg_y (fun w hs => ZaD e e (hs.row 4 e) h38) e e ?_))))))))))))))
 refine jg_y (fun w hs => ZaK e (hs.row 4 e) h38.1 e) e e (jy (Zap e e) e e (Za1 fun x39 h40 => jg_y (fun w hs => ZaD e e (hs.row 4 e) h40) e e (Zc5 4 (a' := w64 (x37 + 1)) e e h40.1 e (l1 e) e e e e fun y41 => jg_L (r5 e) (gz9 0 3 4 5 6 8 26 27 28 e (Zae (Zac (Zad 26 (jy (Zab e) e e (jg_y (fun w hs => Zaj e (ld1B (hs.blkL (i := 1) e) e)) e e (jy (ZaR e e) e e (gz9 0 3 4 5 6 26 27 28 99 e (ZaF (is := [2, 3, 4]) (s3 e) e (Zae (Zan e ?_ ?_))))))))))))))
 rotate_left
 ·refine Zam (ZaN (Zae ?_))
  refine Zad 28 (jy (Zap e e) e e (Zaf e e e (gz8 0 3 4 5 6 26 27 28 e (Zav H26 (y32, y36, y41, z23.2.2.2.1, w64 (z23.2.2.2.2 + 1)) () [0, 1, 2] ⟨e, e, e, e, e, e, e, e, trivial⟩ e e e))))
 refine Zad 27 (Zaf e e e (jy (Zap e e) e e (Zah e e e (gz8 0 3 4 5 6 26 27 28 e (ZaN (Zae ?_))))))
 refine Zad 28 (jy (Zap e e) e e (Zaf e e e (gz8 0 3 4 5 6 26 27 28 e (Zav H26 (y32, y36, y41, w64 (z23.2.2.2.1 + 1), w64 (z23.2.2.2.2 + 1)) () [0, 1, 2] ⟨e, e, e, e, e, e, e, e, trivial⟩ e e e))))
theorem Zcw {w : World} {a0 : Int} {a1 : Int} {a2 : Int}  {v : Bool} (hm : Zcx a0 a1 a2 = some v) : Gives Try.prog 56 [.int .i64 a0, .int .i64 a1, .int .i64 a2] w (.bool v) := by
 refine ZaS (vs := [.int .i64 a0, .int .i64 a1, .int .i64 a2]) (U := fun (v : Bool) => .bool v) Try.func56 e Try.ntmps56 e e hm ?_
 unfold Zcx
 clear hm
 refine Zac (Zad 0 (Zah e e e (gz3 0 1 2 e (Zae (Zac (Zad 1 (Zaf e e e (Zaf e e e (jy (Zbu e e) e e (Zaf e e e (Zat 10 e ?_ ?_)))))))))))
 ·refine Zaf e e e (Zaf e e e (jy (ZbP e e) e e (jy (Zai e e) e e (Zah e e e (gz1 6 e (Zae (Zao (Zal e (fun w hs => .tmp e) (fun w hs => ⟨e, hs.drop⟩)))))))))
 refine Zaa e e (Zaa e e (Zaa e e (jy (Zag e e) e e (Zah e e e (gz1 6 e (Zae (Zao (Zal e (fun w hs => .tmp e) (fun w hs => ⟨e, hs.drop⟩)))))))))
theorem ZdZ {w : World} {a0 : (List Element)} {a1 : Int} {a2 : Int} {ha0 : Hd} {v : Bool} (hm : Zc7 a0 a1 a2 = some v) (Rha0 : Sl w ha0 Element.enc a0) : Gives Try.prog 57 [ha0.v, .int .i64 a1, .int .i64 a2] w (.bool v) := by
 refine ZaS (vs := [ha0.v, .int .i64 a1, .int .i64 a2]) (U := fun (v : Bool) => .bool v) Try.func57 e Try.ntmps57 e e hm ?_
 unfold Zc7
 clear hm
 refine Zac (Zad 0 (Zah e e e (gz3 0 1 2 e (Zae (Zac (Zad 1 (Zaf e e e (Zaf e e e (jg_y (fun w hs => ZaT e (hs.arg Rha0)) e e (jy (ZaW e e) e e (Zbg e (fun v w hs hm => Zcw hm ) e e fun v1 => Zaf e e e (Zat 12 e ?_ ?_))))))))))))
 rotate_left
 ·refine Zaa e e (Zaa e e (Zaa e e (Zaa e e (Zaa e e (Zaa e e (Zaa e e (jy (Zag e e) e e (Zah e e e (gz1 6 e (Zae (Zao (Zal e (fun w hs => .tmp e) (fun w hs => ⟨e, hs.drop⟩)))))))))))))
 refine Zaf e e e (Zaf e e e (Za1 fun x2 h3 => jg_y (fun w hs => ZaD e e (hs.arg Rha0) h3) e e (jg_y (fun w hs => ZaX e (hs.arg Rha0) h3.1) e e (jg_y (fun w hs => ZaK e (hs.arg Rha0) h3.1 e) e e (Zaf e e e (jy (ZaR e e) e e (jy (Zai e e) e e (Zah e e e (gz1 6 e (Zae (Zao (Zal e (fun w hs => .tmp e) (fun w hs => ⟨e, hs.drop⟩)))))))))))))
theorem Zfr {w : World} {a0 : Int}  {v : Bool} (hm : Zdl a0 = some v) : Gives Try.prog 58 [.int .i64 a0] w (.bool v) := by
 refine ZaS (vs := [.int .i64 a0]) (U := fun (v : Bool) => .bool v) Try.func58 e Try.ntmps58 e e hm ?_
 unfold Zdl
 clear hm
 refine Zac (Zad 0 (Zah e e e (gz1 0 e (Zae (Zac (Zad 1 (Zaf e e e (jy (ZaR e e) e e (Zaf e e e (Zat 5 e ?_ ?_))))))))))
 ·refine Zaa e e (Zaa e e (jy (Zai e e) e e (Zah e e e (gz1 2 e (Zae (Zao (Zal e (fun w hs => .tmp e) (fun w hs => ⟨e, hs.drop⟩))))))))
 refine Zaf e e e (jy (ZaR e e) e e (jy (Zag e e) e e (Zah e e e (gz1 2 e (Zae (Zao (Zal e (fun w hs => .tmp e) (fun w hs => ⟨e, hs.drop⟩))))))))
theorem Zfq {w : World} {a0 : (List Element)} {ha0 : Hd} {v : Int} (hm : Zcv a0 = some v) (Rha0 : Sl w ha0 Element.enc a0) : Gives Try.prog 59 [ha0.v] w (.int .i64 v) := by
 refine ZaS (vs := [ha0.v]) (U := fun (v : Int) => .int .i64 v) Try.func59 e Try.ntmps59 e e hm ?_
 unfold Zcv
 clear hm
 refine Zac (Zad 0 (Zah e e e (gz1 0 e (Zae (Zac (Zad 1 (Zah e e e (gz2 0 3 e (Zae (Zac (Zac (Zad 2 (Zaf e e e (jg_y (fun w hs => ZaT e (hs.arg Rha0)) e e (Zaf e e e (gz4 3 6 7 8 e ?_))))))))))))))))
 refine Zae (Zar (Zbi (n := big) (fun (s : (Int × Int)) (g : Unit) => [(3, .int .i64 s.1), (6, ha0.v), (7, .int .i64 (a0.length : Int)), (8, .int .i64 s.2)]) (fun (s : (Int × Int)) (g : Unit) => []) (fun (s : (Int × Int)) (g : Unit) => []) (1000000, 0) () [] ⟨e, e, e, e, trivial⟩ e e e ?_))
 intro z1 q2 n5 k3 H4
 refine Zac (Zad 3 (jy (ZaB e e) e e (gz5 3 6 7 8 9 e (Zae (Zac (Zan e ?_ ?_))))))
 rotate_left
 ·refine ZaG (Zba (Zbe (Zbb (Zae ?_))))
  refine Zac (Zad 8 (Zaf e e e (Zah e e e (gz1 2 e (Zae (Zao (Zal e (fun w hs => .tmp e) (fun w hs => ⟨e, hs.drop⟩))))))))
 refine Zam (Zae (Zac (Zar (Zac (Zad 4 (Za1 fun x6 h7 => jg_y (fun w hs => ZaD e e (hs.arg Rha0) h7) e e (jg_y (fun w hs => ZbH e (hs.arg Rha0) h7.1 (l8 e) e) e e (ZaL (l8 e) e e fun g8 => Zax 0 e e e (l8 e) e e e e (l8 e) (r1 e) (gz5 3 5 6 7 8 e (Zae (Zac (Zad 5 (jy (Zab e) e e (jg_y (fun w hs => Zaj e (ld1B (hs.blkL (i := 0) e) e)) e e ?_))))))))))))))
 refine jy (ZaR e e) e e (gz6 3 5 6 7 8 14 e (Zae (Zan e ?_ ?_)))
 rotate_left
 ·refine Zam (ZaN (Zae ?_))
  refine Zad 7 (jy (Zap e e) e e (Zaf e e e (gz4 3 6 7 8 e (Zav H4 (z1.1, w64 (z1.2 + 1)) () [] ⟨e, e, e, e, trivial⟩ e e e))))
 refine Zad 6 (Zaf e e e (jy (Zab e) e e (jg_y (fun w hs => Zaj e (ld1B (hs.blkL (i := 0) e) e)) e e (jy (Zd3 e e) e e (Zah e e e (gz4 3 6 7 8 e (ZaN (Zae ?_))))))))
 refine Zad 7 (jy (Zap e e) e e (Zaf e e e (gz4 3 6 7 8 e (Zav H4 (min z1.1 x6.Length, w64 (z1.2 + 1)) () [] ⟨e, e, e, e, trivial⟩ e e e))))
theorem ZfD {w : World} {a0 : (List Element)} {a1 : Rolling} {a2 : Int} {ha0 : Hd} {ha1_Resist : Hd} {ha1_Targets : Hd} {v : Bool} (hm : ZcK a0 a1 a2 = some v) (Rha0 : Sl w ha0 Element.enc a0) (Rha1_Resist : Sl w ha1_Resist encI a1.Resist) (Rha1_Targets : Sl w ha1_Targets encI a1.Targets) : Gives Try.prog 60 [ha0.v, .agg #[.int .i64 a1.Release, .int .i64 a1.Length, .int .i64 a1.Track, .int .i64 a1.Speed, ha1_Resist.v, ha1_Targets.v], .int .i64 a2] w (.bool v) := by
 refine ZaS (vs := [ha0.v, .agg #[.int .i64 a1.Release, .int .i64 a1.Length, .int .i64 a1.Track, .int .i64 a1.Speed, ha1_Resist.v, ha1_Targets.v], .int .i64 a2]) (U := fun (v : Bool) => .bool v) Try.func60 e Try.ntmps60 e e hm ?_
 unfold ZcK
 clear hm
 refine Zac (Zad 0 (ZbF e (l6 e) e e fun g1 => Zah e e e (gz3 0 2 4 e (Zae (Zac (Zac (Zad 1 (jy (Zab e) e e (jg_y (fun w hs => Zaj e (ld1B (hs.blkL (i := 0) e) e)) e e (Zbg e (fun v w hs hm => Zcw hm ) e e fun v2 => jy (Zbk e) e e (Zaf e e e (Zat 12 e ?_ ?_))))))))))))
 ·refine Zaa e e (Zaa e e (Zaa e e (Zaa e e (Zaa e e (jy (Zai e e) e e (Zaf e e e (Zaa e e (Zaa e e (Zaa e e (Zaa e e (Zaa e e (jy (Zai e e) e e (Zaf e e e (Zaa e e (Zaa e e (Zaa e e ?_))))))))))))))))
  refine Zaa e e (jy (Zai e e) e e (Zaf e e e (Zaa e e (Zaa e e (Zaa e e (Zaa e e (Zaa e e (Zaa e e (jy (Zai e e) e e (Zaf e e e (Zaa e e (Zaa e e (Zaa e e (Zaa e e (Zaa e e (Zaa e e ?_))))))))))))))))
  refine jy (Zai e e) e e (gz3 0 4 47 e (Zae (Zbf e (Zac (Zad 2 (Zah e e e (gz1 6 e (Zae (Zao (Zau (Zal e (fun w hs => .tmp e) (fun w hs => ⟨e, hs.drop⟩))))))))))))
 refine jy (Zab e) e e (jg_y (fun w hs => Zaj e (ld1B (hs.blkL (i := 0) e) e)) e e (Zaf e e e (Zbg e (fun v w hs hm => Zcw hm ) e e fun v3 => jy (Zbk e) e e (jy (Zag e e) e e (Zaf e e e (Zat 19 e ?_ ?_))))))
 ·refine Zaa e e (Zaa e e (Zaa e e (Zaa e e (Zaa e e (jy (Zai e e) e e (Zaf e e e (Zaa e e (Zaa e e (Zaa e e (Zaa e e (jy (Zai e e) e e (Zaf e e e (Zaa e e (Zaa e e (Zaa e e (Zaa e e ?_))))))))))))))))
  refine Zaa e e (Zaa e e (jy (Zai e e) e e (Zaf e e e (Zaa e e (Zaa e e (Zaa e e (Zaa e e (Zaa e e (Zaa e e (jy (Zai e e) e e (gz3 0 4 47 e (Zae (Zbf e (Zac (Zad 2 (Zah e e e ?_))))))))))))))))
  refine gz1 6 e (Zae (Zao (Zau (Zal e (fun w hs => .tmp e) (fun w hs => ⟨e, hs.drop⟩)))))
 refine Zaf e e e (jy (Zab e) e e (jg_y (fun w hs => Zaj e (ld1B (hs.blkL (i := 0) e) e)) e e (Zbg e (fun v w hs hm => ZdZ hm (hs.arg Rha0)) e e fun v4 => jy (Zbk e) e e (jy (Zag e e) e e (Zaf e e e (Zat 26 e ?_ ?_))))))
 ·refine Zaa e e (Zaa e e (Zaa e e (Zaa e e (jy (Zai e e) e e (Zaf e e e (Zaa e e (Zaa e e (Zaa e e (Zaa e e (Zaa e e (Zaa e e (jy (Zai e e) e e (Zaf e e e (Zaa e e (Zaa e e (Zaa e e ?_))))))))))))))))
  refine Zaa e e (Zaa e e (Zaa e e (jy (Zai e e) e e (gz3 0 4 47 e (Zae (Zbf e (Zac (Zad 2 (Zah e e e (gz1 6 e (Zae (Zao (Zau (Zal e (fun w hs => .tmp e) (fun w hs => ⟨e, hs.drop⟩)))))))))))))))
 refine jy (Zab e) e e (jg_y (fun w hs => Zaj e (ld1B (hs.blkL (i := 0) e) e)) e e (Zbg e (fun v w hs hm => Zcw hm ) e e fun v5 => jy (Zbk e) e e (jy (Zag e e) e e (Zaf e e e (Zat 32 e ?_ ?_)))))
 ·refine Zaa e e (Zaa e e (Zaa e e (Zaa e e (Zaa e e (Zaa e e (jy (Zai e e) e e (Zaf e e e (Zaa e e (Zaa e e (Zaa e e (Zaa e e (Zaa e e (Zaa e e (jy (Zai e e) e e (gz3 0 4 47 e (Zae ?_))))))))))))))))
  refine Zbf e (Zac (Zad 2 (Zah e e e (gz1 6 e (Zae (Zao (Zau (Zal e (fun w hs => .tmp e) (fun w hs => ⟨e, hs.drop⟩)))))))))
 refine jy (Zab e) e e (jg_y (fun w hs => Zaj e (ld1B (hs.blkL (i := 0) e) e)) e e (jg_y (fun w hs => ZaT e (hs.arg Rha1_Resist)) e e (Zaf e e e (jg_y (fun w hs => ZaT e (hs.arg Rha0)) e e (jy (Zbj e e) e e (jy (Zag e e) e e (Zaf e e e (Zat 40 e ?_ ?_))))))))
 ·refine Zaa e e (Zaa e e (Zaa e e (Zaa e e (Zaa e e (Zaa e e (jy (Zai e e) e e (gz3 0 4 47 e (Zae (Zbf e (Zac (Zad 2 (Zah e e e (gz1 6 e (Zae (Zao (Zau ?_))))))))))))))))
  exact Zal e (fun w hs => .tmp e) (fun w hs => ⟨e, hs.drop⟩)
 refine jy (Zab e) e e (jg_y (fun w hs => Zaj e (ld1B (hs.blkL (i := 0) e) e)) e e (jg_y (fun w hs => ZaT e (hs.arg Rha1_Targets)) e e (Zaf e e e (jg_y (fun w hs => ZaT e (hs.arg Rha0)) e e (jy (Zbj e e) e e (jy (Zag e e) e e (gz3 0 4 47 e (Zae (Zan e ?_ ?_)))))))))
 ·refine Zac (Zad 2 (Zah e e e (gz1 6 e (Zae (Zao (Zau (Zal e (fun w hs => .tmp e) (fun w hs => ⟨e, hs.drop⟩))))))))
 refine Zam (Zae (Zac (Zac (Zad 3 (Zaf e e e (jg_y (fun w hs => ZaT e (hs.arg Rha0)) e e (Zaf e e e (gz3 4 49 50 e (Zae (Zar (Zbi (n := big) (fun (s : Int) (g : Unit) => [(4, .pointer (some ⟨g1, 0, none⟩)), (49, .int .i64 (a0.length : Int)), (50, .int .i64 s)]) (fun (s : Int) (g : Unit) => []) (fun (s : Int) (g : Unit) => [(Res.blk g1 45 [.int .i64 a1.Release, .int .i64 a1.Length, .int .i64 a1.Track, .int .i64 a1.Speed, ha1_Resist.v, ha1_Targets.v])]) 0 () [0] ⟨e, e, e, trivial⟩ e e e ?_)))))))))))
 intro z6 q7 n10 k8 H9
 refine Zac (Zad 4 (jy (ZaB e e) e e (gz4 4 49 50 51 e (Zae (Zac (Zan e ?_ ?_))))))
 rotate_left
 ·refine ZaG (Zba (Zbe (Zbb (Zae ?_))))
  refine Zac (Zad 9 (Zah e e e (gz1 6 e (Zae (Zao (Zal e (fun w hs => .tmp e) (fun w hs => ⟨e, hs.drop⟩)))))))
 refine Zam (Zae (Zac (Zar (Zac (Zad 5 (Zaf e e e (Zah e e e (gz4 4 7 49 50 e (Zae (Zac (Zad 6 (jy (Zab e) e e (jg_y (fun w hs => Zaj e (ld1B (hs.blkL (i := 0) e) e)) e e (Zaf e e e (Za1 fun x11 h12 => jg_y (fun w hs => ZaD e e (hs.arg Rha1_Resist) h12) e e ?_)))))))))))))))
 refine jg_y (fun w hs => ZaK e (hs.arg Rha1_Resist) h12.1 e) e e (Zbg e (fun v w hs hm => Zcw hm ) e e fun v13 => jy (Zbk e) e e (Zaf e e e (Zat 60 e ?_ ?_)))
 ·refine Zaa e e (Zaa e e (Zaa e e (Zaa e e (Zaa e e (Zaa e e (Zaa e e (jy (Zai e e) e e (gz4 4 49 50 68 e (Zae (Zbf e (Zac (Zad 7 (Zah e e e (gz1 6 e (Zae (Zao ?_))))))))))))))))
  refine ZaA (Zau (Za0 (ZaA (Zau ?_))))
  exact Zal e (fun w hs => .tmp e) (fun w hs => ⟨e, hs.drop⟩)
 refine jy (Zab e) e e (jg_y (fun w hs => Zaj e (ld1B (hs.blkL (i := 0) e) e)) e e (Zaf e e e (Za1 fun x14 h15 => jg_y (fun w hs => ZaD e e (hs.arg Rha1_Targets) h15) e e (jg_y (fun w hs => ZaK e (hs.arg Rha1_Targets) h15.1 e) e e (Zbg e (fun v w hs hm => Zcw hm ) e e fun v16 => jy (Zbk e) e e (jy (Zag e e) e e (gz4 4 49 50 68 e (Zae (Zan e ?_ ?_)))))))))
 rotate_left
 ·refine Zam (ZaN (Zae ?_))
  refine Zad 8 (jy (Zap e e) e e (Zaf e e e (gz3 4 49 50 e (Zav H9 (w64 (z6 + 1)) () [0] ⟨e, e, e, trivial⟩ e e e))))
 refine Zac (Zad 7 (Zah e e e (gz1 6 e (Zae (Zao (ZaA (Zau (Za0 (ZaA (Zau ?_))))))))))
 exact Zal e (fun w hs => .tmp e) (fun w hs => ⟨e, hs.drop⟩)
theorem Zg2 {w : World} {a0 : Scene} {ha0_Elements : Hd} {ha0_Start : Hd} {ha0_Commands : Hd} {ha0_Cuts : Hd} {qa0_Cuts : List (Rolling × (Hd × Hd))} {v : Int} (hm : ZbV a0 = some v) (Rha0_Elements : Sl w ha0_Elements Element.enc a0.Elements) (Rha0_Start : Sl w ha0_Start Throw.enc a0.Start) (Rha0_Commands : Sl w ha0_Commands Command.enc a0.Commands) (eha0_Cuts : qa0_Cuts.map (·.1) = a0.Cuts) (Rha0_Cuts : Sl w ha0_Cuts Nt.enc qa0_Cuts) (Dha0_Cuts : ∀ p ∈ qa0_Cuts, rdN w p) : Gives Try.prog 32 [.agg #[ha0_Elements.v, .int .i64 a0.Throw, ha0_Start.v, ha0_Commands.v, ha0_Cuts.v]] w (.int .i64 v) := by
 refine ZaS (vs := [.agg #[ha0_Elements.v, .int .i64 a0.Throw, ha0_Start.v, ha0_Commands.v, ha0_Cuts.v]]) (U := fun (v : Int) => .int .i64 v) Try.func32 e Try.ntmps32 e e hm ?_
 unfold ZbV
 clear hm
 refine Zac (Zad 0 (ZbF e (l5 e) e e fun g1 => Zah e e e (gz1 1 e (Zae (Zac (Zac (Zad 1 (jy (Zab e) e e (jg_y (fun w hs => Zaj e (ld1B (hs.blkL (i := 0) e) e)) e e (Zbg e (fun v w hs hm => ZfC hm (hs.arg Rha0_Elements)) e e fun v2 => Zah e e e (gz2 1 3 e (Zae (Zac (Zad 2 ?_))))))))))))))
 refine Zaf e e e (jy (Zbj e e) e e (gz3 1 3 16 e (Zae (Zan e ?_ ?_))))
 ·refine Zac (Zad 3 (Zaf e e e (Zah e e e (gz1 2 e (Zae (Zao (Zau (Zal e (fun w hs => .tmp e) (fun w hs => ⟨e, hs.drop⟩)))))))))
 refine Zam (Zae (Zac (Zac (Zad 4 (jy (Zab e) e e (jg_y (fun w hs => Zaj e (ld1B (hs.blkL (i := 0) e) e)) e e (jg_y (fun w hs => ZaT e (hs.arg Rha0_Commands)) e e (jy (Zbc e e) e e (Zaf e e e (Zat 22 e ?_ ?_))))))))))
 ·refine Zaa e e (Zaa e e (Zaa e e (Zaa e e (jy (Zai e e) e e (gz2 1 27 e (Zae (Zbf e (Zac (Zad 5 (Zah e e e (gz1 2 e (Zae (Zao (Zau (Zal e (fun w hs => .tmp e) (fun w hs => ⟨e, hs.drop⟩))))))))))))))))
 refine jy (Zab e) e e (jg_y (fun w hs => Zaj e (ld1B (hs.blkL (i := 0) e) e)) e e (jg_y (fun w hs => Zcq eha0_Cuts e (hs.arg Rha0_Cuts)) e e (jy (Zbc e e) e e (jy (Zag e e) e e (gz2 1 27 e (Zae (Zan e ?_ ?_)))))))
 ·refine Zac (Zad 5 (Zah e e e (gz1 2 e (Zae (Zao (Zau (Zal e (fun w hs => .tmp e) (fun w hs => ⟨e, hs.drop⟩))))))))
 refine Zam (Zae (Zac (Zac (Zad 6 (jy (Zab e) e e (jg_y (fun w hs => Zaj e (ld1B (hs.blkL (i := 0) e) e)) e e (Zbg e (fun v w hs hm => Zcw hm ) e e fun v3 => jy (Zbk e) e e (gz2 1 31 e (Zae (Zan e ?_ ?_))))))))))
 ·refine Zac (Zad 7 (Zah e e e (gz1 2 e (Zae (Zao (Zau (Zal e (fun w hs => .tmp e) (fun w hs => ⟨e, hs.drop⟩))))))))
 refine Zam (Zae (Zac (Zad 8 (ZjD (kv := kvI) e e fun g4 => Zah e e e (gz2 1 4 e (Zae (Za6 (fun (s : Unit) (g : Unit) => [(1, .pointer (some ⟨g1, 0, none⟩))]) (fun (s : Unit) (g : Unit) => []) (fun (s : Unit) (g : Unit) => [(Res.blk g1 30 [ha0_Elements.v, .int .i64 a0.Throw, ha0_Start.v, ha0_Commands.v, ha0_Cuts.v])]) ?_ ?_)))))))
 rotate_left
 ·intro k7 H8
  refine Zac (Zad 9 (jy (Zab e) e e (jg_y (fun w hs => Zaj e (ld1B (hs.blkL (i := 1) e) e)) e e (jg_y (fun w hs => ZaT e (hs.arg Rha0_Start)) e e (Zaf e e e (gz5 1 4 34 35 36 e (Zae (Zar (Zbi (n := big) (fun (s : ((List Int) × Int)) (g : Unit) => [(1, .pointer (some ⟨g1, 0, none⟩)), (4, .map (some g4)), (34, ha0_Start.v), (35, .int .i64 (a0.Start.length : Int)), (36, .int .i64 s.2)]) (fun (s : ((List Int) × Int)) (g : Unit) => []) (fun (s : ((List Int) × Int)) (g : Unit) => [(Res.blk g1 30 [ha0_Elements.v, .int .i64 a0.Throw, ha0_Start.v, ha0_Commands.v, ha0_Cuts.v]), (Res.obj g4 (mapO kvI s.1))]) (([] : List Int), 0) () [1, 0] ⟨e, e, e, e, e, trivial⟩ e e e ?_)))))))))
  intro z44 q45 n48 k46 H47
  refine Zac (Zad 10 (jy (ZaB e e) e e (gz6 1 4 34 35 36 37 e (Zae (Zac (Zan e ?_ ?_))))))
  rotate_left
  ·refine ZaG (Zba (Zbe (Zbb ?_)))
   exact Zav H8 () () [0] ⟨e, trivial⟩ e e e
  refine Zam (Zae (Zac (Zar (Zac (Zad 11 (Za1 fun x49 h50 => jg_y (fun w hs => ZaD e e (hs.arg Rha0_Start) h50) e e (jg_y (fun w hs => ZbH e (hs.arg Rha0_Start) h50.1 (l2 e) e) e e (ZaL (l2 e) e e fun g51 => Zax 0 e e e (l2 e) e e e e (l2 e) (r3 e) (gz6 1 4 6 34 35 36 e (Zae (Zac (Zac (Zad 12 (jy (Zab e) e e ?_))))))))))))))
  refine jg_y (fun w hs => Zaj e (ld1B (hs.blkL (i := 1) e) e)) e e (jy (Zab e) e e (jg_y (fun w hs => Zaj e (ld1B (hs.blkL (i := 0) e) e)) e e (Zbg e (fun v w hs hm => ZdZ hm (hs.arg Rha0_Elements)) e e fun v52 => jy (Zbk e) e e (Zaf e e e (Zat 46 e ?_ ?_)))))
  ·refine Zaa e e (Zaa e e (Zaa e e (Zaa e e (jy (Zai e e) e e (Zaf e e e (Zaa e e (Zaa e e (Zaa e e (Zaa e e (jy (Zai e e) e e (gz7 1 4 6 34 35 36 57 e (Zae (Zbf e (Zac (Zad 13 (Zah e e e ?_))))))))))))))))
   refine gz1 2 e (ZaF (is := []) (s0 e) e (Zae (Zao (Zau (ZaA (Zau (Za0 (ZaA (Zau ?_)))))))))
   exact Zal e (fun w hs => .tmp e) (fun w hs => ⟨e, hs.drop⟩)
  refine Zaf e e e (jy (Zab e) e e (jg_y (fun w hs => Zaj e (ld1B (hs.blkL (i := 0) e) e)) e e (jg_y (fun w hs => ZeV (kv := kvI) (k := x49.Element) e e (hs.mapL (i := 2) e)) e e (jy (Zag e e) e e (Zaf e e e (Zat 52 e ?_ ?_))))))
  ·refine Zaa e e (Zaa e e (Zaa e e (Zaa e e (jy (Zai e e) e e (gz7 1 4 6 34 35 36 57 e (Zae (Zbf e (Zac (Zad 13 (Zah e e e (gz1 2 e (ZaF (is := []) (s0 e) e (Zae (Zao (Zau (ZaA (Zau (Za0 (ZaA (Zau ?_))))))))))))))))))))
   exact Zal e (fun w hs => .tmp e) (fun w hs => ⟨e, hs.drop⟩)
  refine jy (Zab e) e e (jg_y (fun w hs => Zaj e (ld1B (hs.blkL (i := 0) e) e)) e e (Zbg e (fun v w hs hm => Zfr hm ) e e fun v53 => jy (Zbk e) e e (jy (Zag e e) e e (gz7 1 4 6 34 35 36 57 e (Zae (Zan e ?_ ?_))))))
  ·refine Zac (Zad 13 (Zah e e e (gz1 2 e (ZaF (is := []) (s0 e) e (Zae (Zao (Zau (ZaA (Zau (Za0 (ZaA (Zau ?_))))))))))))
   exact Zal e (fun w hs => .tmp e) (fun w hs => ⟨e, hs.drop⟩)
  refine Zam (Zae (Zad 14 (Zaf e e e (jy (Zab e) e e (jg_y (fun w hs => Zaj e (ld1B (hs.blkL (i := 0) e) e)) e e (Zfk 2 (kv := kvI) (k := x49.Element) e e e e e fun y54 => jg_L (r3 e) (gz5 1 4 34 35 36 e (ZaN (Zae ?_)))))))))
  refine Zad 15 (jy (Zap e e) e e (Zaf e e e (gz5 1 4 34 35 36 e (Zav H47 (y54, w64 (z44.2 + 1)) () [1, 2] ⟨e, e, e, e, e, trivial⟩ e e e))))
 intro z5 q6
 refine Za6 (fun (s : Unit) (g : Unit) => [(1, .pointer (some ⟨g1, 0, none⟩))]) (fun (s : Unit) (g : Unit) => []) (fun (s : Unit) (g : Unit) => [(Res.blk g1 30 [ha0_Elements.v, .int .i64 a0.Throw, ha0_Start.v, ha0_Commands.v, ha0_Cuts.v])]) ?_ ?_
 ·intro z9 q10
  refine Zac (Zad 22 (jy (Zab e) e e (jg_y (fun w hs => Zaj e (ld1B (hs.blkL (i := 0) e) e)) e e (Zbg e (fun v w hs hm => Zfq hm (hs.arg Rha0_Elements)) e e fun v13 => Zah e e e (gz2 1 9 e (Zae (Zac (Zac (Zad 23 (jy (Zab e) e e (jg_y (fun w hs => Zaj e (ld1B (hs.blkL (i := 0) e) e)) e e (jg_y (fun w hs => Zcq eha0_Cuts e (hs.arg Rha0_Cuts)) e e (Zaf e e e (gz5 1 9 102 103 104 e (Zae ?_)))))))))))))))
  refine Zar (Zbi (n := big) (fun (s : Int) (g : Unit) => [(1, .pointer (some ⟨g1, 0, none⟩)), (9, .int .i64 v13), (102, ha0_Cuts.v), (103, .int .i64 (a0.Cuts.length : Int)), (104, .int .i64 s)]) (fun (s : Int) (g : Unit) => []) (fun (s : Int) (g : Unit) => [(Res.blk g1 30 [ha0_Elements.v, .int .i64 a0.Throw, ha0_Start.v, ha0_Commands.v, ha0_Cuts.v])]) 0 () [0] ⟨e, e, e, e, e, trivial⟩ e e e ?_)
  intro z14 q15 n18 k16 H17
  refine Zac (Zad 24 (jy (ZaB e e) e e (gz6 1 9 102 103 104 105 e (Zae (Zac (Zan e ?_ ?_))))))
  rotate_left
  ·refine ZaG (Zba (Zbe (Zbb (Zae ?_))))
   refine Zac (Zad 29 (Zah e e e (gz1 2 e (Zae (Zao (Zal e (fun w hs => .tmp e) (fun w hs => ⟨e, hs.drop⟩)))))))
  refine Zam (Zae (Zac (Zar (Zac (Zad 25 (Zaf e e e (Zce (fun w hs => eha0_Cuts) fun x19 d21 h20 => ?_)))))))
  have Rr22 := (Dha0_Cuts _ (List.mem_of_getElem? h20.1)).sl (.head _)
  have Rr23 := (Dha0_Cuts _ (List.mem_of_getElem? h20.1)).sl (.tail _ (.head _))
  refine jg_y (fun w hs => ZaD e e (hs.arg Rha0_Cuts) h20) e e (jg_y (fun w hs => ZbH e (hs.arg Rha0_Cuts) h20.1 (l6 e) e) e e (ZaL (l6 e) e e fun g24 => Zah e e e (Zax 0 e e e (l6 e) e e e e (l6 e) (r2 e) (gz7 1 9 10 11 102 103 104 e (Zae (Zac (ZaV (L' := [_, _]) 26 [0, 1] [0, 1, 2, 3, 4, 5, 6, 7, 8, 9, 10, 11, 12, 13, 14, 15, 16, 17, 18, 19, 20, 21] 4194303 4194303 [0, 1, 0, 0, 14, 16, 48, 64, 192, 320, 512, 1536, 512, 4608, 512, 16896, 41472, 66048, 131584, 264704, 524864, 1048640] [0, 1, 0, 0, 15, 31, 63, 127, 255, 511, 1023, 2047, 1023, 5119, 1023, 17407, 62463, 127999, 259071, 524287, 1048575, 2097151] [(0, true), (1, true), (2, true), (3, true), (4, true), (5, true), (6, true), (7, true), (8, true), (9, true), (10, true), (11, true), (12, true), (13, true), (14, true), (15, true), (16, true), (17, true), (18, true), (19, true), (20, true), (21, true)] e (Zay (ZaE (Zay (Za8 (ZaE (Zay Zbn)))))) (by kernel_rfl) (by kernel_rfl) (by kernel_rfl) (by kernel_rfl) (by kernel_rfl) (by kernel_rfl) (by kernel_rfl) (by kernel_rfl) (jd_y e (fun w hs => Zab e) e e (jd_y e (fun w hs => Zaj e (ld1B (hs.blk (i := 1) e) e)) e e (jd_y e (fun w hs => Zaj e (ldBB (hs.blk (i := 0) e) e)) e e (Zaz e e e e (Zdu e e (fun v w hs hm => ZfD (a1 := x19) hm (hs.arg Rha0_Elements) (hs.arg Rr22) (hs.arg Rr23)) e e fun v25 => jd_y e (fun w hs => Zbk e) e e (Zaz e e e e (ZbJ 115 e ?_ ?_))))))))))))))
  ·refine Zaq e e e (Zaq e e e (Zaq e e e (Zaq e e e (Zaq e e e (Zaq e e e (Zaq e e e (Zaq e e e (Zaq e e e (Zaq e e e (Zaq e e e (Zaq e e e (Zaq e e e (Zaq e e e (jd_y e (fun w hs => Zai e e) e e (Za9 [(1, _), (9, _), (102, _), (103, _), (104, _), (130, _)] ⟨e, e, e, e, e, e, trivial⟩ (Zae ?_))))))))))))))))
   refine Zbf e (Zac (Zad 27 (Zah e e e (gz1 2 e (ZaF (is := []) (s0 e) e (Zae (Zao (ZaA (Zau (Za0 (ZaA (Zau ?_))))))))))))
   exact Zal e (fun w hs => .tmp e) (fun w hs => ⟨e, hs.drop⟩)
  refine Zaz e e e e (jd_y e (fun w hs => Zbc e e) e e (Zaz e e e e (ZbJ 118 e ?_ ?_)))
  rotate_left
  ·refine Zaq e e e (Zaq e e e (Zaq e e e (Zaq e e e (Zaq e e e (Zaq e e e (Zaq e e e (Zaq e e e (Zaq e e e (Zaq e e e (jd_y e (fun w hs => Zag e e) e e (jd_y e (fun w hs => Zag e e) e e (Za9 [(1, _), (9, _), (102, _), (103, _), (104, _), (130, _)] ⟨e, e, e, e, e, e, trivial⟩ (Zae (Zdt e (Zam (ZaN (Zae ?_)))))))))))))))))
   refine Zad 28 (jy (Zap e e) e e (Zaf e e e (gz5 1 9 102 103 104 e (Zav H17 (w64 (z14 + 1)) () [1] ⟨e, e, e, e, e, trivial⟩ e e e))))
  refine jd_y e (fun w hs => Zab e) e e (jd_y e (fun w hs => Zaj e (ld1B (hs.blk (i := 0) e) e)) e e (jd_y e (fun w hs => Zab e) e e (jd_y e (fun w hs => Zaj e (ld1B (hs.blk (i := 1) e) e)) e e (Zaz e e e e (jd_y e (fun w hs => ZaW e e) e e (ZcM (fun w hs => eha0_Cuts) fun x26 d28 h27 => ?_))))))
  have Rr29 := (Dha0_Cuts _ (List.mem_of_getElem? h27.1)).sl (.head _)
  have Rr30 := (Dha0_Cuts _ (List.mem_of_getElem? h27.1)).sl (.tail _ (.head _))
  refine jd_y e (fun w hs => ZaD e e (hs.arg Rha0_Cuts) h27) e e (jd_y e (fun w hs => ZaX e (hs.arg Rha0_Cuts) h27.1) e e (jd_y e (fun w hs => ZaK e (hs.arg Rha0_Cuts) h27.1 e) e e (jd_y e (fun w hs => ZaB e e) e e (jd_y e (fun w hs => Zai e e) e e (jd_y e (fun w hs => Zag e e) e e (Za9 [(1, _), (9, _), (102, _), (103, _), (104, _), (130, _)] ⟨e, e, e, e, e, e, trivial⟩ (Zae (Zan e ?_ ?_))))))))
  rotate_left
  ·refine Zam (ZaN (Zae ?_))
   refine Zad 28 (jy (Zap e e) e e (Zaf e e e (gz5 1 9 102 103 104 e (Zav H17 (w64 (z14 + 1)) () [1] ⟨e, e, e, e, e, trivial⟩ e e e))))
  refine Zac (Zad 27 (Zah e e e (gz1 2 e (ZaF (is := []) (s0 e) e (Zae (Zao (ZaA (Zau (Za0 (ZaA (Zau ?_)))))))))))
  exact Zal e (fun w hs => .tmp e) (fun w hs => ⟨e, hs.drop⟩)
 intro k11 H12
 refine Zac (Zad 16 (jy (Zab e) e e (jg_y (fun w hs => Zaj e (ld1B (hs.blkL (i := 0) e) e)) e e (jg_y (fun w hs => ZaT e (hs.arg Rha0_Commands)) e e (Zaf e e e (gz4 1 63 64 65 e (Zae (Zar (Zbi (n := big) (fun (s : Int) (g : Unit) => [(1, .pointer (some ⟨g1, 0, none⟩)), (63, ha0_Commands.v), (64, .int .i64 (a0.Commands.length : Int)), (65, .int .i64 s)]) (fun (s : Int) (g : Unit) => []) (fun (s : Int) (g : Unit) => [(Res.blk g1 30 [ha0_Elements.v, .int .i64 a0.Throw, ha0_Start.v, ha0_Commands.v, ha0_Cuts.v])]) 0 () [0] ⟨e, e, e, e, trivial⟩ e e e ?_)))))))))
 intro z31 q32 n35 k33 H34
 refine Zac (Zad 17 (jy (ZaB e e) e e (gz5 1 63 64 65 66 e (Zae (Zac (Zan e ?_ ?_))))))
 rotate_left
 ·refine ZaG (Zba (Zbe (Zbb ?_)))
  exact Zav H12 () () [0] ⟨e, trivial⟩ e e e
 refine Zam (Zae (Zac (Zar (Zac (Zad 18 (Za1 fun x36 h37 => jg_y (fun w hs => ZaD e e (hs.arg Rha0_Commands) h37) e e (jg_y (fun w hs => ZbH e (hs.arg Rha0_Commands) h37.1 (l4 e) e) e e (ZaL (l4 e) e e fun g38 => Zax 0 e e e (l4 e) e e e e (l4 e) (r2 e) (gz5 1 8 63 64 65 e (Zae (Zac (Zad 19 (jy (Zab e) e e (jg_y (fun w hs => Zaj e (ld1B (hs.blkL (i := 0) e) e)) e e ?_))))))))))))))
 refine Zbg e (fun v w hs hm => Zcw hm ) e e fun v39 => jy (Zbk e) e e (Zaf e e e (Zat 73 e ?_ ?_))
 ·refine Zaa e e (Zaa e e (Zaa e e (Zaa e e (Zaa e e (Zaa e e (jy (Zai e e) e e (Zaf e e e (Zaa e e (Zaa e e (Zaa e e (Zaa e e (jy (Zai e e) e e (Zaf e e e (Zaa e e (Zaa e e (Zaa e e ?_))))))))))))))))
  refine Zaa e e (Zaa e e (Zaa e e (Zaa e e (Zaa e e (jy (Zai e e) e e (gz5 1 63 64 65 96 e (Zae (Zbf e (Zac (Zad 20 (Zah e e e (gz1 2 e (ZaF (is := []) (s0 e) e (Zae (Zao (ZaA (Zau (Za0 (ZaA (Zau ?_))))))))))))))))))))
  exact Zal e (fun w hs => .tmp e) (fun w hs => ⟨e, hs.drop⟩)
 refine jy (Zab e) e e (jg_y (fun w hs => Zaj e (ld1B (hs.blkL (i := 1) e) e)) e e (jy (Zab e) e e (jg_y (fun w hs => Zaj e (ld1B (hs.blkL (i := 0) e) e)) e e (Zbg e (fun v w hs hm => ZdZ hm (hs.arg Rha0_Elements)) e e fun v40 => jy (Zbk e) e e (jy (Zag e e) e e (Zaf e e e (Zat 81 e ?_ ?_)))))))
 ·refine Zaa e e (Zaa e e (Zaa e e (Zaa e e (jy (Zai e e) e e (Zaf e e e (Zaa e e (Zaa e e (Zaa e e (Zaa e e (Zaa e e (Zaa e e (Zaa e e (Zaa e e (jy (Zai e e) e e (gz5 1 63 64 65 96 e (Zae ?_))))))))))))))))
  refine Zbf e (Zac (Zad 20 (Zah e e e (gz1 2 e (ZaF (is := []) (s0 e) e (Zae (Zao (ZaA (Zau (Za0 (ZaA (Zau ?_))))))))))))
  exact Zal e (fun w hs => .tmp e) (fun w hs => ⟨e, hs.drop⟩)
 refine jy (Zab e) e e (jg_y (fun w hs => Zaj e (ld1B (hs.blkL (i := 0) e) e)) e e (Zbg e (fun v w hs hm => Zfr hm ) e e fun v41 => jy (Zbk e) e e (jy (Zag e e) e e (Zaf e e e (Zat 87 e ?_ ?_)))))
 ·refine Zaa e e (Zaa e e (Zaa e e (Zaa e e (Zaa e e (Zaa e e (Zaa e e (Zaa e e (jy (Zai e e) e e (gz5 1 63 64 65 96 e (Zae (Zbf e (Zac (Zad 20 (Zah e e e (gz1 2 e (ZaF (is := []) (s0 e) e ?_))))))))))))))))
  refine Zae (Zao (ZaA (Zau (Za0 (ZaA (Zau ?_))))))
  exact Zal e (fun w hs => .tmp e) (fun w hs => ⟨e, hs.drop⟩)
 refine jy (Zab e) e e (jg_y (fun w hs => Zaj e (ld1B (hs.blkL (i := 0) e) e)) e e (jy (Zab e) e e (jg_y (fun w hs => Zaj e (ld1B (hs.blkL (i := 1) e) e)) e e (jg_y (fun w hs => Zcq eha0_Cuts e (hs.arg Rha0_Cuts)) e e (ZcJ (fun w hs => ZaW e e) e e fun x42 => Zbg e (fun v w hs hm => Zcw hm ) e e fun v43 => jy (Zbk e) e e (jy (Zag e e) e e (gz5 1 63 64 65 96 e (Zae (Zan e ?_ ?_)))))))))
 rotate_left
 ·refine Zam (ZaN (Zae ?_))
  refine Zad 21 (jy (Zap e e) e e (Zaf e e e (gz4 1 63 64 65 e (Zav H34 (w64 (z31 + 1)) () [1] ⟨e, e, e, e, trivial⟩ e e e))))
 refine Zac (Zad 20 (Zah e e e (gz1 2 e (ZaF (is := []) (s0 e) e (Zae (Zao (ZaA (Zau (Za0 (ZaA (Zau ?_)))))))))))
 exact Zal e (fun w hs => .tmp e) (fun w hs => ⟨e, hs.drop⟩)
theorem ZdR {w : World} {a0 : Span} {a1 : Span}  {v : Bool} (hm : Zcp a0 a1 = some v) : Gives Try.prog 66 [.agg #[.int .i64 a0.Element, .int .i64 a0.Side, .int .i64 a0.From, .int .i64 a0.To], .agg #[.int .i64 a1.Element, .int .i64 a1.Side, .int .i64 a1.From, .int .i64 a1.To]] w (.bool v) := by
 refine ZaS (vs := [.agg #[.int .i64 a0.Element, .int .i64 a0.Side, .int .i64 a0.From, .int .i64 a0.To], .agg #[.int .i64 a1.Element, .int .i64 a1.Side, .int .i64 a1.From, .int .i64 a1.To]]) (U := fun (v : Bool) => .bool v) Try.func66 e Try.ntmps66 e e hm ?_
 unfold Zcp
 clear hm
 refine Zac (Zad 0 (ZbF e (l4 e) e e fun g1 => ZbF e (l4 e) e e fun g2 => Zah e e e (gz2 2 3 e (Zae (Zac (Zad 1 (jy (Zab e) e e (jg_y (fun w hs => Zaj e (ld1B (hs.blkL (i := 1) e) e)) e e (jy (Zab e) e e (jg_y (fun w hs => Zaj e (ld1B (hs.blkL (i := 0) e) e)) e e (jy (ZaB e e) e e (Zaf e e e (Zat 10 e ?_ ?_)))))))))))))
 ·refine jy (Zab e) e e (jg_y (fun w hs => Zaj e (ld1B (hs.blkL (i := 0) e) e)) e e (jy (Zab e) e e (jg_y (fun w hs => Zaj e (ld1B (hs.blkL (i := 1) e) e)) e e (jy (ZaB e e) e e (jy (Zai e e) e e (Zah e e e (gz1 4 e (ZaF (is := []) (s0 e) e (Zae (Zao (Zal e (fun w hs => .tmp e) (fun w hs => ⟨e, hs.drop⟩))))))))))))
 refine Zaa e e (Zaa e e (Zaa e e (Zaa e e (Zaa e e (jy (Zag e e) e e (Zah e e e (gz1 4 e (ZaF (is := []) (s0 e) e (Zae (Zao (Zal e (fun w hs => .tmp e) (fun w hs => ⟨e, hs.drop⟩))))))))))))
theorem Zey {w : World} {a0 : HumpPush} {a1 : Span} {b0 : Nat} {ha0_fs_Elements : Hd} {ha0_fs_Start : Hd} {ha0_fs_Commands : Hd} {ha0_fs_Cuts : Hd} {qa0_fs_Cuts : List (Rolling × (Hd × Hd))} {ga0_fstart : Nat} {ga0_fdone : Nat} {qa0_fdone : List (Ent Command)} {ha0_frides : Hd} {qa0_frides : List (Ride × Hd)} {ha0_fincidents : Hd} {v : Int} (hm : Zb5 a0 a1 = some v) (Rha0_fs_Elements : Sl w ha0_fs_Elements Element.enc a0.fs.Elements) (Rha0_fs_Start : Sl w ha0_fs_Start Throw.enc a0.fs.Start) (Rha0_fs_Commands : Sl w ha0_fs_Commands Command.enc a0.fs.Commands) (Rha0_fincidents : Sl w ha0_fincidents Incident.enc a0.fincidents) (eha0_fs_Cuts : qa0_fs_Cuts.map (·.1) = a0.fs.Cuts) (Rha0_fs_Cuts : Sl w ha0_fs_Cuts Nt.enc qa0_fs_Cuts) (Dha0_fs_Cuts : ∀ p ∈ qa0_fs_Cuts, rdN w p) (eha0_frides : qa0_frides.map (·.1) = a0.frides) (Rha0_frides : Sl w ha0_frides Nt.enc qa0_frides) (Dha0_frides : ∀ p ∈ qa0_frides, rdN w p) (Hga0_fstart : MapVAt w ga0_fstart keyP valP a0.fstart) (Hga0_fdone : MapVAt w ga0_fdone keyE valE qa0_fdone) (Hga0_fdoneK : KF qa0_fdone a0.fdone) (Hga0_fdoneD : ∀ x ∈ qa0_fdone, (rowE 53 4 Command.enc x).rd w) (Hp0 : Blk w b0 100 [ha0_fs_Elements.v, .int .i64 a0.fs.Throw, ha0_fs_Start.v, ha0_fs_Commands.v, ha0_fs_Cuts.v, .map (some ga0_fstart), .map (some ga0_fdone), ha0_frides.v, ha0_fincidents.v]) : Gives Try.prog 61 [.pointer (some ⟨b0, 0, none⟩), .agg #[.int .i64 a1.Element, .int .i64 a1.Side, .int .i64 a1.From, .int .i64 a1.To]] w (.int .i64 v) := by
 refine ZaS (vs := [.pointer (some ⟨b0, 0, none⟩), .agg #[.int .i64 a1.Element, .int .i64 a1.Side, .int .i64 a1.From, .int .i64 a1.To]]) (U := fun (v : Int) => .int .i64 v) Try.func61 e Try.ntmps61 e e hm ?_
 unfold Zb5
 clear hm
 refine Zac (Zad 0 (ZbF e (l4 e) e e fun g1 => Zah e e e (gz2 0 3 e (Zae (Zac (Zac (Zad 1 (Zaf e e e (jy (Zbv e) e e (jy (Zab e) e e (jg_y (fun w hs => Zaj e (ld1B (hs.argb Hp0) e)) e e (jg_y (fun w hs => Zcq eha0_frides e (hs.arg Rha0_frides)) e e (Zaf e e e (gz4 3 12 13 14 e (Zae ?_)))))))))))))))
 refine Zar (Zbi (n := big) (fun (s : Int) (g : Unit) => [(3, .pointer (some ⟨g1, 0, none⟩)), (12, ha0_frides.v), (13, .int .i64 (a0.frides.length : Int)), (14, .int .i64 s)]) (fun (s : Int) (g : Unit) => []) (fun (s : Int) (g : Unit) => [(Res.blk g1 47 [.int .i64 a1.Element, .int .i64 a1.Side, .int .i64 a1.From, .int .i64 a1.To])]) 0 () [0] ⟨e, e, e, e, trivial⟩ e e e ?_)
 intro z2 q3 n6 k4 H5
 refine Zac (Zad 2 (jy (ZaB e e) e e (gz5 3 12 13 14 15 e (Zae (Zac (Zan e ?_ ?_))))))
 rotate_left
 ·refine ZaG (Zba (Zbe (Zbb (Zae ?_))))
  refine Zac (Zad 11 (Zah e e e (gz1 4 e (Zae (Zao (Zal e (fun w hs => .tmp e) (fun w hs => ⟨e, hs.drop⟩)))))))
 refine Zam (Zae (Zac (Zar (Zac (Zad 3 (Zaf e e e (Zce (fun w hs => eha0_frides) fun x7 d9 h8 => ?_)))))))
 have Rr10 := (Dha0_frides _ (List.mem_of_getElem? h8.1)).sl (.head _)
 refine jg_y (fun w hs => ZaD e e (hs.arg Rha0_frides) h8) e e (jg_y (fun w hs => ZbH e (hs.arg Rha0_frides) h8.1 (l2 e) e) e e (ZaL (l2 e) e e fun g11 => Zah e e e (Zax 0 e e e (l2 e) e e e e (l2 e) (r2 e) (gz6 3 5 6 12 13 14 e (Zae (Zac (Zad 4 (jy (Zab e) e e (jg_y (fun w hs => Zaj e (ld1B (hs.blkL (i := 0) e) e)) e e (jg_y (fun w hs => ZaT e (hs.arg Rr10)) e e (Zaf e e e (gz8 3 5 12 13 14 20 21 22 e (Zae (Zar (Zbi (n := big) (fun (s : Int) (g : Unit) => [(3, .pointer (some ⟨g1, 0, none⟩)), (5, .int .i64 z2), (12, ha0_frides.v), (13, .int .i64 (a0.frides.length : Int)), (14, .int .i64 z2), (20, d9.v), (21, .int .i64 (x7.Spans.length : Int)), (22, .int .i64 s)]) (fun (s : Int) (g : Unit) => []) (fun (s : Int) (g : Unit) => [(Res.blk g1 47 [.int .i64 a1.Element, .int .i64 a1.Side, .int .i64 a1.From, .int .i64 a1.To])]) 0 () [1] ⟨e, e, e, e, e, e, e, e, trivial⟩ e e e ?_)))))))))))))))
 intro z12 q13 n16 k14 H15
 refine Zac (Zad 5 (jy (ZaB e e) e e (gz9 3 5 12 13 14 20 21 22 23 e (Zae (Zac (Zan e ?_ ?_))))))
 rotate_left
 ·refine ZaG (Zba (Zbe (Zbb (ZaN (Zae ?_)))))
  refine Zad 10 (jy (Zap e e) e e (Zaf e e e (gz4 3 12 13 14 e (Zav H5 (w64 (z2 + 1)) () [0] ⟨e, e, e, e, trivial⟩ e e e))))
 refine Zam (Zae (Zac (Zar (Zac (Zad 6 (Za1 fun x17 h18 => jg_y (fun w hs => ZaD e e (hs.arg Rr10) h18) e e (jg_y (fun w hs => ZbH e (hs.arg Rr10) h18.1 (l4 e) e) e e (ZaL (l4 e) e e fun g19 => Zax 0 e e e (l4 e) e e e e (l4 e) (r2 e) (gz9 3 5 8 12 13 14 20 21 22 e (Zae (Zac (Zad 7 (jy (Zab e) e e (jg_y (fun w hs => Zaj e (ld1B (hs.blkL (i := 1) e) e)) e e ?_))))))))))))))
 refine jy (Zab e) e e (jg_y (fun w hs => Zaj e (ld1B (hs.blkL (i := 0) e) e)) e e (jy (ZaR e e) e e (Zaf e e e (Zat 31 e ?_ ?_))))
 rotate_left
 ·refine Zaa e e (Zaa e e (Zaa e e (jy (Zag e e) e e (gz9 3 5 12 13 14 20 21 22 35 e (Zae (Zdt e (Zam (ZaN (Zae ?_)))))))))
  refine Zad 9 (jy (Zap e e) e e (Zaf e e e (gz8 3 5 12 13 14 20 21 22 e (Zav H15 (w64 (z12 + 1)) () [1] ⟨e, e, e, e, e, e, e, e, trivial⟩ e e e))))
 refine jg_y (fun w hs => Zaj e (ldBB (hs.blkL (i := 1) e) e)) e e (jg_y (fun w hs => Zaj e (ldBB (hs.blkL (i := 0) e) e)) e e (Zbg e (fun v w hs hm => ZdR (a0 := a1) (a1 := x17) hm ) e e fun v20 => jy (Zai e e) e e (gz9 3 5 12 13 14 20 21 22 35 e (Zae (Zan e ?_ ?_)))))
 rotate_left
 ·refine Zam (ZaN (Zae ?_))
  refine Zad 9 (jy (Zap e e) e e (Zaf e e e (gz8 3 5 12 13 14 20 21 22 e (Zav H15 (w64 (z12 + 1)) () [1] ⟨e, e, e, e, e, e, e, e, trivial⟩ e e e))))
 refine Zac (Zad 8 (Zaf e e e (Zah e e e (gz1 4 e (ZaF (is := []) (s0 e) e (Zae (Zao (ZaA (Zau (Za0 (ZaA (ZaA (Zau (Za0 (ZaA (Zau ?_))))))))))))))))
 exact Zal e (fun w hs => .tmp e) (fun w hs => ⟨e, hs.drop⟩)
theorem Zem {w : World} {a0 : HumpPush} {a1 : Command} {b0 : Nat} {ha0_fs_Elements : Hd} {ha0_fs_Start : Hd} {ha0_fs_Commands : Hd} {ha0_fs_Cuts : Hd} {qa0_fs_Cuts : List (Rolling × (Hd × Hd))} {ga0_fstart : Nat} {ga0_fdone : Nat} {qa0_fdone : List (Ent Command)} {ha0_frides : Hd} {qa0_frides : List (Ride × Hd)} {ha0_fincidents : Hd} {v : Bool} (hm : ZbT a0 a1 = some v) (Rha0_fs_Elements : Sl w ha0_fs_Elements Element.enc a0.fs.Elements) (Rha0_fs_Start : Sl w ha0_fs_Start Throw.enc a0.fs.Start) (Rha0_fs_Commands : Sl w ha0_fs_Commands Command.enc a0.fs.Commands) (Rha0_fincidents : Sl w ha0_fincidents Incident.enc a0.fincidents) (eha0_fs_Cuts : qa0_fs_Cuts.map (·.1) = a0.fs.Cuts) (Rha0_fs_Cuts : Sl w ha0_fs_Cuts Nt.enc qa0_fs_Cuts) (Dha0_fs_Cuts : ∀ p ∈ qa0_fs_Cuts, rdN w p) (eha0_frides : qa0_frides.map (·.1) = a0.frides) (Rha0_frides : Sl w ha0_frides Nt.enc qa0_frides) (Dha0_frides : ∀ p ∈ qa0_frides, rdN w p) (Hga0_fstart : MapVAt w ga0_fstart keyP valP a0.fstart) (Hga0_fdone : MapVAt w ga0_fdone keyE valE qa0_fdone) (Hga0_fdoneK : KF qa0_fdone a0.fdone) (Hga0_fdoneD : ∀ x ∈ qa0_fdone, (rowE 53 4 Command.enc x).rd w) (Hp0 : Blk w b0 100 [ha0_fs_Elements.v, .int .i64 a0.fs.Throw, ha0_fs_Start.v, ha0_fs_Commands.v, ha0_fs_Cuts.v, .map (some ga0_fstart), .map (some ga0_fdone), ha0_frides.v, ha0_fincidents.v]) : Gives Try.prog 62 [.pointer (some ⟨b0, 0, none⟩), .agg #[.int .i64 a1.Time, .int .i64 a1.Element, .int .i64 a1.Side, .int .i64 a1.Cut]] w (.bool v) := by
 refine ZaS (vs := [.pointer (some ⟨b0, 0, none⟩), .agg #[.int .i64 a1.Time, .int .i64 a1.Element, .int .i64 a1.Side, .int .i64 a1.Cut]]) (U := fun (v : Bool) => .bool v) Try.func62 e Try.ntmps62 e e hm ?_
 unfold ZbT
 clear hm
 refine Zac (Zad 0 (ZbF e (l4 e) e e fun g1 => Zah e e e (gz2 0 3 e (Zae (Zac (Zac (ZaV (L' := [_]) 1 [0] [0, 1, 2, 3, 4, 5, 6, 7, 8] 511 511 [0, 1, 2, 4, 0, 16, 40, 64, 0] [0, 1, 3, 7, 0, 16, 63, 127, 0] [(0, true), (1, true), (2, true), (3, true), (4, true), (5, true), (6, true), (7, true), (8, true)] e (Zay (Zay Zbn)) (by kernel_rfl) (by kernel_rfl) (by kernel_rfl) (by kernel_rfl) (by kernel_rfl) (by kernel_rfl) (by kernel_rfl) (by kernel_rfl) (Zaz e e e e (jd_y e (fun w hs => Zbv e) e e (jd_y e (fun w hs => Zab e) e e (jd_y e (fun w hs => Zaj e (ld1B (hs.argb Hp0) e)) e e (jd_y e (fun w hs => Zab e) e e (jd_y e (fun w hs => Zaj e (ld1B (hs.blk (i := 0) e) e)) e e (jd_y e (fun w hs => Zf1 e e (hs.argV Hga0_fdone)) e e (Zfl e (fun w hs => ZaT e (Zdo Hga0_fdoneK.1 (hs.argE Hga0_fdoneD) a1.Element)) e e fun x2 => ?_)))))))))))))))
 refine Zaz e e e e (Za9 [(0, _), (3, _), (13, _), (14, _), (15, _)] ⟨e, e, e, e, e, trivial⟩ (Zae (Zar (Zbi (n := big) (fun (s : Int) (g : Unit) => [(0, .pointer (some ⟨b0, 0, none⟩)), (3, .pointer (some ⟨g1, 0, none⟩)), (13, (hdOf a1.Element qa0_fdone).v), (14, .int .i64 x2), (15, .int .i64 s)]) (fun (s : Int) (g : Unit) => []) (fun (s : Int) (g : Unit) => [(Res.blk g1 53 [.int .i64 a1.Time, .int .i64 a1.Element, .int .i64 a1.Side, .int .i64 a1.Cut])]) 0 () [0] ⟨e, e, e, e, e, trivial⟩ e e e ?_))))
 intro z3 q4 n7 k5 H6
 refine Zac (Zad 2 (jy (ZaB e e) e e (gz6 0 3 13 14 15 16 e (Zae (Zac (Zan e ?_ ?_))))))
 rotate_left
 ·refine ZaG (Zba (Zbe (Zbb (Zae ?_))))
  refine Zac (Zad 7 (Zah e e e (gz1 4 e (Zae (Zao (Zal e (fun w hs => .tmp e) (fun w hs => ⟨e, hs.drop⟩)))))))
 refine Zam (Zae (Zac (Zar (Zac (Zad 3 (Za1 fun x8 h9 => jg_y (fun w hs => ZaD e e (Zdo Hga0_fdoneK.1 (hs.argE Hga0_fdoneD) a1.Element) h9) e e (jg_y (fun w hs => ZbH e (Zdo Hga0_fdoneK.1 (hs.argE Hga0_fdoneD) a1.Element) h9.1 (l4 e) e) e e (ZaL (l4 e) e e fun g10 => Zax 0 e e e (l4 e) e e e e (l4 e) (r2 e) (gz6 0 3 6 13 14 15 e (Zae (Zac (ZaV (L' := [_, _]) 4 [0, 1] [0, 1, 2, 3, 4, 5, 6, 7, 8, 9, 10] 2047 2047 [0, 1, 0, 4, 8, 16, 32, 66, 0, 256, 640] [0, 1, 0, 4, 12, 28, 60, 127, 0, 256, 1023] [(0, true), (1, true), (2, true), (3, true), (4, true), (5, true), (6, true), (7, true), (8, true), (9, true), (10, true)] e (Zay (ZaE (Zay (Za8 (ZaE (Zay Zbn)))))) (by kernel_rfl) (by kernel_rfl) (by kernel_rfl) (by kernel_rfl) (by kernel_rfl) (by kernel_rfl) (by kernel_rfl) (by kernel_rfl) (jd_y e (fun w hs => Zab e) e e (jd_y e (fun w hs => Zaj e (ld1B (hs.blk (i := 0) e) e)) e e ?_))))))))))))))
 refine Zaz e e e e (jd_y e (fun w hs => Zbv e) e e (jd_y e (fun w hs => Zab e) e e (jd_y e (fun w hs => Zab e) e e (jd_y e (fun w hs => Zaj e (ld1B (hs.argb Hp0) e)) e e (jd_y e (fun w hs => Zap e e) e e (jd_y e (fun w hs => Zab e) e e (jd_y e (fun w hs => Zaj e (ld1B (hs.blk (i := 1) e) e)) e e (jd_y e (fun w hs => Zbc e e) e e (Za9 [(0, _), (3, _), (13, _), (14, _), (15, _), (29, _)] ⟨e, e, e, e, e, e, trivial⟩ (Zae (Zan e ?_ ?_)))))))))))
 rotate_left
 ·refine Zam (ZaN (Zae ?_))
  refine Zad 6 (jy (Zap e e) e e (Zaf e e e (gz5 0 3 13 14 15 e (Zav H6 (w64 (z3 + 1)) () [1] ⟨e, e, e, e, e, trivial⟩ e e e))))
 refine Zac (Zad 5 (Zaf e e e (jy (Zbv e) e e (jy (Zab e) e e (jy (Zab e) e e (jg_y (fun w hs => Zaj e (ld1B (hs.argb Hp0) e)) e e (jy (Zbc e e) e e (Zah e e e (gz1 4 e (ZaF (is := []) (s0 e) e (Zae (Zao (ZaA (Zau (Za0 (ZaA (Zau ?_)))))))))))))))))
 exact Zal e (fun w hs => .tmp e) (fun w hs => ⟨e, hs.drop⟩)
theorem ZeE {w : World} {a0 : (List Element)} {a1 : Int} {a2 : Int} {ha0 : Hd} {v : Int} (hm : ZcU a0 a1 a2 = some v) (Rha0 : Sl w ha0 Element.enc a0) : Gives Try.prog 79 [ha0.v, .int .i64 a1, .int .i64 a2] w (.int .i64 v) := by
 refine ZaS (vs := [ha0.v, .int .i64 a1, .int .i64 a2]) (U := fun (v : Int) => .int .i64 v) Try.func79 e Try.ntmps79 e e hm ?_
 unfold ZcU
 clear hm
 refine Zac (Zad 0 (Zah e e e (gz3 0 1 2 e (Zae (Zac (Zac (Zad 1 (Zaf e e e (jg_y (fun w hs => ZaT e (hs.arg Rha0)) e e (Zaf e e e (gz5 1 2 9 10 11 e (Zae (Zar (Zbi (n := big) (fun (s : Int) (g : Unit) => [(1, .int .i64 a1), (2, .int .i64 a2), (9, ha0.v), (10, .int .i64 (a0.length : Int)), (11, .int .i64 s)]) (fun (s : Int) (g : Unit) => []) (fun (s : Int) (g : Unit) => []) 0 () [] ⟨e, e, e, e, e, trivial⟩ e e e ?_))))))))))))))
 intro z1 q2 n5 k3 H4
 refine Zac (Zad 2 (jy (ZaB e e) e e (gz6 1 2 9 10 11 12 e (Zae (Zac (Zan e ?_ ?_))))))
 rotate_left
 ·refine ZaG (Zba (Zbe (Zbb (Zae ?_))))
  refine Zac (Zad 7 (Zah e e e (gz1 6 e (Zae (Zao (Zal e (fun w hs => .tmp e) (fun w hs => ⟨e, hs.drop⟩)))))))
 refine Zam (Zae (Zac (Zar (Zac (Zad 3 (Zaf e e e (Za1 fun x6 h7 => jg_y (fun w hs => ZaD e e (hs.arg Rha0) h7) e e (jg_y (fun w hs => ZbH e (hs.arg Rha0) h7.1 (l8 e) e) e e (ZaL (l8 e) e e fun g8 => Zah e e e (Zax 0 e e e (l8 e) e e e e (l8 e) (r1 e) (gz7 1 2 7 8 9 10 11 e (Zae (Zac (Zad 4 ?_))))))))))))))
 refine jy (Zab e) e e (jg_y (fun w hs => Zaj e (ld1B (hs.blkL (i := 0) e) e)) e e (jy (Zbj e e) e e (Zaf e e e (Zat 19 e ?_ ?_))))
 rotate_left
 ·refine Zaa e e (Zaa e e (Zaa e e (Zaa e e (jy (Zag e e) e e (Zaf e e e (Zaa e e (Zaa e e (Zaa e e (Zaa e e (jy (Zag e e) e e (gz7 1 2 7 9 10 11 30 e (Zae (Zdt e (Zam (ZaN (Zae ?_))))))))))))))))
  refine Zad 6 (jy (Zap e e) e e (Zaf e e e (gz5 1 2 9 10 11 e (Zav H4 (w64 (z1 + 1)) () [] ⟨e, e, e, e, e, trivial⟩ e e e))))
 refine jy (Zab e) e e (jg_y (fun w hs => Zaj e (ld1B (hs.blkL (i := 0) e) e)) e e (Zaf e e e (jy (ZaR e e) e e (jy (Zai e e) e e (Zaf e e e (Zat 25 e ?_ ?_))))))
 rotate_left
 ·refine Zaa e e (Zaa e e (Zaa e e (Zaa e e (jy (Zag e e) e e (gz7 1 2 7 9 10 11 30 e (Zae (Zdt e (Zam (ZaN (Zae ?_))))))))))
  refine Zad 6 (jy (Zap e e) e e (Zaf e e e (gz5 1 2 9 10 11 e (Zav H4 (w64 (z1 + 1)) () [] ⟨e, e, e, e, e, trivial⟩ e e e))))
 refine jy (Zab e) e e (jg_y (fun w hs => Zaj e (ld1B (hs.blkL (i := 0) e) e)) e e (Zaf e e e (jy (ZaR e e) e e (jy (Zai e e) e e (gz7 1 2 7 9 10 11 30 e (Zae (Zan e ?_ ?_)))))))
 rotate_left
 ·refine Zam (ZaN (Zae ?_))
  refine Zad 6 (jy (Zap e e) e e (Zaf e e e (gz5 1 2 9 10 11 e (Zav H4 (w64 (z1 + 1)) () [] ⟨e, e, e, e, e, trivial⟩ e e e))))
 refine Zac (Zad 5 (Zaf e e e (Zah e e e (gz1 6 e (Zae (Zao (ZaA (Zau (Za0 (ZaA (Zau ?_)))))))))))
 exact Zal e (fun w hs => .tmp e) (fun w hs => ⟨e, hs.drop⟩)
theorem ZbZ {w : World} {a0 : Int} {a1 : Int} {a2 : Int}  {v : Bool} (hm : ZbR a0 a1 a2 = some v) : Gives Try.prog 89 [.int .i64 a0, .int .i64 a1, .int .i64 a2] w (.bool v) := by
 refine ZaS (vs := [.int .i64 a0, .int .i64 a1, .int .i64 a2]) (U := fun (v : Bool) => .bool v) Try.func89 e Try.ntmps89 e e hm ?_
 unfold ZbR
 clear hm
 refine Zac (Zad 0 (Zah e e e (gz3 0 1 2 e (Zae (Zac (Zad 1 (Zaf e e e (Zaf e e e (jy (Zbu e e) e e (Zaf e e e (Zat 10 e ?_ ?_)))))))))))
 ·refine Zaf e e e (Zaf e e e (jy (ZbP e e) e e (jy (Zai e e) e e (Zah e e e (gz1 6 e (Zae (Zao (Zal e (fun w hs => .tmp e) (fun w hs => ⟨e, hs.drop⟩)))))))))
 refine Zaa e e (Zaa e e (Zaa e e (jy (Zag e e) e e (Zah e e e (gz1 6 e (Zae (Zao (Zal e (fun w hs => .tmp e) (fun w hs => ⟨e, hs.drop⟩)))))))))
theorem ZdQ {w : World} {a0 : (List Piece)} {ha0 : Hd} {v : Int} (hm : ZbM a0 = some v) (Rha0 : Sl w ha0 Piece.enc a0) : Gives Try.prog 87 [ha0.v] w (.int .i64 v) := by
 refine ZaS (vs := [ha0.v]) (U := fun (v : Int) => .int .i64 v) Try.func87 e Try.ntmps87 e e hm ?_
 unfold ZbM
 clear hm
 refine Zac (Zad 0 (Zah e e e (gz1 0 e (Zae (Zac (Zac (Zad 1 (Zaf e e e (jg_y (fun w hs => ZaT e (hs.arg Rha0)) e e (jy (ZaB e e) e e (Zaf e e e (Zat 8 e ?_ ?_))))))))))))
 ·refine Zaa e e (Zaa e e (Zaa e e (jy (Zai e e) e e (gz2 0 12 e (Zae (Zbf e (Zac (Zad 2 (Zah e e e (gz1 2 e (Zae (Zao (Zau (Zal e (fun w hs => .tmp e) (fun w hs => ⟨e, hs.drop⟩)))))))))))))))
 refine Zaf e e e (jg_y (fun w hs => ZaT e (hs.arg Rha0)) e e (jy (Zbc e e) e e (jy (Zag e e) e e (gz2 0 12 e (Zae (Zan e ?_ ?_))))))
 ·refine Zac (Zad 2 (Zah e e e (gz1 2 e (Zae (Zao (Zau (Zal e (fun w hs => .tmp e) (fun w hs => ⟨e, hs.drop⟩))))))))
 refine Zam (Zae (Zac (Zac (Zad 3 (Zaf e e e (jg_y (fun w hs => ZaT e (hs.arg Rha0)) e e (Zaf e e e (gz3 13 14 15 e (Zae (Zar (Zbi (n := big) (fun (s : Int) (g : Unit) => [(13, ha0.v), (14, .int .i64 (a0.length : Int)), (15, .int .i64 s)]) (fun (s : Int) (g : Unit) => []) (fun (s : Int) (g : Unit) => []) 0 () [] ⟨e, e, e, trivial⟩ e e e ?_)))))))))))
 intro z1 q2 n5 k3 H4
 refine Zac (Zad 4 (jy (ZaB e e) e e (gz4 13 14 15 16 e (Zae (Zac (Zan e ?_ ?_))))))
 rotate_left
 ·refine ZaG (Zba (Zbe (Zbb (Zae ?_))))
  refine Zac (Zad 9 (Zah e e e (gz1 2 e (Zae (Zao (Zal e (fun w hs => .tmp e) (fun w hs => ⟨e, hs.drop⟩)))))))
 refine Zam (Zae (Zac (Zar (Zac (Zad 5 (Za1 fun x6 h7 => jg_y (fun w hs => ZaD e e (hs.arg Rha0) h7) e e (jg_y (fun w hs => ZbH e (hs.arg Rha0) h7.1 (l5 e) e) e e (ZaL (l5 e) e e fun g8 => Zax 0 e e e (l5 e) e e e e (l5 e) (r1 e) (gz4 4 13 14 15 e (Zae (Zac (Zad 6 (jy (Zab e) e e (jg_y (fun w hs => Zaj e (ld1B (hs.blkL (i := 0) e) e)) e e ?_))))))))))))))
 refine Zbg e (fun v w hs hm => ZbZ hm ) e e fun v9 => jy (Zbk e) e e (Zaf e e e (Zat 23 e ?_ ?_))
 ·refine Zaa e e (Zaa e e (Zaa e e (Zaa e e (jy (Zai e e) e e (Zaf e e e (Zaa e e (Zaa e e (Zaa e e (Zaa e e (jy (Zai e e) e e (Zaf e e e (Zaa e e (Zaa e e (Zaa e e (Zaa e e (jy (Zai e e) e e ?_))))))))))))))))
  refine Zaf e e e (Zaa e e (Zaa e e (Zaa e e (Zaa e e (jy (Zai e e) e e (gz4 13 14 15 46 e (Zae (Zbf e (Zac (Zad 7 (Zah e e e (gz1 2 e (Zae (Zao (ZaA (Zau (Za0 (ZaA (Zau ?_)))))))))))))))))))
  exact Zal e (fun w hs => .tmp e) (fun w hs => ⟨e, hs.drop⟩)
 refine jy (Zab e) e e (jg_y (fun w hs => Zaj e (ld1B (hs.blkL (i := 0) e) e)) e e (Zbg e (fun v w hs hm => ZbZ hm ) e e fun v10 => jy (Zbk e) e e (jy (Zag e e) e e (Zaf e e e (Zat 29 e ?_ ?_)))))
 ·refine Zaa e e (Zaa e e (Zaa e e (Zaa e e (jy (Zai e e) e e (Zaf e e e (Zaa e e (Zaa e e (Zaa e e (Zaa e e (jy (Zai e e) e e (Zaf e e e (Zaa e e (Zaa e e (Zaa e e (Zaa e e (jy (Zai e e) e e ?_))))))))))))))))
  refine gz4 13 14 15 46 e (Zae (Zbf e (Zac (Zad 7 (Zah e e e (gz1 2 e (Zae (Zao (ZaA (Zau (Za0 (ZaA (Zau ?_)))))))))))))
  exact Zal e (fun w hs => .tmp e) (fun w hs => ⟨e, hs.drop⟩)
 refine jy (Zab e) e e (jg_y (fun w hs => Zaj e (ld1B (hs.blkL (i := 0) e) e)) e e (Zbg e (fun v w hs hm => ZbZ hm ) e e fun v11 => jy (Zbk e) e e (jy (Zag e e) e e (Zaf e e e (Zat 35 e ?_ ?_)))))
 ·refine Zaa e e (Zaa e e (Zaa e e (Zaa e e (jy (Zai e e) e e (Zaf e e e (Zaa e e (Zaa e e (Zaa e e (Zaa e e (jy (Zai e e) e e (gz4 13 14 15 46 e (Zae (Zbf e (Zac (Zad 7 (Zah e e e ?_))))))))))))))))
  refine gz1 2 e (Zae (Zao (ZaA (Zau (Za0 (ZaA (Zau ?_)))))))
  exact Zal e (fun w hs => .tmp e) (fun w hs => ⟨e, hs.drop⟩)
 refine jy (Zab e) e e (jg_y (fun w hs => Zaj e (ld1B (hs.blkL (i := 0) e) e)) e e (Zbg e (fun v w hs hm => ZbZ hm ) e e fun v12 => jy (Zbk e) e e (jy (Zag e e) e e (Zaf e e e (Zat 41 e ?_ ?_)))))
 ·refine Zaa e e (Zaa e e (Zaa e e (Zaa e e (jy (Zai e e) e e (gz4 13 14 15 46 e (Zae (Zbf e (Zac (Zad 7 (Zah e e e (gz1 2 e (Zae (Zao (ZaA (Zau (Za0 (ZaA (Zau ?_))))))))))))))))))
  exact Zal e (fun w hs => .tmp e) (fun w hs => ⟨e, hs.drop⟩)
 refine jy (Zab e) e e (jg_y (fun w hs => Zaj e (ld1B (hs.blkL (i := 0) e) e)) e e (Zbg e (fun v w hs hm => ZbZ hm ) e e fun v13 => jy (Zbk e) e e (jy (Zag e e) e e (gz4 13 14 15 46 e (Zae (Zan e ?_ ?_))))))
 rotate_left
 ·refine Zam (ZaN (Zae ?_))
  refine Zad 8 (jy (Zap e e) e e (Zaf e e e (gz3 13 14 15 e (Zav H4 (w64 (z1 + 1)) () [] ⟨e, e, e, trivial⟩ e e e))))
 refine Zac (Zad 7 (Zah e e e (gz1 2 e (Zae (Zao (ZaA (Zau (Za0 (ZaA (Zau ?_))))))))))
 exact Zal e (fun w hs => .tmp e) (fun w hs => ⟨e, hs.drop⟩)
theorem Zd7 {w : World} {a0 : (List Piece)} {ha0 : Hd} {v : Int} (hm : ZbQ a0 = some v) (Rha0 : Sl w ha0 Piece.enc a0) : Gives Try.prog 88 [ha0.v] w (.int .i64 v) := by
 refine ZaS (vs := [ha0.v]) (U := fun (v : Int) => .int .i64 v) Try.func88 e Try.ntmps88 e e hm ?_
 unfold ZbQ
 clear hm
 refine Zac (Zad 0 (Zah e e e (gz1 0 e (Zae (Zac (Zad 1 (Zah e e e (gz2 0 3 e (Zae (Zac (Zac (Zad 2 (Zaf e e e (jg_y (fun w hs => ZaT e (hs.arg Rha0)) e e (Zaf e e e (gz4 3 6 7 8 e ?_))))))))))))))))
 refine Zae (Zar (Zbi (n := big) (fun (s : (Int × Int)) (g : Unit) => [(3, .int .i64 s.1), (6, ha0.v), (7, .int .i64 (a0.length : Int)), (8, .int .i64 s.2)]) (fun (s : (Int × Int)) (g : Unit) => []) (fun (s : (Int × Int)) (g : Unit) => []) (0, 0) () [] ⟨e, e, e, e, trivial⟩ e e e ?_))
 intro z1 q2 n5 k3 H4
 refine Zac (Zad 3 (jy (ZaB e e) e e (gz5 3 6 7 8 9 e (Zae (Zac (Zan e ?_ ?_))))))
 rotate_left
 ·refine ZaG (Zba (Zbe (Zbb (Zae ?_))))
  refine Zac (Zad 8 (Zaf e e e (Zah e e e (gz1 2 e (Zae (Zao (Zal e (fun w hs => .tmp e) (fun w hs => ⟨e, hs.drop⟩))))))))
 refine Zam (Zae (Zac (Zar (Zac (Zad 4 (Za1 fun x6 h7 => jg_y (fun w hs => ZaD e e (hs.arg Rha0) h7) e e (jg_y (fun w hs => ZbH e (hs.arg Rha0) h7.1 (l5 e) e) e e (ZaL (l5 e) e e fun g8 => Zax 0 e e e (l5 e) e e e e (l5 e) (r1 e) (gz5 3 5 6 7 8 e (Zae (Zac (Zad 5 (jy (Zab e) e e (jg_y (fun w hs => Zaj e (ld1B (hs.blkL (i := 0) e) e)) e e ?_))))))))))))))
 refine jy (Zbc e e) e e (gz5 3 6 7 8 14 e (Zae (Zan e ?_ ?_)))
 rotate_left
 ·refine Zam (ZaN (Zae ?_))
  refine Zad 7 (jy (Zap e e) e e (Zaf e e e (gz4 3 6 7 8 e (Zav H4 (z1.1, w64 (z1.2 + 1)) () [] ⟨e, e, e, e, trivial⟩ e e e))))
 refine Zad 6 (Zaf e e e (jy (Zap e e) e e (Zah e e e (gz4 3 6 7 8 e (ZaN (Zae ?_))))))
 refine Zad 7 (jy (Zap e e) e e (Zaf e e e (gz4 3 6 7 8 e (Zav H4 (w64 (z1.1 + 1), w64 (z1.2 + 1)) () [] ⟨e, e, e, e, trivial⟩ e e e))))
end Go.Proofs.Ytdgminllobhncaa
namespace Go.Proofs.Ytdgminllobhncaa
open Go.Hy
set_option linter.unusedVariables false
set_option linter.unusedSimpArgs false
set_option maxHeartbeats 2000000
set_option maxRecDepth 100000
theorem ZeG {w : World} {a0 : (List Int)} {ha0 : Hd} {v : Bool} (hm : Zca a0 = some v) (Rha0 : Sl w ha0 encI a0) : Gives Try.prog 90 [ha0.v] w (.bool v) := by
 refine ZaS (vs := [ha0.v]) (U := fun (v : Bool) => .bool v) Try.func90 e Try.ntmps90 e e hm ?_
 unfold Zca
 clear hm
 refine Zac (Zad 0 (Zah e e e (gz1 0 e (Zae (Zac (Zac (Zad 1 (Zaf e e e (jg_y (fun w hs => ZaT e (hs.arg Rha0)) e e (Zaf e e e (gz3 5 6 7 e (Zae (Zar (Zbi (n := big) (fun (s : Int) (g : Unit) => [(5, ha0.v), (6, .int .i64 (a0.length : Int)), (7, .int .i64 s)]) (fun (s : Int) (g : Unit) => []) (fun (s : Int) (g : Unit) => []) 0 () [] ⟨e, e, e, trivial⟩ e e e ?_))))))))))))))
 intro z1 q2 n5 k3 H4
 refine Zac (Zad 2 (jy (ZaB e e) e e (gz4 5 6 7 8 e (Zae (Zac (Zan e ?_ ?_))))))
 rotate_left
 ·refine ZaG (Zba (Zbe (Zbb (Zae ?_))))
  refine Zac (Zad 7 (Zah e e e (gz1 2 e (Zae (Zao (Zal e (fun w hs => .tmp e) (fun w hs => ⟨e, hs.drop⟩)))))))
 refine Zam (Zae (Zac (Zar (Zac (Zad 3 (Za1 fun x6 h7 => jg_y (fun w hs => ZaD e e (hs.arg Rha0) h7) e e (jg_y (fun w hs => ZaK e (hs.arg Rha0) h7.1 e) e e (Zah e e e (gz4 4 5 6 7 e (Zae (Zac (Zad 4 (Zaf e e e (Zbg e (fun v w hs hm => ZbZ hm ) e e fun v8 => jy (Zbk e) e e ?_))))))))))))))
 refine gz4 5 6 7 13 e (Zae (Zan e ?_ ?_))
 rotate_left
 ·refine Zam (ZaN (Zae ?_))
  refine Zad 6 (jy (Zap e e) e e (Zaf e e e (gz3 5 6 7 e (Zav H4 (w64 (z1 + 1)) () [] ⟨e, e, e, trivial⟩ e e e))))
 refine Zac (Zad 5 (Zah e e e (gz1 2 e (Zae (Zao (ZaA (Zau (Za0 (ZaA (Zau ?_))))))))))
 exact Zal e (fun w hs => .tmp e) (fun w hs => ⟨e, hs.drop⟩)
theorem Zb8 {w : World} {a0 : Int}  {v : Bool} (hm : Zbz a0 = some v) : Gives Try.prog 101 [.int .i64 a0] w (.bool v) := by
 refine ZaS (vs := [.int .i64 a0]) (U := fun (v : Bool) => .bool v) Try.func101 e Try.ntmps101 e e hm ?_
 unfold Zbz
 clear hm
 refine Zac (Zad 0 (Zah e e e (gz1 0 e (Zae (Zac (Zad 1 (Zaf e e e (jy (Zbu e e) e e (Zaf e e e (Zat 5 e ?_ ?_))))))))))
 ·refine Zaf e e e (jy (ZbP e e) e e (jy (Zai e e) e e (Zah e e e (gz1 2 e (Zae (Zao (Zal e (fun w hs => .tmp e) (fun w hs => ⟨e, hs.drop⟩))))))))
 refine Zaa e e (Zaa e e (jy (Zag e e) e e (Zah e e e (gz1 2 e (Zae (Zao (Zal e (fun w hs => .tmp e) (fun w hs => ⟨e, hs.drop⟩))))))))
theorem ZeJ {w : World} {a0 : Interval}  {v : Bool} (hm : Zcg a0 = some v) : Gives Try.prog 98 [.agg #[.int .i64 a0.Lo, .int .i64 a0.Hi]] w (.bool v) := by
 refine ZaS (vs := [.agg #[.int .i64 a0.Lo, .int .i64 a0.Hi]]) (U := fun (v : Bool) => .bool v) Try.func98 e Try.ntmps98 e e hm ?_
 unfold Zcg
 clear hm
 refine Zac (Zad 0 (ZbF e (l2 e) e e fun g1 => Zah e e e (gz1 1 e (Zae (Zac (Zad 1 (jy (Zab e) e e (jg_y (fun w hs => Zaj e (ld1B (hs.blkL (i := 0) e) e)) e e (jy (Zab e) e e (jg_y (fun w hs => Zaj e (ld1B (hs.blkL (i := 0) e) e)) e e (jy (ZbP e e) e e (Zaf e e e (Zat 8 e ?_ ?_)))))))))))))
 rotate_left
 ·refine Zaa e e (Zaa e e (Zaa e e (jy (Zag e e) e e (Zaf e e e (Zaa e e (Zaa e e (Zaa e e (jy (Zag e e) e e (Zah e e e (gz1 2 e (Zae (Zao (Zal e (fun w hs => .tmp e) (fun w hs => ⟨e, hs.drop⟩))))))))))))))
 refine jy (Zab e) e e (jg_y (fun w hs => Zaj e (ld1B (hs.blkL (i := 0) e) e)) e e (Zbg e (fun v w hs hm => Zb8 hm ) e e fun v2 => jy (Zai e e) e e (Zaf e e e (Zat 13 e ?_ ?_))))
 ·refine jy (Zab e) e e (jg_y (fun w hs => Zaj e (ld1B (hs.blkL (i := 0) e) e)) e e (Zbg e (fun v w hs hm => Zb8 hm ) e e fun v3 => jy (Zai e e) e e (Zah e e e (gz1 2 e (Zae (Zao (Zal e (fun w hs => .tmp e) (fun w hs => ⟨e, hs.drop⟩))))))))
 refine Zaa e e (Zaa e e (Zaa e e (jy (Zag e e) e e (Zah e e e (gz1 2 e (Zae (Zao (Zal e (fun w hs => .tmp e) (fun w hs => ⟨e, hs.drop⟩)))))))))
theorem ZdB {w : World} {a0 : Int}  {v : Int} (hm : Zb7 a0 = some v) : Gives Try.prog 99 [.int .i64 a0] w (.int .i64 v) := by
 refine ZaS (vs := [.int .i64 a0]) (U := fun (v : Int) => .int .i64 v) Try.func99 e Try.ntmps99 e e hm ?_
 unfold Zb7
 clear hm
 refine Zac (Zad 0 (Zah e e e (gz1 0 e (Zae (Zac (Zad 1 (Zah e e e (Zah e e e (gz3 0 3 4 e (Zae (Zac (Zar (Zbi (n := big) (fun (s : (Int × Int)) (g : Unit) => [(0, .int .i64 a0), (3, .int .i64 s.1), (4, .int .i64 s.2)]) (fun (s : (Int × Int)) (g : Unit) => []) (fun (s : (Int × Int)) (g : Unit) => []) (0, 1000001) () [] ⟨e, e, e, trivial⟩ e e e ?_)))))))))))))
 intro z1 q2 n5 k3 H4
 refine Zac (Zac (Zad 2 (Zaf e e e (Zaf e e e (jy (ZaW e e) e e (jy (Zbc e e) e e (gz4 0 3 4 9 e (Zae (Zan e ?_ ?_)))))))))
 rotate_left
 ·refine ZaG (Zba (Zbe (Zbb (Zae ?_))))
  refine Zac (Zad 7 (Zaf e e e (Zah e e e (gz1 2 e (Zae (Zao (Zal e (fun w hs => .tmp e) (fun w hs => ⟨e, hs.drop⟩))))))))
 refine Zam (Zae (Zar (Zac (Zad 3 (Zaf e e e (Zaf e e e (jy (Zap e e) e e (ZcJ (fun w hs => ZbX e e (by decide)) e e fun x6 => Zah e e e (gz4 0 3 4 5 e (Zae (Zac (Zad 4 (Zaf e e e (Zaf e e e (jy (ZbE e e) e e ?_)))))))))))))))
 refine Zaf e e e (jy (ZbP e e) e e (gz5 0 3 4 5 18 e (Zae (Zan e ?_ ?_))))
 ·refine Zad 5 (Zaf e e e (Zah e e e (gz3 0 3 4 e (ZaN (Zav H4 (x6, z1.2) () [] ⟨e, e, e, trivial⟩ e e e)))))
 refine Zad 6 (Zaf e e e (Zah e e e (gz3 0 3 4 e (ZaN (Zav H4 (z1.1, x6) () [] ⟨e, e, e, trivial⟩ e e e)))))
theorem Zfn {w : World} {a0 : Interval}  {v : (Interval × Int)} (hm : Zct a0 = some v) : Gives Try.prog 95 [.agg #[.int .i64 a0.Lo, .int .i64 a0.Hi]] w (.tuple #[.agg #[.int .i64 v.1.Lo, .int .i64 v.1.Hi], .int .i64 v.2]) := by
 refine ZaS (vs := [.agg #[.int .i64 a0.Lo, .int .i64 a0.Hi]]) (U := fun (v : (Interval × Int)) => .tuple #[.agg #[.int .i64 v.1.Lo, .int .i64 v.1.Hi], .int .i64 v.2]) Try.func95 e Try.ntmps95 e e hm ?_
 unfold Zct
 clear hm
 refine Zac (Zad 0 (ZbF e (l2 e) e e fun g1 => ZaL (l2 e) e e fun g2 => Zah e e e (gz2 1 2 e (Zae (Zac (Zac (Zad 1 (jg_y (fun w hs => Zaj e (ldBB (hs.blkL (i := 1) e) e)) e e (Zbg e (fun v w hs hm => ZeJ (a0 := a0) hm ) e e fun v3 => jy (Zbk e) e e (gz3 1 2 7 e (Zae (Zan e ?_ ?_))))))))))))
 ·refine Zac (Zad 2 (jy (ZaY e (o2 e)) e e (Zax 0 e e e (l2 e) e e e e (l2 e) (r2 e) (Zah e e e (gz2 2 3 e (Zae (Zao (Zau (ZaZ e (fun w hs => .cell e (ldBB (hs.blkL (i := 0) e) e)) (fun w hs => .tmp e) (fun w hs => ⟨e, hs.drop⟩))))))))))
 refine Zam (Zae (Zac (Zac (Zad 3 (jy (Zab e) e e (jg_y (fun w hs => Zaj e (ld1B (hs.blkL (i := 1) e) e)) e e (jy (ZaB e e) e e (gz3 1 2 11 e (Zae (Zan e ?_ ?_))))))))))
 ·refine Zac (Zad 4 (jy (ZaY e (o2 e)) e e (Zax 0 e e e (l2 e) e e e e (l2 e) (r2 e) (Zah e e e (gz2 2 3 e (Zae (Zao (Zau (ZaZ e (fun w hs => .cell e (ldBB (hs.blkL (i := 0) e) e)) (fun w hs => .tmp e) (fun w hs => ⟨e, hs.drop⟩))))))))))
 refine Zam (Zae (Zac (Zad 5 (jy (Zab e) e e (jg_y (fun w hs => Zaj e (ld1B (hs.blkL (i := 1) e) e)) e e (Zbg e (fun v w hs hm => ZdB hm ) e e fun v4 => Zah e e e (gz3 1 2 4 e (Zae (Za6 (fun (s : Int) (g : Unit) => [(1, .pointer (some ⟨g1, 0, none⟩)), (2, .pointer (some ⟨g2, 0, none⟩)), (4, .int .i64 s)]) (fun (s : Int) (g : Unit) => []) (fun (s : Int) (g : Unit) => [(Res.blk g1 70 [.int .i64 a0.Lo, .int .i64 a0.Hi]), (Res.blk g2 70 [.int .i64 0, .int .i64 0])]) ?_ ?_)))))))))
 ·intro z5 q6
  refine Zac (Zad 8 (jy (Zab e) e e (jg_y (fun w hs => Zaj e (ld1B (hs.blkL (i := 0) e) e)) e e (Zbg e (fun v w hs hm => ZdB hm ) e e fun v9 => Zaf e e e (jy (ZaY e (o2 e)) e e (Zax 1 e e e (l2 e) e e e e (l2 e) (r2 e) (Zah e e e (gz2 2 3 e (Zae (Zao (ZaZ e (fun w hs => .cell e (ldBB (hs.blkL (i := 1) e) e)) (fun w hs => .tmp e) (fun w hs => ⟨e, hs.drop⟩))))))))))))
 intro k7 H8
 refine Zac (Zad 6 (Zaf e e e (Zaf e e e (jy (ZbE e e) e e (jy (Zab e) e e (jg_y (fun w hs => Zaj e (ld1B (hs.blkL (i := 1) e) e)) e e (jy (ZaB e e) e e (gz4 1 2 4 21 e (Zae (Zan e ?_ ?_))))))))))
 rotate_left
 ·refine Zam (Zav H8 v4 () [1, 0] ⟨e, e, e, trivial⟩ e e e)
 refine Zad 7 (Zaf e e e (jy (Zap e e) e e (Zah e e e (gz3 1 2 4 e (Zav H8 (w64 (v4 + 1)) () [1, 0] ⟨e, e, e, trivial⟩ e e e)))))
theorem ZdP {w : World} {a0 : Int}  {v : (Int × Int)} (hm : Zcl a0 = some v) : Gives Try.prog 91 [.int .i64 a0] w (.tuple #[.int .i64 v.1, .int .i64 v.2]) := by
 refine ZaS (vs := [.int .i64 a0]) (U := fun (v : (Int × Int)) => .tuple #[.int .i64 v.1, .int .i64 v.2]) Try.func91 e Try.ntmps91 e e hm ?_
 unfold Zcl
 clear hm
 refine Zac (Zad 0 (Zah e e e (Zah e e e (gz1 0 e (Zae (Zac (Zad 1 (Zaf e e e (Zaf e e e (jy (ZaY e (o2 e)) e e (Zbg e (fun v w hs hm => Zfn (a0 := (Interval.mk a0 a0)) hm ) e e fun v1 => Zaf e e e (jy (ZaH e e) e e (jy (ZaH e e) e e (ZaL (l2 e) e e fun g2 => Zax 0 e e e (l2 e) e e e e (l2 e) (r1 e) ?_))))))))))))))
 refine Zah e e e (gz1 4 e (Zae (Zac (ZaV (L' := [_]) 2 [0] [0, 1, 2, 3, 4, 5] 63 63 [0, 1, 0, 4, 3, 31] [0, 1, 0, 4, 3, 31] [(0, true), (1, true), (2, true), (3, true), (4, true), (5, true)] e (Zay Zbn) (by kernel_rfl) (by kernel_rfl) (by kernel_rfl) (by kernel_rfl) (by kernel_rfl) (by kernel_rfl) (by kernel_rfl) (by kernel_rfl) (jd_y e (fun w hs => Zab e) e e (jd_y e (fun w hs => Zaj e (ld1B (hs.blk (i := 0) e) e)) e e (jd_y e (fun w hs => Zab e) e e (jd_y e (fun w hs => Zaj e (ld1B (hs.blk (i := 0) e) e)) e e (Zb4 e e e e (Zb4 e e e e (Za9 [(2, _), (3, _)] ⟨e, e, trivial⟩ (Zae (Zao (ZaZ e (fun w hs => .tmp e) (fun w hs => .tmp e) (fun w hs => ⟨e, hs.drop⟩)))))))))))))))
theorem Zfm {w : World} {a0 : Int} {a1 : Int}  {v : Int} (hm : Zcs a0 a1 = some v) : Gives Try.prog 100 [.int .i64 a0, .int .i64 a1] w (.int .i64 v) := by
 refine ZaS (vs := [.int .i64 a0, .int .i64 a1]) (U := fun (v : Int) => .int .i64 v) Try.func100 e Try.ntmps100 e e hm ?_
 unfold Zcs
 clear hm
 refine Zac (Zad 0 (Zah e e e (gz2 0 1 e (Zae (Zac (ZaV (L' := []) 1 [] [0, 1, 2, 3, 4, 5, 6, 7] 255 255 [0, 0, 3, 0, 0, 24, 7, 127] [0, 0, 3, 0, 0, 24, 7, 127] [(0, true), (1, true), (2, true), (3, true), (4, true), (5, true), (6, true), (7, true)] e (Zay Zbn) (by kernel_rfl) (by kernel_rfl) (by kernel_rfl) (by kernel_rfl) (by kernel_rfl) (by kernel_rfl) (by kernel_rfl) (by kernel_rfl) (Zaz e e e e (Zaz e e e e (Zel fun h1 => jd_y e (fun w hs => ZbX e e (of_decide_eq_true h1)) e e (Zaz e e e e (Zaz e e e e (Zel fun h2 => jd_y e (fun w hs => Zdp e e (of_decide_eq_true h2)) e e (Zb4 e e e e (Zb4 e e e e ?_))))))))))))))
 refine Za9 [(1, _), (5, _), (6, _)] ⟨e, e, e, trivial⟩ (Zae (Zac (Zac (Zad 2 (Zaf e e e (jy (Zbj e e) e e (Zaf e e e (Zat 15 e ?_ ?_))))))))
 rotate_left
 ·refine Zaa e e (Zaa e e (Zaa e e (Zaa e e (Zaa e e (jy (Zag e e) e e (gz2 5 21 e (Zae (Zdt e (Zam (Zae (Zac (Zad 4 (Zaf e e e (Zah e e e (gz1 4 e (Zae ?_))))))))))))))))
  refine Zao (Zal e (fun w hs => .tmp e) (fun w hs => ⟨e, hs.drop⟩))
 refine Zaf e e e (jy (ZaB e e) e e (Zaf e e e (jy (ZaB e e) e e (jy (ZeT Try.underlying4 e e) e e (jy (Zai e e) e e (gz2 5 21 e (Zae (Zan e ?_ ?_))))))))
 rotate_left
 ·refine Zam (Zae (Zac (Zad 4 (Zaf e e e (Zah e e e (gz1 4 e (Zae (Zao (Zal e (fun w hs => .tmp e) (fun w hs => ⟨e, hs.drop⟩))))))))))
 refine Zad 3 (Zaf e e e (ZcJ (fun w hs => ZaW e e) e e fun x3 => Zah e e e (gz1 5 e (Zae (Zac (Zad 4 (Zaf e e e (Zah e e e (gz1 4 e (Zae (Zao (Zal e (fun w hs => .tmp e) (fun w hs => ⟨e, hs.drop⟩)))))))))))))
theorem ZeK {w : World} {a0 : Int} {a1 : Int}  {v : (Int × Int)} (hm : Zch a0 a1 = some v) : Gives Try.prog 96 [.int .i64 a0, .int .i64 a1] w (.tuple #[.int .i64 v.1, .int .i64 v.2]) := by
 refine ZaS (vs := [.int .i64 a0, .int .i64 a1]) (U := fun (v : (Int × Int)) => .tuple #[.int .i64 v.1, .int .i64 v.2]) Try.func96 e Try.ntmps96 e e hm ?_
 unfold Zch
 clear hm
 refine Zac (Zad 0 (Zah e e e (Zah e e e (gz2 0 1 e (Zae (Zac (Zac (Zad 1 (Zaf e e e (jy (ZaR e e) e e (gz3 0 1 8 e (Zae (Zan e ?_ ?_)))))))))))))
 ·refine Zac (Zad 2 (Zah e e e (Zah e e e (gz2 4 5 e (Zae (Zao (Zau (ZaZ e (fun w hs => .tmp e) (fun w hs => .tmp e) (fun w hs => ⟨e, hs.drop⟩)))))))))
 refine Zam (Zae (Zac (Zac (Zad 3 (Zaf e e e (Zaf e e e (Zbg e (fun v w hs hm => Zfm hm ) e e fun v1 => Zah e e e (gz1 6 e (Zae (Zac (Zad 4 (Zaf e e e (Zbg e (fun v w hs hm => Zb8 hm ) e e fun v2 => gz2 6 13 e (Zae ?_))))))))))))))
 refine Zan e ?_ ?_
 ·refine Zac (Zad 5 (Zaf e e e (Zah e e e (Zah e e e (gz2 4 5 e (Zae (Zao (Zau (ZaZ e (fun w hs => .tmp e) (fun w hs => .tmp e) (fun w hs => ⟨e, hs.drop⟩))))))))))
 refine Zam (Zae (Zac (Zad 6 (Zah e e e (Zah e e e (gz2 4 5 e (Zae (Zao (ZaZ e (fun w hs => .tmp e) (fun w hs => .tmp e) (fun w hs => ⟨e, hs.drop⟩))))))))))
theorem Zgh {w : World} {a0 : Int} {a1 : Int}  {v : Int} (hm : Zc6 a0 a1 = some v) : Gives Try.prog 102 [.int .i64 a0, .int .i64 a1] w (.int .i64 v) := by
 refine ZaS (vs := [.int .i64 a0, .int .i64 a1]) (U := fun (v : Int) => .int .i64 v) Try.func102 e Try.ntmps102 e e hm ?_
 unfold Zc6
 clear hm
 refine Zac (Zad 0 (Zah e e e (gz2 0 1 e (Zae (Zac (ZaV (L' := []) 1 [] [0, 1, 2, 3, 4, 5, 6, 7] 255 255 [0, 0, 3, 0, 0, 24, 7, 127] [0, 0, 3, 0, 0, 24, 7, 127] [(0, true), (1, true), (2, true), (3, true), (4, true), (5, true), (6, true), (7, true)] e (Zay Zbn) (by kernel_rfl) (by kernel_rfl) (by kernel_rfl) (by kernel_rfl) (by kernel_rfl) (by kernel_rfl) (by kernel_rfl) (by kernel_rfl) (Zaz e e e e (Zaz e e e e (Zel fun h1 => jd_y e (fun w hs => ZbX e e (of_decide_eq_true h1)) e e (Zaz e e e e (Zaz e e e e (Zel fun h2 => jd_y e (fun w hs => Zdp e e (of_decide_eq_true h2)) e e (Zb4 e e e e (Zb4 e e e e ?_))))))))))))))
 refine Za9 [(1, _), (5, _), (6, _)] ⟨e, e, e, trivial⟩ (Zae (Zac (Zac (Zad 2 (Zaf e e e (jy (Zbj e e) e e (Zaf e e e (Zat 15 e ?_ ?_))))))))
 rotate_left
 ·refine Zaa e e (Zaa e e (Zaa e e (Zaa e e (Zaa e e (jy (Zag e e) e e (gz2 5 21 e (Zae (Zdt e (Zam (Zae (Zac (Zad 4 (Zaf e e e (Zah e e e (gz1 4 e (Zae ?_))))))))))))))))
  refine Zao (Zal e (fun w hs => .tmp e) (fun w hs => ⟨e, hs.drop⟩))
 refine Zaf e e e (jy (ZaB e e) e e (Zaf e e e (jy (ZaB e e) e e (jy (Zha Try.underlying4 e e) e e (jy (Zai e e) e e (gz2 5 21 e (Zae (Zan e ?_ ?_))))))))
 rotate_left
 ·refine Zam (Zae (Zac (Zad 4 (Zaf e e e (Zah e e e (gz1 4 e (Zae (Zao (Zal e (fun w hs => .tmp e) (fun w hs => ⟨e, hs.drop⟩))))))))))
 refine Zad 3 (Zaf e e e (ZcJ (fun w hs => Zap e e) e e fun x3 => Zah e e e (gz1 5 e (Zae (Zac (Zad 4 (Zaf e e e (Zah e e e (gz1 4 e (Zae (Zao (Zal e (fun w hs => .tmp e) (fun w hs => ⟨e, hs.drop⟩)))))))))))))
theorem Zfo {w : World} {a0 : Int} {a1 : Int}  {v : (Int × Int)} (hm : Zcu a0 a1 = some v) : Gives Try.prog 97 [.int .i64 a0, .int .i64 a1] w (.tuple #[.int .i64 v.1, .int .i64 v.2]) := by
 refine ZaS (vs := [.int .i64 a0, .int .i64 a1]) (U := fun (v : (Int × Int)) => .tuple #[.int .i64 v.1, .int .i64 v.2]) Try.func97 e Try.ntmps97 e e hm ?_
 unfold Zcu
 clear hm
 refine Zac (Zad 0 (Zah e e e (Zah e e e (gz2 0 1 e (Zae (Zac (Zac (Zad 1 (Zaf e e e (jy (ZaR e e) e e (gz3 0 1 8 e (Zae (Zan e ?_ ?_)))))))))))))
 ·refine Zac (Zad 2 (Zah e e e (Zah e e e (gz2 4 5 e (Zae (Zao (Zau (ZaZ e (fun w hs => .tmp e) (fun w hs => .tmp e) (fun w hs => ⟨e, hs.drop⟩)))))))))
 refine Zam (Zae (Zac (Zac (Zad 3 (Zaf e e e (Zaf e e e (Zbg e (fun v w hs hm => Zgh hm ) e e fun v1 => Zah e e e (gz1 6 e (Zae (Zac (Zad 4 (Zaf e e e (Zbg e (fun v w hs hm => Zb8 hm ) e e fun v2 => gz2 6 13 e (Zae ?_))))))))))))))
 refine Zan e ?_ ?_
 ·refine Zac (Zad 5 (Zaf e e e (Zah e e e (Zah e e e (gz2 4 5 e (Zae (Zao (Zau (ZaZ e (fun w hs => .tmp e) (fun w hs => .tmp e) (fun w hs => ⟨e, hs.drop⟩))))))))))
 refine Zam (Zae (Zac (Zad 6 (Zah e e e (Zah e e e (gz2 4 5 e (Zae (Zao (ZaZ e (fun w hs => .tmp e) (fun w hs => .tmp e) (fun w hs => ⟨e, hs.drop⟩))))))))))
theorem Zf7 {w : World} {a0 : Piece} {a1 : Int}  {v : (Int × Int)} (hm : ZcV a0 a1 = some v) : Gives Try.prog 92 [.agg #[.int .i64 a0.Element, .int .i64 a0.Length, .int .i64 a0.Grade, .int .i64 a0.Curve, .int .i64 a0.Power], .int .i64 a1] w (.tuple #[.int .i64 v.1, .int .i64 v.2]) := by
 refine ZaS (vs := [.agg #[.int .i64 a0.Element, .int .i64 a0.Length, .int .i64 a0.Grade, .int .i64 a0.Curve, .int .i64 a0.Power], .int .i64 a1]) (U := fun (v : (Int × Int)) => .tuple #[.int .i64 v.1, .int .i64 v.2]) Try.func92 e Try.ntmps92 e e hm ?_
 unfold ZcV
 clear hm
 refine Zac (Zad 0 (ZbF e (l5 e) e e fun g1 => Zah e e e (Zah e e e (gz2 1 2 e (Zae (Zac (Zad 1 (jy (Zab e) e e (jg_y (fun w hs => Zaj e (ld1B (hs.blkL (i := 0) e) e)) e e (Zaf e e e (jy (ZaW e e) e e (ZcJ (fun w hs => ZbE e e) e e fun x2 => jy (Zab e) e e (jg_y (fun w hs => Zaj e (ld1B (hs.blkL (i := 0) e) e)) e e (jy (ZbE e e) e e ?_))))))))))))))
 refine Zah e e e (gz1 6 e (Zae (Zac (Zad 2 (Zaf e e e (Zbg e (fun v w hs hm => ZeK hm ) e e fun v3 => Zaf e e e (jy (ZaH e e) e e (jy (ZaH e e) e e (Zah e e e (gz2 4 6 e (Zae (Zac (Zad 3 (Zaf e e e (Zbg e (fun v w hs hm => Zfo hm ) e e fun v4 => ?_)))))))))))))))
 refine Zaf e e e (jy (ZaH e e) e e (jy (ZaH e e) e e (Zah e e e (gz2 4 5 e (Zae (Zac (Zad 4 (Zaf e e e (Zaf e e e (Zah e e e (Zah e e e (gz2 4 5 e (Zae (Zao (ZaZ e (fun w hs => .tmp e) (fun w hs => .tmp e) (fun w hs => ⟨e, hs.drop⟩))))))))))))))))
theorem Zfv {w : World} {a0 : (List Piece)} {a1 : Run} {ha0 : Hd} {ha1_Resist : Hd} {ha1_Targets : Hd} {v : ((List Moment) × Int × Int)} (hm : ZcD a0 a1 = some v) (Rha0 : Sl w ha0 Piece.enc a0) (Rha1_Resist : Sl w ha1_Resist encI a1.Resist) (Rha1_Targets : Sl w ha1_Targets encI a1.Targets) : Calls Try.prog 82 ([ha0.v, .agg #[.int .i64 a1.Speed, ha1_Resist.v, ha1_Targets.v]] : List Value).toArray w (fun e w' => ∃ g : Hd, e = .returned (.tuple #[g.v, .int .i64 v.2.1, .int .i64 v.2.2]) ∧ St w w' [] [(rowH g 161 2 Moment.enc v.1)]) := by
 refine ZbL (vs := [ha0.v, .agg #[.int .i64 a1.Speed, ha1_Resist.v, ha1_Targets.v]]) (R := fun (v : ((List Moment) × Int × Int)) (e : Ending) (w' : World) => ∃ g : Hd, e = .returned (.tuple #[g.v, .int .i64 v.2.1, .int .i64 v.2.2]) ∧ St w w' [] [(rowH g 161 2 Moment.enc v.1)]) Try.func82 e Try.ntmps82 e e (St.refl w) hm ?_
 unfold ZcD
 clear hm
 refine Zac (Zad 0 (ZbF e (l3 e) e e fun g1 => Zah e e e (Zah e e e (Zah e e e (gz2 0 3 e (Zae (Zac (Zac (Zad 1 (Zaf e e e (Zbg e (fun v w hs hm => ZdQ hm (hs.arg Rha0)) e e fun v2 => Zah e e e (gz3 0 3 7 e (Zae (Zac ?_))))))))))))))
 refine Zad 2 (Zaf e e e (jy (Zbj e e) e e (gz4 0 3 7 25 e (Zae (Zan e ?_ ?_)))))
 ·refine Zac (Zad 3 (Zaf e e e (Zah e e e (Zah e e e (Zah e e e (gz3 4 5 6 e (Zae (Zao (Zau (ZaU 161 2 Moment.enc (Zc4 e (fun w hs => .tmp e) (fun w hs => .tmp e) (fun w hs => .tmp e) (fun w hs => ⟨(Hd.mk none 0 0), e, hs.sel (is := [0]) e e⟩))))))))))))
 refine Zam (Zae (Zac (Zac (ZaV (L' := [_]) 4 [0] [0, 1, 2, 3, 4, 5, 6, 7, 8, 9, 10, 11, 12, 13] 16383 16383 [0, 1, 2, 0, 8, 20, 32, 64, 192, 320, 64, 1088, 2624, 4160] [0, 1, 3, 0, 8, 31, 63, 127, 255, 511, 127, 1151, 4095, 8191] [(0, true), (1, true), (2, true), (3, true), (4, true), (5, true), (6, true), (7, true), (8, true), (9, true), (10, true), (11, true), (12, true), (13, true)] e (Zay (Zay Zbn)) (by kernel_rfl) (by kernel_rfl) (by kernel_rfl) (by kernel_rfl) (by kernel_rfl) (by kernel_rfl) (by kernel_rfl) (by kernel_rfl) (jd_y e (fun w hs => Zab e) e e (jd_y e (fun w hs => Zaj e (ld1B (hs.blk (i := 0) e) e)) e e (jd_y e (fun w hs => ZaT e (hs.arg Rha1_Resist)) e e (Zaz e e e e (jd_y e (fun w hs => ZaT e (hs.arg Rha0)) e e (jd_y e (fun w hs => Zbj e e) e e (Zaz e e e e (ZbJ 33 e ?_ ?_))))))))))))
 ·refine Zaq e e e (Zaq e e e (Zaq e e e (Zaq e e e (Zaq e e e (Zaq e e e (jd_y e (fun w hs => Zai e e) e e (Za9 [(0, _), (3, _), (40, _)] ⟨e, e, e, trivial⟩ (Zae (Zbf e (Zac (Zad 5 (Zah e e e (Zah e e e (Zah e e e (gz3 4 5 6 e (Zae ?_))))))))))))))))
  refine Zao (Zau (ZaU 161 2 Moment.enc (Zc4 e (fun w hs => .tmp e) (fun w hs => .tmp e) (fun w hs => .tmp e) (fun w hs => ⟨(Hd.mk none 0 0), e, hs.sel (is := [0]) e e⟩))))
 refine jd_y e (fun w hs => Zab e) e e (jd_y e (fun w hs => Zaj e (ld1B (hs.blk (i := 0) e) e)) e e (jd_y e (fun w hs => ZaT e (hs.arg Rha1_Targets)) e e (Zaz e e e e (Zdu e e (fun v w hs hm => Zd7 hm (hs.arg Rha0)) e e fun v3 => jd_y e (fun w hs => Zbj e e) e e (jd_y e (fun w hs => Zag e e) e e (Za9 [(0, _), (3, _), (40, _)] ⟨e, e, e, trivial⟩ (Zae (Zan e ?_ ?_))))))))
 ·refine Zac (Zad 5 (Zah e e e (Zah e e e (Zah e e e (gz3 4 5 6 e (Zae (Zao (Zau (ZaU 161 2 Moment.enc (Zc4 e (fun w hs => .tmp e) (fun w hs => .tmp e) (fun w hs => .tmp e) (fun w hs => ⟨(Hd.mk none 0 0), e, hs.sel (is := [0]) e e⟩)))))))))))
 refine Zam (Zae (Za6 (fun (s : Unit) (g : Unit) => [(0, ha0.v), (3, .pointer (some ⟨g1, 0, none⟩))]) (fun (s : Unit) (g : Unit) => []) (fun (s : Unit) (g : Unit) => [(Res.blk g1 155 [.int .i64 a1.Speed, ha1_Resist.v, ha1_Targets.v])]) ?_ ?_))
 rotate_left
 ·intro k6 H7
  refine Zac (Zad 6 (jy (Zab e) e e (jg_y (fun w hs => Zaj e (ld1B (hs.blkL (i := 0) e) e)) e e (jg_y (fun w hs => ZaT e (hs.arg Rha1_Resist)) e e (Zaf e e e (gz5 0 3 42 43 44 e (Zae (Zar (Zbi (n := big) (fun (s : Int) (g : Unit) => [(0, ha0.v), (3, .pointer (some ⟨g1, 0, none⟩)), (42, ha1_Resist.v), (43, .int .i64 (a1.Resist.length : Int)), (44, .int .i64 s)]) (fun (s : Int) (g : Unit) => []) (fun (s : Int) (g : Unit) => [(Res.blk g1 155 [.int .i64 a1.Speed, ha1_Resist.v, ha1_Targets.v])]) 0 () [0] ⟨e, e, e, e, e, trivial⟩ e e e ?_)))))))))
  intro z42 q43 n46 k44 H45
  refine Zac (Zad 7 (jy (ZaB e e) e e (gz6 0 3 42 43 44 45 e (Zae (Zac (Zan e ?_ ?_))))))
  rotate_left
  ·refine ZaG (Zba (Zbe (Zbb ?_)))
   exact Zav H7 () () [0] ⟨e, e, trivial⟩ e e e
  refine Zam (Zae (Zac (Zar (Zac (Zad 8 (Za1 fun x47 h48 => jg_y (fun w hs => ZaD e e (hs.arg Rha1_Resist) h48) e e (jg_y (fun w hs => ZaK e (hs.arg Rha1_Resist) h48.1 e) e e (Zah e e e (gz6 0 3 9 42 43 44 e (Zae (Zac (Zad 9 (Zaf e e e (Zbg e (fun v w hs hm => ZbZ hm ) e e fun v49 => jy (Zbk e) e e ?_))))))))))))))
  refine gz6 0 3 42 43 44 50 e (Zae (Zan e ?_ ?_))
  rotate_left
  ·refine Zam (ZaN (Zae ?_))
   refine Zad 11 (jy (Zap e e) e e (Zaf e e e (gz5 0 3 42 43 44 e (Zav H45 (w64 (z42 + 1)) () [0] ⟨e, e, e, e, e, trivial⟩ e e e))))
  refine Zac (Zad 10 (Zah e e e (Zah e e e (Zah e e e (gz3 4 5 6 e (Zae (Zao (ZaA (Zau (Za0 (ZaA (Zau ?_))))))))))))
  refine ZaU 161 2 Moment.enc (Zc4 e (fun w hs => .tmp e) (fun w hs => .tmp e) (fun w hs => .tmp e) (fun w hs => ⟨(Hd.mk none 0 0), e, hs.sel (is := [0]) e e⟩))
 intro z4 q5
 refine Zac (Zac (Zad 12 (jy (Zab e) e e (jg_y (fun w hs => Zaj e (ld1B (hs.blkL (i := 0) e) e)) e e (Zbg e (fun v w hs hm => ZbZ hm ) e e fun v8 => jy (Zbk e) e e (Zaf e e e (Zat 56 e ?_ ?_)))))))
 ·refine Zaa e e (Zaa e e (Zaa e e (Zaa e e (jy (Zai e e) e e (gz3 0 3 61 e (Zae (Zbf e (Zac (Zad 13 (Zah e e e (Zah e e e (Zah e e e (gz3 4 5 6 e (Zae (Zao (Zau ?_))))))))))))))))
  refine ZaU 161 2 Moment.enc (Zc4 e (fun w hs => .tmp e) (fun w hs => .tmp e) (fun w hs => .tmp e) (fun w hs => ⟨(Hd.mk none 0 0), e, hs.sel (is := [0]) e e⟩))
 refine jy (Zab e) e e (jg_y (fun w hs => Zaj e (ld1B (hs.blkL (i := 0) e) e)) e e (Zbg e (fun v w hs hm => ZeG hm (hs.arg Rha1_Targets)) e e fun v9 => jy (Zbk e) e e (jy (Zag e e) e e (gz3 0 3 61 e (Zae (Zan e ?_ ?_))))))
 ·refine Zac (Zad 13 (Zah e e e (Zah e e e (Zah e e e (gz3 4 5 6 e (Zae (Zao (Zau (ZaU 161 2 Moment.enc (Zc4 e (fun w hs => .tmp e) (fun w hs => .tmp e) (fun w hs => .tmp e) (fun w hs => ⟨(Hd.mk none 0 0), e, hs.sel (is := [0]) e e⟩)))))))))))
 refine Zam (Zae (Zac (Zad 14 (jy (Zab e) e e (jg_y (fun w hs => Zaj e (ld1B (hs.blkL (i := 0) e) e)) e e (jy (Zab e) e e (jg_y (fun w hs => Zaj e (ld1B (hs.blkL (i := 0) e) e)) e e (jy (ZbE e e) e e (jy (ZaY e (o2 e)) e e (ZaL (l2 e) e e fun g10 => Zax 0 e e e (l2 e) e e e e (l2 e) (r2 e) (gz3 0 3 10 e (Zae (Zac (Zad 15 (jg_y (fun w hs => Zaj e (ldBB (hs.blkL (i := 0) e) e)) e e ?_)))))))))))))))
 refine Za2 (enc := Moment.enc) [(Moment.mk 0 (w64 (a1.Speed * a1.Speed)))] e e e e e e e e fun hd11 => Zah e e e (gz4 0 3 10 11 e (Zae (Zac (Zad 16 (Zah e e e (gz5 0 3 10 11 12 e (Zae (Zac (Zac (Zad 17 (Zaf e e e (jg_y (fun w hs => ZaT e (hs.arg Rha0)) e e (Zaf e e e (gz7 3 10 11 12 70 71 72 e (Zae ?_)))))))))))))))
 refine Zar (Zbi (n := big) (fun (s : (Int × Int × (List Moment) × Int × Int)) (g : Hd) => [(3, .pointer (some ⟨g1, 0, none⟩)), (10, .pointer (some ⟨g10, 0, none⟩)), (11, g.v), (12, .int .i64 s.2.2.2.1), (70, ha0.v), (71, .int .i64 (a0.length : Int)), (72, .int .i64 s.2.2.2.2)]) (fun (s : (Int × Int × (List Moment) × Int × Int)) (g : Hd) => []) (fun (s : (Int × Int × (List Moment) × Int × Int)) (g : Hd) => [(Res.blk g1 155 [.int .i64 a1.Speed, ha1_Resist.v, ha1_Targets.v]), (Res.blk g10 161 [.int .i64 s.1, .int .i64 s.2.1]), (rowH g 161 2 Moment.enc s.2.2.1)]) (0, w64 (a1.Speed * a1.Speed), ([(Moment.mk 0 (w64 (a1.Speed * a1.Speed)))] : List Moment), 0, 0) hd11 [2, 1, 0] ⟨e, e, e, e, e, e, e, trivial⟩ e e e ?_)
 intro z12 q13 n16 k14 H15
 refine Zac (Zad 18 (jy (ZaB e e) e e (gz8 3 10 11 12 70 71 72 73 e (Zae (Zac (Zan e ?_ ?_))))))
 rotate_left
 ·refine ZaG (Zba (Zbe (Zbb (Zae ?_))))
  refine Zac (Zad 36 (Zaf e e e (Zah e e e (Zah e e e (Zah e e e (gz3 4 5 6 e (ZaF (is := [2]) (s1 e) e (Zae (Zao (Zc4 e (fun w hs => .tmp e) (fun w hs => .tmp e) (fun w hs => .tmp e) (fun w hs => ⟨q13, e, hs.sel (is := [0]) e e⟩)))))))))))
 refine Zam (Zae (Zac (Zar (Zac (Zad 19 (Zaf e e e (Za1 fun x17 h18 => jg_y (fun w hs => ZaD e e (hs.arg Rha0) h18) e e (jg_y (fun w hs => ZbH e (hs.arg Rha0) h18.1 (l5 e) e) e e (ZaL (l5 e) e e fun g19 => Zah e e e (Zax 0 e e e (l5 e) e e e e (l5 e) (r4 e) (gz9 3 10 11 12 13 14 70 71 72 e (Zae (Zac (Zad 20 ?_))))))))))))))
 refine jy (Zab e) e e (jg_y (fun w hs => Zaj e (ld1B (hs.blkL (i := 2) e) e)) e e (Zbg e (fun v w hs hm => ZdP hm ) e e fun v20 => Zaf e e e (jy (ZaH e e) e e (jy (ZaH e e) e e (Zah e e e (Zah e e e (gz10 3 10 11 12 13 14 15 70 71 72 e (Zae (Zac (ZaV (L' := [_, _, _, _]) 21 [0, 1, 2, 3] [0, 1, 2, 3, 4, 5, 6, 7, 8, 9, 10, 11] 4095 4095 [0, 0, 2, 0, 12, 16, 33, 64, 128, 128, 511, 2047] [0, 0, 2, 0, 14, 30, 63, 127, 255, 255, 511, 2047] [(0, true), (1, true), (2, true), (3, true), (4, true), (5, true), (6, true), (7, true), (8, true), (9, true), (10, true), (11, true)] e (Zay (ZaE (Zay (Za8 (ZaE (Zay Zbn)))))) (by kernel_rfl) (by kernel_rfl) (by kernel_rfl) (by kernel_rfl) (by kernel_rfl) (by kernel_rfl) (by kernel_rfl) (by kernel_rfl) (jd_y e (fun w hs => Zaj e (ldBB (hs.blk (i := 0) e) e)) e e (jd_y e (fun w hs => Zab e) e e (jd_y e (fun w hs => Zaj e (ld1B (hs.blk (i := 1) e) e)) e e (Zaz e e e e (Zbs fun x21 h22 => ?_)))))))))))))))
 refine jd_y e (fun w hs => ZaD e e (hs.arg Rha1_Resist) h22) e e (jd_y e (fun w hs => ZaK e (hs.arg Rha1_Resist) h22.1 e) e e (Zdu e e (fun v w hs hm => Zf7 (a0 := x17) hm ) e e fun v23 => Zaz e e e e (jd_y e (fun w hs => ZaH e e) e e (jd_y e (fun w hs => ZaH e e) e e (Zb4 e e e e (Zb4 e e e e (Za9 [(3, _), (10, _), (11, _), (12, _), (13, _), (14, _), (15, _), (17, _), (70, _), (71, _), (72, _)] ⟨e, e, e, e, e, e, e, e, e, e, e, trivial⟩ (Zae (Zac (Zad 22 (jy (Zab e) e e (jg_y (fun w hs => Zaj e (ld1B (hs.blkL (i := 2) e) e)) e e (Zaf e e e (jy (Zap e e) e e (jy (Zab e) e e ?_)))))))))))))))
 refine Zax 2 e e e (l1 e) e e e e (l2 e) (r4 e) (gz10 3 10 11 12 13 14 15 70 71 72 e (Zae (Zac (Zac (Zad 23 (jy (Zab e) e e (jg_y (fun w hs => Zaj e (ld1B (hs.blkL (i := 2) e) e)) e e (jy (ZaB e e) e e (gz11 3 10 11 12 13 14 15 70 71 72 100 e (Zae (Zan e ?_ ?_)))))))))))
 ·refine Zac (Zad 24 (Zaf e e e (Zaf e e e (Zah e e e (Zah e e e (Zah e e e (gz3 4 5 6 e (ZaF (is := [3]) (s1 e) e (Zae (Zao (Zau (ZaA (Zau (Za0 (ZaA (Zau ?_))))))))))))))))
  exact Zc4 e (fun w hs => .tmp e) (fun w hs => .tmp e) (fun w hs => .tmp e) (fun w hs => ⟨q13, e, hs.sel (is := [0]) e e⟩)
 refine Zam (Zae (Zac (Zad 25 (jy (Zab e) e e (jg_y (fun w hs => Zaj e (ld1B (hs.blkL (i := 2) e) e)) e e (Zbg e (fun v w hs hm => ZdP hm ) e e fun v24 => Zaf e e e (jy (ZaH e e) e e (jy (ZaH e e) e e (Zah e e e (Zah e e e (gz11 3 10 11 12 13 14 15 19 70 71 72 e (Zae (Zac (Zac (Zad 26 ?_)))))))))))))))
 refine Zaf e e e (Zaf e e e (jy (Zap e e) e e (jy (ZaR e e) e e (gz12 3 10 11 12 13 14 15 19 70 71 72 112 e (Zae (Zan e ?_ ?_))))))
 ·refine Zac (Zad 27 (Zaf e e e (Zaf e e e (Zah e e e (Zah e e e (Zah e e e (gz3 4 5 6 e (ZaF (is := [3]) (s1 e) e (Zae (Zao (Zau (ZaA (Zau (Za0 (ZaA (Zau ?_))))))))))))))))
  exact Zc4 e (fun w hs => .tmp e) (fun w hs => .tmp e) (fun w hs => .tmp e) (fun w hs => ⟨q13, e, hs.sel (is := [0]) e e⟩)
 refine Zam (Zae (Zac (ZaV (L' := [_, _, _, _]) 28 [0, 1, 2, 3] [0, 1, 2, 3, 4, 5, 6, 7, 8, 9, 10, 11, 12, 13, 14, 15, 16] 131071 262143 [0, 1, 0, 4, 8, 0, 48, 0, 192, 256, 0, 0, 3072, 4608, 8194, 16384, 65535, 131071] [0, 1, 0, 4, 12, 0, 60, 0, 252, 508, 0, 0, 3072, 8188, 16383, 32767, 65535, 131071] [(0, true), (1, true), (2, true), (3, true), (4, true), (5, true), (6, true), (7, true), (8, true), (9, true), (10, true), (11, true), (12, true), (13, true), (14, true), (15, true), (16, true), (17, false)] e (Zay (ZaE (Zay (Za8 (ZaE (Zay Zbn)))))) (by kernel_rfl) (by kernel_rfl) (by kernel_rfl) (by kernel_rfl) (by kernel_rfl) (by kernel_rfl) (by kernel_rfl) (by kernel_rfl) (jd_y e (fun w hs => Zab e) e e (jd_y e (fun w hs => Zaj e (ld1B (hs.blk (i := 2) e) e)) e e (jd_y e (fun w hs => Zab e) e e (jd_y e (fun w hs => Zaj e (ld1B (hs.blk (i := 0) e) e)) e e (jd_y e (fun w hs => ZbE e e) e e (Zaz e e e e (Zfl e (fun w hs => Zap e e) e e fun x25 => Zaz e e e e (jd_y e (fun w hs => Zap e e) e e (jd_y e (fun w hs => ZaW e e) e e (Zaz e e e e (Zaz e e e e (jd_y e (fun w hs => Zap e e) e e ?_)))))))))))))))
 refine Zel fun h26 => Zfl e (fun w hs => ZbX e e (of_decide_eq_true h26)) e e fun x27 => jd_y e (fun w hs => Zap e e) e e (Zfl e (fun w hs => Zd3 e e) e e fun x28 => jd_y e (fun w hs => Zab e) e e (jd_h e (Zax 2 e e e (l1 e) e e e e (l2 e) (r4 e) (ZaI (Zcr e (Zby [(3, _), (10, _), (11, _), (12, _), (14, _), (70, _), (71, _), (72, _)] ⟨e, e, e, e, e, e, e, e, trivial⟩ (Zae (Zac (Zac (Zad 29 (jy (Zab e) e e (jg_y (fun w hs => Zaj e (ld1B (hs.blkL (i := 0) e) e)) e e (jy (Zbc e e) e e ?_)))))))))))))
 refine gz9 3 10 11 12 14 70 71 72 134 e (Zae (Zan e ?_ ?_))
 rotate_left
 ·refine Zam (Zae (Zad 34 (Zaf e e e (jg_y (fun w hs => Zaj e (ldBB (hs.blkL (i := 2) e) e)) e e (Za2 (enc := Moment.enc) [(Moment.mk x28 (w64 (z12.2.1 + v23.1)))] e e e e e e e e fun hd39 => ZaO 4 e e e (fun w hs => (hs.row 0 e)) e e e fun y40 hd41 => jg_L (r5 e) (Zah e e e (gz7 3 10 11 12 70 71 72 e (ZaF (is := [2, 3, 4]) (s3 e) e (ZaN (Zae ?_))))))))))
  refine Zad 35 (jy (Zap e e) e e (Zaf e e e (gz7 3 10 11 12 70 71 72 e (Zav H15 (x28, w64 (z12.2.1 + v23.1), y40, z12.2.2.2.1, w64 (z12.2.2.2.2 + 1)) hd41 [0, 1, 2] ⟨e, e, e, e, e, e, e, trivial⟩ e e e))))
 refine Zac (Zac (Zad 30 (jy (Zab e) e e (jg_y (fun w hs => Zaj e (ld1B (hs.blkL (i := 1) e) e)) e e (Zaf e e e (Za1 fun x29 h30 => jg_y (fun w hs => ZaD e e (hs.arg Rha1_Targets) h30) e e (jg_y (fun w hs => ZaK e (hs.arg Rha1_Targets) h30.1 e) e e (Zah e e e (gz9 3 10 11 12 14 21 70 71 72 e (Zae (Zac (Zad 31 (Zaf e e e (jy (Zbu e e) e e (gz10 3 10 11 12 14 21 70 71 72 141 e ?_)))))))))))))))
 refine Zae (Zan e ?_ ?_)
 rotate_left
 ·refine Zam (Zae (Zad 33 (Zaf e e e (jy (Zap e e) e e (Zah e e e (gz7 3 10 11 12 70 71 72 e (Zae (Zad 34 (Zaf e e e (jg_y (fun w hs => Zaj e (ldBB (hs.blkL (i := 2) e) e)) e e (Za2 (enc := Moment.enc) [(Moment.mk x28 (w64 (z12.2.1 + v23.1)))] e e e e e e e e fun hd36 => ZaO 4 e e e (fun w hs => (hs.row 0 e)) e e e fun y37 hd38 => jg_L (r5 e) (Zah e e e (gz7 3 10 11 12 70 71 72 e (ZaF (is := [2, 3, 4]) (s3 e) e ?_))))))))))))))
  refine ZaN (Zae ?_)
  refine Zad 35 (jy (Zap e e) e e (Zaf e e e (gz7 3 10 11 12 70 71 72 e (Zav H15 (x28, w64 (z12.2.1 + v23.1), y37, w64 (z12.2.2.2.1 + 1), w64 (z12.2.2.2.2 + 1)) hd38 [0, 1, 2] ⟨e, e, e, e, e, e, e, trivial⟩ e e e))))
 refine Zad 32 (jy (Zab e) e e (jg_y (fun w hs => Zaj e (ld1B (hs.blkL (i := 2) e) e)) e e (Zaf e e e (Zaf e e e (jy (ZbE e e) e e (ZcJ (fun w hs => Zd3 e e) e e fun x31 => jy (Zab e) e e (jg_y (fun w hs => Zaj e (ld1B (hs.blkL (i := 2) e) e)) e e (jy (Zab e) e e (jg_y (fun w hs => Zaj e (ld1B (hs.blkL (i := 0) e) e)) e e (ZcJ (fun w hs => ZaW e e) e e fun x32 => jy (ZeU e e) e e (jy (Zab e) e e (Zax 2 e e e (l1 e) e e e e (l2 e) (r4 e) (gz7 3 10 11 12 70 71 72 e (Zae ?_))))))))))))))
 refine Zad 33 (Zaf e e e (jy (Zap e e) e e (Zah e e e (gz7 3 10 11 12 70 71 72 e (Zae (Zad 34 (Zaf e e e (jg_y (fun w hs => Zaj e (ldBB (hs.blkL (i := 2) e) e)) e e (Za2 (enc := Moment.enc) [(Moment.mk x28 (max x31 x32))] e e e e e e e e fun hd33 => ZaO 4 e e e (fun w hs => (hs.row 0 e)) e e e fun y34 hd35 => jg_L (r5 e) (Zah e e e (gz7 3 10 11 12 70 71 72 e (ZaF (is := [2, 3, 4]) (s3 e) e (ZaN (Zae ?_))))))))))))))
 refine Zad 35 (jy (Zap e e) e e (Zaf e e e (gz7 3 10 11 12 70 71 72 e (Zav H15 (x28, max x31 x32, y34, w64 (z12.2.2.2.1 + 1), w64 (z12.2.2.2.2 + 1)) hd35 [0, 1, 2] ⟨e, e, e, e, e, e, e, trivial⟩ e e e))))
theorem ZfU {w : World} {a0 : (List Piece)} {a1 : Rolling} {ha0 : Hd} {ha1_Resist : Hd} {ha1_Targets : Hd} {v : ((List Moment) × Int)} (hm : ZdH a0 a1 = some v) (Rha0 : Sl w ha0 Piece.enc a0) (Rha1_Resist : Sl w ha1_Resist encI a1.Resist) (Rha1_Targets : Sl w ha1_Targets encI a1.Targets) : Calls Try.prog 64 ([ha0.v, .agg #[.int .i64 a1.Release, .int .i64 a1.Length, .int .i64 a1.Track, .int .i64 a1.Speed, ha1_Resist.v, ha1_Targets.v]] : List Value).toArray w (fun e w' => ∃ g : Hd, e = .returned (.tuple #[g.v, .int .i64 v.2]) ∧ St w w' [] [(rowH g 161 2 Moment.enc v.1)]) := by
 refine ZbL (vs := [ha0.v, .agg #[.int .i64 a1.Release, .int .i64 a1.Length, .int .i64 a1.Track, .int .i64 a1.Speed, ha1_Resist.v, ha1_Targets.v]]) (R := fun (v : ((List Moment) × Int)) (e : Ending) (w' : World) => ∃ g : Hd, e = .returned (.tuple #[g.v, .int .i64 v.2]) ∧ St w w' [] [(rowH g 161 2 Moment.enc v.1)]) Try.func64 e Try.ntmps64 e e (St.refl w) hm ?_
 unfold ZdH
 clear hm
 refine Zac (Zad 0 (ZbF e (l6 e) e e fun g1 => Zah e e e (Zah e e e (gz2 0 3 e (Zae (Zac (Zad 1 (jy (Zab e) e e (jg_y (fun w hs => Zaj e (ld1B (hs.blkL (i := 0) e) e)) e e (jy (ZaY e (o3 e)) e e (ZaL (l3 e) e e fun g2 => Zax 0 e e e (l3 e) e e e e (l3 e) (r2 e) (gz3 0 3 6 e (Zae (Za6 (fun (s : ((List Int) × (List Int))) (g : (Hd × Hd)) => [(0, ha0.v), (6, .pointer (some ⟨g2, 0, none⟩))]) (fun (s : ((List Int) × (List Int))) (g : (Hd × Hd)) => []) (fun (s : ((List Int) × (List Int))) (g : (Hd × Hd)) => [(Res.blk g2 155 [.int .i64 a1.Speed, g.1.v, g.2.v]), (rowH g.1 3 1 encI s.1), (rowH g.2 3 1 encI s.2)]) ?_ ?_))))))))))))))
 ·intro z3 q4
  refine Zac (Zad 9 (Zaf e e e (jg_y (fun w hs => Zaj e (ldBB (hs.blkL (i := 0) e) e)) e e (jg_c e (fun v w hs hm => Zfv (a1 := (Run.mk a1.Speed z3.1 z3.2)) hm (hs.arg Rha0) (hs.row 1 e) (hs.row 2 e)) e e fun v7 q8 => jg_L (r4 e) (Zaf e e e (jy (ZaH e e) e e (jy (ZaH e e) e e (jy (ZaH e e) e e (Zah e e e (Zah e e e (Zah e e e (gz2 9 10 e (ZaF (is := [0]) (s1 e) e (Zae (Zac ?_)))))))))))))))
  refine Zad 10 (Zaf e e e (Zaf e e e (Zah e e e (Zah e e e (gz2 4 5 e (Zae (Zao (ZaZ e (fun w hs => .tmp e) (fun w hs => .tmp e) (fun w hs => ⟨q8, e, hs.sel (is := [0]) e e⟩)))))))))
 intro k5 H6
 refine Zac (Zad 2 (Zaf e e e (jg_y (fun w hs => ZaT e (hs.arg Rha0)) e e (Zaf e e e (gz6 0 3 6 15 16 17 e (Zae (Zar (Zbm 3 1 encI (Zbm 3 1 encI (Zbi (n := big) (fun (s : ((List Int) × (List Int) × Int)) (g : (Hd × Hd)) => [(0, ha0.v), (3, .pointer (some ⟨g1, 0, none⟩)), (6, .pointer (some ⟨g2, 0, none⟩)), (15, ha0.v), (16, .int .i64 (a0.length : Int)), (17, .int .i64 s.2.2)]) (fun (s : ((List Int) × (List Int) × Int)) (g : (Hd × Hd)) => []) (fun (s : ((List Int) × (List Int) × Int)) (g : (Hd × Hd)) => [(Res.blk g1 45 [.int .i64 a1.Release, .int .i64 a1.Length, .int .i64 a1.Track, .int .i64 a1.Speed, ha1_Resist.v, ha1_Targets.v]), (Res.blk g2 155 [.int .i64 a1.Speed, g.1.v, g.2.v]), (rowH g.1 3 1 encI s.1), (rowH g.2 3 1 encI s.2.1)]) (([] : List Int), ([] : List Int), 0) ((Hd.mk none 0 0), (Hd.mk none 0 0)) [3, 2, 1, 0] ⟨e, e, e, e, e, e, trivial⟩ e e e ?_))))))))))
 intro z9 q10 n13 k11 H12
 refine Zac (Zad 3 (jy (ZaB e e) e e (gz7 0 3 6 15 16 17 18 e (Zae (Zac (Zan e ?_ ?_))))))
 rotate_left
 ·refine ZaG (Zba (Zbe (Zbb ?_)))
  exact Zav H6 (z9.1, z9.2.1) (q10.1, q10.2) [1, 2, 3] ⟨e, e, trivial⟩ e e e
 refine Zam (Zae (Zac (Zar (Zac (Zad 4 (Za1 fun x14 h15 => jg_y (fun w hs => ZaD e e (hs.arg Rha0) h15) e e (jg_y (fun w hs => ZbH e (hs.arg Rha0) h15.1 (l5 e) e) e e (ZaL (l5 e) e e fun g16 => Zax 0 e e e (l5 e) e e e e (l5 e) (r5 e) (gz7 0 3 6 8 15 16 17 e (Zae (Zac (ZaV (L' := [_, _, _, _]) 5 [0, 1, 2, 4] [0, 1, 2, 3, 4, 5, 6, 7, 8, 9, 10] 2047 4095 [0, 1, 0, 4, 0, 16, 40, 64, 128, 258, 1023, 2047] [0, 1, 0, 4, 0, 16, 60, 124, 252, 511, 1023, 2047] [(0, true), (1, true), (2, true), (3, true), (4, true), (5, true), (6, true), (7, true), (8, false), (9, false), (10, true), (11, false)] e (Zay (ZaE (Zay (Za8 (ZaE (Zay Zbn)))))) (by kernel_rfl) (by kernel_rfl) (by kernel_rfl) (by kernel_rfl) (by kernel_rfl) (by kernel_rfl) (by kernel_rfl) (by kernel_rfl) (jd_y e (fun w hs => Zab e) e e (jd_y e (fun w hs => Zaj e (ld1B (hs.blk (i := 2) e) e)) e e ?_))))))))))))))
 refine jd_y e (fun w hs => Zab e) e e (jd_y e (fun w hs => Zaj e (ld1B (hs.blk (i := 1) e) e)) e e (jd_y e (fun w hs => Zab e) e e (jd_y e (fun w hs => Zaj e (ld1B (hs.blk (i := 0) e) e)) e e (Zbs fun x17 h18 => jd_y e (fun w hs => ZaD e e (hs.arg Rha1_Resist) h18) e e (jd_y e (fun w hs => ZaK e (hs.arg Rha1_Resist) h18.1 e) e e (jd_h e (Za2 (enc := encI) [x17] e e e e e e e e fun hd19 => ZaI (Zb6 [1, 2, 3, 5] e (jd_h e (ZaO 4 e e e (fun w hs => (hs.row 0 e)) e e e fun y20 hd21 => jg_L (r6 e) (ZaI (Zb6 [1, 2, 3, 5] e (jd_y e (fun w hs => Zab e) e e ?_)))))))))))))
 refine jd_h e (Zax 3 e e e (l1 e) e e e e (l3 e) (r6 e) (ZaI (Zcr e (Zby [(0, _), (3, _), (6, _), (8, _), (15, _), (16, _), (17, _)] ⟨e, e, e, e, e, e, e, trivial⟩ (Zae (Zac (Zad 6 (jy (Zab e) e e (jg_y (fun w hs => Zaj e (ld1B (hs.blkL (i := 1) e) e)) e e (jy (Zbc e e) e e (gz8 0 3 6 8 15 16 17 34 e (Zae (Zan e ?_ ?_)))))))))))))
 rotate_left
 ·refine Zam (ZaN (Zae ?_))
  refine Zad 8 (jy (Zap e e) e e (Zaf e e e (gz6 0 3 6 15 16 17 e (ZaF (is := [2, 3, 4, 5]) (s4 e) e (Zav H12 (y20, z9.2.1, w64 (z9.2.2 + 1)) (hd21, q10.2) [0, 1, 2, 3] ⟨e, e, e, e, e, e, trivial⟩ e e e)))))
 refine ZaV (L' := [_, _, _, _]) 7 [1, 2, 3, 4] [0, 1, 2, 3, 4, 5, 6, 7, 8, 9, 10] 2047 4095 [0, 1, 0, 4, 0, 16, 40, 64, 128, 258, 1023, 2047] [0, 1, 0, 4, 0, 16, 60, 124, 252, 511, 1023, 2047] [(0, true), (1, true), (2, true), (3, true), (4, true), (5, true), (6, true), (7, true), (8, false), (9, false), (10, true), (11, false)] e (ZaE (Zay (Za8 (ZaE (Zay Zbn))))) (by kernel_rfl) (by kernel_rfl) (by kernel_rfl) (by kernel_rfl) (by kernel_rfl) (by kernel_rfl) (by kernel_rfl) (by kernel_rfl) (jd_y e (fun w hs => Zab e) e e (jd_y e (fun w hs => Zaj e (ld1B (hs.blk (i := 2) e) e)) e e (jd_y e (fun w hs => Zab e) e e (jd_y e (fun w hs => Zaj e (ld1B (hs.blk (i := 1) e) e)) e e (jd_y e (fun w hs => Zab e) e e (jd_y e (fun w hs => Zaj e (ld1B (hs.blk (i := 0) e) e)) e e (Zbs fun x22 h23 => jd_y e (fun w hs => ZaD e e (hs.arg Rha1_Targets) h23) e e (jd_y e (fun w hs => ZaK e (hs.arg Rha1_Targets) h23.1 e) e e (jd_h e (Za2 (enc := encI) [x22] e e e e e e e e fun hd24 => ZaI (Zb6 [2, 3, 4, 5] e (jd_h e (ZaO 6 e e e (fun w hs => (hs.row 0 e)) e e e fun y25 hd26 => jg_L (r7 e) ?_)))))))))))))
 refine ZaI (Zb6 [2, 3, 4, 5] e (jd_y e (fun w hs => Zab e) e e (jd_h e (Zax 4 e e e (l1 e) e e e e (l3 e) (r7 e) (ZaI (Zcr e (Zby [(0, _), (3, _), (6, _), (15, _), (16, _), (17, _)] ⟨e, e, e, e, e, e, trivial⟩ (ZaF (is := [3, 4, 5, 6]) (s4 e) e (ZaN (Zae ?_))))))))))
 refine Zad 8 (jy (Zap e e) e e (Zaf e e e (gz6 0 3 6 15 16 17 e (Zav H12 (y20, y25, w64 (z9.2.2 + 1)) (hd21, hd26) [0, 1, 2, 3] ⟨e, e, e, e, e, e, trivial⟩ e e e))))
theorem Zg1 {w : World} {a0 : (List Piece)} {a1 : Rolling} {ha0 : Hd} {ha1_Resist : Hd} {ha1_Targets : Hd} {v : (Int × Bool)} (hm : Zdm a0 a1 = some v) (Rha0 : Sl w ha0 Piece.enc a0) (Rha1_Resist : Sl w ha1_Resist encI a1.Resist) (Rha1_Targets : Sl w ha1_Targets encI a1.Targets) : Gives Try.prog 80 [ha0.v, .agg #[.int .i64 a1.Release, .int .i64 a1.Length, .int .i64 a1.Track, .int .i64 a1.Speed, ha1_Resist.v, ha1_Targets.v]] w (.tuple #[.int .i64 v.1, .bool v.2]) := by
 refine ZaS (vs := [ha0.v, .agg #[.int .i64 a1.Release, .int .i64 a1.Length, .int .i64 a1.Track, .int .i64 a1.Speed, ha1_Resist.v, ha1_Targets.v]]) (U := fun (v : (Int × Bool)) => .tuple #[.int .i64 v.1, .bool v.2]) Try.func80 e Try.ntmps80 e e hm ?_
 unfold Zdm
 clear hm
 refine Zac (Zad 0 (ZbF e (l6 e) e e fun g1 => Zah e e e (Zah e e e (gz2 0 3 e (Zae (Zac (Zac (Zad 1 (Zaf e e e (jg_y (fun w hs => ZaT e (hs.arg Rha0)) e e (jy (ZaR e e) e e (gz3 0 3 10 e (Zae (Zan e ?_ ?_))))))))))))))
 ·refine Zac (Zad 2 (jy (Zab e) e e (jg_y (fun w hs => Zaj e (ld1B (hs.blkL (i := 0) e) e)) e e (Zah e e e (Zah e e e (gz2 4 5 e (Zae (Zao (Zau (ZaZ e (fun w hs => .tmp e) (fun w hs => .tmp e) (fun w hs => ⟨e, hs.drop⟩)))))))))))
 refine Zam (Zae (Zac (Zad 3 (Zaf e e e (jg_y (fun w hs => Zaj e (ldBB (hs.blkL (i := 0) e) e)) e e (jg_c e (fun v w hs hm => ZfU (a1 := a1) hm (hs.arg Rha0) (hs.arg Rha1_Resist) (hs.arg Rha1_Targets)) e e fun v2 q3 => jg_L (r2 e) (Zaf e e e (jy (ZaH e e) e e (jy (ZaH e e) e e (Zah e e e (Zah e e e (gz3 3 6 7 e (Zae (Zac (Zac ?_)))))))))))))))
 refine Zad 4 (Zaf e e e (jy (Zbu e e) e e (gz3 3 6 20 e (Zae (Zan e ?_ ?_)))))
 ·refine Zac (Zad 5 (Zah e e e (Zah e e e (gz2 4 5 e (ZaF (is := []) (s0 e) e (Zae (Zao (Zau (ZaZ e (fun w hs => .tmp e) (fun w hs => .tmp e) (fun w hs => ⟨e, hs.drop⟩))))))))))
 refine Zam (Zae (Zac (ZaV (L' := [_, _]) 6 [0, 1] [0, 1, 2, 3, 4, 5, 6, 7, 8, 9, 10, 11] 4095 4095 [0, 1, 0, 0, 8, 16, 36, 64, 128, 258, 1023, 2047] [0, 1, 0, 0, 8, 24, 60, 124, 252, 511, 1023, 2047] [(0, true), (1, true), (2, true), (3, true), (4, true), (5, true), (6, true), (7, true), (8, true), (9, true), (10, true), (11, true)] e (Zay Zbn) (by kernel_rfl) (by kernel_rfl) (by kernel_rfl) (by kernel_rfl) (by kernel_rfl) (by kernel_rfl) (by kernel_rfl) (by kernel_rfl) (jd_y e (fun w hs => Zab e) e e (jd_y e (fun w hs => Zaj e (ld1B (hs.blk (i := 1) e) e)) e e (Zaz e e e e (Zaz e e e e (jd_y e (fun w hs => ZaT e (hs.row 0 e)) e e (jd_y e (fun w hs => ZaW e e) e e (Zbs fun x4 h5 => jd_y e (fun w hs => ZaD e e (hs.row 0 e) h5) e e (jd_y e (fun w hs => ZaX e (hs.row 0 e) h5.1) e e (jd_y e (fun w hs => ZaK e (hs.row 0 e) h5.1 e) e e (jd_y e (fun w hs => Zap e e) e e (Zb4 e e e e (Zb4 e e e e ?_)))))))))))))))
 refine Za9 [(4, _), (5, _)] ⟨e, e, trivial⟩ (ZaF (is := []) (s0 e) e (Zae (Zao (ZaZ e (fun w hs => .tmp e) (fun w hs => .tmp e) (fun w hs => ⟨e, hs.drop⟩)))))
theorem ZeL {w : World} {a0 : HumpPush} {a1 : Int} {a2 : Int} {b0 : Nat} {ha0_fs_Elements : Hd} {ha0_fs_Start : Hd} {ha0_fs_Commands : Hd} {ha0_fs_Cuts : Hd} {qa0_fs_Cuts : List (Rolling × (Hd × Hd))} {ga0_fstart : Nat} {ga0_fdone : Nat} {qa0_fdone : List (Ent Command)} {ha0_frides : Hd} {qa0_frides : List (Ride × Hd)} {ha0_fincidents : Hd} {v : (Int × Bool)} (hm : Zci a0 a1 a2 = some v) (Rha0_fs_Elements : Sl w ha0_fs_Elements Element.enc a0.fs.Elements) (Rha0_fs_Start : Sl w ha0_fs_Start Throw.enc a0.fs.Start) (Rha0_fs_Commands : Sl w ha0_fs_Commands Command.enc a0.fs.Commands) (Rha0_fincidents : Sl w ha0_fincidents Incident.enc a0.fincidents) (eha0_fs_Cuts : qa0_fs_Cuts.map (·.1) = a0.fs.Cuts) (Rha0_fs_Cuts : Sl w ha0_fs_Cuts Nt.enc qa0_fs_Cuts) (Dha0_fs_Cuts : ∀ p ∈ qa0_fs_Cuts, rdN w p) (eha0_frides : qa0_frides.map (·.1) = a0.frides) (Rha0_frides : Sl w ha0_frides Nt.enc qa0_frides) (Dha0_frides : ∀ p ∈ qa0_frides, rdN w p) (Hga0_fstart : MapVAt w ga0_fstart keyP valP a0.fstart) (Hga0_fdone : MapVAt w ga0_fdone keyE valE qa0_fdone) (Hga0_fdoneK : KF qa0_fdone a0.fdone) (Hga0_fdoneD : ∀ x ∈ qa0_fdone, (rowE 53 4 Command.enc x).rd w) (Hp0 : Blk w b0 100 [ha0_fs_Elements.v, .int .i64 a0.fs.Throw, ha0_fs_Start.v, ha0_fs_Commands.v, ha0_fs_Cuts.v, .map (some ga0_fstart), .map (some ga0_fdone), ha0_frides.v, ha0_fincidents.v]) : Gives Try.prog 81 [.pointer (some ⟨b0, 0, none⟩), .int .i64 a1, .int .i64 a2] w (.tuple #[.int .i64 v.1, .bool v.2]) := by
 refine ZaS (vs := [.pointer (some ⟨b0, 0, none⟩), .int .i64 a1, .int .i64 a2]) (U := fun (v : (Int × Bool)) => .tuple #[.int .i64 v.1, .bool v.2]) Try.func81 e Try.ntmps81 e e hm ?_
 unfold Zci
 clear hm
 refine Zac (Zad 0 (Zah e e e (Zah e e e (gz3 0 1 2 e (Zae (Zac (Zad 1 (Zaf e e e (jy (Zbv e) e e (jy (Zab e) e e (jg_y (fun w hs => Zaj e (ld1B (hs.argb Hp0) e)) e e (Zaf e e e (jg_y (fun w hs => Zf1 e e (hs.argV Hga0_fdone)) e e (Zah e e e (gz4 0 1 2 8 e (Zae ?_))))))))))))))))
 refine Za6 (fun (s : Unit) (g : Unit) => [(0, .pointer (some ⟨b0, 0, none⟩)), (1, .int .i64 a1)]) (fun (s : Unit) (g : Unit) => []) (fun (s : Unit) (g : Unit) => []) ?_ ?_
 ·intro z1 q2
  refine Zac (Zac (Zad 7 (Zaf e e e (jy (Zbv e) e e (jy (Zab e) e e (jg_y (fun w hs => Zaj e (ld1B (hs.argb Hp0) e)) e e (Zaf e e e (jg_y (fun w hs => ZiV e e (hs.argV Hga0_fstart)) e e (Zaf e e e (jy (ZaH e e) e e (jy (ZaH e e) e e (Zah e e e (Zah e e e (gz2 10 11 e (Zae (Zac ?_))))))))))))))))
  refine Zad 8 (Zaf e e e (gz2 10 59 e (Zae (Zan e ?_ ?_))))
  ·refine Zac (Zad 9 (Zaf e e e (Zah e e e (Zah e e e (gz2 6 7 e (Zae (Zao (Zau (ZaZ e (fun w hs => .tmp e) (fun w hs => .tmp e) (fun w hs => ⟨e, hs.drop⟩))))))))))
  refine Zam (Zae (Zac (Zad 10 (Zah e e e (Zah e e e (gz2 6 7 e (Zae (Zao (ZaZ e (fun w hs => .tmp e) (fun w hs => .tmp e) (fun w hs => ⟨e, hs.drop⟩))))))))))
 intro k3 H4
 refine Zac (Zad 2 (Zaf e e e (ZcJ (fun w hs => ZaT e (Zdo Hga0_fdoneK.1 (hs.argE Hga0_fdoneD) a1)) e e fun x5 => jy (ZaW e e) e e (Zah e e e (gz5 0 1 2 8 9 e (Zae (Zar (Zbi (n := big) (fun (s : Int) (g : Unit) => [(0, .pointer (some ⟨b0, 0, none⟩)), (1, .int .i64 a1), (2, .int .i64 a2), (8, (hdOf a1 qa0_fdone).v), (9, .int .i64 s)]) (fun (s : Int) (g : Unit) => []) (fun (s : Int) (g : Unit) => []) (w64 (x5 - 1)) () [] ⟨e, e, e, e, e, trivial⟩ e e e ?_))))))))
 intro z6 q7 n10 k8 H9
 refine Zac (Zac (Zad 3 (Zaf e e e (jy (Zbu e e) e e (gz6 0 1 2 8 9 22 e (Zae (Zan e ?_ ?_)))))))
 rotate_left
 ·refine ZaG (Zba (Zbe (Zbb ?_)))
  exact Zav H4 () () [] ⟨e, e, trivial⟩ e e e
 refine Zam (Zae (Zac (Zar (Zac (Zad 5 (Zaf e e e (Zaf e e e (Za1 fun x11 h12 => jg_y (fun w hs => ZaD e e (Zdo Hga0_fdoneK.1 (hs.argE Hga0_fdoneD) a1) h12) e e (jg_y (fun w hs => ZaX e (Zdo Hga0_fdoneK.1 (hs.argE Hga0_fdoneD) a1) h12.1) e e (jg_y (fun w hs => ZaK e (Zdo Hga0_fdoneK.1 (hs.argE Hga0_fdoneD) a1) h12.1 e) e e (Zaf e e e (jy (ZbP e e) e e (gz6 0 1 2 8 9 31 e (Zae (Zan e ?_ ?_)))))))))))))))
 rotate_left
 ·refine Zam (ZaN (Zae ?_))
  refine Zad 4 (Zaf e e e (jy (ZaW e e) e e (Zah e e e (gz5 0 1 2 8 9 e (Zav H9 (w64 (z6 - 1)) () [] ⟨e, e, e, e, e, trivial⟩ e e e)))))
 refine Zac (ZaV (L' := []) 6 [] [0, 1, 2, 3, 4, 5, 6, 7, 8, 9, 10, 11, 12, 13, 14, 15, 16, 17, 18, 19] 1048575 1048575 [0, 0, 3, 4, 8, 0, 0, 96, 128, 256, 0, 1024, 2048, 4096, 8192, 16896, 0, 98304, 31, 524287] [0, 0, 3, 7, 15, 0, 0, 96, 224, 480, 0, 1024, 3072, 7168, 15360, 32736, 0, 131040, 31, 524287] [(0, true), (1, true), (2, true), (3, true), (4, true), (5, true), (6, true), (7, true), (8, true), (9, true), (10, true), (11, true), (12, true), (13, true), (14, true), (15, true), (16, true), (17, true), (18, true), (19, true)] e (Zay (ZaE (Zay (Za8 (ZaE (Zay Zbn)))))) (by kernel_rfl) (by kernel_rfl) (by kernel_rfl) (by kernel_rfl) (by kernel_rfl) (by kernel_rfl) (by kernel_rfl) (by kernel_rfl) (Zaz e e e e (Zaz e e e e (Zbs fun x13 h14 => jd_y e (fun w hs => ZaD e e (Zdo Hga0_fdoneK.1 (hs.argE Hga0_fdoneD) a1) h14) e e (jd_y e (fun w hs => ZaX e (Zdo Hga0_fdoneK.1 (hs.argE Hga0_fdoneD) a1) h14.1) e e (jd_y e (fun w hs => ZaK e (Zdo Hga0_fdoneK.1 (hs.argE Hga0_fdoneD) a1) h14.1 e) e e (Zaz e e e e (Zaz e e e e (Zbs fun x15 h16 => jd_y e (fun w hs => ZaD e e (Zdo Hga0_fdoneK.1 (hs.argE Hga0_fdoneD) a1) h16) e e (jd_y e (fun w hs => ZaX e (Zdo Hga0_fdoneK.1 (hs.argE Hga0_fdoneD) a1) h16.1) e e (jd_y e (fun w hs => ZaK e (Zdo Hga0_fdoneK.1 (hs.argE Hga0_fdoneD) a1) h16.1 e) e e (Zaz e e e e (jd_y e (fun w hs => Zbv e) e e (jd_y e (fun w hs => Zab e) e e ?_))))))))))))))
 refine jd_y e (fun w hs => Zab e) e e (jd_y e (fun w hs => Zaj e (ld1B (hs.argb Hp0) e)) e e (jd_y e (fun w hs => Zap e e) e e (Zaz e e e e (jd_y e (fun w hs => Zbc e e) e e (Zb4 e e e e (Zb4 e e e e (Za9 [(6, _), (7, _)] ⟨e, e, trivial⟩ (Zae (Zao (ZaA (Zau (Za0 (ZaA (Zau ?_))))))))))))))
 exact ZaZ e (fun w hs => .tmp e) (fun w hs => .tmp e) (fun w hs => ⟨e, hs.drop⟩)
theorem Zeu {w : World} {a0 : (List Piece)} {a1 : Int} {a2 : Int} {ha0 : Hd} {v : Int} (hm : Zb2 a0 a1 a2 = some v) (Rha0 : Sl w ha0 Piece.enc a0) : Gives Try.prog 93 [ha0.v, .int .i64 a1, .int .i64 a2] w (.int .i64 v) := by
 refine ZaS (vs := [ha0.v, .int .i64 a1, .int .i64 a2]) (U := fun (v : Int) => .int .i64 v) Try.func93 e Try.ntmps93 e e hm ?_
 unfold Zb2
 clear hm
 refine Zac (Zad 0 (Zah e e e (gz3 0 1 2 e (Zae (Zac (Zac (Zad 1 (Zaf e e e (jy (ZaB e e) e e (Zaf e e e (Zat 12 e ?_ ?_)))))))))))
 ·refine Zaa e e (Zaa e e (Zaa e e (Zaa e e (jy (Zai e e) e e (Zaf e e e (Zaa e e (Zaa e e (jy (Zai e e) e e (Zaf e e e (Zaa e e (Zaa e e (jy (Zai e e) e e (gz4 0 1 2 25 e (Zae (Zbf e (Zac ?_))))))))))))))))
  refine Zad 2 (Zah e e e (gz1 6 e (Zae (Zao (Zau (Zal e (fun w hs => .tmp e) (fun w hs => ⟨e, hs.drop⟩)))))))
 refine Zaf e e e (Zaf e e e (jg_y (fun w hs => ZaT e (hs.arg Rha0)) e e (jy (Zbu e e) e e (jy (Zag e e) e e (Zaf e e e (Zat 18 e ?_ ?_))))))
 ·refine Zaa e e (Zaa e e (jy (Zai e e) e e (Zaf e e e (Zaa e e (Zaa e e (jy (Zai e e) e e (gz4 0 1 2 25 e (Zae (Zbf e (Zac (Zad 2 (Zah e e e (gz1 6 e (Zae (Zao (Zau ?_))))))))))))))))
  exact Zal e (fun w hs => .tmp e) (fun w hs => ⟨e, hs.drop⟩)
 refine Zaf e e e (jy (ZaB e e) e e (jy (Zag e e) e e (Zaf e e e (Zat 22 e ?_ ?_))))
 ·refine Zaa e e (Zaa e e (jy (Zai e e) e e (gz4 0 1 2 25 e (Zae (Zbf e (Zac (Zad 2 (Zah e e e (gz1 6 e (Zae (Zao (Zau (Zal e (fun w hs => .tmp e) (fun w hs => ⟨e, hs.drop⟩))))))))))))))
 refine Zaf e e e (jy (Zbc e e) e e (jy (Zag e e) e e (gz4 0 1 2 25 e (Zae (Zan e ?_ ?_)))))
 ·refine Zac (Zad 2 (Zah e e e (gz1 6 e (Zae (Zao (Zau (Zal e (fun w hs => .tmp e) (fun w hs => ⟨e, hs.drop⟩))))))))
 refine Zam (Zae (Za6 (fun (s : Unit) (g : Unit) => [(0, ha0.v), (1, .int .i64 a1), (2, .int .i64 a2)]) (fun (s : Unit) (g : Unit) => []) (fun (s : Unit) (g : Unit) => []) ?_ ?_))
 ·intro z1 q2
  refine Zac (Zad 9 (Zah e e e (gz4 0 1 2 9 e (Zae (Zac (Zar (Zbi (n := big) (fun (s : (Int × Int)) (g : Unit) => [(0, ha0.v), (1, .int .i64 s.1), (2, .int .i64 a2), (9, .int .i64 s.2)]) (fun (s : (Int × Int)) (g : Unit) => []) (fun (s : (Int × Int)) (g : Unit) => []) (a1, 0) () [] ⟨e, e, e, e, trivial⟩ e e e ?_)))))))
  intro z5 q6 n9 k7 H8
  refine Zac (Zac (Zad 10 (Zaf e e e (Zaf e e e (jy (ZaB e e) e e (gz5 0 1 2 9 43 e (Zae (Zan e ?_ ?_))))))))
  rotate_left
  ·refine ZaG (Zba (Zbe (Zbb (Zae ?_))))
   refine Zac (Zad 15 (Zaf e e e (Zah e e e (gz1 6 e (Zae (Zao (Zal e (fun w hs => .tmp e) (fun w hs => ⟨e, hs.drop⟩))))))))
  refine Zam (Zae (Zar (Zac (Zad 11 (Zaf e e e (jy (Zap e e) e e (Zah e e e (gz4 0 1 2 9 e (Zae (Zac (Zac (Zad 12 (Zaf e e e (Zaf e e e (jg_y (fun w hs => ZaT e (hs.arg Rha0)) e e (jy (ZaR e e) e e ?_))))))))))))))))
  refine gz5 0 1 2 9 49 e (Zae (Zan e ?_ ?_))
  ·refine Zac (Zad 13 (Zah e e e (gz1 6 e (Zae (Zao (Zau (ZaA (Za0 (ZaA (Zau ?_))))))))))
   exact Zal e (fun w hs => .tmp e) (fun w hs => ⟨e, hs.drop⟩)
  refine Zam (Zae (Zad 14 (Zaf e e e (Zaf e e e (Zaf e e e (Za1 fun x10 h11 => jg_y (fun w hs => ZaD e e (hs.arg Rha0) h11) e e (jg_y (fun w hs => ZaX e (hs.arg Rha0) h11.1) e e (jg_y (fun w hs => ZaK e (hs.arg Rha0) h11.1 e) e e (jy (Zap e e) e e (Zah e e e (gz4 0 1 2 9 e (ZaN (Zav H8 (w64 (z5.1 + 1), w64 (z5.2 + x10.Length)) () [] ⟨e, e, e, e, trivial⟩ e e e)))))))))))))
 intro k3 H4
 refine Zac (Zad 3 (Zaf e e e (jg_y (fun w hs => ZaT e (hs.arg Rha0)) e e (Zaf e e e (gz6 0 1 2 26 27 28 e (Zae (Zar (Zbi (n := big) (fun (s : Int) (g : Unit) => [(0, ha0.v), (1, .int .i64 a1), (2, .int .i64 a2), (26, ha0.v), (27, .int .i64 (a0.length : Int)), (28, .int .i64 s)]) (fun (s : Int) (g : Unit) => []) (fun (s : Int) (g : Unit) => []) 0 () [] ⟨e, e, e, e, e, e, trivial⟩ e e e ?_))))))))
 intro z12 q13 n16 k14 H15
 refine Zac (Zad 4 (jy (ZaB e e) e e (gz7 0 1 2 26 27 28 29 e (Zae (Zac (Zan e ?_ ?_))))))
 rotate_left
 ·refine ZaG (Zba (Zbe (Zbb ?_)))
  exact Zav H4 () () [] ⟨e, e, e, trivial⟩ e e e
 refine Zam (Zae (Zac (Zar (Zac (Zad 5 (Za1 fun x17 h18 => jg_y (fun w hs => ZaD e e (hs.arg Rha0) h18) e e (jg_y (fun w hs => ZbH e (hs.arg Rha0) h18.1 (l5 e) e) e e (ZaL (l5 e) e e fun g19 => Zax 0 e e e (l5 e) e e e e (l5 e) (r1 e) (gz7 0 1 2 8 26 27 28 e (Zae (Zac (Zad 6 (jy (Zab e) e e (jg_y (fun w hs => Zaj e (ld1B (hs.blkL (i := 0) e) e)) e e ?_))))))))))))))
 refine jy (ZaB e e) e e (Zaf e e e (Zat 35 e ?_ ?_))
 ·refine Zaa e e (Zaa e e (Zaa e e (jy (Zai e e) e e (gz7 0 1 2 26 27 28 39 e (Zae (Zbf e (Zac (Zad 7 (Zah e e e (gz1 6 e (Zae (Zao (ZaA (Zau (Za0 (ZaA (Zau ?_)))))))))))))))))
  exact Zal e (fun w hs => .tmp e) (fun w hs => ⟨e, hs.drop⟩)
 refine jy (Zab e) e e (jg_y (fun w hs => Zaj e (ld1B (hs.blkL (i := 0) e) e)) e e (jy (Zbc e e) e e (jy (Zag e e) e e (gz7 0 1 2 26 27 28 39 e (Zae (Zan e ?_ ?_))))))
 rotate_left
 ·refine Zam (ZaN (Zae ?_))
  refine Zad 8 (jy (Zap e e) e e (Zaf e e e (gz6 0 1 2 26 27 28 e (Zav H15 (w64 (z12 + 1)) () [] ⟨e, e, e, e, e, e, trivial⟩ e e e))))
 refine Zac (Zad 7 (Zah e e e (gz1 6 e (Zae (Zao (ZaA (Zau (Za0 (ZaA (Zau ?_))))))))))
 exact Zal e (fun w hs => .tmp e) (fun w hs => ⟨e, hs.drop⟩)
theorem Zeh {w : World} {a0 : (List Element)} {a1 : (List Piece)} {a2 : Int} {a3 : Int} {a4 : Int} {ha0 : Hd} {ha1 : Hd} {v : ((List Int) × Int)} (hm : ZbS a0 a1 a2 a3 a4 = some v) (Rha0 : Sl w ha0 Element.enc a0) (Rha1 : Sl w ha1 Piece.enc a1) : Calls Try.prog 83 ([ha0.v, ha1.v, .int .i64 a2, .int .i64 a3, .int .i64 a4] : List Value).toArray w (fun e w' => ∃ g : Hd, e = .returned (.tuple #[g.v, .int .i64 v.2]) ∧ St w w' [] [(rowH g 3 1 encI v.1)]) := by
 refine ZbL (vs := [ha0.v, ha1.v, .int .i64 a2, .int .i64 a3, .int .i64 a4]) (R := fun (v : ((List Int) × Int)) (e : Ending) (w' : World) => ∃ g : Hd, e = .returned (.tuple #[g.v, .int .i64 v.2]) ∧ St w w' [] [(rowH g 3 1 encI v.1)]) Try.func83 e Try.ntmps83 e e (St.refl w) hm ?_
 unfold ZbS
 clear hm
 refine Zac (Zad 0 (Zah e e e (Zah e e e (gz5 0 1 2 3 4 e (Zae (Zac (Zac (Zad 1 (Zaf e e e (Zbg e (fun v w hs hm => ZdQ hm (hs.arg Rha1)) e e fun v1 => Zah e e e (gz6 0 1 2 3 4 12 e (Zae (Zac (Zad 2 (Zaf e e e ?_)))))))))))))))
 refine jy (Zbj e e) e e (gz7 0 1 2 3 4 12 21 e (Zae (Zan e ?_ ?_)))
 ·refine Zac (Zad 3 (Zaf e e e (Zah e e e (Zah e e e (gz2 10 11 e (Zae (Zao (Zau (ZaU 3 1 encI (ZaZ e (fun w hs => .tmp e) (fun w hs => .tmp e) (fun w hs => ⟨(Hd.mk none 0 0), e, hs.sel (is := [0]) e e⟩)))))))))))
 refine Zam (Zae (Zac (Zac (Zad 4 (Zaf e e e (jy (ZaB e e) e e (Zaf e e e (Zat 25 e ?_ ?_))))))))
 ·refine Zaa e e (Zaa e e (jy (Zai e e) e e (gz6 0 1 2 3 4 28 e (Zae (Zbf e (Zac (Zad 5 (Zah e e e (Zah e e e (gz2 10 11 e (Zae (Zao (Zau (ZaU 3 1 encI (ZaZ e (fun w hs => .tmp e) (fun w hs => .tmp e) (fun w hs => ⟨(Hd.mk none 0 0), e, hs.sel (is := [0]) e e⟩))))))))))))))))
 refine Zaf e e e (jy (Zbc e e) e e (jy (Zag e e) e e (gz6 0 1 2 3 4 28 e (Zae (Zan e ?_ ?_)))))
 ·refine Zac (Zad 5 (Zah e e e (Zah e e e (gz2 10 11 e (Zae (Zao (Zau (ZaU 3 1 encI (ZaZ e (fun w hs => .tmp e) (fun w hs => .tmp e) (fun w hs => ⟨(Hd.mk none 0 0), e, hs.sel (is := [0]) e e⟩))))))))))
 refine Zam (Zae (Zac (Zac (Zad 6 (Zaf e e e (Zaf e e e (jy (ZaB e e) e e (Zaf e e e (Zat 32 e ?_ ?_)))))))))
 ·refine Zaa e e (Zaa e e (Zaa e e (Zaa e e (Zaa e e (jy (Zai e e) e e (gz4 0 1 4 38 e (Zae (Zbf e (Zac (Zad 7 (Zah e e e (Zah e e e (gz2 10 11 e (Zae (Zao (Zau ?_))))))))))))))))
  refine ZaU 3 1 encI (ZaZ e (fun w hs => .tmp e) (fun w hs => .tmp e) (fun w hs => ⟨(Hd.mk none 0 0), e, hs.sel (is := [0]) e e⟩))
 refine Zaf e e e (Zaf e e e (jg_y (fun w hs => ZaT e (hs.arg Rha1)) e e (jy (Zap e e) e e (jy (Zbc e e) e e (jy (Zag e e) e e (gz4 0 1 4 38 e (Zae (Zan e ?_ ?_))))))))
 ·refine Zac (Zad 7 (Zah e e e (Zah e e e (gz2 10 11 e (Zae (Zao (Zau (ZaU 3 1 encI (ZaZ e (fun w hs => .tmp e) (fun w hs => .tmp e) (fun w hs => ⟨(Hd.mk none 0 0), e, hs.sel (is := [0]) e e⟩))))))))))
 refine Zam (Zae (Za6 (fun (s : Unit) (g : Unit) => [(1, ha1.v), (4, .int .i64 a4)]) (fun (s : Unit) (g : Unit) => []) (fun (s : Unit) (g : Unit) => []) ?_ ?_))
 ·intro z2 q3
  refine Zac (Zad 14 (Zah e e e (gz3 1 4 15 e (Zae (Zac (Zac (Zad 15 (Zah e e e (gz4 1 4 15 16 e (Zae (Zar (Zbm 3 1 encI (Zbi (n := big) (fun (s : ((List Int) × Int)) (g : Hd) => [(1, ha1.v), (4, .int .i64 a4), (15, g.v), (16, .int .i64 s.2)]) (fun (s : ((List Int) × Int)) (g : Hd) => []) (fun (s : ((List Int) × Int)) (g : Hd) => [(rowH g 3 1 encI s.1)]) (([] : List Int), 0) (Hd.mk none 0 0) [0] ⟨e, e, e, e, trivial⟩ e e e ?_)))))))))))))
  intro z6 q7 n10 k8 H9
  refine Zac (Zac (Zad 16 (Zaf e e e (jy (Zap e e) e e (Zaf e e e (jg_y (fun w hs => ZaT e (hs.arg Rha1)) e e (jy (ZaB e e) e e (gz5 1 4 15 16 60 e (Zae (Zan e ?_ ?_))))))))))
  rotate_left
  ·refine ZaG (Zba (Zbe (Zbb (Zae ?_))))
   refine Zac (Zad 22 (Zaf e e e (Zah e e e (Zah e e e (gz2 10 11 e (Zae (Zao (ZaZ e (fun w hs => .tmp e) (fun w hs => .tmp e) (fun w hs => ⟨q7, e, hs.sel (is := [0]) e e⟩)))))))))
  refine Zam (Zae (Zac (Zar (Zac (Zad 18 (Zaf e e e (Zaf e e e (Zaf e e e (Zbg e (fun v w hs hm => Zeu hm (hs.arg Rha1)) e e fun v11 => Zah e e e (gz5 1 4 15 16 17 e (Zae (Zac (Zac (Zad 19 (Zaf e e e ?_)))))))))))))))
  refine jy (ZaB e e) e e (gz6 1 4 15 16 17 68 e (Zae (Zan e ?_ ?_)))
  ·refine Zac (Zad 20 (Zah e e e (Zah e e e (gz2 10 11 e (Zae (Zao (Zau (ZaA (Zau (Za0 (ZaA (Zau ?_))))))))))))
   refine ZaU 3 1 encI (ZaZ e (fun w hs => .tmp e) (fun w hs => .tmp e) (fun w hs => ⟨(Hd.mk none 0 0), e, hs.sel (is := [0]) e e⟩))
  refine Zam (Zae (Zad 21 (Zaf e e e (Zaf e e e (Za2 (enc := encI) [v11] e e e e e e e e fun hd12 => ZaO 1 e e e (fun w hs => (hs.row 0 e)) e e e fun y13 hd14 => jg_L (r2 e) (Zah e e e (gz4 1 4 15 16 e (ZaN (Zae ?_)))))))))
  refine Zad 17 (Zaf e e e (jy (Zap e e) e e (Zah e e e (gz4 1 4 15 16 e (Zav H9 (y13, w64 (z6.2 + 1)) hd14 [1] ⟨e, e, e, e, trivial⟩ e e e)))))
 intro k4 H5
 refine Zac (Zad 8 (Zaf e e e (jg_y (fun w hs => ZaT e (hs.arg Rha1)) e e (Zaf e e e (gz6 0 1 4 39 40 41 e (Zae (Zar (Zbi (n := big) (fun (s : Int) (g : Unit) => [(0, ha0.v), (1, ha1.v), (4, .int .i64 a4), (39, ha1.v), (40, .int .i64 (a1.length : Int)), (41, .int .i64 s)]) (fun (s : Int) (g : Unit) => []) (fun (s : Int) (g : Unit) => []) 0 () [] ⟨e, e, e, e, e, e, trivial⟩ e e e ?_))))))))
 intro z15 q16 n19 k17 H18
 refine Zac (Zad 9 (jy (ZaB e e) e e (gz7 0 1 4 39 40 41 42 e (Zae (Zac (Zan e ?_ ?_))))))
 rotate_left
 ·refine ZaG (Zba (Zbe (Zbb ?_)))
  exact Zav H5 () () [] ⟨e, e, trivial⟩ e e e
 refine Zam (Zae (Zac (Zar (Zac (Zad 10 (Za1 fun x20 h21 => jg_y (fun w hs => ZaD e e (hs.arg Rha1) h21) e e (jg_y (fun w hs => ZbH e (hs.arg Rha1) h21.1 (l5 e) e) e e (ZaL (l5 e) e e fun g22 => Zax 0 e e e (l5 e) e e e e (l5 e) (r1 e) (gz7 0 1 4 14 39 40 41 e (Zae (Zac (Zad 11 (jy (Zab e) e e (jg_y (fun w hs => Zaj e (ld1B (hs.blkL (i := 0) e) e)) e e ?_))))))))))))))
 refine jy (ZaB e e) e e (Zaf e e e (Zat 48 e ?_ ?_))
 ·refine Zaa e e (Zaa e e (Zaa e e (Zaa e e (Zaa e e (jy (Zai e e) e e (gz7 0 1 4 39 40 41 54 e (Zae (Zbf e (Zac (Zad 12 (Zah e e e (Zah e e e (gz2 10 11 e (Zae (Zao (ZaA (Zau (Za0 (ZaA (Zau ?_))))))))))))))))))))
  refine ZaU 3 1 encI (ZaZ e (fun w hs => .tmp e) (fun w hs => .tmp e) (fun w hs => ⟨(Hd.mk none 0 0), e, hs.sel (is := [0]) e e⟩))
 refine jy (Zab e) e e (jg_y (fun w hs => Zaj e (ld1B (hs.blkL (i := 0) e) e)) e e (Zaf e e e (jg_y (fun w hs => ZaT e (hs.arg Rha0)) e e (jy (Zbu e e) e e (jy (Zag e e) e e (gz7 0 1 4 39 40 41 54 e (Zae (Zan e ?_ ?_))))))))
 rotate_left
 ·refine Zam (ZaN (Zae ?_))
  refine Zad 13 (jy (Zap e e) e e (Zaf e e e (gz6 0 1 4 39 40 41 e (Zav H18 (w64 (z15 + 1)) () [] ⟨e, e, e, e, e, e, trivial⟩ e e e))))
 refine Zac (Zad 12 (Zah e e e (Zah e e e (gz2 10 11 e (Zae (Zao (ZaA (Zau (Za0 (ZaA (Zau ?_)))))))))))
 refine ZaU 3 1 encI (ZaZ e (fun w hs => .tmp e) (fun w hs => .tmp e) (fun w hs => ⟨(Hd.mk none 0 0), e, hs.sel (is := [0]) e e⟩))
theorem ZeH {w : World} {a0 : (List Element)} {a1 : (List Piece)} {a2 : Int} {ha0 : Hd} {ha1 : Hd} {v : Span} (hm : Zcd a0 a1 a2 = some v) (Rha0 : Sl w ha0 Element.enc a0) (Rha1 : Sl w ha1 Piece.enc a1) : Gives Try.prog 84 [ha0.v, ha1.v, .int .i64 a2] w (.agg #[.int .i64 v.Element, .int .i64 v.Side, .int .i64 v.From, .int .i64 v.To]) := by
 refine ZaS (vs := [ha0.v, ha1.v, .int .i64 a2]) (U := fun (v : Span) => .agg #[.int .i64 v.Element, .int .i64 v.Side, .int .i64 v.From, .int .i64 v.To]) Try.func84 e Try.ntmps84 e e hm ?_
 unfold Zcd
 clear hm
 refine Zac (Zad 0 (ZaL (l4 e) e e fun g1 => gz4 0 1 2 6 e (Zae (Zac (Zad 1 (Zaf e e e (Zaf e e e (Za1 fun x2 h3 => jg_y (fun w hs => ZaD e e (hs.arg Rha1) h3) e e (jg_y (fun w hs => ZaX e (hs.arg Rha1) h3.1) e e (jg_y (fun w hs => ZaK e (hs.arg Rha1) h3.1 e) e e (jy (ZaY e (o4 e)) e e (ZaL (l4 e) e e fun g4 => Zax 0 e e e (l4 e) e e e e (l4 e) (r2 e) (gz5 0 1 2 6 7 e ?_)))))))))))))
 refine Zae (Zac (Zac (Zad 2 (Zaf e e e (jy (Zab e) e e (jg_y (fun w hs => Zaj e (ld1B (hs.blkL (i := 0) e) e)) e e (Za1 fun x5 h6 => jg_y (fun w hs => ZaD e e (hs.arg Rha0) h6) e e (jg_y (fun w hs => ZaX e (hs.arg Rha0) h6.1) e e (jg_y (fun w hs => ZaK e (hs.arg Rha0) h6.1 e) e e (jy (ZaR e e) e e (gz6 0 1 2 6 7 20 e (Zae (Zan e ?_ ?_)))))))))))))
 rotate_left
 ·refine Zam (Zae (Zac (Zad 4 (jg_y (fun w hs => Zaj e (ldBB (hs.blkL (i := 0) e) e)) e e (Zax 1 e e e (l4 e) e e e e (l4 e) (r2 e) (gz1 6 e (Zae (Zao (Zal e (fun w hs => .cell e (ldBB (hs.blkL (i := 1) e) e)) (fun w hs => ⟨e, hs.drop⟩))))))))))
 refine Zad 3 (Zaf e e e (Zaf e e e (Zaf e e e (jy (Zap e e) e e (Za1 fun x7 h8 => jg_y (fun w hs => ZaD e e (hs.arg Rha1) h8) e e (jg_y (fun w hs => ZaX e (hs.arg Rha1) h8.1) e e (jg_y (fun w hs => ZaK e (hs.arg Rha1) h8.1 e) e e (Za1 fun x9 h10 => jg_y (fun w hs => ZaD e e (hs.arg Rha0) h10) e e (jg_y (fun w hs => ZaX e (hs.arg Rha0) h10.1) e e (jg_y (fun w hs => ZaK e (hs.arg Rha0) h10.1 e) e e (jy (Zab e) e e (Zax 0 e e e (l1 e) e e e e (l4 e) (r2 e) (gz2 6 7 e (Zae ?_))))))))))))))
 refine Zac (Zad 4 (jg_y (fun w hs => Zaj e (ldBB (hs.blkL (i := 0) e) e)) e e (Zax 1 e e e (l4 e) e e e e (l4 e) (r2 e) (gz1 6 e (Zae (Zao (Zal e (fun w hs => .cell e (ldBB (hs.blkL (i := 1) e) e)) (fun w hs => ⟨e, hs.drop⟩))))))))
theorem Zet {w : World} {a0 : (List Element)} {a1 : (List Piece)} {a2 : (List Moment)} {a3 : Int} {ha0 : Hd} {ha1 : Hd} {ha2 : Hd} {v : ((List Span) × Int)} (hm : Zb1 a0 a1 a2 a3 = some v) (Rha0 : Sl w ha0 Element.enc a0) (Rha1 : Sl w ha1 Piece.enc a1) (Rha2 : Sl w ha2 Moment.enc a2) : Calls Try.prog 65 ([ha0.v, ha1.v, ha2.v, .int .i64 a3] : List Value).toArray w (fun e w' => ∃ g : Hd, e = .returned (.tuple #[g.v, .int .i64 v.2]) ∧ St w w' [] [(rowH g 47 4 Span.enc v.1)]) := by
 refine ZbL (vs := [ha0.v, ha1.v, ha2.v, .int .i64 a3]) (R := fun (v : ((List Span) × Int)) (e : Ending) (w' : World) => ∃ g : Hd, e = .returned (.tuple #[g.v, .int .i64 v.2]) ∧ St w w' [] [(rowH g 47 4 Span.enc v.1)]) Try.func65 e Try.ntmps65 e e (St.refl w) hm ?_
 unfold Zb1
 clear hm
 refine Zac (Zad 0 (Zah e e e (Zah e e e (gz4 0 1 2 3 e (Zae (Zac (Zad 1 (Zaf e e e (Zaf e e e (Zaf e e e (jg_y (fun w hs => ZaT e (hs.arg Rha2)) e e (Zaf e e e (jg_c e (fun v w hs hm => Zeh hm (hs.arg Rha0) (hs.arg Rha1)) e e fun v1 q2 => jg_L (r1 e) (Zaf e e e (jy (ZaH e e) e e ?_)))))))))))))))
 refine jy (ZaH e e) e e (Zah e e e (Zah e e e (gz5 0 1 2 10 11 e (Zae (Zac (Zac (Zad 2 (Zaf e e e (jy (Zbj e e) e e (gz6 0 1 2 10 11 26 e (Zae (Zan e ?_ ?_))))))))))))
 ·refine Zac (Zad 3 (Zaf e e e (Zah e e e (Zah e e e (gz2 8 9 e (Zae (Zao (Zau (ZaU 47 4 Span.enc (ZaZ e (fun w hs => .tmp e) (fun w hs => .tmp e) (fun w hs => ⟨(Hd.mk none 0 0), e, hs.sel (is := [0]) e e⟩)))))))))))
 refine Zam (Zae (Zac (Zad 4 (Zah e e e (gz5 0 1 2 10 12 e (Zae (Zac (Zac (Zad 5 (Zaf e e e (jg_y (fun w hs => ZaT e (hs.row 0 e)) e e (Zaf e e e (gz7 0 1 2 12 28 29 30 e (Zae (Zar (Zbm 47 4 Span.enc ?_))))))))))))))))
 refine Zbi (n := big) (fun (s : ((List Span) × Int)) (g : Hd) => [(0, ha0.v), (1, ha1.v), (2, ha2.v), (12, g.v), (28, q2.v), (29, .int .i64 (v1.1.length : Int)), (30, .int .i64 s.2)]) (fun (s : ((List Span) × Int)) (g : Hd) => []) (fun (s : ((List Span) × Int)) (g : Hd) => [(rowH g 47 4 Span.enc s.1), (rowH q2 3 1 encI v1.1)]) (([] : List Span), 0) (Hd.mk none 0 0) [0, 1] ⟨e, e, e, e, e, e, e, trivial⟩ e e e ?_
 intro z3 q4 n7 k5 H6
 refine Zac (Zad 6 (jy (ZaB e e) e e (gz8 0 1 2 12 28 29 30 31 e (Zae (Zac (Zan e ?_ ?_))))))
 rotate_left
 ·refine ZaG (Zba (Zbe (Zbb (Zae ?_))))
  refine Zac (Zad 15 (Zaf e e e (Zah e e e (Zah e e e (gz2 8 9 e (Zae (Zao (ZaZ e (fun w hs => .tmp e) (fun w hs => .tmp e) (fun w hs => ⟨q4, e, hs.sel (is := [0]) e e⟩)))))))))
 refine Zam (Zae (Zac (Zar (Zac (Zad 7 (Zaf e e e (Za1 fun x8 h9 => jg_y (fun w hs => ZaD e e (hs.row 1 e) h9) e e (jg_y (fun w hs => ZaK e (hs.row 1 e) h9.1 e) e e (Zah e e e (Zah e e e (gz9 0 1 2 12 13 14 28 29 30 e (Zae (Zac (Zac (Zad 8 ?_)))))))))))))))
 refine Zaf e e e (Zaf e e e (jg_y (fun w hs => ZaT e (hs.arg Rha2)) e e (jy (Zbu e e) e e (gz10 0 1 2 12 13 14 28 29 30 38 e (Zae (Zan e ?_ ?_))))))
 ·refine ZaG (Zba (ZjA e (Zba (Zbe (Zbb (Zae ?_))))))
  refine Zac (Zad 15 (Zaf e e e (Zah e e e (Zah e e e (gz2 8 9 e (Zae (Zao (ZaZ e (fun w hs => .tmp e) (fun w hs => .tmp e) (fun w hs => ⟨q4, e, hs.sel (is := [0]) e e⟩)))))))))
 refine Zam (Zae (Zac (Zad 9 (Zaf e e e (Zaf e e e (Zaf e e e (Zbg e (fun v w hs hm => ZeH hm (hs.arg Rha0) (hs.arg Rha1)) e e fun v10 => ZaL (l4 e) e e fun g11 => Zax 0 e e e (l4 e) e e e e (l4 e) (r3 e) (gz10 0 1 2 12 13 14 15 28 29 30 e (Zae (Zac (Zad 10 (Zaf e e e (Zaf e e e (Za1 fun x12 h13 => ?_))))))))))))))
 refine jg_y (fun w hs => ZaD e e (hs.arg Rha2) h13) e e (jg_y (fun w hs => ZaX e (hs.arg Rha2) h13.1) e e (jg_y (fun w hs => ZaK e (hs.arg Rha2) h13.1 e) e e (jy (Zab e) e e (Zax 0 e e e (l1 e) e e e e (l4 e) (r3 e) (gz9 0 1 2 12 14 15 28 29 30 e (Zae (Zac (Zac (Zad 11 (Zaf e e e (jy (Zap e e) e e (Zaf e e e (jg_y (fun w hs => ZaT e (hs.arg Rha2)) e e (jy (ZaB e e) e e (gz10 0 1 2 12 14 15 28 29 30 53 e (Zae ?_))))))))))))))))
 refine Zan e ?_ ?_
 rotate_left
 ·refine Zam (Zae (Zad 13 (Zaf e e e (jg_y (fun w hs => Zaj e (ldBB (hs.blkL (i := 0) e) e)) e e (Za2 (enc := Span.enc) [(Span.mk v10.Element v10.Side x12.Time v10.To)] e e e e e e e e fun hd19 => ZaO 2 e e e (fun w hs => (hs.row 0 e)) e e e fun y20 hd21 => jg_L (r4 e) (Zah e e e (gz7 0 1 2 12 28 29 30 e (ZaF (is := [2, 3]) (s2 e) e (ZaN (Zae ?_))))))))))
  refine Zad 14 (jy (Zap e e) e e (Zaf e e e (gz7 0 1 2 12 28 29 30 e (Zav H6 (y20, w64 (z3.2 + 1)) hd21 [0, 1] ⟨e, e, e, e, e, e, e, trivial⟩ e e e))))
 refine Zad 12 (Zaf e e e (Zaf e e e (jy (Zap e e) e e (Za1 fun x14 h15 => jg_y (fun w hs => ZaD e e (hs.arg Rha2) h15) e e (jg_y (fun w hs => ZaX e (hs.arg Rha2) h15.1) e e (jg_y (fun w hs => ZaK e (hs.arg Rha2) h15.1 e) e e (jy (Zab e) e e (Zax 0 e e e (l1 e) e e e e (l4 e) (r3 e) (gz8 0 1 2 12 15 28 29 30 e (Zae (Zad 13 (Zaf e e e (jg_y (fun w hs => Zaj e (ldBB (hs.blkL (i := 0) e) e)) e e (Za2 (enc := Span.enc) [(Span.mk v10.Element v10.Side x12.Time x14.Time)] e e e e e e e e fun hd16 => ZaO 2 e e e (fun w hs => (hs.row 0 e)) e e e fun y17 hd18 => ?_))))))))))))))
 refine jg_L (r4 e) (Zah e e e (gz7 0 1 2 12 28 29 30 e (ZaF (is := [2, 3]) (s2 e) e (ZaN (Zae ?_)))))
 refine Zad 14 (jy (Zap e e) e e (Zaf e e e (gz7 0 1 2 12 28 29 30 e (Zav H6 (y17, w64 (z3.2 + 1)) hd18 [0, 1] ⟨e, e, e, e, e, e, e, trivial⟩ e e e))))
end Go.Proofs.Ytdgminllobhncaa
