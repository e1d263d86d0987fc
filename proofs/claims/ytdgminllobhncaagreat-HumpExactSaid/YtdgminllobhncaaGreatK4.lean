/-
  What the proof leans on, part 4: plain rules, plain models of the functions, and what they give. No condition.
-/
import Derived.Test.YtdgminllobhncaaGreatK3
namespace Go.Proofs.YtdgminllobhncaaGreat
open Go.Hy
set_option linter.unusedVariables false
set_option linter.unusedSimpArgs false
set_option maxHeartbeats 2000000
set_option maxRecDepth 100000
theorem Zgl {w:World}{a0:HumpgenMaker}{a1:Int}{ha0A:Hd}{b0:Nat}{v:(YardgenPush×Int)}(hm:ZcX a0 a1 = some v) (Hb:Blk w b0 65 [ha0A.v,.int .i64 a0.fn]) (Rha0_fl:Sl w ha0A encI a0.fl) (Oha0_fl:Offs ha0A [b0]):Calls Tryz.prog 13 ([.pointer (some ⟨b0,0,none⟩),.int .i64 a1]:List Value).toArray w (fun e w'=>∃ g:(Hd×Hd×Hd×Hd×List (Rolling×(Hd×Hd))×Hd×List ((List Span)×Hd)×Hd×List Rw),e = .returned (.agg #[g.1.v,.int .i64 v.1.Scene.Throw,g.2.1.v,g.2.2.1.v,g.2.2.2.1.v,g.2.2.2.2.2.1.v,g.2.2.2.2.2.2.2.1.v,.bool v.1.OK])∧St w w' [.blk b0 65 [ha0A.v,.int .i64 v.2]] [(rowH g.1 102 8 Element.enc v.1.Scene.Elements),(rowH g.2.1 119 2 Throw.enc v.1.Scene.Start),(rowH g.2.2.1 132 4 Command.enc v.1.Scene.Commands),(rowH g.2.2.2.1 104 6 Nt.enc g.2.2.2.2.1),(rowH g.2.2.2.2.2.1 112 1 Nt.enc g.2.2.2.2.2.2.1),(rowH g.2.2.2.2.2.2.2.1 3 1 encI v.1.Releases),(Res.nest g.2.2.2.2.2.2.2.2 (NF noAr g.2.2.2.2.2.2.2.2 g.2.2.2.2.1 v.1.Scene.Cuts∧NF noAr g.2.2.2.2.2.2.2.2 g.2.2.2.2.2.2.1 v.1.Spans))]):=by
 refine ZbN (vs:=[.pointer (some ⟨b0,0,none⟩),.int .i64 a1]) (R:=fun (v:(YardgenPush×Int)) (e:Ending) (w':World)=>∃ g:(Hd×Hd×Hd×Hd×List (Rolling×(Hd×Hd))×Hd×List ((List Span)×Hd)×Hd×List Rw),e = .returned (.agg #[g.1.v,.int .i64 v.1.Scene.Throw,g.2.1.v,g.2.2.1.v,g.2.2.2.1.v,g.2.2.2.2.2.1.v,g.2.2.2.2.2.2.2.1.v,.bool v.1.OK])∧St w w' [.blk b0 65 [ha0A.v,.int .i64 v.2]] [(rowH g.1 102 8 Element.enc v.1.Scene.Elements),(rowH g.2.1 119 2 Throw.enc v.1.Scene.Start),(rowH g.2.2.1 132 4 Command.enc v.1.Scene.Commands),(rowH g.2.2.2.1 104 6 Nt.enc g.2.2.2.2.1),(rowH g.2.2.2.2.2.1 112 1 Nt.enc g.2.2.2.2.2.2.1),(rowH g.2.2.2.2.2.2.2.1 3 1 encI v.1.Releases),(Res.nest g.2.2.2.2.2.2.2.2 (NF noAr g.2.2.2.2.2.2.2.2 g.2.2.2.2.1 v.1.Scene.Cuts∧NF noAr g.2.2.2.2.2.2.2.2 g.2.2.2.2.2.2.1 v.1.Spans))]) Tryz.func13 e Tryz.ntmps13 e e (ZhS Hb) hm ?_
 unfold ZcX
 clear hm
 refine jqr 0 (ZaR (l8 e) e e fun g1=>gz3 0 1 4 e (jsr 1 (Zac e e e (jm_c e (fun v w hs hm=>Ze4 hm (hs.blkM (i:=0) e) (hs.argM Rha0_fl Oha0_fl) Oha0_fl) (fun _=>e) e e fun v2 q3=>jg_L (r2 e) (Zaf e e e (gz4 0 1 4 5 e (jsr 2 (Zac e e e (Zac e e e (ZaT (enc:=encI) [0,800,2500] e e e e e e e e fun hd4=>jm_c e (fun v w hs hm=>ZaB hm (hs.blkM (i:=0) e) (hs.argM Rha0_fl Oha0_fl) Oha0_fl (hs.row 0 e) (hs.offML 0 0 e e)) (fun _=>e) e e fun v5 q6=>jy (ZaX e (o5 e)) e e (jy (ZaX e (o8 e)) e e (ZaR (l8 e) e e fun g7=>?_))))))))))))
 refine Zav 0 e e e (l8 e) e e e e (l8 e) (r4 e) (gz5 0 1 4 5 6 e (jsr 3 (Zaf e e e (gz6 0 1 4 5 6 7 e (jsr 4 (Zac e e e (ZaT (enc:=encI) [0,10,20] e e e e e e e e fun hd8=>jm_c e (fun v w hs hm=>ZaB hm (hs.blkM (i:=0) e) (hs.argM Rha0_fl Oha0_fl) Oha0_fl (hs.row 0 e) (hs.offML 0 0 e e)) (fun _=>e) e e fun v9 q10=>Zac e e e (ZaT (enc:=encI) [0,5,30] e e e e e e e e fun hd11=>jm_c e (fun v w hs hm=>ZaB hm (hs.blkM (i:=0) e) (hs.argM Rha0_fl Oha0_fl) Oha0_fl (hs.row 0 e) (hs.offML 0 0 e e)) (fun _=>e) e e fun v12 q13=>Zaf e e e (Zaf e e e (gz8 0 1 4 5 6 7 8 9 e (ZaF (is:=[2,4,5]) (s3 e) e (jsr 5 ?_))))))))))))
 refine Zaf e e e (gz9 0 1 4 5 6 7 8 9 10 e (jsr 6 (Zaf e e e (gz10 0 1 4 5 6 7 8 9 10 11 e (Zad (Za2 (fun (s:((List Int)×(List Interval)×(List Int)×Int)) (g:(Hd×Hd×Hd))=>[(0,.pointer (some ⟨b0,0,none⟩)),(1,.int .i64 a1),(4,.pointer (some ⟨g1,0,none⟩)),(5,q3.v),(6,.pointer (some ⟨g7,0,none⟩)),(7,g.1.v),(10,g.2.1.v),(11,g.2.2.v)]) (fun s g=>[(Res.blk b0 65 [ha0A.v,.int .i64 s.2.2.2])]) (fun s g=>[(Res.blk g1 59 [(Hd.mk none 0 0).v,.int .i64 0,(Hd.mk none 0 0).v,(Hd.mk none 0 0).v,(Hd.mk none 0 0).v,(Hd.mk none 0 0).v,(Hd.mk none 0 0).v,.bool false]),(rowH q3 102 8 Element.enc v2.1),(Res.blk g7 59 [q3.v,.int .i64 v5.1,(Hd.mk none 0 0).v,(Hd.mk none 0 0).v,(Hd.mk none 0 0).v,(Hd.mk none 0 0).v,(Hd.mk none 0 0).v,.bool false]),(rowH g.1 3 1 encI s.1),(rowH g.2.1 35 2 Interval.enc s.2.1),(rowH g.2.2 3 1 encI s.2.2.1)]) ?_ ?_))))))
 rotate_left
 ·intro k16 H17
  refine jqr 7 (Zaf e e e (gz11 0 1 4 5 6 7 8 9 10 11 12 e (Zad (Zao (Zbm 3 1 encI (Zbm 35 2 Interval.enc (Zbm 3 1 encI (Zbj (n:=big) (fun (s:((List Int)×(List Interval)×(List Int)×Int×Int)) (g:(Hd×Hd×Hd))=>[(0,.pointer (some ⟨b0,0,none⟩)),(1,.int .i64 a1),(4,.pointer (some ⟨g1,0,none⟩)),(5,q3.v),(6,.pointer (some ⟨g7,0,none⟩)),(7,g.1.v),(8,.int .i64 v9.1),(9,.int .i64 v12.1),(10,g.2.1.v),(11,g.2.2.v),(12,.int .i64 s.2.2.2.1)]) (fun s g=>[(Res.blk b0 65 [ha0A.v,.int .i64 s.2.2.2.2])]) (fun s g=>[(Res.blk g1 59 [(Hd.mk none 0 0).v,.int .i64 0,(Hd.mk none 0 0).v,(Hd.mk none 0 0).v,(Hd.mk none 0 0).v,(Hd.mk none 0 0).v,(Hd.mk none 0 0).v,.bool false]),(rowH q3 102 8 Element.enc v2.1),(Res.blk g7 59 [q3.v,.int .i64 v5.1,(Hd.mk none 0 0).v,(Hd.mk none 0 0).v,(Hd.mk none 0 0).v,(Hd.mk none 0 0).v,(Hd.mk none 0 0).v,.bool false]),(rowH g.1 3 1 encI s.1),(rowH g.2.1 35 2 Interval.enc s.2.1),(rowH g.2.2 3 1 encI s.2.2.1)]) (([]:List Int),([]:List Interval),([]:List Int),0,v12.2) ((Hd.mk none 0 0),(Hd.mk none 0 0),(Hd.mk none 0 0)) [5,4,3,2,1,0] (u11 e) e e e ?_))))))))
  intro z501 q502 n505 k503 H504
  refine Zak (jqr 8 (Zac e e e (Zac e e e (jg_y (fun w hs=>ZaV e (hs.row 1 e)) e e (jy (ZaD e e) e e (gz12 0 1 4 5 6 7 8 9 10 11 12 49 e (Zad (Zai e ?_ ?_))))))))
  rotate_left
  ·refine ZaE (Za9 (Zbe (Zba ?_)))
   exact Zap H17 (z501.1,z501.2.1,z501.2.2.1,z501.2.2.2.2) (q502.1,q502.2.1,q502.2.2) [0,1,2,3,4,5] (u8 e) e e e
  refine jks (Zak (Zao (Zak (jdr (L':=[_,_,_,_,_,_]) 10 [0,1,2,3,5,6] [0,1,2,3,4,5,6,7,8,9,10,11,12,13,14,15,16,17,18,19,20] 2097151 2097151 [0,0,0,0,12,16,32,66,0,0,0,1536,2048,4096,8448,0,49152,65664,131072,262145,1048575] [0,0,0,0,12,28,60,126,0,0,0,1536,3584,7680,16128,0,65280,131070,262142,524287,1048575] [(0,true),(1,true),(2,true),(3,true),(4,true),(5,true),(6,true),(7,true),(8,true),(9,true),(10,true),(11,true),(12,true),(13,true),(14,true),(15,true),(16,true),(17,true),(18,false),(19,false),(20,true)] e (Zas (Zay (Zas (Za0 (Zay (Zas Zbb)))))) (Zau e e e e (Zau e e e e (Zau e e e e (Zau e e e e (Zbk fun x506 h507=>jd_y e (fun w hs=>ZaC e e (hs.row 1 e) h507) e e (jd_y e (fun w hs=>ZaS e (hs.row 1 e) h507.1) e e (jd_y e (fun w hs=>ZaQ e (hs.row 1 e) h507.1 e) e e (jdy e (Zal e e) e e (Zau e e e e (Zau e e e e (Zau e e e e ?_)))))))))))))))
  refine Zbk fun x508 h509=>jd_y e (fun w hs=>ZaC e e (hs.row 1 e) h509) e e (jd_y e (fun w hs=>ZaS e (hs.row 1 e) h509.1) e e (jd_y e (fun w hs=>ZaQ e (hs.row 1 e) h509.1 e) e e (jdy e (Zal e e) e e (Zau e e e e (ZdP e (fun w hs=>Zal e e) e e fun x510=>jdy e (ZaX e (o2 e)) e e (jd_h e (ZaT (enc:=Interval.enc) [(Interval.mk (w64 (v9.1 + x506.Curve)) x510)] e e e e e e e e fun hd511=>ZaA (Zbs [1,2,3,4,6,7] e (jd_h e (ZaO 5 e e e (fun w hs=>(hs.row 0 e)) e e e fun y512 hd513=>jg_L (r7 e) (ZaA (Zbs [1,2,3,4,6,7] e ?_))))))))))))
  refine Zbz e e e e (ZaU [(0,_),(1,_),(4,_),(5,_),(6,_),(7,_),(8,_),(9,_),(10,_),(11,_),(12,_)] ⟨e,e,e,e,e,e,e,e,e,e,e,trivial⟩ (jsr 11 (Zac e e e (Zac e e e (ZaT (enc:=encI) [(-1),1500,3000,6000] e e e e e e e e fun hd514=>jm_c e (fun v w hs hm=>ZaB hm (hs.blkM (i:=0) e) (hs.argM Rha0_fl Oha0_fl) Oha0_fl (hs.row 0 e) (hs.offML 0 0 e e)) (fun _=>e) e e fun v515 q516=>ZaT (enc:=encI) [v515.1] e e e e e e e e fun hd517=>ZaO 8 e e e (fun w hs=>(hs.row 0 e)) e e e fun y518 hd519=>jg_L (r9 e) (Zaf e e e (gz11 0 1 4 5 6 7 8 9 10 11 12 e (ZaF (is:=[3,4,5,6,7,8]) (s6 e) e (jsr 12 (Zac e e e (Zac e e e (Za6 fun x520 h521=>?_))))))))))))
  refine jg_y (fun w hs=>ZaC e e (hs.row 1 e) h521) e e (jg_y (fun w hs=>ZaS e (hs.row 1 e) h521.1) e e (jg_y (fun w hs=>ZaQ e (hs.row 1 e) h521.1 e) e e (jy (ZaL e e) e e (gz12 0 1 4 5 6 7 8 9 10 11 12 83 e (Zad (Zai e ?_ ?_))))))
  rotate_left
  ·refine ZaK (ZaG (Zad ?_))
   refine Zar 9 (Zac e e e (jy (Zal e e) e e (Zaf e e e (gz11 0 1 4 5 6 7 8 9 10 11 12 e (Zap H504 (z501.1,y512,y518,w64 (z501.2.2.2.1 + 1),v515.2) (q502.1,hd513,hd519) [0,1,2,3,4,5] (u11 e) e e e)))))
  refine Zar 13 (Zac e e e (Zac e e e (ZaT (enc:=encI) [z501.2.2.2.1] e e e e e e e e fun hd522=>ZaO 4 e e e (fun w hs=>(hs.row 0 e)) e e e fun y523 hd524=>jg_L (r7 e) (Zaf e e e (gz11 0 1 4 5 6 7 8 9 10 11 12 e (ZaG (Zad ?_)))))))
  refine Zar 9 (Zac e e e (jy (Zal e e) e e (Zaf e e e (gz11 0 1 4 5 6 7 8 9 10 11 12 e (Zap H504 (y523,y512,y518,w64 (z501.2.2.2.1 + 1),v515.2) (hd524,hd513,hd519) [1,2,3,4,5,6] (u11 e) e e e)))))
 intro z14 q15
 refine jqr 14 (Zac e e e (ZaT (enc:=encI) [0,20] e e e e e e e e fun hd18=>jm_c e (fun v w hs hm=>ZaB hm (hs.blkM (i:=0) e) (hs.argM Rha0_fl Oha0_fl) Oha0_fl (hs.row 0 e) (hs.offML 0 0 e e)) (fun _=>e) e e fun v19 q20=>Zaf e e e (gz9 0 1 4 5 6 7 10 11 13 e (Zad (Za2 (fun (s:((List Rolling)×(List (List Span))×Int)) (g:(Hd×(List (Rolling×(Hd×Hd)))×Hd×(List ((List Span)×Hd))×List Rw))=>[(0,.pointer (some ⟨b0,0,none⟩)),(4,.pointer (some ⟨g1,0,none⟩)),(5,q3.v),(6,.pointer (some ⟨g7,0,none⟩))]) (fun s g=>[(Res.blk b0 65 [ha0A.v,.int .i64 s.2.2])]) (fun s g=>[(Res.blk g1 59 [(Hd.mk none 0 0).v,.int .i64 0,(Hd.mk none 0 0).v,(Hd.mk none 0 0).v,(Hd.mk none 0 0).v,(Hd.mk none 0 0).v,(Hd.mk none 0 0).v,.bool false]),(rowH q3 102 8 Element.enc v2.1),(Res.blk g7 59 [q3.v,.int .i64 v5.1,(Hd.mk none 0 0).v,(Hd.mk none 0 0).v,g.1.v,g.2.2.1.v,(Hd.mk none 0 0).v,.bool false]),(rowH g.1 104 6 Nt.enc g.2.1),(rowH g.2.2.1 112 1 Nt.enc g.2.2.2.1),(Res.nest g.2.2.2.2 (NF noAr g.2.2.2.2 g.2.1 s.1∧NF noAr g.2.2.2.2 g.2.2.2.1 s.2.1))]) ?_ ?_)))))
 ·intro z21 q22
  refine ZbB (i:=5) e fun n25=>Za2 (fun (s:((List Throw)×Int)) (g:Hd)=>[(4,.pointer (some ⟨g1,0,none⟩)),(6,.pointer (some ⟨g7,0,none⟩))]) (fun s g=>[(Res.blk b0 65 [ha0A.v,.int .i64 s.2])]) (fun s g=>[(Res.blk g1 59 [(Hd.mk none 0 0).v,.int .i64 0,(Hd.mk none 0 0).v,(Hd.mk none 0 0).v,(Hd.mk none 0 0).v,(Hd.mk none 0 0).v,(Hd.mk none 0 0).v,.bool false]),(Res.blk g7 59 [q3.v,.int .i64 v5.1,g.v,(Hd.mk none 0 0).v,q22.1.v,q22.2.2.1.v,(Hd.mk none 0 0).v,.bool false]),(rowH q3 102 8 Element.enc v2.1),(rowH g 119 2 Throw.enc s.1),(rowH q22.1 104 6 Nt.enc q22.2.1),(rowH q22.2.2.1 112 1 Nt.enc q22.2.2.2.1),(Res.nest q22.2.2.2.2 (NF noAr q22.2.2.2.2 q22.2.1 z21.1∧NF noAr q22.2.2.2.2 q22.2.2.2.1 z21.2.1))]) ?_ ?_
  rotate_left
  ·intro k28 H29
   refine jqr 43 (Zaf e e e (gz5 0 4 5 6 27 e (Zad (Zao (Zbm 119 2 Throw.enc (ZbC (i:=6) (NF noAr q22.2.2.2.2 q22.2.1 z21.1∧NF noAr q22.2.2.2.2 q22.2.2.2.1 z21.2.1) e (fun _=>⟨n25.1,n25.2⟩) (r7 e) (Zbj (n:=big) (fun (s:((List Throw)×Int×Int)) (g:Hd)=>[(0,.pointer (some ⟨b0,0,none⟩)),(4,.pointer (some ⟨g1,0,none⟩)),(5,q3.v),(6,.pointer (some ⟨g7,0,none⟩)),(27,.int .i64 s.2.1)]) (fun s g=>[(Res.blk b0 65 [ha0A.v,.int .i64 s.2.2])]) (fun s g=>[(Res.blk g1 59 [(Hd.mk none 0 0).v,.int .i64 0,(Hd.mk none 0 0).v,(Hd.mk none 0 0).v,(Hd.mk none 0 0).v,(Hd.mk none 0 0).v,(Hd.mk none 0 0).v,.bool false]),(rowH q3 102 8 Element.enc v2.1),(Res.blk g7 59 [q3.v,.int .i64 v5.1,g.v,(Hd.mk none 0 0).v,q22.1.v,q22.2.2.1.v,(Hd.mk none 0 0).v,.bool false]),(rowH g 119 2 Throw.enc s.1),(rowH q22.1 104 6 Nt.enc q22.2.1),(rowH q22.2.2.1 112 1 Nt.enc q22.2.2.2.1),(Res.nest q22.2.2.2.2 (NF noAr q22.2.2.2.2 q22.2.1 z21.1∧NF noAr q22.2.2.2.2 q22.2.2.2.1 z21.2.1))]) (([]:List Throw),0,z21.2.2) (Hd.mk none 0 0) [1,2,3,0,4,5,6] (u5 e) e e e ?_)))))))
   intro z60 q61 n64 k62 H63
   refine ZbB (i:=6) e fun n65=>Zak (jqr 44 (Zac e e e (Zac e e e (jg_y (fun w hs=>ZaV e (hs.row 1 e)) e e (jy (ZaD e e) e e (gz6 0 4 5 6 27 296 e (Zad (Zai e ?_ ?_))))))))
   rotate_left
   ·refine ZaE (Za9 (Zbe (Zba ?_)))
    refine Zax (i:=6) (NF noAr q22.2.2.2.2 q22.2.1 z21.1∧NF noAr q22.2.2.2.2 q22.2.2.2.1 z21.2.1) e (fun _=>⟨n65.1,n65.2⟩) (r7 e) (Zap H29 (z60.1,z60.2.2) q61 [0,2,1,3,4,5,6] (u2 e) e e e)
   refine jks (Zak (Zao (Za2 (fun (s:(Bool×Int)) (g:Unit)=>[(0,.pointer (some ⟨b0,0,none⟩)),(4,.pointer (some ⟨g1,0,none⟩)),(5,q3.v),(6,.pointer (some ⟨g7,0,none⟩)),(27,.int .i64 z60.2.1),(309,.bool s.1)]) (fun s g=>[(Res.blk b0 65 [ha0A.v,.int .i64 s.2])]) (fun s g=>[(Res.blk g1 59 [(Hd.mk none 0 0).v,.int .i64 0,(Hd.mk none 0 0).v,(Hd.mk none 0 0).v,(Hd.mk none 0 0).v,(Hd.mk none 0 0).v,(Hd.mk none 0 0).v,.bool false]),(rowH q3 102 8 Element.enc v2.1),(Res.blk g7 59 [q3.v,.int .i64 v5.1,q61.v,(Hd.mk none 0 0).v,q22.1.v,q22.2.2.1.v,(Hd.mk none 0 0).v,.bool false]),(rowH q61 119 2 Throw.enc z60.1),(rowH q22.1 104 6 Nt.enc q22.2.1),(rowH q22.2.2.1 112 1 Nt.enc q22.2.2.2.1),(Res.nest q22.2.2.2.2 (NF noAr q22.2.2.2.2 q22.2.1 z21.1∧NF noAr q22.2.2.2.2 q22.2.2.2.1 z21.2.1))]) ?_ ?_)))
   rotate_left
   ·intro k68 H69
    refine Zar 46 (Zac e e e (Zac e e e (Za6 fun x77 h78=>jg_y (fun w hs=>ZaC e e (hs.row 1 e) h78) e e (jg_y (fun w hs=>ZaS e (hs.row 1 e) h78.1) e e (jg_y (fun w hs=>ZaQ e (hs.row 1 e) h78.1 e) e e (jy (ZaL e e) e e (Zac e e e (Zaq 305 e ?_ ?_))))))))
    ·refine Zac e e e (jm_c e (fun v w hs hm=>ZaP hm (hs.blkM (i:=0) e) (hs.argM Rha0_fl Oha0_fl) Oha0_fl) (fun _=>e) e e fun v79 q80=>jy (ZaL e e) e e (jy (Zah e e) e e (gz6 0 4 5 6 27 309 e (Zax (i:=6) (NF noAr q22.2.2.2.2 q22.2.1 z21.1∧NF noAr q22.2.2.2.2 q22.2.2.2.1 z21.2.1) e (fun _=>⟨n65.1,n65.2⟩) (r7 e) (Zap H69 (decide (v79.1 = 0),v79.2) () [0,1,2,3,4,5,6] (u6 e) e e e)))))
    refine Zaa e e (Zaa e e (Zaa e e (jy (Zae e e) e e (gz6 0 4 5 6 27 309 e (Zax (i:=6) (NF noAr q22.2.2.2.2 q22.2.1 z21.1∧NF noAr q22.2.2.2.2 q22.2.2.2.1 z21.2.1) e (fun _=>⟨n65.1,n65.2⟩) (r7 e) (Zap H69 (false,z60.2.2) () [0,1,2,3,4,5,6] (u6 e) e e e))))))
   intro z66 q67
   refine ZbB (i:=6) e fun n70=>Zai e ?_ ?_
   rotate_left
   ·refine ZaK (ZaG (Zad ?_))
    refine Zar 45 (Zac e e e (jy (Zal e e) e e (Zaf e e e (gz5 0 4 5 6 27 e (Zax (i:=6) (NF noAr q22.2.2.2.2 q22.2.1 z21.1∧NF noAr q22.2.2.2.2 q22.2.2.2.1 z21.2.1) e (fun _=>⟨n70.1,n70.2⟩) (r7 e) (Zap H63 (z60.1,w64 (z60.2.1 + 1),z66.2) q61 [0,1,2,3,4,5,6] (u5 e) e e e))))))
   refine jdr (L':=[_,_,_,_,_,_]) 47 [0,1,2,4,5,6] [0,1,2,3,4,5,6,7,8,9,10,11] 4095 8191 [0,1,2,0,0,0,48,72,128,324,1023,2047,3071] [0,1,3,0,0,0,48,120,248,511,1023,2047,4095] [(0,true),(1,true),(2,true),(3,true),(4,true),(5,false),(6,false),(7,true),(8,false),(9,false),(10,true),(11,true),(12,false)] e (Zay (Zas (Za0 (Zay (Zas Zbb))))) (jdy e (Zab e) e e (jdy e (Zab e) e e (jdl 2 e e e e e e (Zau e e e e (Zau e e e e (jd_h e (ZaT (enc:=encI) [1,2] e e e e e e e e fun hd71=>ZaA (Zbs [1,2,3,5,6,7] e (jd_h e (jm_c e (fun v w hs hm=>ZaB hm (hs.blkM (i:=0) e) (hs.argM Rha0_fl Oha0_fl) Oha0_fl (hs.row 0 e) (hs.offML 0 0 e e)) (fun _=>e) e e fun v72 q73=>ZaA (Zbs [1,2,3,5,6,7] e (jdy e (ZaX e (o2 e)) e e (jd_h e (ZaT (enc:=Throw.enc) [(Throw.mk z60.2.1 v72.1)] e e e e e e e e fun hd74=>?_))))))))))))))
   refine ZaA (Zbs [2,3,4,6,7,8] e (jd_h e (ZaO 5 e e e (fun w hs=>(hs.row 0 e)) e e e fun y75 hd76=>jg_L (r9 e) (ZaA (Zbs [2,3,4,6,7,8] e (jdy e (Zab e) e e (jdy e (Zab e) e e (jd_h e (Zav 4 e e e (l1 e) e e e e (l8 e) (r9 e) (ZaA (ZbG e (Zbf [(0,_),(4,_),(5,_),(6,_),(27,_)] ⟨e,e,e,e,e,trivial⟩ (ZaF (is:=[2,3,4,5,6,7,8]) (s7 e) e (ZaG (Zad ?_)))))))))))))))
   refine Zar 45 (Zac e e e (jy (Zal e e) e e (Zaf e e e (gz5 0 4 5 6 27 e (Zax (i:=6) (NF noAr q22.2.2.2.2 q22.2.1 z21.1∧NF noAr q22.2.2.2.2 q22.2.2.2.1 z21.2.1) e (fun _=>⟨n70.1,n70.2⟩) (r7 e) (Zap H63 (y75,w64 (z60.2.1 + 1),v72.2) hd76 [0,1,2,3,4,5,6] (u5 e) e e e))))))
  intro z26 q27
  refine ZbB (i:=6) e fun n30=>jqr 48 (jy (Zab e) e e (jgl 1 e e e e e (jy (Zab e) e e (jy (Zab e) e e (jgl 1 e e e e e (jg_c e (fun v w hs hm=>Zgo hm n30.2.1 (hs.row 5 e) (hs.nD 6 e n30.2.2 Zbw)) e e fun v31 q32=>jg_L (r8 e) (Zac e e e (jy (ZaH e e) e e (jy (ZaH e e) e e (Zaf e e e (Zaf e e e (gz4 4 6 28 29 e (Zad (Zak ?_))))))))))))))
  refine jqr 49 (Zac e e e (jy (Zbt e e) e e (gz4 4 6 28 332 e (Zad (Zai e ?_ ?_)))))
  ·refine jqr 50 (jg_y (fun w hs=>ZaJ e (ldBB (hs.blkL (i:=2) e) e)) e e (Zav 1 e e e (l8 e) e e e e (l8 e) (r8 e) (gz1 4 e (ZaF (is:=[1,3,4,5,6,7]) (s6 e) e (Zad (Zam (Zaw (Za3 132 4 Command.enc (Za3 3 1 encI (Zax (i:=7) (NF noAr q22.2.2.2.2 q22.2.1 z21.1∧NF noAr q22.2.2.2.2 q22.2.2.2.1 z21.2.1) e (fun _=>⟨n30.1,n30.2⟩) (r8 e) (Zaj e (fun w hs=>.cell e (ldBB (hs.blkL (i:=2) e) e)) (fun w hs=>⟨(q3,q27,(Hd.mk none 0 0),q22.1,q22.2.1,q22.2.2.1,q22.2.2.2.1,(Hd.mk none 0 0),q22.2.2.2.2),e,hs.sel (is:=[3,4,1,5,6,0,7]) e e⟩))))))))))))
  refine jks (Za2 (fun (s:((List Rolling)×(List Int))) (g:(List (Rolling×(Hd×Hd))))=>[(4,.pointer (some ⟨g1,0,none⟩)),(6,.pointer (some ⟨g7,0,none⟩)),(28,q32.v)]) (fun s g=>[(Res.blk b0 65 [ha0A.v,.int .i64 z26.2])]) (fun s g=>[(Res.blk g1 59 [(Hd.mk none 0 0).v,.int .i64 0,(Hd.mk none 0 0).v,(Hd.mk none 0 0).v,(Hd.mk none 0 0).v,(Hd.mk none 0 0).v,(Hd.mk none 0 0).v,.bool false]),(Res.blk g7 59 [q3.v,.int .i64 v5.1,q27.v,(Hd.mk none 0 0).v,q22.1.v,q22.2.2.1.v,(Hd.mk none 0 0).v,.bool false]),(rowH q3 102 8 Element.enc v2.1),(rowH q27 119 2 Throw.enc z26.1),(rowH q22.1 104 6 Nt.enc g),(rowH q22.2.2.1 112 1 Nt.enc q22.2.2.2.1),(rowH q32 3 1 encI s.2),(Res.nest q22.2.2.2.2 (NF noAr q22.2.2.2.2 g s.1∧NF noAr q22.2.2.2.2 q22.2.2.2.1 z21.2.1))]) ?_ ?_)
  ·intro z33 q34
   refine ZbB (i:=7) e fun n37=>jqr 56 (jy (Zab e) e e (jgl 1 e e e e e (Zac e e e (jy (Zab e) e e (jy (Zab e) e e (jgl 1 e e e e e (jy (Zab e) e e (jy (Zab e) e e (jgl 1 e e e e e (jg_c e (fun v w hs hm=>Zgn hm (hs.row 6 e) (hs.row 3 e) n37.2.1 (hs.row 5 e) (hs.nD 7 e n37.2.2 Zbw)) e e fun v38 q39=>jg_L (r9 e) (Zac e e e (jy (ZaH e e) e e (jy (ZaH e e) e e (Zaf e e e ?_))))))))))))))
   refine Zaf e e e (gz5 4 6 28 29 31 e (jsr 57 (Zac e e e (Zac e e e (Zac e e e (jy (ZaL e e) e e (jy (Zab e) e e (jy (Zab e) e e (Zav 2 e e e (l1 e) e e e e (l8 e) (r9 e) (jy (Zab e) e e (Zav 2 e e e (l1 e) e e e e (l8 e) (r9 e) (jy (Zab e) e e (Zav 2 e e e (l1 e) e e e e (l8 e) (r9 e) (gz2 4 6 e (jsr 58 (jg_y (fun w hs=>ZaJ e (ldBB (hs.blkL (i:=2) e) e)) e e ?_))))))))))))))))
   refine Zav 1 e e e (l8 e) e e e e (l8 e) (r9 e) (gz1 4 e (Zad (Zam (Zax (i:=8) (NF noAr q22.2.2.2.2 q34 z33.1∧NF noAr q22.2.2.2.2 q22.2.2.2.1 z21.2.1) e (fun _=>⟨n37.1,n37.2⟩) (r9 e) (Zaj e (fun w hs=>.cell e (ldBB (hs.blkL (i:=1) e) e)) (fun w hs=>⟨(q3,q27,q39,q22.1,q34,q22.2.2.1,q22.2.2.2.1,q32,q22.2.2.2.2),e,hs.sel (is:=[3,4,0,5,6,7,8]) e e⟩))))))
  intro k35 H36
  refine jqr 51 (Zaf e e e (gz4 4 6 28 30 e (Zad (Zao (ZbC (i:=7) (NF noAr q22.2.2.2.2 q22.2.1 z21.1∧NF noAr q22.2.2.2.2 q22.2.2.2.1 z21.2.1) e (fun _=>⟨n30.1,n30.2⟩) (r8 e) (Zbj (n:=big) (fun (s:((List Rolling)×(List Int)×Int)) (g:(List (Rolling×(Hd×Hd))))=>[(4,.pointer (some ⟨g1,0,none⟩)),(6,.pointer (some ⟨g7,0,none⟩)),(28,q32.v),(30,.int .i64 s.2.2)]) (fun s g=>[(Res.blk b0 65 [ha0A.v,.int .i64 z26.2])]) (fun s g=>[(Res.blk g1 59 [(Hd.mk none 0 0).v,.int .i64 0,(Hd.mk none 0 0).v,(Hd.mk none 0 0).v,(Hd.mk none 0 0).v,(Hd.mk none 0 0).v,(Hd.mk none 0 0).v,.bool false]),(Res.blk g7 59 [q3.v,.int .i64 v5.1,q27.v,(Hd.mk none 0 0).v,q22.1.v,q22.2.2.1.v,(Hd.mk none 0 0).v,.bool false]),(rowH q3 102 8 Element.enc v2.1),(rowH q27 119 2 Throw.enc z26.1),(rowH q22.1 104 6 Nt.enc g),(rowH q22.2.2.1 112 1 Nt.enc q22.2.2.2.1),(rowH q32 3 1 encI s.2.1),(Res.nest q22.2.2.2.2 (NF noAr q22.2.2.2.2 g s.1∧NF noAr q22.2.2.2.2 q22.2.2.2.1 z21.2.1))]) (z21.1,v31.1,0) q22.2.1 [1,2,3,4,5,6,0,7] (u4 e) e e e ?_))))))
  intro z40 q41 n44 k42 H43
  refine ZbB (i:=7) e fun n45=>Zak (jqr 52 (Zac e e e (Zac e e e (jg_y (fun w hs=>ZaV e (hs.row 6 e)) e e (jy (ZaD e e) e e (gz5 4 6 28 30 337 e (Zad (Zai e ?_ ?_))))))))
  rotate_left
  ·refine ZaE (Za9 (Zbe (Zba ?_)))
   refine Zax (i:=7) (NF noAr q22.2.2.2.2 q41 z40.1∧NF noAr q22.2.2.2.2 q22.2.2.2.1 z21.2.1) e (fun _=>⟨n45.1,n45.2⟩) (r8 e) (Zap H36 (z40.1,z40.2.1) q41 [0,1,2,3,4,5,6,7] (u3 e) e e e)
  refine jks (Zak (Zao (Zak (jdr (L':=[_,_,_,_,_,_,_,_]) 54 [0,1,2,3,4,5,6,7] [0,1,2,3,4,5,6,7,8] 511 1023 [0,0,3,4,0,16,32,72,255,511] [0,0,3,7,0,16,48,127,255,511] [(0,true),(1,true),(2,true),(3,true),(4,true),(5,true),(6,true),(7,true),(8,true),(9,false)] e (Zas (Zay (Zas (Za0 (Zay (Zas Zbb)))))) (Zau e e e e (Zau e e e e (Zbk fun x46 h47=>jd_y e (fun w hs=>ZaC e e (hs.row 6 e) h47) e e (jd_y e (fun w hs=>ZaQ e (hs.row 6 e) h47.1 e) e e (jdy e (Zab e) e e (jdy e (Zab e) e e (jdl 1 e e e e e e (jdy e (Zal e e) e e (Zbk fun x48 h49=>jd_y e (fun w hs=>ZaC e e (hs.row 6 e) h49) e e (jd_h e ?_))))))))))))))
  refine Zbr 6 (a':=w64 (x46 + v5.1)) e e h49.1 e (l1 e) e e e e fun y50=>jg_L (r8 e) (ZaA (ZbG e (Zbf [(4,_),(6,_),(28,_),(30,_)] ⟨e,e,e,e,trivial⟩ (Zad (jdr (L':=[_,_,_,_,_,_,_,_]) 55 [0,1,2,3,4,5,6,7] [0,1,2,3,4,5,6,7,8,9] 1023 2047 [0,1,2,0,0,0,48,64,255,511,767] [0,1,3,0,0,0,48,112,255,511,1023] [(0,true),(1,true),(2,true),(3,true),(4,true),(5,true),(6,true),(7,true),(8,true),(9,true),(10,false)] e (Zay (Zas (Za0 (Zay (Zas Zbb))))) (jdy e (Zab e) e e (jdy e (Zab e) e e (jdl 1 e e e e e e (Zau e e e e (Zau e e e e (Zau e e e e (Zbk fun x51 h52=>jd_y e (fun w hs=>ZaC e e (hs.row 6 e) h52) e e (jd_y e (fun w hs=>ZaQ e (hs.row 6 e) h52.1 e) e e (ZcE (fun w hs=>n45.1.1) fun x53 d55 h54=>?_))))))))))))))
  have n56:okN noAr q22.2.2.2.2 (x53,d55):=n45.1.2 _ (List.mem_of_getElem? h54.1)
  refine jd_y e (fun w hs=>ZaC e e (hs.row 4 e) h54) e e (jd_y e (fun w hs=>ZaS e (hs.row 4 e) h54.1) e e (jd_h e (Zc7 4 (a':=(Rolling.mk x51 x53.Length x53.Track x53.Speed x53.Resist x53.Targets)) e e h54.1 e (l1 e) e e e e fun y57 H58=>jg_L (r8 e) ?_)))
  have n59:NF noAr q22.2.2.2.2 (q41.set (Int.toNat z40.2.2) ((Rolling.mk x51 x53.Length x53.Track x53.Speed x53.Resist x53.Targets),(d55.1,d55.2))) y57:=n45.1.setp h54.1 e H58
  refine ZaA (ZbG e (Zbf [(4,_),(6,_),(28,_),(30,_)] ⟨e,e,e,e,trivial⟩ (ZaG (Zad ?_))))
  refine Zar 53 (Zac e e e (jy (Zal e e) e e (Zaf e e e (gz4 4 6 28 30 e (Zax (i:=7) (NF noAr q22.2.2.2.2 (q41.set (Int.toNat z40.2.2) ((Rolling.mk x51 x53.Length x53.Track x53.Speed x53.Resist x53.Targets),(d55.1,d55.2))) y57∧NF noAr q22.2.2.2.2 q22.2.2.2.1 z21.2.1) e (fun _=>⟨n59,n45.2⟩) (r8 e) (Zap H43 (y57,y50,w64 (z40.2.2 + 1)) (q41.set (Int.toNat z40.2.2) ((Rolling.mk x51 x53.Length x53.Track x53.Speed x53.Resist x53.Targets),(d55.1,d55.2))) [0,1,2,3,4,5,6,7] (u4 e) e e e))))))
 intro k23 H24
 refine jqr 15 (Zac e e e (Zac e e e (jy (Zal e e) e e (jm_c e (fun v w hs hm=>ZaP hm (hs.blkM (i:=0) e) (hs.argM Rha0_fl Oha0_fl) Oha0_fl) (fun _=>e) e e fun v81 q82=>Zaf e e e (gz9 0 4 5 6 7 10 11 13 14 e (Zad (Zao (Zbm 104 6 (Nt.enc (α:=Rolling) (η:=(Hd×Hd))) (Zbm 112 1 (Nt.enc (α:=(List Span)) (η:=Hd)) (Zff (ZbC (i:=0) (NF noAr [] ([]:List (Rolling×(Hd×Hd))) ([]:List Rolling)∧NF noAr [] ([]:List ((List Span)×Hd)) ([]:List (List Span))) e (fun _=>⟨NF.nil,NF.nil⟩) (r10 e) (Zbj (n:=big) (fun (s:((List Rolling)×(List (List Span))×Int×Int)) (g:(Hd×(List (Rolling×(Hd×Hd)))×Hd×(List ((List Span)×Hd))×List Rw))=>[(0,.pointer (some ⟨b0,0,none⟩)),(4,.pointer (some ⟨g1,0,none⟩)),(5,q3.v),(6,.pointer (some ⟨g7,0,none⟩)),(7,q15.1.v),(10,q15.2.1.v),(11,q15.2.2.v),(13,.int .i64 v19.1),(14,.int .i64 s.2.2.1)]) (fun s g=>[(Res.blk b0 65 [ha0A.v,.int .i64 s.2.2.2])]) (fun s g=>[(Res.blk g1 59 [(Hd.mk none 0 0).v,.int .i64 0,(Hd.mk none 0 0).v,(Hd.mk none 0 0).v,(Hd.mk none 0 0).v,(Hd.mk none 0 0).v,(Hd.mk none 0 0).v,.bool false]),(rowH q3 102 8 Element.enc v2.1),(Res.blk g7 59 [q3.v,.int .i64 v5.1,(Hd.mk none 0 0).v,(Hd.mk none 0 0).v,g.1.v,g.2.2.1.v,(Hd.mk none 0 0).v,.bool false]),(rowH g.1 104 6 Nt.enc g.2.1),(rowH g.2.2.1 112 1 Nt.enc g.2.2.2.1),(rowH q15.1 3 1 encI z14.1),(rowH q15.2.1 35 2 Interval.enc z14.2.1),(rowH q15.2.2 3 1 encI z14.2.2.1),(Res.nest g.2.2.2.2 (NF noAr g.2.2.2.2 g.2.1 s.1∧NF noAr g.2.2.2.2 g.2.2.2.1 s.2.1))]) (([]:List Rolling),([]:List (List Span)),v81.1,v81.2) ((Hd.mk none 0 0),([]:List (Rolling×(Hd×Hd))),(Hd.mk none 0 0),([]:List ((List Span)×Hd)),[]) [4,5,6,2,1,7,8,9,0] (u9 e) e e e ?_))))))))))))
 intro z83 q84 n87 k85 H86
 refine ZbB (i:=8) e fun n88=>Zak (jqr 16 (Zac e e e (jy (Zbh e e) e e (gz10 0 4 5 6 7 10 11 13 14 96 e (Zad (Zai e ?_ ?_))))))
 rotate_left
 ·refine ZaE (Za9 (Zbe (Zba ?_)))
  refine Zax (i:=8) (NF noAr q84.2.2.2.2 q84.2.1 z83.1∧NF noAr q84.2.2.2.2 q84.2.2.2.1 z83.2.1) e (fun _=>⟨n88.1,n88.2⟩) (r9 e) (Zap H24 (z83.1,z83.2.1,z83.2.2.2) (q84.1,q84.2.1,q84.2.2.1,q84.2.2.2.1,q84.2.2.2.2) [0,1,2,3,4,8] (u4 e) e e e)
 refine jks (Zak (Zao (jqr 18 (Zac e e e (ZaT (enc:=encI) [8000,15000,40000] e e e e e e e e fun hd89=>jm_c e (fun v w hs hm=>ZaB hm (hs.blkM (i:=0) e) (hs.argM Rha0_fl Oha0_fl) Oha0_fl (hs.row 0 e) (hs.offML 0 0 e e)) (fun _=>e) e e fun v90 q91=>Zac e e e (Zac e e e (Zac e e e (jg_y (fun w hs=>ZaV e (hs.row 6 e)) e e (jm_c e (fun v w hs hm=>ZaP hm (hs.blkM (i:=0) e) (hs.argM Rha0_fl Oha0_fl) Oha0_fl) (fun _=>e) e e fun v92 q93=>Za6 fun x94 h95=>jg_y (fun w hs=>ZaC e e (hs.row 6 e) h95) e e (jg_y (fun w hs=>ZaQ e (hs.row 6 e) h95.1 e) e e (jy (ZaX e (o6 e)) e e (ZaR (l6 e) e e fun g96=>?_))))))))))))
 refine Zav 0 e e e (l6 e) e e e e (l6 e) (r11 e) (gz10 0 4 5 6 7 10 11 13 14 15 e (Zad (Zak (jdr (L':=[_,_,_,_,_,_,_,_,_,_,_]) 19 [0,2,3,4,5,6,7,8,9,10,11] [0,1,2,3,4,5] 63 127 [0,1,0,4,10,31,63] [0,1,0,4,15,31,63] [(0,true),(1,true),(2,true),(3,true),(4,true),(5,true),(6,false)] e (Zas (Zay (Zas (Za0 (Zay (Zas Zbb)))))) (jdy e (Zab e) e e (jdl 0 e e e e e e (Zau e e e e (Zcc e e (fun v w hs hm=>Zcf hm (hs.row 2 e)) e e fun v97=>jdy e (ZdW e e) e e (jdy e (Zab e) e e (jd_h e (Zav 0 e e e (l1 e) e e e e (l6 e) (r11 e) (ZaA (ZbG e (Zbf [(0,_),(4,_),(5,_),(6,_),(7,_),(10,_),(11,_),(13,_),(14,_),(15,_)] ⟨e,e,e,e,e,e,e,e,e,e,trivial⟩ (jsr 20 ?_)))))))))))))))
 refine Zac e e e (jy (Zab e) e e (jgl 0 e e e e e (jg_c e (fun v w hs hm=>Zje hm (hs.row 3 e)) e e fun v98 q99=>jg_L (r12 e) (Zac e e e (jy (ZaH e e) e e (jy (ZaH e e) e e (Zaf e e e (Zaf e e e (gz11 0 4 5 6 7 10 11 13 14 15 16 e (jsr 21 (Zac e e e (jy (Zab e) e e (jgl 1 e e e e e (jg_c e (fun v w hs hm=>Zgp hm (hs.row 0 e)) e e fun v100 q101=>jg_L (r13 e) ?_))))))))))))))
 refine Zac e e e (jy (ZaH e e) e e (jy (ZaH e e) e e (Zaf e e e (gz11 0 4 5 6 7 10 11 13 14 15 16 e (ZaF (is:=[0,2,4,5,6,7,8,9,10,11,12]) (s11 e) e (jsr 22 (Zac e e e (ZaT (enc:=encI) [1200,1500,3000] e e e e e e e e fun hd102=>jm_c e (fun v w hs hm=>ZaB hm (hs.blkM (i:=0) e) (hs.argM Rha0_fl Oha0_fl) Oha0_fl (hs.row 0 e) (hs.offML 0 0 e e)) (fun _=>e) e e fun v103 q104=>Zaf e e e (gz12 0 4 5 6 7 10 11 13 14 15 16 18 e (jsr 23 (Zac e e e (Zac e e e (Zac e e e (jy (Zal e e) e e ?_))))))))))))))
 refine jy (ZaX e (o2 e)) e e (Zac e e e (jy (ZaX e (o5 e)) e e (ZaR (l5 e) e e fun g105=>Zav 0 e e e (l5 e) e e e e (l5 e) (r13 e) (gz13 0 4 5 6 7 10 11 13 14 15 16 18 19 e (Zad (Za2 (fun (s:((List Interval)×(List Int))) (g:(Hd×Hd))=>[(0,.pointer (some ⟨b0,0,none⟩)),(4,.pointer (some ⟨g1,0,none⟩)),(5,q3.v),(6,.pointer (some ⟨g7,0,none⟩)),(7,q15.1.v),(10,q15.2.1.v),(11,q15.2.2.v),(13,.int .i64 v19.1),(14,.int .i64 z83.2.2.1),(15,.pointer (some ⟨g96,0,none⟩)),(16,q101.v),(18,.int .i64 v103.1),(19,.pointer (some ⟨g105,0,none⟩))]) (fun s g=>[(Res.blk b0 65 [ha0A.v,.int .i64 v103.2])]) (fun s g=>[(Res.blk g1 59 [(Hd.mk none 0 0).v,.int .i64 0,(Hd.mk none 0 0).v,(Hd.mk none 0 0).v,(Hd.mk none 0 0).v,(Hd.mk none 0 0).v,(Hd.mk none 0 0).v,.bool false]),(rowH q3 102 8 Element.enc v2.1),(Res.blk g7 59 [q3.v,.int .i64 v5.1,(Hd.mk none 0 0).v,(Hd.mk none 0 0).v,q84.1.v,q84.2.2.1.v,(Hd.mk none 0 0).v,.bool false]),(rowH q84.1 104 6 Nt.enc q84.2.1),(rowH q84.2.2.1 112 1 Nt.enc q84.2.2.2.1),(rowH q15.1 3 1 encI z14.1),(rowH q15.2.1 35 2 Interval.enc z14.2.1),(rowH q15.2.2 3 1 encI z14.2.2.1),(Res.blk g96 104 [.int .i64 0,.int .i64 (min v90.1 v97),.int .i64 x94,.int .i64 0,(Hd.mk none 0 0).v,(Hd.mk none 0 0).v]),(rowH q101 69 5 Piece.enc v100.1),(Res.blk g105 38 [.int .i64 v103.1,.int .i64 (w64 (v103.1 + v19.1)),g.1.v,.int .i64 v19.1,g.2.v]),(rowH g.1 35 2 Interval.enc s.1),(rowH g.2 3 1 encI s.2),(Res.nest q84.2.2.2.2 (NF noAr q84.2.2.2.2 q84.2.1 z83.1∧NF noAr q84.2.2.2.2 q84.2.2.2.1 z83.2.1))]) ?_ ?_))))))
 rotate_left
 ·intro k108 H109
  refine jqr 24 (Zaf e e e (gz14 0 4 5 6 7 10 11 13 14 15 16 18 19 20 e (Zad (Zao (Zbm 35 2 Interval.enc (Zbm 3 1 encI (ZbC (i:=14) (NF noAr q84.2.2.2.2 q84.2.1 z83.1∧NF noAr q84.2.2.2.2 q84.2.2.2.1 z83.2.1) e (fun _=>⟨n88.1,n88.2⟩) (r15 e) (Zbj (n:=big) (fun (s:((List Interval)×(List Int)×Int)) (g:(Hd×Hd))=>[(0,.pointer (some ⟨b0,0,none⟩)),(4,.pointer (some ⟨g1,0,none⟩)),(5,q3.v),(6,.pointer (some ⟨g7,0,none⟩)),(7,q15.1.v),(10,q15.2.1.v),(11,q15.2.2.v),(13,.int .i64 v19.1),(14,.int .i64 z83.2.2.1),(15,.pointer (some ⟨g96,0,none⟩)),(16,q101.v),(18,.int .i64 v103.1),(19,.pointer (some ⟨g105,0,none⟩)),(20,.int .i64 s.2.2)]) (fun s g=>[(Res.blk b0 65 [ha0A.v,.int .i64 v103.2])]) (fun s g=>[(Res.blk g1 59 [(Hd.mk none 0 0).v,.int .i64 0,(Hd.mk none 0 0).v,(Hd.mk none 0 0).v,(Hd.mk none 0 0).v,(Hd.mk none 0 0).v,(Hd.mk none 0 0).v,.bool false]),(rowH q3 102 8 Element.enc v2.1),(Res.blk g7 59 [q3.v,.int .i64 v5.1,(Hd.mk none 0 0).v,(Hd.mk none 0 0).v,q84.1.v,q84.2.2.1.v,(Hd.mk none 0 0).v,.bool false]),(rowH q84.1 104 6 Nt.enc q84.2.1),(rowH q84.2.2.1 112 1 Nt.enc q84.2.2.2.1),(rowH q15.1 3 1 encI z14.1),(rowH q15.2.1 35 2 Interval.enc z14.2.1),(rowH q15.2.2 3 1 encI z14.2.2.1),(Res.blk g96 104 [.int .i64 0,.int .i64 (min v90.1 v97),.int .i64 x94,.int .i64 0,(Hd.mk none 0 0).v,(Hd.mk none 0 0).v]),(rowH q101 69 5 Piece.enc v100.1),(Res.blk g105 38 [.int .i64 v103.1,.int .i64 (w64 (v103.1 + v19.1)),g.1.v,.int .i64 v19.1,g.2.v]),(rowH g.1 35 2 Interval.enc s.1),(rowH g.2 3 1 encI s.2.1),(Res.nest q84.2.2.2.2 (NF noAr q84.2.2.2.2 q84.2.1 z83.1∧NF noAr q84.2.2.2.2 q84.2.2.2.1 z83.2.1))]) (([]:List Interval),([]:List Int),0) ((Hd.mk none 0 0),(Hd.mk none 0 0)) [6,7,8,9,10,11,12,13,5,4,2,1,0,14] (u14 e) e e e ?_))))))))
  intro z479 q480 n483 k481 H482
  refine ZbB (i:=13) e fun n484=>Zak (jqr 25 (Zac e e e (Zac e e e (jg_y (fun w hs=>ZaV e (hs.row 9 e)) e e (jy (ZaD e e) e e (gz15 0 4 5 6 7 10 11 13 14 15 16 18 19 20 143 e (Zad (Zai e ?_ ?_))))))))
  rotate_left
  ·refine ZaE (Za9 (Zbe (Zba ?_)))
   refine Zax (i:=13) (NF noAr q84.2.2.2.2 q84.2.1 z83.1∧NF noAr q84.2.2.2.2 q84.2.2.2.1 z83.2.1) e (fun _=>⟨n484.1,n484.2⟩) (r14 e) (Zap H109 (z479.1,z479.2.1) (q480.1,q480.2) [0,1,2,3,4,5,6,7,8,9,10,11,12,13] (u13 e) e e e)
  refine jks (Zak (Zao (Zak (jdr (L':=[_,_,_,_,_,_,_,_,_,_,_,_,_,_]) 27 [0,1,2,3,4,5,6,7,8,9,10,12,13,14] [0,1,2,3,4,5,6,7,8,9,10,11,12] 8191 16383 [0,1,0,0,0,24,32,64,132,256,512,1026,4095,8191] [0,1,0,0,0,24,56,120,252,508,1020,2047,4095,8191] [(0,true),(1,true),(2,true),(3,true),(4,true),(5,true),(6,true),(7,true),(8,true),(9,true),(10,false),(11,false),(12,true),(13,false)] e (Zas (Zay (Zas (Za0 (Zay (Zas (Zay (Zas (Za0 (Zay (Zas Zbb))))))))))) (jdy e (Zab e) e e (jdl 10 e e e e e e (Zau e e e e (Zau e e e e (Zau e e e e (Zbk fun x485 h486=>jd_y e (fun w hs=>ZaC e e (hs.row 9 e) h486) e e (jd_y e (fun w hs=>ZaS e (hs.row 9 e) h486.1) e e (jd_y e (fun w hs=>ZaQ e (hs.row 9 e) h486.1 e) e e (Zbk fun x487 h488=>jd_y e (fun w hs=>ZaC e e (hs.row 6 e) h488) e e (jd_y e (fun w hs=>ZbJ e (hs.row 6 e) h488.1 (l2 e) e) e e ?_))))))))))))))
  refine jd_h e (ZaT (enc:=Interval.enc) [x487] e e e e e e e e fun hd489=>ZaA (Zbs [1,2,3,4,5,6,7,8,9,10,11,13,14,15] e (jd_h e (ZaO 12 e e e (fun w hs=>(hs.row 0 e)) e e e fun y490 hd491=>jg_L (r15 e) (ZaA (Zbs [1,2,3,4,5,6,7,8,9,10,11,13,14,15] e (jdy e (Zab e) e e (jd_h e (Zav 11 e e e (l1 e) e e e e (l5 e) (r15 e) (ZaA (ZbG e (Zbf [(0,_),(4,_),(5,_),(6,_),(7,_),(10,_),(11,_),(13,_),(14,_),(15,_),(16,_),(18,_),(19,_),(20,_)] ⟨e,e,e,e,e,e,e,e,e,e,e,e,e,e,trivial⟩ (jsr 28 (Zac e e e ?_))))))))))))))
  refine Zac e e e (Za6 fun x492 h493=>jg_y (fun w hs=>ZaC e e (hs.row 10 e) h493) e e (jg_y (fun w hs=>ZaS e (hs.row 10 e) h493.1) e e (jg_y (fun w hs=>ZaQ e (hs.row 10 e) h493.1 e) e e (jy (Zbh e e) e e (gz15 0 4 5 6 7 10 11 13 14 15 16 18 19 20 164 e (Zad (Zai e ?_ ?_)))))))
  rotate_left
  ·refine ZaK (ZaG (Zad ?_))
   refine Zar 26 (Zac e e e (jy (Zal e e) e e (Zaf e e e (gz14 0 4 5 6 7 10 11 13 14 15 16 18 19 20 e (Zax (i:=14) (NF noAr q84.2.2.2.2 q84.2.1 z83.1∧NF noAr q84.2.2.2.2 q84.2.2.2.1 z83.2.1) e (fun _=>⟨n484.1,n484.2⟩) (r15 e) (Zap H482 (y490,z479.2.1,w64 (z479.2.2 + 1)) (hd491,q480.2) [1,2,3,4,5,6,7,8,9,10,11,12,13,14] (u14 e) e e e))))))
  refine jdr (L':=[_,_,_,_,_,_,_,_,_,_,_,_,_,_]) 29 [1,2,3,4,5,6,7,8,9,10,11,12,14,15] [0,1,2,3,4,5,6,7,8,9,10,11,12] 8191 16383 [0,1,0,0,0,24,32,64,132,256,512,1026,4095,8191] [0,1,0,0,0,24,56,120,252,508,1020,2047,4095,8191] [(0,true),(1,true),(2,true),(3,true),(4,true),(5,true),(6,true),(7,true),(8,true),(9,true),(10,false),(11,false),(12,true),(13,false)] e (Zay (Zas (Za0 (Zay (Zas (Zay (Zas (Za0 (Zay (Zas Zbb)))))))))) (jdy e (Zab e) e e (jdl 10 e e e e e e (Zau e e e e (Zau e e e e (Zau e e e e (Zbk fun x494 h495=>jd_y e (fun w hs=>ZaC e e (hs.row 9 e) h495) e e (jd_y e (fun w hs=>ZaS e (hs.row 9 e) h495.1) e e (jd_y e (fun w hs=>ZaQ e (hs.row 9 e) h495.1 e) e e (Zbk fun x496 h497=>jd_y e (fun w hs=>ZaC e e (hs.row 7 e) h497) e e (jd_y e (fun w hs=>ZaQ e (hs.row 7 e) h497.1 e) e e (jd_h e (ZaT (enc:=encI) [x496] e e e e e e e e fun hd498=>ZaA (Zbs [2,3,4,5,6,7,8,9,10,11,12,13,15,16] e ?_)))))))))))))
  refine jd_h e (ZaO 14 e e e (fun w hs=>(hs.row 0 e)) e e e fun y499 hd500=>jg_L (r16 e) (ZaA (Zbs [2,3,4,5,6,7,8,9,10,11,12,13,15,16] e (jdy e (Zab e) e e (jd_h e (Zav 12 e e e (l1 e) e e e e (l5 e) (r16 e) (ZaA (ZbG e (Zbf [(0,_),(4,_),(5,_),(6,_),(7,_),(10,_),(11,_),(13,_),(14,_),(15,_),(16,_),(18,_),(19,_),(20,_)] ⟨e,e,e,e,e,e,e,e,e,e,e,e,e,e,trivial⟩ (ZaF (is:=[2,3,4,5,6,7,8,9,10,11,12,13,14,15]) (s14 e) e (ZaG (Zad ?_))))))))))))
  refine Zar 26 (Zac e e e (jy (Zal e e) e e (Zaf e e e (gz14 0 4 5 6 7 10 11 13 14 15 16 18 19 20 e (Zax (i:=13) (NF noAr q84.2.2.2.2 q84.2.1 z83.1∧NF noAr q84.2.2.2.2 q84.2.2.2.1 z83.2.1) e (fun _=>⟨n484.1,n484.2⟩) (r14 e) (Zap H482 (y490,y499,w64 (z479.2.2 + 1)) (hd491,hd500) [0,1,2,3,4,5,6,7,8,9,10,11,12,13] (u14 e) e e e))))))
 intro z106 q107
 refine ZbB (i:=13) e fun n110=>jqr 30 (Zac e e e (jg_y (fun w hs=>ZaJ e (ldBB (hs.blkL (i:=10) e) e)) e e (jg_c e (fun v w hs hm=>Zjf (a1:=(Motion.mk (Interval.mk v103.1 (w64 (v103.1 + v19.1))) z106.1 v19.1 z106.2)) hm (hs.row 9 e) (hs.row 11 e) (hs.row 12 e)) e e fun v111 q112=>jg_L (r15 e) (Zac e e e (jy (ZaH e e) e e (jy (ZaH e e) e e (Zaf e e e (Zaf e e e (gz13 0 4 5 6 7 10 11 13 14 15 16 18 21 e (ZaF (is:=[0,1,2,3,4,5,6,7,8,9,10,14]) (s12 e) e (jsr 31 (Zac e e e (Zac e e e (Zac e e e ?_))))))))))))))
 refine jy (Zab e) e e (jgl 9 e e e e e (jg_c e (fun v w hs hm=>Zif hm (hs.row 2 e) (hs.row 10 e) (hs.row 0 e)) e e fun v113 q114=>jg_L (r13 e) (Zac e e e (jy (ZaH e e) e e (jy (ZaH e e) e e (Zaf e e e (Zaf e e e (gz14 0 4 5 6 7 10 11 13 14 15 18 21 23 24 e (Zad (Zak (jqr 32 (Zac e e e (jy (Zbt e e) e e (Zac e e e (Zaq 195 e ?_ ?_)))))))))))))))
 ·refine Zaa e e (Zaa e e (Zaa e e (Zaa e e (Zaa e e (Zaa e e (Zaa e e (jy (Zah e e) e e (Zac e e e (Zaa e e (Zaa e e (Zaa e e (Zaa e e (Zaa e e (Zaa e e (Zaa e e (jy (Zah e e) e e ?_))))))))))))))))
  refine Zac e e e (Zaa e e (Zaa e e (Zaa e e (Zaa e e (Zaa e e (Zaa e e (Zaa e e (Zaa e e (Zaa e e (jy (Zah e e) e e (Zac e e e (Zaa e e (Zaa e e (Zaa e e (jy (Zah e e) e e (gz13 0 4 5 6 7 10 11 13 14 15 18 23 228 e ?_))))))))))))))))
  refine ZaF (is:=[0,2,3,4,5,6,7,8,9,10,12]) (s11 e) e (Zad (Zbo e (ZaE (Za9 (Zba (Zad ?_))))))
  refine Zar 17 (Zac e e e (jy (ZaZ e e) e e (Zaf e e e (gz9 0 4 5 6 7 10 11 13 14 e (ZaF (is:=[1,2,3,4,5,6,7,8,10]) (s9 e) e (Zax (i:=8) (NF noAr q84.2.2.2.2 q84.2.1 z83.1∧NF noAr q84.2.2.2.2 q84.2.2.2.1 z83.2.1) e (fun _=>⟨n110.1,n110.2⟩) (r9 e) (Zap H86 (z83.1,z83.2.1,w64 (z83.2.2.1 - 1),v103.2) (q84.1,q84.2.1,q84.2.2.1,q84.2.2.2.1,q84.2.2.2.2) [0,1,2,3,4,5,6,7,8] (u9 e) e e e)))))))
 refine Zac e e e (Zac e e e (jg_y (fun w hs=>ZaV e (hs.row 1 e)) e e (Zc6 (fun w hs=>ZaZ e e) e e fun x115=>Za6 fun x116 h117=>jg_y (fun w hs=>ZaC e e (hs.row 1 e) h117) e e (jg_y (fun w hs=>ZaS e (hs.row 1 e) h117.1) e e (jg_y (fun w hs=>ZaQ e (hs.row 1 e) h117.1 e) e e (jy (Zae e e) e e (Zac e e e (Zaq 204 e ?_ ?_))))))))
 ·refine Zaa e e (Zaa e e (Zaa e e (Zaa e e (Zaa e e (Zaa e e (Zaa e e (jy (Zah e e) e e (Zac e e e (Zaa e e (Zaa e e (Zaa e e (Zaa e e (Zaa e e (Zaa e e (Zaa e e (Zaa e e ?_))))))))))))))))
  refine Zaa e e (jy (Zah e e) e e (Zac e e e (Zaa e e (Zaa e e (Zaa e e (jy (Zah e e) e e (gz13 0 4 5 6 7 10 11 13 14 15 18 23 228 e (ZaF (is:=[0,2,3,4,5,6,7,8,9,10,12]) (s11 e) e (Zad (Zbo e (ZaE (Za9 (Zba (Zad ?_))))))))))))))
  refine Zar 17 (Zac e e e (jy (ZaZ e e) e e (Zaf e e e (gz9 0 4 5 6 7 10 11 13 14 e (ZaF (is:=[1,2,3,4,5,6,7,8,10]) (s9 e) e (Zax (i:=8) (NF noAr q84.2.2.2.2 q84.2.1 z83.1∧NF noAr q84.2.2.2.2 q84.2.2.2.1 z83.2.1) e (fun _=>⟨n110.1,n110.2⟩) (r9 e) (Zap H86 (z83.1,z83.2.1,w64 (z83.2.2.1 - 1),v103.2) (q84.1,q84.2.1,q84.2.2.1,q84.2.2.2.1,q84.2.2.2.2) [0,1,2,3,4,5,6,7,8] (u9 e) e e e)))))))
 refine Zac e e e (Zac e e e (jg_y (fun w hs=>ZaV e (hs.row 1 e)) e e (Zc6 (fun w hs=>ZaZ e e) e e fun x118=>Za6 fun x119 h120=>jg_y (fun w hs=>ZaC e e (hs.row 1 e) h120) e e (jg_y (fun w hs=>ZaS e (hs.row 1 e) h120.1) e e (jg_y (fun w hs=>ZaQ e (hs.row 1 e) h120.1 e) e e (jy (Zae e e) e e (Zac e e e (Zaq 213 e ?_ ?_))))))))
 ·refine Zaa e e (Zaa e e (Zaa e e (Zaa e e (Zaa e e (Zaa e e (Zaa e e (Zaa e e (Zaa e e (jy (Zah e e) e e (Zac e e e (Zaa e e (Zaa e e (Zaa e e (jy (Zah e e) e e (gz13 0 4 5 6 7 10 11 13 14 15 18 23 228 e (ZaF (is:=[0,2,3,4,5,6,7,8,9,10,12]) (s11 e) e ?_))))))))))))))))
  refine Zad (Zbo e (ZaE (Za9 (Zba (Zad ?_)))))
  refine Zar 17 (Zac e e e (jy (ZaZ e e) e e (Zaf e e e (gz9 0 4 5 6 7 10 11 13 14 e (ZaF (is:=[1,2,3,4,5,6,7,8,10]) (s9 e) e (Zax (i:=8) (NF noAr q84.2.2.2.2 q84.2.1 z83.1∧NF noAr q84.2.2.2.2 q84.2.2.2.1 z83.2.1) e (fun _=>⟨n110.1,n110.2⟩) (r9 e) (Zap H86 (z83.1,z83.2.1,w64 (z83.2.2.1 - 1),v103.2) (q84.1,q84.2.1,q84.2.2.1,q84.2.2.2.1,q84.2.2.2.2) [0,1,2,3,4,5,6,7,8] (u9 e) e e e)))))))
 refine Zac e e e (Zac e e e (jg_y (fun w hs=>ZaV e (hs.row 1 e)) e e (Zc6 (fun w hs=>ZaZ e e) e e fun x121=>Za6 fun x122 h123=>jg_y (fun w hs=>ZaC e e (hs.row 1 e) h123) e e (jg_y (fun w hs=>ZaS e (hs.row 1 e) h123.1) e e (jg_y (fun w hs=>ZaS e (hs.row 1 e) h123.1) e e (jg_y (fun w hs=>ZaQ e (hs.row 1 e) h123.1 e) e e (jy (Zbh e e) e e (jy (Zae e e) e e (Zac e e e (Zaq 224 e ?_ ?_))))))))))
 ·refine Zaa e e (Zaa e e (Zaa e e (jy (Zah e e) e e (gz13 0 4 5 6 7 10 11 13 14 15 18 23 228 e (ZaF (is:=[0,2,3,4,5,6,7,8,9,10,12]) (s11 e) e (Zad (Zbo e (ZaE (Za9 (Zba (Zad ?_)))))))))))
  refine Zar 17 (Zac e e e (jy (ZaZ e e) e e (Zaf e e e (gz9 0 4 5 6 7 10 11 13 14 e (ZaF (is:=[1,2,3,4,5,6,7,8,10]) (s9 e) e (Zax (i:=8) (NF noAr q84.2.2.2.2 q84.2.1 z83.1∧NF noAr q84.2.2.2.2 q84.2.2.2.1 z83.2.1) e (fun _=>⟨n110.1,n110.2⟩) (r9 e) (Zap H86 (z83.1,z83.2.1,w64 (z83.2.2.1 - 1),v103.2) (q84.1,q84.2.1,q84.2.2.1,q84.2.2.2.1,q84.2.2.2.2) [0,1,2,3,4,5,6,7,8] (u9 e) e e e)))))))
 refine Zac e e e (Zbc e (fun v w hs hm=>ZfU hm (hs.row 0 e)) e e fun v124=>jy (Zbl e) e e (jy (Zae e e) e e (gz13 0 4 5 6 7 10 11 13 14 15 18 23 228 e (ZaF (is:=[0,2,3,4,5,6,7,8,9,10,12]) (s11 e) e (Zad (Zai e ?_ ?_))))))
 ·refine ZaE (Za9 (Zba (Zad ?_)))
  refine Zar 17 (Zac e e e (jy (ZaZ e e) e e (Zaf e e e (gz9 0 4 5 6 7 10 11 13 14 e (ZaF (is:=[1,2,3,4,5,6,7,8,10]) (s9 e) e (Zax (i:=8) (NF noAr q84.2.2.2.2 q84.2.1 z83.1∧NF noAr q84.2.2.2.2 q84.2.2.2.1 z83.2.1) e (fun _=>⟨n110.1,n110.2⟩) (r9 e) (Zap H86 (z83.1,z83.2.1,w64 (z83.2.2.1 - 1),v103.2) (q84.1,q84.2.1,q84.2.2.1,q84.2.2.2.1,q84.2.2.2.2) [0,1,2,3,4,5,6,7,8] (u9 e) e e e)))))))
 refine jks (jqr 33 (Zac e e e (Zac e e e (Zac e e e (Zac e e e (jy (Zal e e) e e (jm_c e (fun v w hs hm=>Zc9 hm (hs.blkM (i:=0) e) (hs.argM Rha0_fl Oha0_fl) Oha0_fl) (fun _=>e) e e fun v125 q126=>jy (Zab e) e e (Zav 9 e e e (l1 e) e e e e (l6 e) (r11 e) (gz11 0 4 5 6 7 10 11 13 14 15 23 e (Zad (Za2 (fun (s:((List Int)×(List Int)×Int)) (g:(Hd×Hd))=>[(0,.pointer (some ⟨b0,0,none⟩)),(4,.pointer (some ⟨g1,0,none⟩)),(5,q3.v),(6,.pointer (some ⟨g7,0,none⟩)),(7,q15.1.v),(10,q15.2.1.v),(11,q15.2.2.v),(13,.int .i64 v19.1),(14,.int .i64 z83.2.2.1),(15,.pointer (some ⟨g96,0,none⟩)),(23,q114.v)]) (fun s g=>[(Res.blk b0 65 [ha0A.v,.int .i64 s.2.2])]) (fun s g=>[(Res.blk g1 59 [(Hd.mk none 0 0).v,.int .i64 0,(Hd.mk none 0 0).v,(Hd.mk none 0 0).v,(Hd.mk none 0 0).v,(Hd.mk none 0 0).v,(Hd.mk none 0 0).v,.bool false]),(rowH q3 102 8 Element.enc v2.1),(Res.blk g7 59 [q3.v,.int .i64 v5.1,(Hd.mk none 0 0).v,(Hd.mk none 0 0).v,q84.1.v,q84.2.2.1.v,(Hd.mk none 0 0).v,.bool false]),(rowH q84.1 104 6 Nt.enc q84.2.1),(rowH q84.2.2.1 112 1 Nt.enc q84.2.2.2.1),(rowH q15.1 3 1 encI z14.1),(rowH q15.2.1 35 2 Interval.enc z14.2.1),(rowH q15.2.2 3 1 encI z14.2.2.1),(Res.blk g96 104 [.int .i64 0,.int .i64 (min v90.1 v97),.int .i64 x94,.int .i64 v125.1,g.1.v,g.2.v]),(rowH g.1 3 1 encI s.1),(rowH g.2 3 1 encI s.2.1),(rowH q114 139 4 Span.enc v113.1),(Res.nest q84.2.2.2.2 (NF noAr q84.2.2.2.2 q84.2.1 z83.1∧NF noAr q84.2.2.2.2 q84.2.2.2.1 z83.2.1))]) ?_ ?_)))))))))))
 rotate_left
 ·intro k129 H130
  refine jqr 34 (Zaf e e e (gz12 0 4 5 6 7 10 11 13 14 15 23 25 e (Zad (Zao (Zbm 3 1 encI (Zbm 3 1 encI (ZbC (i:=12) (NF noAr q84.2.2.2.2 q84.2.1 z83.1∧NF noAr q84.2.2.2.2 q84.2.2.2.1 z83.2.1) e (fun _=>⟨n110.1,n110.2⟩) (r13 e) (Zbj (n:=big) (fun (s:((List Int)×(List Int)×Int×Int)) (g:(Hd×Hd))=>[(0,.pointer (some ⟨b0,0,none⟩)),(4,.pointer (some ⟨g1,0,none⟩)),(5,q3.v),(6,.pointer (some ⟨g7,0,none⟩)),(7,q15.1.v),(10,q15.2.1.v),(11,q15.2.2.v),(13,.int .i64 v19.1),(14,.int .i64 z83.2.2.1),(15,.pointer (some ⟨g96,0,none⟩)),(23,q114.v),(25,.int .i64 s.2.2.1)]) (fun s g=>[(Res.blk b0 65 [ha0A.v,.int .i64 s.2.2.2])]) (fun s g=>[(Res.blk g1 59 [(Hd.mk none 0 0).v,.int .i64 0,(Hd.mk none 0 0).v,(Hd.mk none 0 0).v,(Hd.mk none 0 0).v,(Hd.mk none 0 0).v,(Hd.mk none 0 0).v,.bool false]),(rowH q3 102 8 Element.enc v2.1),(Res.blk g7 59 [q3.v,.int .i64 v5.1,(Hd.mk none 0 0).v,(Hd.mk none 0 0).v,q84.1.v,q84.2.2.1.v,(Hd.mk none 0 0).v,.bool false]),(rowH q84.1 104 6 Nt.enc q84.2.1),(rowH q84.2.2.1 112 1 Nt.enc q84.2.2.2.1),(rowH q15.1 3 1 encI z14.1),(rowH q15.2.1 35 2 Interval.enc z14.2.1),(rowH q15.2.2 3 1 encI z14.2.2.1),(Res.blk g96 104 [.int .i64 0,.int .i64 (min v90.1 v97),.int .i64 x94,.int .i64 v125.1,g.1.v,g.2.v]),(rowH g.1 3 1 encI s.1),(rowH g.2 3 1 encI s.2.1),(rowH q114 139 4 Span.enc v113.1),(Res.nest q84.2.2.2.2 (NF noAr q84.2.2.2.2 q84.2.1 z83.1∧NF noAr q84.2.2.2.2 q84.2.2.2.1 z83.2.1))]) (([]:List Int),([]:List Int),0,v125.2) ((Hd.mk none 0 0),(Hd.mk none 0 0)) [3,4,5,6,7,8,9,10,11,1,0,2,12] (u12 e) e e e ?_))))))))
  intro z452 q453 n456 k454 H455
  refine ZbB (i:=12) e fun n457=>Zak (jqr 35 (Zac e e e (Zac e e e (jg_y (fun w hs=>ZaV e (hs.row 1 e)) e e (jy (ZaD e e) e e (gz13 0 4 5 6 7 10 11 13 14 15 23 25 239 e (Zad (Zai e ?_ ?_))))))))
  rotate_left
  ·refine ZaE (Za9 (Zbe (Zba ?_)))
   refine Zax (i:=12) (NF noAr q84.2.2.2.2 q84.2.1 z83.1∧NF noAr q84.2.2.2.2 q84.2.2.2.1 z83.2.1) e (fun _=>⟨n457.1,n457.2⟩) (r13 e) (Zap H130 (z452.1,z452.2.1,z452.2.2.2) (q453.1,q453.2) [0,1,2,3,4,5,6,7,8,9,10,11,12] (u11 e) e e e)
  refine jks (Zak (Zao (Zak (jdr (L':=[_,_,_,_,_,_,_,_,_,_,_,_]) 37 [0,1,2,3,4,5,6,7,8,10,11,12] [0,1,2,3,4,5,6,7,8,9,10,11,12,13,14,15,16] 131071 262143 [0,1,0,0,0,24,32,64,0,0,768,1024,2048,4228,8192,24578,65535,131071] [0,1,0,0,0,24,56,120,0,0,768,1792,3840,8188,16380,32767,65535,131071] [(0,true),(1,true),(2,true),(3,true),(4,true),(5,true),(6,true),(7,true),(8,true),(9,true),(10,true),(11,true),(12,true),(13,false),(14,false),(15,false),(16,true),(17,false)] e (Zas (Zay (Zas (Za0 (Zay (Zas (Zay (Zas (Za0 (Zay (Zas Zbb))))))))))) (jdy e (Zab e) e e (jdl 8 e e e e e e (Zau e e e e (Zau e e e e (Zau e e e e (Zbk fun x458 h459=>jd_y e (fun w hs=>ZaC e e (hs.row 6 e) h459) e e (jd_y e (fun w hs=>ZaS e (hs.row 6 e) h459.1) e e (jd_y e (fun w hs=>ZaQ e (hs.row 6 e) h459.1 e) e e (Zau e e e e (Zau e e e e (Zbk fun x460 h461=>?_)))))))))))))))
  refine jd_y e (fun w hs=>ZaC e e (hs.row 6 e) h461) e e (jd_y e (fun w hs=>ZaS e (hs.row 6 e) h461.1) e e (jd_y e (fun w hs=>ZaQ e (hs.row 6 e) h461.1 e) e e (jd_h e (jm_c e (fun v w hs hm=>Zc9 hm (hs.blkM (i:=0) e) (hs.argM Rha0_fl Oha0_fl) Oha0_fl) (fun _=>e) e e fun v462 q463=>ZaA (Zbs [0,1,2,3,4,5,6,7,8,10,11,12] e (jd_h e (ZaT (enc:=encI) [v462.1] e e e e e e e e fun hd464=>ZaA (Zbs [1,2,3,4,5,6,7,8,9,11,12,13] e (jd_h e (ZaO 10 e e e (fun w hs=>(hs.row 0 e)) e e e fun y465 hd466=>jg_L (r14 e) (ZaA (Zbs [1,2,3,4,5,6,7,8,9,11,12,13] e (jdy e (Zab e) e e ?_)))))))))))))
  refine jd_h e (Zav 9 e e e (l1 e) e e e e (l6 e) (r14 e) (ZaA (ZbG e (Zbf [(0,_),(4,_),(5,_),(6,_),(7,_),(10,_),(11,_),(13,_),(14,_),(15,_),(23,_),(25,_)] ⟨e,e,e,e,e,e,e,e,e,e,e,e,trivial⟩ (jsr 38 (Zac e e e (Zac e e e (Za6 fun x467 h468=>jg_y (fun w hs=>ZaC e e (hs.row 8 e) h468) e e (jg_y (fun w hs=>ZaQ e (hs.row 8 e) h468.1 e) e e (Zaf e e e (gz13 0 4 5 6 7 10 11 13 14 15 23 25 26 e (Zad (Za2 (fun (s:(Int×Int)) (g:Unit)=>[(0,.pointer (some ⟨b0,0,none⟩)),(4,.pointer (some ⟨g1,0,none⟩)),(5,q3.v),(6,.pointer (some ⟨g7,0,none⟩)),(7,q15.1.v),(10,q15.2.1.v),(11,q15.2.2.v),(13,.int .i64 v19.1),(14,.int .i64 z83.2.2.1),(15,.pointer (some ⟨g96,0,none⟩)),(23,q114.v),(25,.int .i64 z452.2.2.1),(26,.int .i64 s.1)]) (fun s g=>[(Res.blk b0 65 [ha0A.v,.int .i64 s.2])]) (fun s g=>[(Res.blk g1 59 [(Hd.mk none 0 0).v,.int .i64 0,(Hd.mk none 0 0).v,(Hd.mk none 0 0).v,(Hd.mk none 0 0).v,(Hd.mk none 0 0).v,(Hd.mk none 0 0).v,.bool false]),(rowH q3 102 8 Element.enc v2.1),(Res.blk g7 59 [q3.v,.int .i64 v5.1,(Hd.mk none 0 0).v,(Hd.mk none 0 0).v,q84.1.v,q84.2.2.1.v,(Hd.mk none 0 0).v,.bool false]),(rowH q84.1 104 6 Nt.enc q84.2.1),(rowH q84.2.2.1 112 1 Nt.enc q84.2.2.2.1),(rowH q15.1 3 1 encI z14.1),(rowH q15.2.1 35 2 Interval.enc z14.2.1),(rowH q15.2.2 3 1 encI z14.2.2.1),(Res.blk g96 104 [.int .i64 0,.int .i64 (min v90.1 v97),.int .i64 x94,.int .i64 v125.1,hd466.v,q453.2.v]),(rowH hd466 3 1 encI y465),(rowH q453.2 3 1 encI z452.2.1),(rowH q114 139 4 Span.enc v113.1),(Res.nest q84.2.2.2.2 (NF noAr q84.2.2.2.2 q84.2.1 z83.1∧NF noAr q84.2.2.2.2 q84.2.2.2.1 z83.2.1))]) ?_ ?_)))))))))))))
  ·intro z469 q470
   refine ZbB (i:=12) e fun n473=>Zar 41 (jy (Zab e) e e (jgl 8 e e e e e (Zac e e e (ZaT (enc:=encI) [z469.1] e e e e e e e e fun hd474=>ZaO 11 e e e (fun w hs=>(hs.row 0 e)) e e e fun y475 hd476=>jg_L (r14 e) (jy (Zab e) e e (Zav 9 e e e (l1 e) e e e e (l6 e) (r14 e) (gz12 0 4 5 6 7 10 11 13 14 15 23 25 e (ZaG (Zad ?_)))))))))
   refine Zar 36 (Zac e e e (jy (Zal e e) e e (Zaf e e e (gz12 0 4 5 6 7 10 11 13 14 15 23 25 e (Zax (i:=13) (NF noAr q84.2.2.2.2 q84.2.1 z83.1∧NF noAr q84.2.2.2.2 q84.2.2.2.1 z83.2.1) e (fun _=>⟨n473.1,n473.2⟩) (r14 e) (Zap H455 (y465,y475,w64 (z452.2.2.1 + 1),z469.2) (hd466,hd476) [1,2,3,4,5,6,7,8,9,10,11,12,13] (u12 e) e e e))))))
  intro k471 H472
  refine jqr 39 (Zac e e e (jy (Zbv e e) e e (gz14 0 4 5 6 7 10 11 13 14 15 23 25 26 264 e (Zad (Zai e ?_ ?_)))))
  rotate_left
  ·refine ZaK (Zax (i:=13) (NF noAr q84.2.2.2.2 q84.2.1 z83.1∧NF noAr q84.2.2.2.2 q84.2.2.2.1 z83.2.1) e (fun _=>⟨n457.1,n457.2⟩) (r14 e) (Zap H472 (x467,v462.2) () [1,2,3,4,5,6,7,8,9,10,11,12,13] (u13 e) e e e))
  refine Zar 40 (Zac e e e (Zac e e e (Zac e e e (jy (ZaZ e e) e e (Zac e e e (Zac e e e (jy (Zal e e) e e (jm_c e (fun v w hs hm=>Zc9 hm (hs.blkM (i:=0) e) (hs.argM Rha0_fl Oha0_fl) Oha0_fl) (fun _=>e) e e fun v477 q478=>Zaf e e e (gz13 0 4 5 6 7 10 11 13 14 15 23 25 26 e (Zax (i:=13) (NF noAr q84.2.2.2.2 q84.2.1 z83.1∧NF noAr q84.2.2.2.2 q84.2.2.2.1 z83.2.1) e (fun _=>⟨n457.1,n457.2⟩) (r14 e) (Zap H472 (v477.1,v477.2) () [1,2,3,4,5,6,7,8,9,10,11,12,13] (u13 e) e e e)))))))))))
 intro z127 q128
 refine ZbB (i:=12) e fun n131=>Zhk 42 [0,1,2,3,4,5,6,7,8,9,10,11,12,13,14,15] 65535 256 15 [0,1,2,0,8,20,0,64,0,256,672,255,2303,5375,16383,32767] [0,1,3,0,8,31,0,64,0,256,1023,255,2303,8191,16383,32767] [(8,true)] (Zay (Zas (Za0 (Zay (Zas Zbb))))) (by kernel_rfl) (by kernel_rfl) (by kernel_rfl) (by kernel_rfl) (by kernel_rfl) (by kernel_rfl) (by kernel_rfl) (by kernel_rfl) (Zf6 e e e (jd_x (jx_to (L':=[_,_,_,_,_,_,_,_]) [0,1,2,3,4,5,6,7,9,10,11,12] [13,15] [0,1,2,5,6,7,8,13] e (ZdT [0,1,2,5,6,7,8,13] 7935 463 9 [0,1,3,0,8,31,0,64,0,256,1023,255,2303,8191,16383,32767] [(0,true),(1,true),(2,true),(3,true),(6,true),(7,true)] e (Zay (Zas (Za0 (Zay (Zas Zbb))))) (by kernel_rfl) (by kernel_rfl) (by kernel_rfl) (by kernel_rfl) (by kernel_rfl) (by kernel_rfl) (by kernel_rfl) (by kernel_rfl) (by kernel_rfl) (jdy e (Zab e) e e (jdy e (Zab e) e e (jdl 2 e e e e e e (jd_y e (fun w hs=>ZaJ e (ldBB (hs.blk (i:=6) e) e)) e e (jdy e (Zab e) e e (jdl 2 e e e e e e (jd_x (jx2 (i:=4) (i2:=9) (by kernel_rfl) (by kernel_rfl) e e ?_ ?_))))))))))))
 ·refine Zcm (i:=12) (j:=9) (is:=[0,1,2,3,4,5,6,7,8,10,11,12]) (h:=q128.1) (e:=3) (sz:=1) (enc:=encI) (l:=z127.1) _ e e e (fun h=>h) (s12 e) e e ?_
  have n213:NF noAr (rw1 q128.1 3 1 encI z127.1 :: q84.2.2.2.2) q84.2.1 z83.1:=n131.1.mono mn1
  have n214:NF noAr (rw1 q128.1 3 1 encI z127.1 :: q84.2.2.2.2) q84.2.2.2.1 z83.2.1:=n131.2.mono mn1
  refine Zcm (i:=11) (j:=9) (is:=[0,1,2,3,4,5,6,7,8,10,11]) (h:=q128.2) (e:=3) (sz:=1) (enc:=encI) (l:=z127.2.1) _ e e e (fun h=>h) (s11 e) e e ?_
  have n215:NF noAr (rw1 q128.2 3 1 encI z127.2.1 :: (rw1 q128.1 3 1 encI z127.1 :: q84.2.2.2.2)) q84.2.1 z83.1:=n213.mono mn1
  have n216:NF noAr (rw1 q128.2 3 1 encI z127.2.1 :: (rw1 q128.1 3 1 encI z127.1 :: q84.2.2.2.2)) q84.2.2.2.1 z83.2.1:=n214.mono mn1
  refine ZaT (enc:=(Nt.enc (α:=Rolling) (η:=(Hd×Hd)))) [((Rolling.mk 0 (min v90.1 v97) x94 v125.1 z127.1 z127.2.1),(q128.1,q128.2))] e e e e e e e e fun hd212=>?_
  have n217:NF noAr (rw1 q128.2 3 1 encI z127.2.1 :: (rw1 q128.1 3 1 encI z127.1 :: q84.2.2.2.2)) ([((Rolling.mk 0 (min v90.1 v97) x94 v125.1 z127.1 z127.2.1),(q128.1,q128.2))]:List (Rolling×(Hd×Hd))) ([(Rolling.mk 0 (min v90.1 v97) x94 v125.1 z127.1 z127.2.1)]:List Rolling):=NF.one (okc (.inl (.tail _ (.head _))) (okc (.inl (.head _)) ok0))
  refine ZaA (Zcr [1,2,3,6,7,8,9,12] e (jx2 (i:=5) (i2:=9) (by kernel_rfl) (by kernel_rfl) e e ?_ ?_))
  ·refine Zcg 4 e e e (fun w hs=>n215.1) (fun w hs=>n217.1) (fun w hs=>(hs.row 0 e)) e e e fun y232 hd233 H234=>jg_L (r12 e) ?_
   have n235:NF noAr (rw1 q128.2 3 1 encI z127.2.1 :: (rw1 q128.1 3 1 encI z127.1 :: q84.2.2.2.2)) (q84.2.1 ++ ([((Rolling.mk 0 (min v90.1 v97) x94 v125.1 z127.1 z127.2.1),(q128.1,q128.2))]:List (Rolling×(Hd×Hd)))) y232:=n215.app n217 H234
   refine ZaA (Zcr [1,2,3,6,7,8,9,12] e (ZdT [1,2,3,6,7,8,9,12] 7935 6655 5 [0,1,3,0,8,31,0,64,0,256,1023,255,2303,8191,16383,32767] [(11,true),(12,true)] e (Zay (Zas (Za0 (Zay (Zas Zbb))))) (by kernel_rfl) (by kernel_rfl) (by kernel_rfl) (by kernel_rfl) (by kernel_rfl) (by kernel_rfl) (by kernel_rfl) (by kernel_rfl) (by kernel_rfl) (jdy e (Zab e) e e (jdy e (Zab e) e e (jd_x (jx1 (i:=9) (by kernel_rfl) (by kernel_rfl) e (Zcm (i:=11) (j:=10) (is:=[0,1,2,3,4,5,6,7,8,9,11]) (h:=q114) (e:=139) (sz:=4) (enc:=Span.enc) (l:=v113.1) _ e e e (fun h=>h) (s11 e) e e ?_)))))))
   have n313:NF noAr (rw1 q114 139 4 Span.enc v113.1 :: (rw1 q128.2 3 1 encI z127.2.1 :: (rw1 q128.1 3 1 encI z127.1 :: q84.2.2.2.2))) q84.2.2.2.1 z83.2.1:=n216.mono mn1
   have n314:NF noAr (rw1 q114 139 4 Span.enc v113.1 :: (rw1 q128.2 3 1 encI z127.2.1 :: (rw1 q128.1 3 1 encI z127.1 :: q84.2.2.2.2))) ([((Rolling.mk 0 (min v90.1 v97) x94 v125.1 z127.1 z127.2.1),(q128.1,q128.2))]:List (Rolling×(Hd×Hd))) ([(Rolling.mk 0 (min v90.1 v97) x94 v125.1 z127.1 z127.2.1)]:List Rolling):=n217.mono mn1
   have n315:NF noAr (rw1 q114 139 4 Span.enc v113.1 :: (rw1 q128.2 3 1 encI z127.2.1 :: (rw1 q128.1 3 1 encI z127.1 :: q84.2.2.2.2))) (q84.2.1 ++ ([((Rolling.mk 0 (min v90.1 v97) x94 v125.1 z127.1 z127.2.1),(q128.1,q128.2))]:List (Rolling×(Hd×Hd)))) y232:=n235.mono mn1
   refine ZaT (enc:=(Nt.enc (α:=(List Span)) (η:=Hd))) [(v113.1,q114)] e e e e e e e e fun hd312=>?_
   have n316:NF noAr (rw1 q114 139 4 Span.enc v113.1 :: (rw1 q128.2 3 1 encI z127.2.1 :: (rw1 q128.1 3 1 encI z127.1 :: q84.2.2.2.2))) ([(v113.1,q114)]:List ((List Span)×Hd)) ([v113.1]:List (List Span)):=NF.one (okc (.inl (.head _)) ok0)
   refine ZaA (Zcr [2,3,4,7,8,9,10,12] e (jx1 (i:=10) (by kernel_rfl) (by kernel_rfl) e (Zcg 6 e e e (fun w hs=>n313.1) (fun w hs=>n316.1) (fun w hs=>(hs.row 0 e)) e e e fun y332 hd333 H334=>jg_L (r12 e) ?_)))
   have n335:NF noAr (rw1 q114 139 4 Span.enc v113.1 :: (rw1 q128.2 3 1 encI z127.2.1 :: (rw1 q128.1 3 1 encI z127.1 :: q84.2.2.2.2))) (q84.2.2.2.1 ++ ([(v113.1,q114)]:List ((List Span)×Hd))) y332:=n313.app n316 H334
   refine ZaA (Zcr [2,3,4,7,8,9,10,12] e (jx1 (i:=13) (by kernel_rfl) (by kernel_rfl) e (Zav 4 e e e (l1 e) e e e e (l8 e) (r12 e) (ZaA (Zcs (by kernel_rfl) (jx1 (i:=14) (by kernel_rfl) (by kernel_rfl) e (jy (Zab e) e e (ZaA (Zcs (by kernel_rfl) (jx1 (i:=15) (by kernel_rfl) (by kernel_rfl) e (Zav 4 e e e (l1 e) e e e e (l8 e) (r12 e) (ZaA (Zcs (by kernel_rfl) (jx0 [(0,_),(4,_),(5,_),(6,_),(7,_),(10,_),(11,_),(13,_),(14,_)] ⟨e,e,e,e,e,e,e,e,e,trivial⟩ (by kernel_rfl) (by kernel_rfl) (ZaF (is:=[2,3,4,5,6,7,8,9,11]) (s9 e) e (ZaG (Zad ?_)))))))))))))))))
   refine Zar 17 (Zac e e e (jy (ZaZ e e) e e (Zaf e e e (gz9 0 4 5 6 7 10 11 13 14 e (Zax (i:=8) (NF noAr (rw1 q114 139 4 Span.enc v113.1 :: (rw1 q128.2 3 1 encI z127.2.1 :: (rw1 q128.1 3 1 encI z127.1 :: q84.2.2.2.2))) (q84.2.1 ++ ([((Rolling.mk 0 (min v90.1 v97) x94 v125.1 z127.1 z127.2.1),(q128.1,q128.2))]:List (Rolling×(Hd×Hd)))) y232∧NF noAr (rw1 q114 139 4 Span.enc v113.1 :: (rw1 q128.2 3 1 encI z127.2.1 :: (rw1 q128.1 3 1 encI z127.1 :: q84.2.2.2.2))) (q84.2.2.2.1 ++ ([(v113.1,q114)]:List ((List Span)×Hd))) y332) e (fun _=>⟨n315,n335⟩) (r9 e) (Zap H86 (y232,y332,w64 (z83.2.2.1 - 1),z127.2.2) (hd233,(q84.2.1 ++ ([((Rolling.mk 0 (min v90.1 v97) x94 v125.1 z127.1 z127.2.1),(q128.1,q128.2))]:List (Rolling×(Hd×Hd)))),hd333,(q84.2.2.2.1 ++ ([(v113.1,q114)]:List ((List Span)×Hd))),(rw1 q114 139 4 Span.enc v113.1 :: (rw1 q128.2 3 1 encI z127.2.1 :: (rw1 q128.1 3 1 encI z127.1 :: q84.2.2.2.2)))) [0,1,2,3,4,5,6,7,8] (u9 e) e e e))))))
  refine Zcm (i:=11) (j:=10) (is:=[0,1,2,3,4,5,6,7,8,9,11]) (h:=q114) (e:=139) (sz:=4) (enc:=Span.enc) (l:=v113.1) _ e e e (fun h=>h) (s11 e) e e ?_
  have n313:NF noAr (rw1 q114 139 4 Span.enc v113.1 :: (rw1 q128.2 3 1 encI z127.2.1 :: (rw1 q128.1 3 1 encI z127.1 :: q84.2.2.2.2))) q84.2.1 z83.1:=n215.mono mn1
  have n314:NF noAr (rw1 q114 139 4 Span.enc v113.1 :: (rw1 q128.2 3 1 encI z127.2.1 :: (rw1 q128.1 3 1 encI z127.1 :: q84.2.2.2.2))) q84.2.2.2.1 z83.2.1:=n216.mono mn1
  have n315:NF noAr (rw1 q114 139 4 Span.enc v113.1 :: (rw1 q128.2 3 1 encI z127.2.1 :: (rw1 q128.1 3 1 encI z127.1 :: q84.2.2.2.2))) ([((Rolling.mk 0 (min v90.1 v97) x94 v125.1 z127.1 z127.2.1),(q128.1,q128.2))]:List (Rolling×(Hd×Hd))) ([(Rolling.mk 0 (min v90.1 v97) x94 v125.1 z127.1 z127.2.1)]:List Rolling):=n217.mono mn1
  refine ZaT (enc:=(Nt.enc (α:=(List Span)) (η:=Hd))) [(v113.1,q114)] e e e e e e e e fun hd312=>?_
  have n316:NF noAr (rw1 q114 139 4 Span.enc v113.1 :: (rw1 q128.2 3 1 encI z127.2.1 :: (rw1 q128.1 3 1 encI z127.1 :: q84.2.2.2.2))) ([(v113.1,q114)]:List ((List Span)×Hd)) ([v113.1]:List (List Span)):=NF.one (okc (.inl (.head _)) ok0)
  refine ZaA (Zcr [2,3,4,7,8,9,10,12] e (jx1 (i:=5) (by kernel_rfl) (by kernel_rfl) e (Zcg 5 e e e (fun w hs=>n313.1) (fun w hs=>n315.1) (fun w hs=>(hs.row 1 e)) e e e fun y232 hd233 H234=>jg_L (r12 e) ?_)))
  have n235:NF noAr (rw1 q114 139 4 Span.enc v113.1 :: (rw1 q128.2 3 1 encI z127.2.1 :: (rw1 q128.1 3 1 encI z127.1 :: q84.2.2.2.2))) (q84.2.1 ++ ([((Rolling.mk 0 (min v90.1 v97) x94 v125.1 z127.1 z127.2.1),(q128.1,q128.2))]:List (Rolling×(Hd×Hd)))) y232:=n313.app n315 H234
  refine ZaA (Zcr [2,3,4,7,8,9,10,12] e (ZdT [2,3,4,7,8,9,10,12] 7935 7167 4 [0,1,3,0,8,31,0,64,0,256,1023,255,2303,8191,16383,32767] [(11,true),(12,true)] e (Zay (Zas (Za0 (Zay (Zas Zbb))))) (by kernel_rfl) (by kernel_rfl) (by kernel_rfl) (by kernel_rfl) (by kernel_rfl) (by kernel_rfl) (by kernel_rfl) (by kernel_rfl) (by kernel_rfl) (jdy e (Zab e) e e (jdy e (Zab e) e e (jd_x (jx1 (i:=10) (by kernel_rfl) (by kernel_rfl) e (Zcg 6 e e e (fun w hs=>n314.1) (fun w hs=>n316.1) (fun w hs=>(hs.row 0 e)) e e e fun y332 hd333 H334=>jg_L (r12 e) ?_)))))))
  have n335:NF noAr (rw1 q114 139 4 Span.enc v113.1 :: (rw1 q128.2 3 1 encI z127.2.1 :: (rw1 q128.1 3 1 encI z127.1 :: q84.2.2.2.2))) (q84.2.2.2.1 ++ ([(v113.1,q114)]:List ((List Span)×Hd))) y332:=n314.app n316 H334
  refine ZaA (Zcr [2,3,4,7,8,9,10,12] e (jx1 (i:=13) (by kernel_rfl) (by kernel_rfl) e (Zav 4 e e e (l1 e) e e e e (l8 e) (r12 e) (ZaA (Zcs (by kernel_rfl) (jx1 (i:=14) (by kernel_rfl) (by kernel_rfl) e (jy (Zab e) e e (ZaA (Zcs (by kernel_rfl) (jx1 (i:=15) (by kernel_rfl) (by kernel_rfl) e (Zav 4 e e e (l1 e) e e e e (l8 e) (r12 e) (ZaA (Zcs (by kernel_rfl) (jx0 [(0,_),(4,_),(5,_),(6,_),(7,_),(10,_),(11,_),(13,_),(14,_)] ⟨e,e,e,e,e,e,e,e,e,trivial⟩ (by kernel_rfl) (by kernel_rfl) (ZaF (is:=[2,3,4,5,6,7,8,9,11]) (s9 e) e (ZaG (Zad ?_)))))))))))))))))
  refine Zar 17 (Zac e e e (jy (ZaZ e e) e e (Zaf e e e (gz9 0 4 5 6 7 10 11 13 14 e (Zax (i:=8) (NF noAr (rw1 q114 139 4 Span.enc v113.1 :: (rw1 q128.2 3 1 encI z127.2.1 :: (rw1 q128.1 3 1 encI z127.1 :: q84.2.2.2.2))) (q84.2.1 ++ ([((Rolling.mk 0 (min v90.1 v97) x94 v125.1 z127.1 z127.2.1),(q128.1,q128.2))]:List (Rolling×(Hd×Hd)))) y232∧NF noAr (rw1 q114 139 4 Span.enc v113.1 :: (rw1 q128.2 3 1 encI z127.2.1 :: (rw1 q128.1 3 1 encI z127.1 :: q84.2.2.2.2))) (q84.2.2.2.1 ++ ([(v113.1,q114)]:List ((List Span)×Hd))) y332) e (fun _=>⟨n235,n335⟩) (r9 e) (Zap H86 (y232,y332,w64 (z83.2.2.1 - 1),z127.2.2) (hd233,(q84.2.1 ++ ([((Rolling.mk 0 (min v90.1 v97) x94 v125.1 z127.1 z127.2.1),(q128.1,q128.2))]:List (Rolling×(Hd×Hd)))),hd333,(q84.2.2.2.1 ++ ([(v113.1,q114)]:List ((List Span)×Hd))),(rw1 q114 139 4 Span.enc v113.1 :: (rw1 q128.2 3 1 encI z127.2.1 :: (rw1 q128.1 3 1 encI z127.1 :: q84.2.2.2.2)))) [0,1,2,3,4,5,6,7,8] (u9 e) e e e))))))
 refine Zcm (i:=12) (j:=11) (is:=[0,1,2,3,4,5,6,7,8,9,10,12]) (h:=q114) (e:=139) (sz:=4) (enc:=Span.enc) (l:=v113.1) _ e e e (fun h=>h) (s12 e) e e ?_
 have n313:NF noAr (rw1 q114 139 4 Span.enc v113.1 :: q84.2.2.2.2) q84.2.1 z83.1:=n131.1.mono mn1
 have n314:NF noAr (rw1 q114 139 4 Span.enc v113.1 :: q84.2.2.2.2) q84.2.2.2.1 z83.2.1:=n131.2.mono mn1
 refine ZaT (enc:=(Nt.enc (α:=(List Span)) (η:=Hd))) [(v113.1,q114)] e e e e e e e e fun hd312=>?_
 have n315:NF noAr (rw1 q114 139 4 Span.enc v113.1 :: q84.2.2.2.2) ([(v113.1,q114)]:List ((List Span)×Hd)) ([v113.1]:List (List Span)):=NF.one (okc (.inl (.head _)) ok0)
 refine ZaA (Zcr [1,2,3,6,7,8,9,13] e (jx1 (i:=4) (by kernel_rfl) (by kernel_rfl) e (Zcm (i:=12) (j:=10) (is:=[0,1,2,3,4,5,6,7,8,9,11,12]) (h:=q128.1) (e:=3) (sz:=1) (enc:=encI) (l:=z127.1) _ e e e (fun h=>h) (s12 e) e e ?_)))
 have n213:NF noAr (rw1 q128.1 3 1 encI z127.1 :: (rw1 q114 139 4 Span.enc v113.1 :: q84.2.2.2.2)) q84.2.1 z83.1:=n313.mono mn1
 have n214:NF noAr (rw1 q128.1 3 1 encI z127.1 :: (rw1 q114 139 4 Span.enc v113.1 :: q84.2.2.2.2)) q84.2.2.2.1 z83.2.1:=n314.mono mn1
 have n215:NF noAr (rw1 q128.1 3 1 encI z127.1 :: (rw1 q114 139 4 Span.enc v113.1 :: q84.2.2.2.2)) ([(v113.1,q114)]:List ((List Span)×Hd)) ([v113.1]:List (List Span)):=n315.mono mn1
 refine Zcm (i:=11) (j:=10) (is:=[0,1,2,3,4,5,6,7,8,9,11]) (h:=q128.2) (e:=3) (sz:=1) (enc:=encI) (l:=z127.2.1) _ e e e (fun h=>h) (s11 e) e e ?_
 have n216:NF noAr (rw1 q128.2 3 1 encI z127.2.1 :: (rw1 q128.1 3 1 encI z127.1 :: (rw1 q114 139 4 Span.enc v113.1 :: q84.2.2.2.2))) q84.2.1 z83.1:=n213.mono mn1
 have n217:NF noAr (rw1 q128.2 3 1 encI z127.2.1 :: (rw1 q128.1 3 1 encI z127.1 :: (rw1 q114 139 4 Span.enc v113.1 :: q84.2.2.2.2))) q84.2.2.2.1 z83.2.1:=n214.mono mn1
 have n218:NF noAr (rw1 q128.2 3 1 encI z127.2.1 :: (rw1 q128.1 3 1 encI z127.1 :: (rw1 q114 139 4 Span.enc v113.1 :: q84.2.2.2.2))) ([(v113.1,q114)]:List ((List Span)×Hd)) ([v113.1]:List (List Span)):=n215.mono mn1
 refine ZaT (enc:=(Nt.enc (α:=Rolling) (η:=(Hd×Hd)))) [((Rolling.mk 0 (min v90.1 v97) x94 v125.1 z127.1 z127.2.1),(q128.1,q128.2))] e e e e e e e e fun hd212=>?_
 have n219:NF noAr (rw1 q128.2 3 1 encI z127.2.1 :: (rw1 q128.1 3 1 encI z127.1 :: (rw1 q114 139 4 Span.enc v113.1 :: q84.2.2.2.2))) ([((Rolling.mk 0 (min v90.1 v97) x94 v125.1 z127.1 z127.2.1),(q128.1,q128.2))]:List (Rolling×(Hd×Hd))) ([(Rolling.mk 0 (min v90.1 v97) x94 v125.1 z127.1 z127.2.1)]:List Rolling):=NF.one (okc (.inl (.tail _ (.head _))) (okc (.inl (.head _)) ok0))
 refine ZaA (Zcr [2,3,4,7,8,9,10,12] e (jx1 (i:=5) (by kernel_rfl) (by kernel_rfl) e (Zcg 5 e e e (fun w hs=>n216.1) (fun w hs=>n219.1) (fun w hs=>(hs.row 0 e)) e e e fun y232 hd233 H234=>jg_L (r12 e) ?_)))
 have n235:NF noAr (rw1 q128.2 3 1 encI z127.2.1 :: (rw1 q128.1 3 1 encI z127.1 :: (rw1 q114 139 4 Span.enc v113.1 :: q84.2.2.2.2))) (q84.2.1 ++ ([((Rolling.mk 0 (min v90.1 v97) x94 v125.1 z127.1 z127.2.1),(q128.1,q128.2))]:List (Rolling×(Hd×Hd)))) y232:=n216.app n219 H234
 refine ZaA (Zcr [2,3,4,7,8,9,10,12] e (ZdT [2,3,4,7,8,9,10,12] 7935 7167 4 [0,1,3,0,8,31,0,64,0,256,1023,255,2303,8191,16383,32767] [(11,true),(12,true)] e (Zay (Zas (Za0 (Zay (Zas Zbb))))) (by kernel_rfl) (by kernel_rfl) (by kernel_rfl) (by kernel_rfl) (by kernel_rfl) (by kernel_rfl) (by kernel_rfl) (by kernel_rfl) (by kernel_rfl) (jdy e (Zab e) e e (jdy e (Zab e) e e (jd_x (jx1 (i:=10) (by kernel_rfl) (by kernel_rfl) e (Zcg 6 e e e (fun w hs=>n217.1) (fun w hs=>n218.1) (fun w hs=>(hs.row 1 e)) e e e fun y332 hd333 H334=>jg_L (r12 e) ?_)))))))
 have n335:NF noAr (rw1 q128.2 3 1 encI z127.2.1 :: (rw1 q128.1 3 1 encI z127.1 :: (rw1 q114 139 4 Span.enc v113.1 :: q84.2.2.2.2))) (q84.2.2.2.1 ++ ([(v113.1,q114)]:List ((List Span)×Hd))) y332:=n217.app n218 H334
 refine ZaA (Zcr [2,3,4,7,8,9,10,12] e (jx1 (i:=13) (by kernel_rfl) (by kernel_rfl) e (Zav 4 e e e (l1 e) e e e e (l8 e) (r12 e) (ZaA (Zcs (by kernel_rfl) (jx1 (i:=14) (by kernel_rfl) (by kernel_rfl) e (jy (Zab e) e e (ZaA (Zcs (by kernel_rfl) (jx1 (i:=15) (by kernel_rfl) (by kernel_rfl) e (Zav 4 e e e (l1 e) e e e e (l8 e) (r12 e) (ZaA (Zcs (by kernel_rfl) (jx0 [(0,_),(4,_),(5,_),(6,_),(7,_),(10,_),(11,_),(13,_),(14,_)] ⟨e,e,e,e,e,e,e,e,e,trivial⟩ (by kernel_rfl) (by kernel_rfl) (ZaF (is:=[2,3,4,5,6,7,8,9,11]) (s9 e) e (ZaG (Zad ?_)))))))))))))))))
 refine Zar 17 (Zac e e e (jy (ZaZ e e) e e (Zaf e e e (gz9 0 4 5 6 7 10 11 13 14 e (Zax (i:=8) (NF noAr (rw1 q128.2 3 1 encI z127.2.1 :: (rw1 q128.1 3 1 encI z127.1 :: (rw1 q114 139 4 Span.enc v113.1 :: q84.2.2.2.2))) (q84.2.1 ++ ([((Rolling.mk 0 (min v90.1 v97) x94 v125.1 z127.1 z127.2.1),(q128.1,q128.2))]:List (Rolling×(Hd×Hd)))) y232∧NF noAr (rw1 q128.2 3 1 encI z127.2.1 :: (rw1 q128.1 3 1 encI z127.1 :: (rw1 q114 139 4 Span.enc v113.1 :: q84.2.2.2.2))) (q84.2.2.2.1 ++ ([(v113.1,q114)]:List ((List Span)×Hd))) y332) e (fun _=>⟨n235,n335⟩) (r9 e) (Zap H86 (y232,y332,w64 (z83.2.2.1 - 1),z127.2.2) (hd233,(q84.2.1 ++ ([((Rolling.mk 0 (min v90.1 v97) x94 v125.1 z127.1 z127.2.1),(q128.1,q128.2))]:List (Rolling×(Hd×Hd)))),hd333,(q84.2.2.2.1 ++ ([(v113.1,q114)]:List ((List Span)×Hd))),(rw1 q128.2 3 1 encI z127.2.1 :: (rw1 q128.1 3 1 encI z127.1 :: (rw1 q114 139 4 Span.enc v113.1 :: q84.2.2.2.2)))) [0,1,2,3,4,5,6,7,8] (u9 e) e e e))))))
theorem Zhj {w:World}{a0:ByteArray}  {v:Bool}(hm:Zdo a0 = some v):Gives Tryz.prog 154 [.string a0] w (.bool v):=by
 refine Za4 (vs:=[.string a0]) (U:=fun (v:Bool)=>.bool v) Tryz.func154 e Tryz.ntmps154 e e hm ?_
 unfold Zdo
 clear hm
 refine jqr 0 (Zaf e e e (gz1 0 e (Zad (Za2 (fun (s:Unit) (g:Unit)=>[(0,.string a0)]) (fun s g=>[]) (fun s g=>[]) ?_ ?_))))
 ·intro z1 q2
  refine jqr 7 (Zac e e e (jy (Zgw Tryz.underlying9 e) e e (jy (Zbh e e) e e (Zac e e e (Zaq 31 e ?_ ?_)))))
  ·refine Zac e e e (jy (Zgw Tryz.underlying9 e) e e (jy (ZbR e e) e e (jy (Zah e e) e e (Zaf e e e (gz1 2 e (Zad (Zam (Zaj e (fun w hs=>.tmp e) (fun w hs=>⟨e,hs.drop⟩)))))))))
  refine Zaa e e (Zaa e e (Zaa e e (jy (Zae e e) e e (Zaf e e e (gz1 2 e (Zad (Zam (Zaj e (fun w hs=>.tmp e) (fun w hs=>⟨e,hs.drop⟩)))))))))
 intro k3 H4
 refine jqr 1 (Zaf e e e (gz2 0 3 e (Zad (Zao (Zbj (n:=big) (fun (s:Int) (g:Unit)=>[(0,.string a0),(3,.int .i64 s)]) (fun s g=>[]) (fun s g=>[]) 0 () [] (u2 e) e e e ?_)))))
 intro z5 q6 n9 k7 H8
 refine Zak (jqr 2 (Zac e e e (Zac e e e (jy (Zgw Tryz.underlying9 e) e e (jy (ZaD e e) e e (gz3 0 3 8 e (Zad (Zai e ?_ ?_))))))))
 rotate_left
 ·refine ZaE (Za9 (Zbe (Zba ?_)))
  exact Zap H4 () () [] (u1 e) e e e
 refine jks (Zak (Zao (jqr 4 (Zac e e e (Zac e e e (Zgs fun h10=>jy (ZfC Tryz.underlying9 e e (of_decide_eq_true h10)) e e (Zaf e e e (gz3 0 3 4 e (jsr 5 (Zac e e e (jy (ZaD e e) e e (Zac e e e (Zaq 16 e ?_ ?_)))))))))))))
 ·refine Zaa e e (Zaa e e (jy (Zah e e) e e (Zac e e e (Zac e e e (jy (ZaD e e) e e (Zac e e e (Zaq 23 e ?_ ?_)))))))
  ·refine Zaa e e (Zaa e e (jy (Zah e e) e e (jy (Zah e e) e e (gz3 0 3 27 e (Zad (Zbo e (jqr 6 (Zaf e e e (gz1 2 e (Zad (Zam (ZaI (Zaw (Zbd (ZaI (Zaw ?_))))))))))))))))
   exact Zaj e (fun w hs=>.tmp e) (fun w hs=>⟨e,hs.drop⟩)
  refine Zac e e e (jy (Zbh e e) e e (jy (Zae e e) e e (jy (Zah e e) e e (gz3 0 3 27 e (Zad (Zai e ?_ ?_))))))
  ·refine jqr 6 (Zaf e e e (gz1 2 e (Zad (Zam (ZaI (Zaw (Zbd (ZaI (Zaw ?_)))))))))
   exact Zaj e (fun w hs=>.tmp e) (fun w hs=>⟨e,hs.drop⟩)
  refine ZaK (ZaG (Zad ?_))
  refine Zar 3 (Zac e e e (jy (Zal e e) e e (Zaf e e e (gz2 0 3 e (Zap H8 (w64 (z5 + 1)) () [] (u2 e) e e e)))))
 refine Zac e e e (jy (Zbh e e) e e (jy (Zae e e) e e (Zac e e e (Zaq 20 e ?_ ?_))))
 rotate_left
 ·refine Zaa e e (Zaa e e (Zaa e e (Zaa e e (Zaa e e (Zaa e e (jy (Zae e e) e e (gz3 0 3 27 e (Zad (ZdC e (ZaK (ZaG (Zad ?_))))))))))))
  refine Zar 3 (Zac e e e (jy (Zal e e) e e (Zaf e e e (gz2 0 3 e (Zap H8 (w64 (z5 + 1)) () [] (u2 e) e e e)))))
 refine Zac e e e (jy (ZaD e e) e e (Zac e e e (Zaq 23 e ?_ ?_)))
 ·refine Zaa e e (Zaa e e (jy (Zah e e) e e (jy (Zah e e) e e (gz3 0 3 27 e (Zad (Zbo e (jqr 6 (Zaf e e e (gz1 2 e (Zad (Zam (ZaI (Zaw (Zbd (ZaI (Zaw ?_))))))))))))))))
  exact Zaj e (fun w hs=>.tmp e) (fun w hs=>⟨e,hs.drop⟩)
 refine Zac e e e (jy (Zbh e e) e e (jy (Zae e e) e e (jy (Zah e e) e e (gz3 0 3 27 e (Zad (Zai e ?_ ?_))))))
 ·refine jqr 6 (Zaf e e e (gz1 2 e (Zad (Zam (ZaI (Zaw (Zbd (ZaI (Zaw ?_)))))))))
  exact Zaj e (fun w hs=>.tmp e) (fun w hs=>⟨e,hs.drop⟩)
 refine ZaK (ZaG (Zad ?_))
 refine Zar 3 (Zac e e e (jy (Zal e e) e e (Zaf e e e (gz2 0 3 e (Zap H8 (w64 (z5 + 1)) () [] (u2 e) e e e)))))
theorem Zgq {w:World}{a0:Element}  {v:Bool}(hm:Zc4 a0 = some v):Gives Tryz.prog 133 [.agg #[.int .i64 a0.Kind,.string a0.Name,.int .i64 a0.Parent,.int .i64 a0.Side,.int .i64 a0.Length,.int .i64 a0.Grade,.int .i64 a0.Curve,.int .i64 a0.Power]] w (.bool v):=by
 refine Za4 (vs:=[.agg #[.int .i64 a0.Kind,.string a0.Name,.int .i64 a0.Parent,.int .i64 a0.Side,.int .i64 a0.Length,.int .i64 a0.Grade,.int .i64 a0.Curve,.int .i64 a0.Power]]) (U:=fun (v:Bool)=>.bool v) Tryz.func133 e Tryz.ntmps133 e e hm ?_
 unfold Zc4
 clear hm
 refine jqr 0 (ZbD e (l8 e) e e fun g1=>Zaf e e e (gz1 1 e (Zad (Zak (jqr 1 (jy (Zab e) e e (jgl 0 e e e e e (jy (ZaD e e) e e (Zac e e e (Zaq 7 e ?_ ?_))))))))))
 ·refine Zaa e e (Zaa e e (Zaa e e (jy (Zah e e) e e (Zac e e e (Zaa e e (Zaa e e (Zaa e e (Zaa e e (jy (Zah e e) e e (gz2 1 17 e (Zad (Zbo e (jqr 2 (Zaf e e e (gz1 2 e (Zad ?_))))))))))))))))
  refine Zam (Zaw (Zaj e (fun w hs=>.tmp e) (fun w hs=>⟨e,hs.drop⟩)))
 refine jy (Zab e) e e (jgl 0 e e e e e (jy (Zbh e e) e e (jy (Zae e e) e e (Zac e e e (Zaq 12 e ?_ ?_)))))
 ·refine Zaa e e (Zaa e e (Zaa e e (Zaa e e (jy (Zah e e) e e (gz2 1 17 e (Zad (Zbo e (jqr 2 (Zaf e e e (gz1 2 e (Zad (Zam (Zaw (Zaj e (fun w hs=>.tmp e) (fun w hs=>⟨e,hs.drop⟩)))))))))))))))
 refine jy (Zab e) e e (jgl 0 e e e e e (Zbc e (fun v w hs hm=>Zhj hm ) e e fun v2=>jy (Zbl e) e e (jy (Zae e e) e e (gz2 1 17 e (Zad (Zai e ?_ ?_))))))
 ·refine jqr 2 (Zaf e e e (gz1 2 e (Zad (Zam (Zaw (Zaj e (fun w hs=>.tmp e) (fun w hs=>⟨e,hs.drop⟩)))))))
 refine jks (Zak (jqr 3 (jy (Zab e) e e (jgl 0 e e e e e (jy (ZaL e e) e e (gz2 1 20 e (Zad (Zai e ?_ ?_))))))))
 ·refine jqr 4 (jg_y (fun w hs=>ZaJ e (ldBB (hs.blkL (i:=0) e) e)) e e (jy (Zab e) e e (jgl 0 e e e e e (jy (ZaX e (o8 e)) e e (jy (yeq102 e e) e e (Zaf e e e (gz1 2 e (Zad (Zam (Zaw (Zaj e (fun w hs=>.tmp e) (fun w hs=>⟨e,hs.drop⟩))))))))))))
 refine jks (jqr 5 (jy (Zab e) e e (jgl 0 e e e e e (jy (ZaL e e) e e (Zaf e e e (gz2 1 3 e (Zad (Za2 (fun (s:Bool) (g:Unit)=>[(1,.pointer (some ⟨g1,0,none⟩)),(3,.bool s)]) (fun s g=>[]) (fun s g=>[(Res.blk g1 102 [.int .i64 a0.Kind,.string a0.Name,.int .i64 a0.Parent,.int .i64 a0.Side,.int .i64 a0.Length,.int .i64 a0.Grade,.int .i64 a0.Curve,.int .i64 a0.Power])]) ?_ ?_))))))))
 rotate_left
 ·intro k5 H6
  refine jqr 6 (jy (Zab e) e e (jgl 0 e e e e e (jy (ZaL e e) e e (gz3 1 3 31 e (Zad (Zai e ?_ ?_))))))
  rotate_left
  ·refine ZaK (Zap H6 (decide (a0.Power = 0)) () [0] (u2 e) e e e)
  refine Zar 7 (jy (Zab e) e e (jgl 0 e e e e e (jy (Zbv e e) e e (Zac e e e (Zaq 35 e ?_ ?_)))))
  ·refine jy (Zab e) e e (jgl 0 e e e e e (jy (ZbR e e) e e (jy (Zah e e) e e (Zaf e e e (gz2 1 3 e (Zap H6 (decide (a0.Power ≤ 1000000000)) () [0] (u2 e) e e e))))))
  refine Zaa e e (Zaa e e (Zaa e e (jy (Zae e e) e e (Zaf e e e (gz2 1 3 e (Zap H6 false () [0] (u2 e) e e e))))))
 intro z3 q4
 refine jqr 8 (Zac e e e (Zac e e e (Zaq 41 e ?_ ?_)))
 rotate_left
 ·refine Zaa e e (Zaa e e (Zaa e e (jy (Zae e e) e e (Zac e e e (Zaa e e (Zaa e e (Zaa e e (jy (Zae e e) e e (Zac e e e (Zaa e e (Zaa e e (Zaa e e (jy (Zae e e) e e (Zac e e e (Zaa e e (Zaa e e ?_))))))))))))))))
  refine Zaa e e (jy (Zae e e) e e (Zac e e e (Zaa e e (Zaa e e (Zaa e e (jy (Zae e e) e e (Zac e e e (Zaa e e (Zaa e e (Zaa e e (jy (Zae e e) e e (Zac e e e (Zaa e e (Zaa e e (Zaa e e (jy (Zae e e) e e ?_))))))))))))))))
  refine Zac e e e (Zaa e e (Zaa e e (Zaa e e (jy (Zae e e) e e (Zaf e e e (gz1 2 e (Zad (Zam (Zaj e (fun w hs=>.tmp e) (fun w hs=>⟨e,hs.drop⟩))))))))))
 refine jy (Zab e) e e (jgl 0 e e e e e (jy (Zbv e e) e e (jy (Zah e e) e e (Zac e e e (Zaq 46 e ?_ ?_)))))
 rotate_left
 ·refine Zaa e e (Zaa e e (Zaa e e (jy (Zae e e) e e (Zac e e e (Zaa e e (Zaa e e (Zaa e e (jy (Zae e e) e e (Zac e e e (Zaa e e (Zaa e e (Zaa e e (jy (Zae e e) e e (Zac e e e (Zaa e e (Zaa e e ?_))))))))))))))))
  refine Zaa e e (jy (Zae e e) e e (Zac e e e (Zaa e e (Zaa e e (Zaa e e (jy (Zae e e) e e (Zac e e e (Zaa e e (Zaa e e (Zaa e e (jy (Zae e e) e e (Zac e e e (Zaa e e (Zaa e e (Zaa e e (jy (Zae e e) e e ?_))))))))))))))))
  refine Zaf e e e (gz1 2 e (Zad (Zam (Zaj e (fun w hs=>.tmp e) (fun w hs=>⟨e,hs.drop⟩)))))
 refine jy (Zab e) e e (jgl 0 e e e e e (jy (ZbR e e) e e (jy (Zah e e) e e (Zac e e e (Zaq 51 e ?_ ?_)))))
 rotate_left
 ·refine Zaa e e (Zaa e e (Zaa e e (jy (Zae e e) e e (Zac e e e (Zaa e e (Zaa e e (Zaa e e (jy (Zae e e) e e (Zac e e e (Zaa e e (Zaa e e (Zaa e e (jy (Zae e e) e e (Zac e e e (Zaa e e (Zaa e e ?_))))))))))))))))
  refine Zaa e e (jy (Zae e e) e e (Zac e e e (Zaa e e (Zaa e e (Zaa e e (jy (Zae e e) e e (Zac e e e (Zaa e e (Zaa e e (Zaa e e (jy (Zae e e) e e (Zaf e e e (gz1 2 e (Zad (Zam (Zaj e (fun w hs=>.tmp e) (fun w hs=>⟨e,hs.drop⟩)))))))))))))))))
 refine jy (Zab e) e e (jgl 0 e e e e e (jy (Zbv e e) e e (jy (Zah e e) e e (Zac e e e (Zaq 56 e ?_ ?_)))))
 rotate_left
 ·refine Zaa e e (Zaa e e (Zaa e e (jy (Zae e e) e e (Zac e e e (Zaa e e (Zaa e e (Zaa e e (jy (Zae e e) e e (Zac e e e (Zaa e e (Zaa e e (Zaa e e (jy (Zae e e) e e (Zac e e e (Zaa e e (Zaa e e ?_))))))))))))))))
  refine Zaa e e (jy (Zae e e) e e (Zac e e e (Zaa e e (Zaa e e (Zaa e e (jy (Zae e e) e e (Zaf e e e (gz1 2 e (Zad (Zam (Zaj e (fun w hs=>.tmp e) (fun w hs=>⟨e,hs.drop⟩))))))))))))
 refine jy (Zab e) e e (jgl 0 e e e e e (jy (ZbR e e) e e (jy (Zah e e) e e (Zac e e e (Zaq 61 e ?_ ?_)))))
 rotate_left
 ·refine Zaa e e (Zaa e e (Zaa e e (jy (Zae e e) e e (Zac e e e (Zaa e e (Zaa e e (Zaa e e (jy (Zae e e) e e (Zac e e e (Zaa e e (Zaa e e (Zaa e e (jy (Zae e e) e e (Zac e e e (Zaa e e (Zaa e e ?_))))))))))))))))
  refine Zaa e e (jy (Zae e e) e e (Zaf e e e (gz1 2 e (Zad (Zam (Zaj e (fun w hs=>.tmp e) (fun w hs=>⟨e,hs.drop⟩)))))))
 refine jy (Zab e) e e (jgl 0 e e e e e (jy (Zbv e e) e e (jy (Zah e e) e e (Zac e e e (Zaq 66 e ?_ ?_)))))
 rotate_left
 ·refine Zaa e e (Zaa e e (Zaa e e (jy (Zae e e) e e (Zac e e e (Zaa e e (Zaa e e (Zaa e e (jy (Zae e e) e e (Zac e e e (Zaa e e (Zaa e e (Zaa e e (jy (Zae e e) e e (Zaf e e e (gz1 2 e (Zad ?_))))))))))))))))
  refine Zam (Zaj e (fun w hs=>.tmp e) (fun w hs=>⟨e,hs.drop⟩))
 refine jy (Zab e) e e (jgl 0 e e e e e (jy (ZbR e e) e e (jy (Zah e e) e e (Zac e e e (Zaq 71 e ?_ ?_)))))
 rotate_left
 ·refine Zaa e e (Zaa e e (Zaa e e (jy (Zae e e) e e (Zac e e e (Zaa e e (Zaa e e (Zaa e e (jy (Zae e e) e e (Zaf e e e (gz1 2 e (Zad (Zam (Zaj e (fun w hs=>.tmp e) (fun w hs=>⟨e,hs.drop⟩))))))))))))))
 refine jy (Zab e) e e (jgl 0 e e e e e (jy (Zbv e e) e e (jy (Zah e e) e e (Zac e e e (Zaq 76 e ?_ ?_)))))
 ·refine jy (Zab e) e e (jgl 0 e e e e e (jy (ZbR e e) e e (jy (Zah e e) e e (Zaf e e e (gz1 2 e (Zad (Zam (Zaj e (fun w hs=>.tmp e) (fun w hs=>⟨e,hs.drop⟩)))))))))
 refine Zaa e e (Zaa e e (Zaa e e (jy (Zae e e) e e (Zaf e e e (gz1 2 e (Zad (Zam (Zaj e (fun w hs=>.tmp e) (fun w hs=>⟨e,hs.drop⟩)))))))))
end Go.Proofs.YtdgminllobhncaaGreat
namespace Go.Proofs.YtdgminllobhncaaGreat
open Go.Hy
set_option linter.unusedVariables false
set_option linter.unusedSimpArgs false
set_option maxHeartbeats 2000000
set_option maxRecDepth 100000
theorem Zgr {w:World}{a0:(List Element)}{ha0:Hd}{v:Int}(hm:Zc5 a0 = some v) (Rha0:Sl w ha0 Element.enc a0):Gives Tryz.prog 84 [ha0.v] w (.int .i64 v):=by
 refine Za4 (vs:=[ha0.v]) (U:=fun (v:Int)=>.int .i64 v) Tryz.func84 e Tryz.ntmps84 e e hm ?_
 unfold Zc5
 clear hm
 refine jqr 0 (Zaf e e e (gz1 0 e (Zad (Zak (Zao (jqr 1 (Zac e e e (jg_y (fun w hs=>ZaV e (hs.arg Rha0)) e e (jy (Zbh e e) e e (Zaf e e e (gz2 0 13 e (Zad (Zai e ?_ ?_)))))))))))))
 ·refine jqr 2 (Zaf e e e (gz1 2 e (Zad (Zam (ZaI (Zaw ?_))))))
  exact Zaj e (fun w hs=>.tmp e) (fun w hs=>⟨e,hs.drop⟩)
 refine jqr 3 (Zac e e e (jg_y (fun w hs=>ZaV e (hs.arg Rha0)) e e (jy (ZaL e e) e e (Zaf e e e (gz2 0 17 e (Zad (Zai e ?_ ?_)))))))
 ·refine jqr 4 (Zaf e e e (gz1 2 e (Zad (Zam (ZaI (Zaw ?_))))))
  exact Zaj e (fun w hs=>.tmp e) (fun w hs=>⟨e,hs.drop⟩)
 refine ZaK (ZaG (Zad ?_))
 refine jqr 5 (Zkb (kv:=kvZ) e e fun g1=>Zaf e e e (gz2 0 3 e (jsr 6 (Zkb (kv:=LayoutPlace.kv) e e fun g2=>Zaf e e e (gz3 0 3 4 e (jsr 7 (Zac e e e (jg_y (fun w hs=>ZaV e (hs.arg Rha0)) e e (jg_make (n:=(a0.length:Int)) (enc:=encI) ?_ ?_ ?_ ?_ ?_ ?_ fun y3 hd4=>?_)))))))))
 ·rfl
 ·rfl
 ·rfl
 ·rfl
 ·rfl
 ·rfl
 refine Zaf e e e (gz4 0 3 4 5 e (jsr 8 (Zaf e e e (gz5 0 3 4 5 6 e (Zad (Za2 (fun (s:((List Int)×Int)) (g:Unit)=>[(0,ha0.v),(5,hd4.v),(6,.int .i64 s.2)]) (fun s g=>[]) (fun s g=>[(rowH hd4 3 1 encI s.1)]) ?_ ?_))))))
 ·intro z5 q6
  refine Zak (jqr 29 (Zac e e e (jg_y (fun w hs=>ZaV e (hs.arg Rha0)) e e (Zac e e e (gz5 5 6 103 104 105 e (Zad (Zao (Zbj (n:=big) (fun (s:Int) (g:Unit)=>[(5,hd4.v),(6,.int .i64 z5.2),(103,ha0.v),(104,.int .i64 (a0.length:Int)),(105,.int .i64 s)]) (fun s g=>[]) (fun s g=>[(rowH hd4 3 1 encI z5.1)]) 0 () [0] (u5 e) e e e ?_))))))))
  intro z9 q10 n13 k11 H12
  refine jqr 30 (jy (ZaD e e) e e (gz6 5 6 103 104 105 106 e (Zad (Zak (Zai e ?_ ?_)))))
  rotate_left
  ·refine ZaE (Za9 (Zbe (Zba (Zad ?_))))
   refine Zak (jqr 35 (Zac e e e (jy (Zbh e e) e e (gz1 134 e (Zad (Zai e ?_ ?_))))))
   ·refine jqr 36 (Zaf e e e (gz1 2 e (Zad (Zam (Zaw (Zaj e (fun w hs=>.tmp e) (fun w hs=>⟨e,hs.drop⟩)))))))
   refine jks (jqr 37 (Zaf e e e (gz1 2 e (Zad (Zam (Zaj e (fun w hs=>.tmp e) (fun w hs=>⟨e,hs.drop⟩)))))))
  refine jks (Zak (Zao (jqr 31 (Zac e e e (Za6 fun x14 h15=>jg_y (fun w hs=>ZaC e e (hs.arg Rha0) h15) e e (jg_y (fun w hs=>ZbJ e (hs.arg Rha0) h15.1 (l8 e) e) e e (ZaR (l8 e) e e fun g16=>Zaf e e e (Zav 0 e e e (l8 e) e e e e (l8 e) (r2 e) (gz7 5 6 11 12 103 104 105 e (jsr 32 (jy (Zab e) e e (jgl 0 e e e e e (jy (ZaL e e) e e (Zac e e e ?_))))))))))))))
  refine Zaq 113 e ?_ ?_
  rotate_left
  ·refine Zaa e e (Zaa e e (Zaa e e (Zaa e e (Zaa e e (jy (Zae e e) e e (Zac e e e (jy (Zab e) e e (jgl 0 e e e e e (jy (Zbt e e) e e (Zac e e e (Zaq 124 e ?_ ?_)))))))))))
   rotate_left
   ·refine Zaa e e (Zaa e e (Zaa e e (Zaa e e (Zaa e e (jy (Zae e e) e e (jy (Zae e e) e e (gz6 5 6 103 104 105 131 e (Zad (ZdC e (ZaK (ZaG (Zad ?_))))))))))))
    refine Zar 34 (jy (Zal e e) e e (Zac e e e (gz5 5 6 103 104 105 e (Zap H12 (w64 (z9 + 1)) () [1] (u5 e) e e e))))
   refine Zac e e e (Zac e e e (Za6 fun x21 h22=>jg_y (fun w hs=>ZaC e e (hs.row 1 e) h22) e e (jg_y (fun w hs=>ZaQ e (hs.row 1 e) h22.1 e) e e (jy (ZaD e e) e e (jy (Zah e e) e e (jy (Zae e e) e e (gz6 5 6 103 104 105 131 e (Zad (Zai e ?_ ?_)))))))))
   rotate_left
   ·refine ZaK (ZaG (Zad ?_))
    refine Zar 34 (jy (Zal e e) e e (Zac e e e (gz5 5 6 103 104 105 e (Zap H12 (w64 (z9 + 1)) () [1] (u5 e) e e e))))
   refine jqr 33 (Zaf e e e (gz1 2 e (ZaF (is:=[]) (s0 e) e (Zad (Zam (ZaI (Zaw (Zbd (ZaI (Zaw ?_))))))))))
   exact Zaj e (fun w hs=>.tmp e) (fun w hs=>⟨e,hs.drop⟩)
  refine Zac e e e (Zac e e e (Za6 fun x17 h18=>jg_y (fun w hs=>ZaC e e (hs.row 1 e) h18) e e (jg_y (fun w hs=>ZaQ e (hs.row 1 e) h18.1 e) e e (jy (ZaD e e) e e (jy (Zah e e) e e (Zac e e e (Zaq 120 e ?_ ?_)))))))
  ·refine Zaa e e (Zaa e e (Zaa e e (Zaa e e (Zaa e e (Zaa e e (Zaa e e (Zaa e e (Zaa e e (Zaa e e (jy (Zah e e) e e (gz6 5 6 103 104 105 131 e (Zad (Zbo e (jqr 33 (Zaf e e e (gz1 2 e ?_))))))))))))))))
   refine ZaF (is:=[]) (s0 e) e (Zad (Zam (ZaI (Zaw (Zbd (ZaI (Zaw ?_)))))))
   exact Zaj e (fun w hs=>.tmp e) (fun w hs=>⟨e,hs.drop⟩)
  refine jy (Zab e) e e (jgl 0 e e e e e (jy (Zbt e e) e e (Zac e e e (Zaq 124 e ?_ ?_))))
  rotate_left
  ·refine Zaa e e (Zaa e e (Zaa e e (Zaa e e (Zaa e e (jy (Zae e e) e e (jy (Zae e e) e e (gz6 5 6 103 104 105 131 e (Zad (ZdC e (ZaK (ZaG (Zad ?_))))))))))))
   refine Zar 34 (jy (Zal e e) e e (Zac e e e (gz5 5 6 103 104 105 e (Zap H12 (w64 (z9 + 1)) () [1] (u5 e) e e e))))
  refine Zac e e e (Zac e e e (Za6 fun x19 h20=>jg_y (fun w hs=>ZaC e e (hs.row 1 e) h20) e e (jg_y (fun w hs=>ZaQ e (hs.row 1 e) h20.1 e) e e (jy (ZaD e e) e e (jy (Zah e e) e e (jy (Zae e e) e e (gz6 5 6 103 104 105 131 e (Zad (Zai e ?_ ?_)))))))))
  rotate_left
  ·refine ZaK (ZaG (Zad ?_))
   refine Zar 34 (jy (Zal e e) e e (Zac e e e (gz5 5 6 103 104 105 e (Zap H12 (w64 (z9 + 1)) () [1] (u5 e) e e e))))
  refine jqr 33 (Zaf e e e (gz1 2 e (ZaF (is:=[]) (s0 e) e (Zad (Zam (ZaI (Zaw (Zbd (ZaI (Zaw ?_))))))))))
  exact Zaj e (fun w hs=>.tmp e) (fun w hs=>⟨e,hs.drop⟩)
 intro k7 H8
 refine jqr 9 (Zac e e e (jg_y (fun w hs=>ZaV e (hs.arg Rha0)) e e (Zac e e e (gz8 0 3 4 5 6 26 27 28 e (Zad (Zao (Zbj (n:=big) (fun (s:((List ByteArray)×(List LayoutPlace)×(List Int)×Int×Int)) (g:Unit)=>[(0,ha0.v),(3,.map (some g1)),(4,.map (some g2)),(5,hd4.v),(6,.int .i64 s.2.2.2.1),(26,ha0.v),(27,.int .i64 (a0.length:Int)),(28,.int .i64 s.2.2.2.2)]) (fun s g=>[]) (fun s g=>[(Res.obj g1 (mapO kvZ s.1)),(Res.obj g2 (mapO LayoutPlace.kv s.2.1)),(rowH hd4 3 1 encI s.2.2.1)]) (([]:List ByteArray),([]:List LayoutPlace),y3,0,0) () [2,1,0] (u8 e) e e e ?_)))))))
 intro z23 q24 n27 k25 H26
 refine jqr 10 (jy (ZaD e e) e e (gz9 0 3 4 5 6 26 27 28 29 e (Zad (Zak (Zai e ?_ ?_)))))
 rotate_left
 ·refine ZaE (Za9 (Zbe (Zba ?_)))
  exact Zap H8 (z23.2.2.1,z23.2.2.2.1) () [2] (u3 e) e e e
 refine jks (Zak (Zao (jqr 11 (Zac e e e (Za6 fun x28 h29=>jg_y (fun w hs=>ZaC e e (hs.arg Rha0) h29) e e (jg_y (fun w hs=>ZbJ e (hs.arg Rha0) h29.1 (l8 e) e) e e (ZaR (l8 e) e e fun g30=>Zaf e e e (Zav 0 e e e (l8 e) e e e e (l8 e) (r4 e) (gz10 0 3 4 5 6 7 8 26 27 28 e (Zad (Zak (jqr 12 (jg_y (fun w hs=>ZaJ e (ldBB (hs.blkL (i:=0) e) e)) e e (Zbc e (fun v w hs hm=>Zgq (a0:=x28) hm ) e e fun v31=>?_))))))))))))))
 refine jy (Zbl e) e e (Zac e e e (Zaq 36 e ?_ ?_))
 ·refine Zaa e e (Zaa e e (Zaa e e (Zaa e e (Zaa e e (Zaa e e (jy (Zah e e) e e (gz11 0 3 4 5 6 7 8 26 27 28 43 e (Zad (Zbo e (jqr 13 (Zaf e e e (gz1 2 e (ZaF (is:=[]) (s0 e) e (Zad (Zam (Zaw (ZaI (Zaw (Zbd (ZaI (Zaw ?_)))))))))))))))))))))
  exact Zaj e (fun w hs=>.tmp e) (fun w hs=>⟨e,hs.drop⟩)
 refine jy (Zab e) e e (jgl 0 e e e e e (jy (ZaL e e) e e (Zac e e e (jy (ZaL e e) e e (jy (ZfA Tryz.underlying4 e e) e e (jy (Zae e e) e e (gz11 0 3 4 5 6 7 8 26 27 28 43 e (Zad (Zai e ?_ ?_)))))))))
 ·refine jqr 13 (Zaf e e e (gz1 2 e (ZaF (is:=[]) (s0 e) e (Zad (Zam (Zaw (ZaI (Zaw (Zbd (ZaI (Zaw ?_)))))))))))
  exact Zaj e (fun w hs=>.tmp e) (fun w hs=>⟨e,hs.drop⟩)
 refine jks (Zak (jqr 14 (Zac e e e (jy (Zab e) e e (jgl 0 e e e e e (jg_y (fun w hs=>ZfB (kv:=kvZ) (k:=x28.Name) e e (hs.mapL (i:=1) e)) e e (gz11 0 3 4 5 6 7 8 26 27 28 47 e (Zad (Zai e ?_ ?_)))))))))
 ·refine jqr 15 (Zaf e e e (gz1 2 e (ZaF (is:=[]) (s0 e) e (Zad (Zam (Zaw (ZaI (Zaw (Zbd (ZaI (Zaw ?_)))))))))))
  exact Zaj e (fun w hs=>.tmp e) (fun w hs=>⟨e,hs.drop⟩)
 refine jks (jqr 16 (Zac e e e (jy (Zab e) e e (jgl 0 e e e e e (Zf7 1 (kv:=kvZ) (k:=x28.Name) e e e e e fun y32=>jg_L (r4 e) (gz10 0 3 4 5 6 7 8 26 27 28 e (Zad (Zak (jqr 17 (Zac e e e (jy (ZaL e e) e e (gz11 0 3 4 5 6 7 8 26 27 28 52 e (Zad (Zai e ?_ ?_))))))))))))))
 ·refine ZaE (Za9 (Zba (Zad ?_)))
  refine Zar 28 (jy (Zal e e) e e (Zac e e e (gz8 0 3 4 5 6 26 27 28 e (Zap H26 (y32,z23.2.1,z23.2.2.1,z23.2.2.2.1,w64 (z23.2.2.2.2 + 1)) () [1,2,3] (u8 e) e e e))))
 refine jks (Zak (jqr 18 (jy (Zab e) e e (jgl 0 e e e e e (jy (ZaD e e) e e (Zac e e e (Zaq 56 e ?_ ?_)))))))
 ·refine Zaa e e (Zaa e e (Zaa e e (Zaa e e (jy (Zah e e) e e (gz10 0 3 4 5 6 8 26 27 28 61 e (Zad (Zbo e (jqr 19 (Zaf e e e (gz1 2 e (ZaF (is:=[]) (s0 e) e (Zad (Zam (Zaw (ZaI (Zaw (Zbd (ZaI (Zaw ?_)))))))))))))))))))
  exact Zaj e (fun w hs=>.tmp e) (fun w hs=>⟨e,hs.drop⟩)
 refine jy (Zab e) e e (jgl 0 e e e e e (Zac e e e (jy (Zbv e e) e e (jy (Zae e e) e e (gz10 0 3 4 5 6 8 26 27 28 61 e (Zad (Zai e ?_ ?_)))))))
 ·refine jqr 19 (Zaf e e e (gz1 2 e (ZaF (is:=[]) (s0 e) e (Zad (Zam (Zaw (ZaI (Zaw (Zbd (ZaI (Zaw ?_)))))))))))
  exact Zaj e (fun w hs=>.tmp e) (fun w hs=>⟨e,hs.drop⟩)
 refine jks (jqr 20 (Zac e e e (jy (Zab e) e e (jgl 0 e e e e e (Za6 fun x33 h34=>jg_y (fun w hs=>ZaC e e (hs.arg Rha0) h34) e e (jg_y (fun w hs=>ZaS e (hs.arg Rha0) h34.1) e e (jg_y (fun w hs=>ZaQ e (hs.arg Rha0) h34.1 e) e e (Zaf e e e (gz10 0 3 4 5 6 8 9 26 27 28 e (jsr 21 (jy (Zab e) e e (jgl 0 e e e e e (jy (Zab e) e e (jgl 0 e e e e e (jy (ZaX e (o2 e)) e e ?_)))))))))))))))
 refine ZaR (l2 e) e e fun g35=>Zav 0 e e e (l2 e) e e e e (l2 e) (r5 e) (gz11 0 3 4 5 6 8 9 10 26 27 28 e (Zad (Zak (jqr 22 (Zac e e e (jy (ZaL e e) e e (Zac e e e (Zaq 75 e ?_ ?_))))))))
 ·refine Zaa e e (Zaa e e (Zaa e e (Zaa e e (Zaa e e (Zaa e e (jy (Zah e e) e e (Zac e e e (Zaa e e (Zaa e e (Zaa e e (jy (Zah e e) e e (gz11 0 3 4 5 6 8 10 26 27 28 87 e (Zad (Zbo e (jqr 23 (Zaf e e e ?_))))))))))))))))
  refine gz1 2 e (ZaF (is:=[]) (s0 e) e (Zad (Zam (Zaw (ZaI (Zaw (Zbd (ZaI (Zaw ?_)))))))))
  exact Zaj e (fun w hs=>.tmp e) (fun w hs=>⟨e,hs.drop⟩)
 refine Zac e e e (jy (ZaL e e) e e (jy (Zab e) e e (jgl 1 e e e e e (jy (Zbt e e) e e (jy (ZfA Tryz.underlying4 e e) e e (jy (Zae e e) e e (Zac e e e (Zaq 83 e ?_ ?_))))))))
 ·refine Zaa e e (Zaa e e (Zaa e e (jy (Zah e e) e e (gz11 0 3 4 5 6 8 10 26 27 28 87 e (Zad (Zbo e (jqr 23 (Zaf e e e (gz1 2 e (ZaF (is:=[]) (s0 e) e (Zad (Zam (Zaw (ZaI (Zaw (Zbd (ZaI (Zaw ?_))))))))))))))))))
  exact Zaj e (fun w hs=>.tmp e) (fun w hs=>⟨e,hs.drop⟩)
 refine Zac e e e (jg_y (fun w hs=>ZaJ e (ldBB (hs.blkL (i:=0) e) e)) e e (jg_y (fun w hs=>ZfB (kv:=LayoutPlace.kv) (k:=(LayoutPlace.mk x28.Parent x28.Side)) e e (hs.mapL (i:=3) e)) e e (jy (Zae e e) e e (gz11 0 3 4 5 6 8 10 26 27 28 87 e (Zad (Zai e ?_ ?_))))))
 ·refine jqr 23 (Zaf e e e (gz1 2 e (ZaF (is:=[]) (s0 e) e (Zad (Zam (Zaw (ZaI (Zaw (Zbd (ZaI (Zaw ?_)))))))))))
  exact Zaj e (fun w hs=>.tmp e) (fun w hs=>⟨e,hs.drop⟩)
 refine jks (jqr 24 (Zac e e e (jg_y (fun w hs=>ZaJ e (ldBB (hs.blkL (i:=0) e) e)) e e (Zf7 3 (kv:=LayoutPlace.kv) (k:=(LayoutPlace.mk x28.Parent x28.Side)) e e e e e fun y36=>jg_L (r5 e) (gz9 0 3 4 5 6 8 26 27 28 e (jsr 25 (Zac e e e (jy (Zab e) e e (jgl 1 e e e e e (Za6 fun x37 h38=>jg_y (fun w hs=>ZaC e e (hs.row 4 e) h38) e e (jg_y (fun w hs=>ZaQ e (hs.row 4 e) h38.1 e) e e (jy (Zal e e) e e (Za6 fun x39 h40=>jg_y (fun w hs=>ZaC e e (hs.row 4 e) h40) e e ?_)))))))))))))
 refine Zbr 4 (a':=w64 (x37 + 1)) e e h40.1 e (l1 e) e e e e fun y41=>jg_L (r5 e) (gz9 0 3 4 5 6 8 26 27 28 e (jsr 26 (jy (Zab e) e e (jgl 1 e e e e e (jy (ZaL e e) e e (gz9 0 3 4 5 6 26 27 28 99 e (ZaF (is:=[2,3,4]) (s3 e) e (Zad (Zai e ?_ ?_)))))))))
 rotate_left
 ·refine ZaK (ZaG (Zad ?_))
  refine Zar 28 (jy (Zal e e) e e (Zac e e e (gz8 0 3 4 5 6 26 27 28 e (Zap H26 (y32,y36,y41,z23.2.2.2.1,w64 (z23.2.2.2.2 + 1)) () [0,1,2] (u8 e) e e e))))
 refine Zar 27 (Zac e e e (jy (Zal e e) e e (Zaf e e e (gz8 0 3 4 5 6 26 27 28 e (ZaG (Zad ?_))))))
 refine Zar 28 (jy (Zal e e) e e (Zac e e e (gz8 0 3 4 5 6 26 27 28 e (Zap H26 (y32,y36,y41,w64 (z23.2.2.2.1 + 1),w64 (z23.2.2.2.2 + 1)) () [0,1,2] (u8 e) e e e))))
theorem ZcR {w:World}{a0:Int}{a1:Int}{a2:Int}  {v:Bool}(hm:ZcS a0 a1 a2 = some v):Gives Tryz.prog 85 [.int .i64 a0,.int .i64 a1,.int .i64 a2] w (.bool v):=by
 refine Za4 (vs:=[.int .i64 a0,.int .i64 a1,.int .i64 a2]) (U:=fun (v:Bool)=>.bool v) Tryz.func85 e Tryz.ntmps85 e e hm ?_
 unfold ZcS
 clear hm
 refine jqr 0 (Zaf e e e (gz3 0 1 2 e (jsr 1 (Zac e e e (Zac e e e (jy (Zbv e e) e e (Zac e e e (Zaq 10 e ?_ ?_))))))))
 ·refine Zac e e e (Zac e e e (jy (ZbR e e) e e (jy (Zah e e) e e (Zaf e e e (gz1 6 e (Zad (Zam (Zaj e (fun w hs=>.tmp e) (fun w hs=>⟨e,hs.drop⟩)))))))))
 refine Zaa e e (Zaa e e (Zaa e e (jy (Zae e e) e e (Zaf e e e (gz1 6 e (Zad (Zam (Zaj e (fun w hs=>.tmp e) (fun w hs=>⟨e,hs.drop⟩)))))))))
theorem ZeE {w:World}{a0:(List Element)}{a1:Int}{a2:Int}{ha0:Hd}{v:Bool}(hm:Zdq a0 a1 a2 = some v) (Rha0:Sl w ha0 Element.enc a0):Gives Tryz.prog 86 [ha0.v,.int .i64 a1,.int .i64 a2] w (.bool v):=by
 refine Za4 (vs:=[ha0.v,.int .i64 a1,.int .i64 a2]) (U:=fun (v:Bool)=>.bool v) Tryz.func86 e Tryz.ntmps86 e e hm ?_
 unfold Zdq
 clear hm
 refine jqr 0 (Zaf e e e (gz3 0 1 2 e (jsr 1 (Zac e e e (Zac e e e (jg_y (fun w hs=>ZaV e (hs.arg Rha0)) e e (jy (ZaZ e e) e e (Zbc e (fun v w hs hm=>ZcR hm ) e e fun v1=>Zac e e e (Zaq 12 e ?_ ?_)))))))))
 rotate_left
 ·refine Zaa e e (Zaa e e (Zaa e e (Zaa e e (Zaa e e (Zaa e e (Zaa e e (jy (Zae e e) e e (Zaf e e e (gz1 6 e (Zad (Zam (Zaj e (fun w hs=>.tmp e) (fun w hs=>⟨e,hs.drop⟩)))))))))))))
 refine Zac e e e (Zac e e e (Za6 fun x2 h3=>jg_y (fun w hs=>ZaC e e (hs.arg Rha0) h3) e e (jg_y (fun w hs=>ZaS e (hs.arg Rha0) h3.1) e e (jg_y (fun w hs=>ZaQ e (hs.arg Rha0) h3.1 e) e e (Zac e e e (jy (ZaL e e) e e (jy (Zah e e) e e (Zaf e e e (gz1 6 e (Zad (Zam (Zaj e (fun w hs=>.tmp e) (fun w hs=>⟨e,hs.drop⟩)))))))))))))
theorem Zgf {w:World}{a0:Int}  {v:Bool}(hm:ZdD a0 = some v):Gives Tryz.prog 87 [.int .i64 a0] w (.bool v):=by
 refine Za4 (vs:=[.int .i64 a0]) (U:=fun (v:Bool)=>.bool v) Tryz.func87 e Tryz.ntmps87 e e hm ?_
 unfold ZdD
 clear hm
 refine jqr 0 (Zaf e e e (gz1 0 e (jsr 1 (Zac e e e (jy (ZaL e e) e e (Zac e e e (Zaq 5 e ?_ ?_)))))))
 ·refine Zaa e e (Zaa e e (jy (Zah e e) e e (Zaf e e e (gz1 2 e (Zad (Zam (Zaj e (fun w hs=>.tmp e) (fun w hs=>⟨e,hs.drop⟩))))))))
 refine Zac e e e (jy (ZaL e e) e e (jy (Zae e e) e e (Zaf e e e (gz1 2 e (Zad (Zam (Zaj e (fun w hs=>.tmp e) (fun w hs=>⟨e,hs.drop⟩))))))))
theorem Zge {w:World}{a0:(List Element)}{ha0:Hd}{v:Int}(hm:ZcQ a0 = some v) (Rha0:Sl w ha0 Element.enc a0):Gives Tryz.prog 88 [ha0.v] w (.int .i64 v):=by
 refine Za4 (vs:=[ha0.v]) (U:=fun (v:Int)=>.int .i64 v) Tryz.func88 e Tryz.ntmps88 e e hm ?_
 unfold ZcQ
 clear hm
 refine jqr 0 (Zaf e e e (gz1 0 e (jsr 1 (Zaf e e e (gz2 0 3 e (Zad (Zak (jqr 2 (Zac e e e (jg_y (fun w hs=>ZaV e (hs.arg Rha0)) e e (Zac e e e (gz4 3 6 7 8 e (Zad (Zao (Zbj (n:=big) (fun (s:(Int×Int)) (g:Unit)=>[(3,.int .i64 s.1),(6,ha0.v),(7,.int .i64 (a0.length:Int)),(8,.int .i64 s.2)]) (fun s g=>[]) (fun s g=>[]) (1000000,0) () [] (u4 e) e e e ?_)))))))))))))))
 intro z1 q2 n5 k3 H4
 refine jqr 3 (jy (ZaD e e) e e (gz5 3 6 7 8 9 e (Zad (Zak (Zai e ?_ ?_)))))
 rotate_left
 ·refine ZaE (Za9 (Zbe (Zba (Zad ?_))))
  refine jqr 8 (Zac e e e (Zaf e e e (gz1 2 e (Zad (Zam (Zaj e (fun w hs=>.tmp e) (fun w hs=>⟨e,hs.drop⟩)))))))
 refine jks (Zak (Zao (jqr 4 (Za6 fun x6 h7=>jg_y (fun w hs=>ZaC e e (hs.arg Rha0) h7) e e (jg_y (fun w hs=>ZbJ e (hs.arg Rha0) h7.1 (l8 e) e) e e (ZaR (l8 e) e e fun g8=>Zav 0 e e e (l8 e) e e e e (l8 e) (r1 e) (gz5 3 5 6 7 8 e (jsr 5 (jy (Zab e) e e (jgl 0 e e e e e (jy (ZaL e e) e e (gz6 3 5 6 7 8 14 e (Zad (Zai e ?_ ?_))))))))))))))
 rotate_left
 ·refine ZaK (ZaG (Zad ?_))
  refine Zar 7 (jy (Zal e e) e e (Zac e e e (gz4 3 6 7 8 e (Zap H4 (z1.1,w64 (z1.2 + 1)) () [] (u4 e) e e e))))
 refine Zar 6 (Zac e e e (jy (Zab e) e e (jgl 0 e e e e e (jy (ZdW e e) e e (Zaf e e e (gz4 3 6 7 8 e (ZaG (Zad ?_))))))))
 refine Zar 7 (jy (Zal e e) e e (Zac e e e (gz4 3 6 7 8 e (Zap H4 (min z1.1 x6.Length,w64 (z1.2 + 1)) () [] (u4 e) e e e))))
theorem Zgt {w:World}{a0:(List Element)}{a1:Rolling}{a2:Int}{ha0:Hd}{ha1A:Hd}{ha1B:Hd}{v:Bool}(hm:Zc8 a0 a1 a2 = some v) (Rha0:Sl w ha0 Element.enc a0) (Rha1_Resist:Sl w ha1A encI a1.Resist) (Rha1_Targets:Sl w ha1B encI a1.Targets):Gives Tryz.prog 89 [ha0.v,.agg #[.int .i64 a1.Release,.int .i64 a1.Length,.int .i64 a1.Track,.int .i64 a1.Speed,ha1A.v,ha1B.v],.int .i64 a2] w (.bool v):=by
 refine Za4 (vs:=[ha0.v,.agg #[.int .i64 a1.Release,.int .i64 a1.Length,.int .i64 a1.Track,.int .i64 a1.Speed,ha1A.v,ha1B.v],.int .i64 a2]) (U:=fun (v:Bool)=>.bool v) Tryz.func89 e Tryz.ntmps89 e e hm ?_
 unfold Zc8
 clear hm
 refine jqr 0 (ZbD e (l6 e) e e fun g1=>Zaf e e e (gz3 0 2 4 e (Zad (Zak (jqr 1 (jy (Zab e) e e (jgl 0 e e e e e (Zbc e (fun v w hs hm=>ZcR hm ) e e fun v2=>jy (Zbl e) e e (Zac e e e (Zaq 12 e ?_ ?_))))))))))
 ·refine Zaa e e (Zaa e e (Zaa e e (Zaa e e (Zaa e e (jy (Zah e e) e e (Zac e e e (Zaa e e (Zaa e e (Zaa e e (Zaa e e (Zaa e e (jy (Zah e e) e e (Zac e e e (Zaa e e (Zaa e e (Zaa e e ?_))))))))))))))))
  refine Zaa e e (jy (Zah e e) e e (Zac e e e (Zaa e e (Zaa e e (Zaa e e (Zaa e e (Zaa e e (Zaa e e (jy (Zah e e) e e (Zac e e e (Zaa e e (Zaa e e (Zaa e e (Zaa e e (Zaa e e (Zaa e e ?_))))))))))))))))
  refine jy (Zah e e) e e (gz3 0 4 47 e (Zad (Zbo e (jqr 2 (Zaf e e e (gz1 6 e (Zad (Zam (Zaw (Zaj e (fun w hs=>.tmp e) (fun w hs=>⟨e,hs.drop⟩)))))))))))
 refine jy (Zab e) e e (jgl 0 e e e e e (Zac e e e (Zbc e (fun v w hs hm=>ZcR hm ) e e fun v3=>jy (Zbl e) e e (jy (Zae e e) e e (Zac e e e (Zaq 19 e ?_ ?_))))))
 ·refine Zaa e e (Zaa e e (Zaa e e (Zaa e e (Zaa e e (jy (Zah e e) e e (Zac e e e (Zaa e e (Zaa e e (Zaa e e (Zaa e e (jy (Zah e e) e e (Zac e e e (Zaa e e (Zaa e e (Zaa e e (Zaa e e ?_))))))))))))))))
  refine Zaa e e (Zaa e e (jy (Zah e e) e e (Zac e e e (Zaa e e (Zaa e e (Zaa e e (Zaa e e (Zaa e e (Zaa e e (jy (Zah e e) e e (gz3 0 4 47 e (Zad (Zbo e (jqr 2 (Zaf e e e (gz1 6 e ?_))))))))))))))))
  refine Zad (Zam (Zaw (Zaj e (fun w hs=>.tmp e) (fun w hs=>⟨e,hs.drop⟩))))
 refine Zac e e e (jy (Zab e) e e (jgl 0 e e e e e (Zbc e (fun v w hs hm=>ZeE hm (hs.arg Rha0)) e e fun v4=>jy (Zbl e) e e (jy (Zae e e) e e (Zac e e e (Zaq 26 e ?_ ?_))))))
 ·refine Zaa e e (Zaa e e (Zaa e e (Zaa e e (jy (Zah e e) e e (Zac e e e (Zaa e e (Zaa e e (Zaa e e (Zaa e e (Zaa e e (Zaa e e (jy (Zah e e) e e (Zac e e e (Zaa e e (Zaa e e (Zaa e e ?_))))))))))))))))
  refine Zaa e e (Zaa e e (Zaa e e (jy (Zah e e) e e (gz3 0 4 47 e (Zad (Zbo e (jqr 2 (Zaf e e e (gz1 6 e (Zad (Zam (Zaw (Zaj e (fun w hs=>.tmp e) (fun w hs=>⟨e,hs.drop⟩))))))))))))))
 refine jy (Zab e) e e (jgl 0 e e e e e (Zbc e (fun v w hs hm=>ZcR hm ) e e fun v5=>jy (Zbl e) e e (jy (Zae e e) e e (Zac e e e (Zaq 32 e ?_ ?_)))))
 ·refine Zaa e e (Zaa e e (Zaa e e (Zaa e e (Zaa e e (Zaa e e (jy (Zah e e) e e (Zac e e e (Zaa e e (Zaa e e (Zaa e e (Zaa e e (Zaa e e (Zaa e e (jy (Zah e e) e e (gz3 0 4 47 e (Zad ?_))))))))))))))))
  refine Zbo e (jqr 2 (Zaf e e e (gz1 6 e (Zad (Zam (Zaw (Zaj e (fun w hs=>.tmp e) (fun w hs=>⟨e,hs.drop⟩))))))))
 refine jy (Zab e) e e (jgl 0 e e e e e (jg_y (fun w hs=>ZaV e (hs.arg Rha1_Resist)) e e (Zac e e e (jg_y (fun w hs=>ZaV e (hs.arg Rha0)) e e (jy (Zbt e e) e e (jy (Zae e e) e e (Zac e e e (Zaq 40 e ?_ ?_))))))))
 ·refine Zaa e e (Zaa e e (Zaa e e (Zaa e e (Zaa e e (Zaa e e (jy (Zah e e) e e (gz3 0 4 47 e (Zad (Zbo e (jqr 2 (Zaf e e e (gz1 6 e (Zad (Zam (Zaw (Zaj e (fun w hs=>.tmp e) (fun w hs=>⟨e,hs.drop⟩)))))))))))))))))
 refine jy (Zab e) e e (jgl 0 e e e e e (jg_y (fun w hs=>ZaV e (hs.arg Rha1_Targets)) e e (Zac e e e (jg_y (fun w hs=>ZaV e (hs.arg Rha0)) e e (jy (Zbt e e) e e (jy (Zae e e) e e (gz3 0 4 47 e (Zad (Zai e ?_ ?_)))))))))
 ·refine jqr 2 (Zaf e e e (gz1 6 e (Zad (Zam (Zaw (Zaj e (fun w hs=>.tmp e) (fun w hs=>⟨e,hs.drop⟩)))))))
 refine jks (Zak (jqr 3 (Zac e e e (jg_y (fun w hs=>ZaV e (hs.arg Rha0)) e e (Zac e e e (gz3 4 49 50 e (Zad (Zao (Zbj (n:=big) (fun (s:Int) (g:Unit)=>[(4,.pointer (some ⟨g1,0,none⟩)),(49,.int .i64 (a0.length:Int)),(50,.int .i64 s)]) (fun s g=>[]) (fun s g=>[(Res.blk g1 104 [.int .i64 a1.Release,.int .i64 a1.Length,.int .i64 a1.Track,.int .i64 a1.Speed,ha1A.v,ha1B.v])]) 0 () [0] (u3 e) e e e ?_)))))))))
 intro z6 q7 n10 k8 H9
 refine jqr 4 (jy (ZaD e e) e e (gz4 4 49 50 51 e (Zad (Zak (Zai e ?_ ?_)))))
 rotate_left
 ·refine ZaE (Za9 (Zbe (Zba (Zad ?_))))
  refine jqr 9 (Zaf e e e (gz1 6 e (Zad (Zam (Zaj e (fun w hs=>.tmp e) (fun w hs=>⟨e,hs.drop⟩))))))
 refine jks (Zak (Zao (jqr 5 (Zac e e e (Zaf e e e (gz4 4 7 49 50 e (jsr 6 (jy (Zab e) e e (jgl 0 e e e e e (Zac e e e (Za6 fun x11 h12=>jg_y (fun w hs=>ZaC e e (hs.arg Rha1_Resist) h12) e e (jg_y (fun w hs=>ZaQ e (hs.arg Rha1_Resist) h12.1 e) e e (Zbc e (fun v w hs hm=>ZcR hm ) e e fun v13=>jy (Zbl e) e e (Zac e e e ?_))))))))))))))
 refine Zaq 60 e ?_ ?_
 ·refine Zaa e e (Zaa e e (Zaa e e (Zaa e e (Zaa e e (Zaa e e (Zaa e e (jy (Zah e e) e e (gz4 4 49 50 68 e (Zad (Zbo e (jqr 7 (Zaf e e e (gz1 6 e (Zad (Zam (ZaI (Zaw (Zbd (ZaI (Zaw ?_))))))))))))))))))))
  exact Zaj e (fun w hs=>.tmp e) (fun w hs=>⟨e,hs.drop⟩)
 refine jy (Zab e) e e (jgl 0 e e e e e (Zac e e e (Za6 fun x14 h15=>jg_y (fun w hs=>ZaC e e (hs.arg Rha1_Targets) h15) e e (jg_y (fun w hs=>ZaQ e (hs.arg Rha1_Targets) h15.1 e) e e (Zbc e (fun v w hs hm=>ZcR hm ) e e fun v16=>jy (Zbl e) e e (jy (Zae e e) e e (gz4 4 49 50 68 e (Zad (Zai e ?_ ?_)))))))))
 rotate_left
 ·refine ZaK (ZaG (Zad ?_))
  refine Zar 8 (jy (Zal e e) e e (Zac e e e (gz3 4 49 50 e (Zap H9 (w64 (z6 + 1)) () [0] (u3 e) e e e))))
 refine jqr 7 (Zaf e e e (gz1 6 e (Zad (Zam (ZaI (Zaw (Zbd (ZaI (Zaw ?_)))))))))
 exact Zaj e (fun w hs=>.tmp e) (fun w hs=>⟨e,hs.drop⟩)
theorem Zfq {w:World}{a0:Scene}{ha0A:Hd}{ha0B:Hd}{ha0C:Hd}{ha0D:Hd}{qa0D:List (Rolling×(Hd×Hd))}{v:Int}(hm:Zb5 a0 = some v) (Rha0_Elements:Sl w ha0A Element.enc a0.Elements) (Rha0_Start:Sl w ha0B Throw.enc a0.Start) (Rha0_Commands:Sl w ha0C Command.enc a0.Commands) (eha0_Cuts:qa0D.map (·.1) = a0.Cuts) (Rha0_Cuts:Sl w ha0D Nt.enc qa0D) (Dha0_Cuts:∀ p∈qa0D,rdN w p):Gives Tryz.prog 46 [.agg #[ha0A.v,.int .i64 a0.Throw,ha0B.v,ha0C.v,ha0D.v]] w (.int .i64 v):=by
 refine Za4 (vs:=[.agg #[ha0A.v,.int .i64 a0.Throw,ha0B.v,ha0C.v,ha0D.v]]) (U:=fun (v:Int)=>.int .i64 v) Tryz.func46 e Tryz.ntmps46 e e hm ?_
 unfold Zb5
 clear hm
 refine jqr 0 (ZbD e (l5 e) e e fun g1=>Zaf e e e (gz1 1 e (Zad (Zak (jqr 1 (jy (Zab e) e e (jgl 0 e e e e e (Zbc e (fun v w hs hm=>Zgr hm (hs.arg Rha0_Elements)) e e fun v2=>Zaf e e e (gz2 1 3 e (jsr 2 (Zac e e e (jy (Zbt e e) e e (gz3 1 3 16 e (Zad ?_))))))))))))))
 refine Zai e ?_ ?_
 ·refine jqr 3 (Zac e e e (Zaf e e e (gz1 2 e (Zad (Zam (Zaw (Zaj e (fun w hs=>.tmp e) (fun w hs=>⟨e,hs.drop⟩))))))))
 refine jks (Zak (jqr 4 (jy (Zab e) e e (jgl 0 e e e e e (jg_y (fun w hs=>ZaV e (hs.arg Rha0_Commands)) e e (jy (Zbh e e) e e (Zac e e e (Zaq 22 e ?_ ?_))))))))
 ·refine Zaa e e (Zaa e e (Zaa e e (Zaa e e (jy (Zah e e) e e (gz2 1 27 e (Zad (Zbo e (jqr 5 (Zaf e e e (gz1 2 e (Zad (Zam (Zaw (Zaj e (fun w hs=>.tmp e) (fun w hs=>⟨e,hs.drop⟩)))))))))))))))
 refine jy (Zab e) e e (jgl 0 e e e e e (jg_y (fun w hs=>ZbY eha0_Cuts e (hs.arg Rha0_Cuts)) e e (jy (Zbh e e) e e (jy (Zae e e) e e (gz2 1 27 e (Zad (Zai e ?_ ?_)))))))
 ·refine jqr 5 (Zaf e e e (gz1 2 e (Zad (Zam (Zaw (Zaj e (fun w hs=>.tmp e) (fun w hs=>⟨e,hs.drop⟩)))))))
 refine jks (Zak (jqr 6 (jy (Zab e) e e (jgl 0 e e e e e (Zbc e (fun v w hs hm=>ZcR hm ) e e fun v3=>jy (Zbl e) e e (gz2 1 31 e (Zad (Zai e ?_ ?_))))))))
 ·refine jqr 7 (Zaf e e e (gz1 2 e (Zad (Zam (Zaw (Zaj e (fun w hs=>.tmp e) (fun w hs=>⟨e,hs.drop⟩)))))))
 refine jks (jqr 8 (Zkb (kv:=kvI) e e fun g4=>Zaf e e e (gz2 1 4 e (Zad (Za2 (fun (s:Unit) (g:Unit)=>[(1,.pointer (some ⟨g1,0,none⟩))]) (fun s g=>[]) (fun s g=>[(Res.blk g1 56 [ha0A.v,.int .i64 a0.Throw,ha0B.v,ha0C.v,ha0D.v])]) ?_ ?_)))))
 rotate_left
 ·intro k7 H8
  refine jqr 9 (jy (Zab e) e e (jgl 1 e e e e e (jg_y (fun w hs=>ZaV e (hs.arg Rha0_Start)) e e (Zac e e e (gz5 1 4 34 35 36 e (Zad (Zao (Zbj (n:=big) (fun (s:((List Int)×Int)) (g:Unit)=>[(1,.pointer (some ⟨g1,0,none⟩)),(4,.map (some g4)),(34,ha0B.v),(35,.int .i64 (a0.Start.length:Int)),(36,.int .i64 s.2)]) (fun s g=>[]) (fun s g=>[(Res.blk g1 56 [ha0A.v,.int .i64 a0.Throw,ha0B.v,ha0C.v,ha0D.v]),(Res.obj g4 (mapO kvI s.1))]) (([]:List Int),0) () [1,0] (u5 e) e e e ?_))))))))
  intro z44 q45 n48 k46 H47
  refine jqr 10 (jy (ZaD e e) e e (gz6 1 4 34 35 36 37 e (Zad (Zak (Zai e ?_ ?_)))))
  rotate_left
  ·refine ZaE (Za9 (Zbe (Zba ?_)))
   exact Zap H8 () () [0] (u1 e) e e e
  refine jks (Zak (Zao (jqr 11 (Za6 fun x49 h50=>jg_y (fun w hs=>ZaC e e (hs.arg Rha0_Start) h50) e e (jg_y (fun w hs=>ZbJ e (hs.arg Rha0_Start) h50.1 (l2 e) e) e e (ZaR (l2 e) e e fun g51=>Zav 0 e e e (l2 e) e e e e (l2 e) (r3 e) (gz6 1 4 6 34 35 36 e (Zad (Zak (jqr 12 (jy (Zab e) e e (jgl 1 e e e e e (jy (Zab e) e e (jgl 0 e e e e e ?_))))))))))))))
  refine Zbc e (fun v w hs hm=>ZeE hm (hs.arg Rha0_Elements)) e e fun v52=>jy (Zbl e) e e (Zac e e e (Zaq 46 e ?_ ?_))
  ·refine Zaa e e (Zaa e e (Zaa e e (Zaa e e (jy (Zah e e) e e (Zac e e e (Zaa e e (Zaa e e (Zaa e e (Zaa e e (jy (Zah e e) e e (gz7 1 4 6 34 35 36 57 e (Zad (Zbo e (jqr 13 (Zaf e e e (gz1 2 e ?_))))))))))))))))
   refine ZaF (is:=[]) (s0 e) e (Zad (Zam (Zaw (ZaI (Zaw (Zbd (ZaI (Zaw ?_))))))))
   exact Zaj e (fun w hs=>.tmp e) (fun w hs=>⟨e,hs.drop⟩)
  refine Zac e e e (jy (Zab e) e e (jgl 0 e e e e e (jg_y (fun w hs=>ZfB (kv:=kvI) (k:=x49.Element) e e (hs.mapL (i:=2) e)) e e (jy (Zae e e) e e (Zac e e e (Zaq 52 e ?_ ?_))))))
  ·refine Zaa e e (Zaa e e (Zaa e e (Zaa e e (jy (Zah e e) e e (gz7 1 4 6 34 35 36 57 e (Zad (Zbo e (jqr 13 (Zaf e e e (gz1 2 e (ZaF (is:=[]) (s0 e) e (Zad (Zam (Zaw (ZaI (Zaw (Zbd (ZaI (Zaw ?_)))))))))))))))))))
   exact Zaj e (fun w hs=>.tmp e) (fun w hs=>⟨e,hs.drop⟩)
  refine jy (Zab e) e e (jgl 0 e e e e e (Zbc e (fun v w hs hm=>Zgf hm ) e e fun v53=>jy (Zbl e) e e (jy (Zae e e) e e (gz7 1 4 6 34 35 36 57 e (Zad (Zai e ?_ ?_))))))
  ·refine jqr 13 (Zaf e e e (gz1 2 e (ZaF (is:=[]) (s0 e) e (Zad (Zam (Zaw (ZaI (Zaw (Zbd (ZaI (Zaw ?_)))))))))))
   exact Zaj e (fun w hs=>.tmp e) (fun w hs=>⟨e,hs.drop⟩)
  refine jks (Zar 14 (Zac e e e (jy (Zab e) e e (jgl 0 e e e e e (Zf7 2 (kv:=kvI) (k:=x49.Element) e e e e e fun y54=>jg_L (r3 e) (gz5 1 4 34 35 36 e (ZaG (Zad ?_))))))))
  refine Zar 15 (jy (Zal e e) e e (Zac e e e (gz5 1 4 34 35 36 e (Zap H47 (y54,w64 (z44.2 + 1)) () [1,2] (u5 e) e e e))))
 intro z5 q6
 refine Za2 (fun (s:Unit) (g:Unit)=>[(1,.pointer (some ⟨g1,0,none⟩))]) (fun s g=>[]) (fun s g=>[(Res.blk g1 56 [ha0A.v,.int .i64 a0.Throw,ha0B.v,ha0C.v,ha0D.v])]) ?_ ?_
 ·intro z9 q10
  refine jqr 22 (jy (Zab e) e e (jgl 0 e e e e e (Zbc e (fun v w hs hm=>Zge hm (hs.arg Rha0_Elements)) e e fun v13=>Zaf e e e (gz2 1 9 e (Zad (Zak (jqr 23 (jy (Zab e) e e (jgl 0 e e e e e (jg_y (fun w hs=>ZbY eha0_Cuts e (hs.arg Rha0_Cuts)) e e (Zac e e e (gz5 1 9 102 103 104 e (Zad (Zao (Zbj (n:=big) (fun (s:Int) (g:Unit)=>[(1,.pointer (some ⟨g1,0,none⟩)),(9,.int .i64 v13),(102,ha0D.v),(103,.int .i64 (a0.Cuts.length:Int)),(104,.int .i64 s)]) (fun s g=>[]) (fun s g=>[(Res.blk g1 56 [ha0A.v,.int .i64 a0.Throw,ha0B.v,ha0C.v,ha0D.v])]) 0 () [0] (u5 e) e e e ?_)))))))))))))))
  intro z14 q15 n18 k16 H17
  refine jqr 24 (jy (ZaD e e) e e (gz6 1 9 102 103 104 105 e (Zad (Zak (Zai e ?_ ?_)))))
  rotate_left
  ·refine ZaE (Za9 (Zbe (Zba (Zad ?_))))
   refine jqr 29 (Zaf e e e (gz1 2 e (Zad (Zam (Zaj e (fun w hs=>.tmp e) (fun w hs=>⟨e,hs.drop⟩))))))
  refine jks (Zak (Zao (jqr 25 (Zac e e e (ZcM (fun w hs=>eha0_Cuts) fun x19 d21 h20=>?_)))))
  have Rr22:=(Dha0_Cuts _ (List.mem_of_getElem? h20.1)).sl (.head _)
  have Rr23:=(Dha0_Cuts _ (List.mem_of_getElem? h20.1)).sl (.tail _ (.head _))
  refine jg_y (fun w hs=>ZaC e e (hs.arg Rha0_Cuts) h20) e e (jg_y (fun w hs=>ZbJ e (hs.arg Rha0_Cuts) h20.1 (l6 e) e) e e (ZaR (l6 e) e e fun g24=>Zaf e e e (Zav 0 e e e (l6 e) e e e e (l6 e) (r2 e) (gz7 1 9 10 11 102 103 104 e (Zad (Zak (jdr (L':=[_,_]) 26 [0,1] [0,1,2,3,4,5,6,7,8,9,10,11,12,13,14,15,16,17,18,19,20,21] 4194303 4194303 [0,1,0,0,14,16,48,64,192,320,512,1536,512,4608,512,16896,41472,66048,131584,264704,524864,1048640] [0,1,0,0,15,31,63,127,255,511,1023,2047,1023,5119,1023,17407,62463,127999,259071,524287,1048575,2097151] [(0,true),(1,true),(2,true),(3,true),(4,true),(5,true),(6,true),(7,true),(8,true),(9,true),(10,true),(11,true),(12,true),(13,true),(14,true),(15,true),(16,true),(17,true),(18,true),(19,true),(20,true),(21,true)] e (Zas (Zay (Zas (Za0 (Zay (Zas Zbb)))))) (jdy e (Zab e) e e (jdl 1 e e e e e e (jd_y e (fun w hs=>ZaJ e (ldBB (hs.blk (i:=0) e) e)) e e (Zau e e e e (Zcc e e (fun v w hs hm=>Zgt (a1:=x19) hm (hs.arg Rha0_Elements) (hs.arg Rr22) (hs.arg Rr23)) e e fun v25=>jdy e (Zbl e) e e (Zau e e e e (Zbp 115 e ?_ ?_))))))))))))))
  ·refine Zag e e e (Zag e e e (Zag e e e (Zag e e e (Zag e e e (Zag e e e (Zag e e e (Zag e e e (Zag e e e (Zag e e e (Zag e e e (Zag e e e (Zag e e e (Zag e e e (jdy e (Zah e e) e e (ZaU [(1,_),(9,_),(102,_),(103,_),(104,_),(130,_)] ⟨e,e,e,e,e,e,trivial⟩ (Zad ?_))))))))))))))))
   refine Zbo e (jqr 27 (Zaf e e e (gz1 2 e (ZaF (is:=[]) (s0 e) e (Zad (Zam (ZaI (Zaw (Zbd (ZaI (Zaw ?_)))))))))))
   exact Zaj e (fun w hs=>.tmp e) (fun w hs=>⟨e,hs.drop⟩)
  refine Zau e e e e (jdy e (Zbh e e) e e (Zau e e e e (Zbp 118 e ?_ ?_)))
  rotate_left
  ·refine Zag e e e (Zag e e e (Zag e e e (Zag e e e (Zag e e e (Zag e e e (Zag e e e (Zag e e e (Zag e e e (Zag e e e (jdy e (Zae e e) e e (jdy e (Zae e e) e e (ZaU [(1,_),(9,_),(102,_),(103,_),(104,_),(130,_)] ⟨e,e,e,e,e,e,trivial⟩ (Zad (ZdC e (ZaK (ZaG (Zad ?_)))))))))))))))))
   refine Zar 28 (jy (Zal e e) e e (Zac e e e (gz5 1 9 102 103 104 e (Zap H17 (w64 (z14 + 1)) () [1] (u5 e) e e e))))
  refine jdy e (Zab e) e e (jdl 0 e e e e e e (jdy e (Zab e) e e (jdl 1 e e e e e e (Zau e e e e (jdy e (ZaZ e e) e e (ZcE (fun w hs=>eha0_Cuts) fun x26 d28 h27=>?_))))))
  have Rr29:=(Dha0_Cuts _ (List.mem_of_getElem? h27.1)).sl (.head _)
  have Rr30:=(Dha0_Cuts _ (List.mem_of_getElem? h27.1)).sl (.tail _ (.head _))
  refine jd_y e (fun w hs=>ZaC e e (hs.arg Rha0_Cuts) h27) e e (jd_y e (fun w hs=>ZaS e (hs.arg Rha0_Cuts) h27.1) e e (jd_y e (fun w hs=>ZaQ e (hs.arg Rha0_Cuts) h27.1 e) e e (jdy e (ZaD e e) e e (jdy e (Zah e e) e e (jdy e (Zae e e) e e (ZaU [(1,_),(9,_),(102,_),(103,_),(104,_),(130,_)] ⟨e,e,e,e,e,e,trivial⟩ (Zad (Zai e ?_ ?_))))))))
  rotate_left
  ·refine ZaK (ZaG (Zad ?_))
   refine Zar 28 (jy (Zal e e) e e (Zac e e e (gz5 1 9 102 103 104 e (Zap H17 (w64 (z14 + 1)) () [1] (u5 e) e e e))))
  refine jqr 27 (Zaf e e e (gz1 2 e (ZaF (is:=[]) (s0 e) e (Zad (Zam (ZaI (Zaw (Zbd (ZaI (Zaw ?_))))))))))
  exact Zaj e (fun w hs=>.tmp e) (fun w hs=>⟨e,hs.drop⟩)
 intro k11 H12
 refine jqr 16 (jy (Zab e) e e (jgl 0 e e e e e (jg_y (fun w hs=>ZaV e (hs.arg Rha0_Commands)) e e (Zac e e e (gz4 1 63 64 65 e (Zad (Zao (Zbj (n:=big) (fun (s:Int) (g:Unit)=>[(1,.pointer (some ⟨g1,0,none⟩)),(63,ha0C.v),(64,.int .i64 (a0.Commands.length:Int)),(65,.int .i64 s)]) (fun s g=>[]) (fun s g=>[(Res.blk g1 56 [ha0A.v,.int .i64 a0.Throw,ha0B.v,ha0C.v,ha0D.v])]) 0 () [0] (u4 e) e e e ?_))))))))
 intro z31 q32 n35 k33 H34
 refine jqr 17 (jy (ZaD e e) e e (gz5 1 63 64 65 66 e (Zad (Zak (Zai e ?_ ?_)))))
 rotate_left
 ·refine ZaE (Za9 (Zbe (Zba ?_)))
  exact Zap H12 () () [0] (u1 e) e e e
 refine jks (Zak (Zao (jqr 18 (Za6 fun x36 h37=>jg_y (fun w hs=>ZaC e e (hs.arg Rha0_Commands) h37) e e (jg_y (fun w hs=>ZbJ e (hs.arg Rha0_Commands) h37.1 (l4 e) e) e e (ZaR (l4 e) e e fun g38=>Zav 0 e e e (l4 e) e e e e (l4 e) (r2 e) (gz5 1 8 63 64 65 e (jsr 19 (jy (Zab e) e e (jgl 0 e e e e e (Zbc e (fun v w hs hm=>ZcR hm ) e e fun v39=>jy (Zbl e) e e (Zac e e e (Zaq 73 e ?_ ?_)))))))))))))
 ·refine Zaa e e (Zaa e e (Zaa e e (Zaa e e (Zaa e e (Zaa e e (jy (Zah e e) e e (Zac e e e (Zaa e e (Zaa e e (Zaa e e (Zaa e e (jy (Zah e e) e e (Zac e e e (Zaa e e (Zaa e e (Zaa e e ?_))))))))))))))))
  refine Zaa e e (Zaa e e (Zaa e e (Zaa e e (Zaa e e (jy (Zah e e) e e (gz5 1 63 64 65 96 e (Zad (Zbo e (jqr 20 (Zaf e e e (gz1 2 e (ZaF (is:=[]) (s0 e) e (Zad (Zam (ZaI (Zaw (Zbd (ZaI (Zaw ?_)))))))))))))))))))
  exact Zaj e (fun w hs=>.tmp e) (fun w hs=>⟨e,hs.drop⟩)
 refine jy (Zab e) e e (jgl 1 e e e e e (jy (Zab e) e e (jgl 0 e e e e e (Zbc e (fun v w hs hm=>ZeE hm (hs.arg Rha0_Elements)) e e fun v40=>jy (Zbl e) e e (jy (Zae e e) e e (Zac e e e (Zaq 81 e ?_ ?_)))))))
 ·refine Zaa e e (Zaa e e (Zaa e e (Zaa e e (jy (Zah e e) e e (Zac e e e (Zaa e e (Zaa e e (Zaa e e (Zaa e e (Zaa e e (Zaa e e (Zaa e e (Zaa e e (jy (Zah e e) e e (gz5 1 63 64 65 96 e (Zad ?_))))))))))))))))
  refine Zbo e (jqr 20 (Zaf e e e (gz1 2 e (ZaF (is:=[]) (s0 e) e (Zad (Zam (ZaI (Zaw (Zbd (ZaI (Zaw ?_)))))))))))
  exact Zaj e (fun w hs=>.tmp e) (fun w hs=>⟨e,hs.drop⟩)
 refine jy (Zab e) e e (jgl 0 e e e e e (Zbc e (fun v w hs hm=>Zgf hm ) e e fun v41=>jy (Zbl e) e e (jy (Zae e e) e e (Zac e e e (Zaq 87 e ?_ ?_)))))
 ·refine Zaa e e (Zaa e e (Zaa e e (Zaa e e (Zaa e e (Zaa e e (Zaa e e (Zaa e e (jy (Zah e e) e e (gz5 1 63 64 65 96 e (Zad (Zbo e (jqr 20 (Zaf e e e (gz1 2 e (ZaF (is:=[]) (s0 e) e (Zad ?_))))))))))))))))
  refine Zam (ZaI (Zaw (Zbd (ZaI (Zaw ?_)))))
  exact Zaj e (fun w hs=>.tmp e) (fun w hs=>⟨e,hs.drop⟩)
 refine jy (Zab e) e e (jgl 0 e e e e e (jy (Zab e) e e (jgl 1 e e e e e (jg_y (fun w hs=>ZbY eha0_Cuts e (hs.arg Rha0_Cuts)) e e (Zc6 (fun w hs=>ZaZ e e) e e fun x42=>Zbc e (fun v w hs hm=>ZcR hm ) e e fun v43=>jy (Zbl e) e e (jy (Zae e e) e e (gz5 1 63 64 65 96 e (Zad (Zai e ?_ ?_)))))))))
 rotate_left
 ·refine ZaK (ZaG (Zad ?_))
  refine Zar 21 (jy (Zal e e) e e (Zac e e e (gz4 1 63 64 65 e (Zap H34 (w64 (z31 + 1)) () [1] (u4 e) e e e))))
 refine jqr 20 (Zaf e e e (gz1 2 e (ZaF (is:=[]) (s0 e) e (Zad (Zam (ZaI (Zaw (Zbd (ZaI (Zaw ?_))))))))))
 exact Zaj e (fun w hs=>.tmp e) (fun w hs=>⟨e,hs.drop⟩)
theorem Zev {w:World}{a0:Span}{a1:Span}  {v:Bool}(hm:ZcF a0 a1 = some v):Gives Tryz.prog 125 [.agg #[.int .i64 a0.Element,.int .i64 a0.Side,.int .i64 a0.From,.int .i64 a0.To],.agg #[.int .i64 a1.Element,.int .i64 a1.Side,.int .i64 a1.From,.int .i64 a1.To]] w (.bool v):=by
 refine Za4 (vs:=[.agg #[.int .i64 a0.Element,.int .i64 a0.Side,.int .i64 a0.From,.int .i64 a0.To],.agg #[.int .i64 a1.Element,.int .i64 a1.Side,.int .i64 a1.From,.int .i64 a1.To]]) (U:=fun (v:Bool)=>.bool v) Tryz.func125 e Tryz.ntmps125 e e hm ?_
 unfold ZcF
 clear hm
 refine jqr 0 (ZbD e (l4 e) e e fun g1=>ZbD e (l4 e) e e fun g2=>Zaf e e e (gz2 2 3 e (jsr 1 (jy (Zab e) e e (jgl 1 e e e e e (jy (Zab e) e e (jgl 0 e e e e e (jy (ZaD e e) e e (Zac e e e (Zaq 10 e ?_ ?_))))))))))
 ·refine jy (Zab e) e e (jgl 0 e e e e e (jy (Zab e) e e (jgl 1 e e e e e (jy (ZaD e e) e e (jy (Zah e e) e e (Zaf e e e (gz1 4 e (ZaF (is:=[]) (s0 e) e (Zad (Zam (Zaj e (fun w hs=>.tmp e) (fun w hs=>⟨e,hs.drop⟩))))))))))))
 refine Zaa e e (Zaa e e (Zaa e e (Zaa e e (Zaa e e (jy (Zae e e) e e (Zaf e e e (gz1 4 e (ZaF (is:=[]) (s0 e) e (Zad (Zam (Zaj e (fun w hs=>.tmp e) (fun w hs=>⟨e,hs.drop⟩))))))))))))
theorem Zfh {w:World}{a0:HumpPush}{a1:Span}{b0:Nat}{ha0A:Hd}{ha0B:Hd}{ha0C:Hd}{ha0D:Hd}{qa0D:List (Rolling×(Hd×Hd))}{ga0_fstart:Nat}{ga0_fdone:Nat}{qa0E:List (Ent Command)}{ha0F:Hd}{qa0F:List (Ride×Hd)}{ha0G:Hd}{v:Int}(hm:Zcn a0 a1 = some v) (Rha0_fs_Elements:Sl w ha0A Element.enc a0.fs.Elements) (Rha0_fs_Start:Sl w ha0B Throw.enc a0.fs.Start) (Rha0_fs_Commands:Sl w ha0C Command.enc a0.fs.Commands) (Rha0_fincidents:Sl w ha0G Incident.enc a0.fincidents) (eha0_fs_Cuts:qa0D.map (·.1) = a0.fs.Cuts) (Rha0_fs_Cuts:Sl w ha0D Nt.enc qa0D) (Dha0_fs_Cuts:∀ p∈qa0D,rdN w p) (eha0_frides:qa0F.map (·.1) = a0.frides) (Rha0_frides:Sl w ha0F Nt.enc qa0F) (Dha0_frides:∀ p∈qa0F,rdN w p) (Hga0_fstart:MapVAt w ga0_fstart keyP valP a0.fstart) (Hga0_fdone:MapVAt w ga0_fdone keyE valE qa0E) (Hga0_fdoneK:KF qa0E a0.fdone) (Hga0_fdoneD:∀ x∈qa0E,(rowE 132 4 Command.enc x).rd w) (Hp0:Blk w b0 185 [ha0A.v,.int .i64 a0.fs.Throw,ha0B.v,ha0C.v,ha0D.v,.map (some ga0_fstart),.map (some ga0_fdone),ha0F.v,ha0G.v]):Gives Tryz.prog 120 [.pointer (some ⟨b0,0,none⟩),.agg #[.int .i64 a1.Element,.int .i64 a1.Side,.int .i64 a1.From,.int .i64 a1.To]] w (.int .i64 v):=by
 refine Za4 (vs:=[.pointer (some ⟨b0,0,none⟩),.agg #[.int .i64 a1.Element,.int .i64 a1.Side,.int .i64 a1.From,.int .i64 a1.To]]) (U:=fun (v:Int)=>.int .i64 v) Tryz.func120 e Tryz.ntmps120 e e hm ?_
 unfold Zcn
 clear hm
 refine jqr 0 (ZbD e (l4 e) e e fun g1=>Zaf e e e (gz2 0 3 e (Zad (Zak (jqr 1 (Zac e e e (jy (Zbg e) e e (jy (Zab e) e e (jg_y (fun w hs=>ZaJ e (ld1B (hs.argb Hp0) e)) e e (jg_y (fun w hs=>ZbY eha0_frides e (hs.arg Rha0_frides)) e e (Zac e e e (gz4 3 12 13 14 e (Zad (Zao (Zbj (n:=big) (fun (s:Int) (g:Unit)=>[(3,.pointer (some ⟨g1,0,none⟩)),(12,ha0F.v),(13,.int .i64 (a0.frides.length:Int)),(14,.int .i64 s)]) (fun s g=>[]) (fun s g=>[(Res.blk g1 139 [.int .i64 a1.Element,.int .i64 a1.Side,.int .i64 a1.From,.int .i64 a1.To])]) 0 () [0] (u4 e) e e e ?_)))))))))))))))
 intro z2 q3 n6 k4 H5
 refine jqr 2 (jy (ZaD e e) e e (gz5 3 12 13 14 15 e (Zad (Zak (Zai e ?_ ?_)))))
 rotate_left
 ·refine ZaE (Za9 (Zbe (Zba (Zad ?_))))
  refine jqr 11 (Zaf e e e (gz1 4 e (Zad (Zam (Zaj e (fun w hs=>.tmp e) (fun w hs=>⟨e,hs.drop⟩))))))
 refine jks (Zak (Zao (jqr 3 (Zac e e e (ZcM (fun w hs=>eha0_frides) fun x7 d9 h8=>?_)))))
 have Rr10:=(Dha0_frides _ (List.mem_of_getElem? h8.1)).sl (.head _)
 refine jg_y (fun w hs=>ZaC e e (hs.arg Rha0_frides) h8) e e (jg_y (fun w hs=>ZbJ e (hs.arg Rha0_frides) h8.1 (l2 e) e) e e (ZaR (l2 e) e e fun g11=>Zaf e e e (Zav 0 e e e (l2 e) e e e e (l2 e) (r2 e) (gz6 3 5 6 12 13 14 e (jsr 4 (jy (Zab e) e e (jgl 0 e e e e e (jg_y (fun w hs=>ZaV e (hs.arg Rr10)) e e (Zac e e e (gz8 3 5 12 13 14 20 21 22 e (Zad (Zao (Zbj (n:=big) (fun (s:Int) (g:Unit)=>[(3,.pointer (some ⟨g1,0,none⟩)),(5,.int .i64 z2),(12,ha0F.v),(13,.int .i64 (a0.frides.length:Int)),(14,.int .i64 z2),(20,d9.v),(21,.int .i64 (x7.Spans.length:Int)),(22,.int .i64 s)]) (fun s g=>[]) (fun s g=>[(Res.blk g1 139 [.int .i64 a1.Element,.int .i64 a1.Side,.int .i64 a1.From,.int .i64 a1.To])]) 0 () [1] (u8 e) e e e ?_)))))))))))))
 intro z12 q13 n16 k14 H15
 refine jqr 5 (jy (ZaD e e) e e (gz9 3 5 12 13 14 20 21 22 23 e (Zad (Zak (Zai e ?_ ?_)))))
 rotate_left
 ·refine ZaE (Za9 (Zbe (Zba (ZaG (Zad ?_)))))
  refine Zar 10 (jy (Zal e e) e e (Zac e e e (gz4 3 12 13 14 e (Zap H5 (w64 (z2 + 1)) () [0] (u4 e) e e e))))
 refine jks (Zak (Zao (jqr 6 (Za6 fun x17 h18=>jg_y (fun w hs=>ZaC e e (hs.arg Rr10) h18) e e (jg_y (fun w hs=>ZbJ e (hs.arg Rr10) h18.1 (l4 e) e) e e (ZaR (l4 e) e e fun g19=>Zav 0 e e e (l4 e) e e e e (l4 e) (r2 e) (gz9 3 5 8 12 13 14 20 21 22 e (jsr 7 (jy (Zab e) e e (jgl 1 e e e e e (jy (Zab e) e e (jgl 0 e e e e e (jy (ZaL e e) e e (Zac e e e ?_))))))))))))))
 refine Zaq 31 e ?_ ?_
 rotate_left
 ·refine Zaa e e (Zaa e e (Zaa e e (jy (Zae e e) e e (gz9 3 5 12 13 14 20 21 22 35 e (Zad (ZdC e (ZaK (ZaG (Zad ?_)))))))))
  refine Zar 9 (jy (Zal e e) e e (Zac e e e (gz8 3 5 12 13 14 20 21 22 e (Zap H15 (w64 (z12 + 1)) () [1] (u8 e) e e e))))
 refine jg_y (fun w hs=>ZaJ e (ldBB (hs.blkL (i:=1) e) e)) e e (jg_y (fun w hs=>ZaJ e (ldBB (hs.blkL (i:=0) e) e)) e e (Zbc e (fun v w hs hm=>Zev (a0:=a1) (a1:=x17) hm ) e e fun v20=>jy (Zah e e) e e (gz9 3 5 12 13 14 20 21 22 35 e (Zad (Zai e ?_ ?_)))))
 rotate_left
 ·refine ZaK (ZaG (Zad ?_))
  refine Zar 9 (jy (Zal e e) e e (Zac e e e (gz8 3 5 12 13 14 20 21 22 e (Zap H15 (w64 (z12 + 1)) () [1] (u8 e) e e e))))
 refine jqr 8 (Zac e e e (Zaf e e e (gz1 4 e (ZaF (is:=[]) (s0 e) e (Zad (Zam (ZaI (Zaw (Zbd (ZaI (ZaI (Zaw (Zbd (ZaI (Zaw ?_)))))))))))))))
 exact Zaj e (fun w hs=>.tmp e) (fun w hs=>⟨e,hs.drop⟩)
theorem Ze3 {w:World}{a0:HumpPush}{a1:Command}{b0:Nat}{ha0A:Hd}{ha0B:Hd}{ha0C:Hd}{ha0D:Hd}{qa0D:List (Rolling×(Hd×Hd))}{ga0_fstart:Nat}{ga0_fdone:Nat}{qa0E:List (Ent Command)}{ha0F:Hd}{qa0F:List (Ride×Hd)}{ha0G:Hd}{v:Bool}(hm:Zcd a0 a1 = some v) (Rha0_fs_Elements:Sl w ha0A Element.enc a0.fs.Elements) (Rha0_fs_Start:Sl w ha0B Throw.enc a0.fs.Start) (Rha0_fs_Commands:Sl w ha0C Command.enc a0.fs.Commands) (Rha0_fincidents:Sl w ha0G Incident.enc a0.fincidents) (eha0_fs_Cuts:qa0D.map (·.1) = a0.fs.Cuts) (Rha0_fs_Cuts:Sl w ha0D Nt.enc qa0D) (Dha0_fs_Cuts:∀ p∈qa0D,rdN w p) (eha0_frides:qa0F.map (·.1) = a0.frides) (Rha0_frides:Sl w ha0F Nt.enc qa0F) (Dha0_frides:∀ p∈qa0F,rdN w p) (Hga0_fstart:MapVAt w ga0_fstart keyP valP a0.fstart) (Hga0_fdone:MapVAt w ga0_fdone keyE valE qa0E) (Hga0_fdoneK:KF qa0E a0.fdone) (Hga0_fdoneD:∀ x∈qa0E,(rowE 132 4 Command.enc x).rd w) (Hp0:Blk w b0 185 [ha0A.v,.int .i64 a0.fs.Throw,ha0B.v,ha0C.v,ha0D.v,.map (some ga0_fstart),.map (some ga0_fdone),ha0F.v,ha0G.v]):Gives Tryz.prog 121 [.pointer (some ⟨b0,0,none⟩),.agg #[.int .i64 a1.Time,.int .i64 a1.Element,.int .i64 a1.Side,.int .i64 a1.Cut]] w (.bool v):=by
 refine Za4 (vs:=[.pointer (some ⟨b0,0,none⟩),.agg #[.int .i64 a1.Time,.int .i64 a1.Element,.int .i64 a1.Side,.int .i64 a1.Cut]]) (U:=fun (v:Bool)=>.bool v) Tryz.func121 e Tryz.ntmps121 e e hm ?_
 unfold Zcd
 clear hm
 refine jqr 0 (ZbD e (l4 e) e e fun g1=>Zaf e e e (gz2 0 3 e (Zad (Zak (Zak (jdr (L':=[_]) 1 [0] [0,1,2,3,4,5,6,7,8] 511 511 [0,1,2,4,0,16,40,64,0] [0,1,3,7,0,16,63,127,0] [(0,true),(1,true),(2,true),(3,true),(4,true),(5,true),(6,true),(7,true),(8,true)] e (Zas (Zas Zbb)) (Zau e e e e (jdy e (Zbg e) e e (jdy e (Zab e) e e (jd_y e (fun w hs=>ZaJ e (ld1B (hs.argb Hp0) e)) e e (jdy e (Zab e) e e (jdl 0 e e e e e e (jd_y e (fun w hs=>Zg2 e e (hs.argV Hga0_fdone)) e e (ZdP e (fun w hs=>ZaV e (ZdF Hga0_fdoneK.1 (hs.argE Hga0_fdoneD) a1.Element)) e e fun x2=>Zau e e e e ?_))))))))))))))
 refine ZaU [(0,_),(3,_),(13,_),(14,_),(15,_)] ⟨e,e,e,e,e,trivial⟩ (Zad (Zao (Zbj (n:=big) (fun (s:Int) (g:Unit)=>[(0,.pointer (some ⟨b0,0,none⟩)),(3,.pointer (some ⟨g1,0,none⟩)),(13,(hdOf a1.Element qa0E).v),(14,.int .i64 x2),(15,.int .i64 s)]) (fun s g=>[]) (fun s g=>[(Res.blk g1 132 [.int .i64 a1.Time,.int .i64 a1.Element,.int .i64 a1.Side,.int .i64 a1.Cut])]) 0 () [0] (u5 e) e e e ?_)))
 intro z3 q4 n7 k5 H6
 refine jqr 2 (jy (ZaD e e) e e (gz6 0 3 13 14 15 16 e (Zad (Zak (Zai e ?_ ?_)))))
 rotate_left
 ·refine ZaE (Za9 (Zbe (Zba (Zad ?_))))
  refine jqr 7 (Zaf e e e (gz1 4 e (Zad (Zam (Zaj e (fun w hs=>.tmp e) (fun w hs=>⟨e,hs.drop⟩))))))
 refine jks (Zak (Zao (jqr 3 (Za6 fun x8 h9=>jg_y (fun w hs=>ZaC e e (ZdF Hga0_fdoneK.1 (hs.argE Hga0_fdoneD) a1.Element) h9) e e (jg_y (fun w hs=>ZbJ e (ZdF Hga0_fdoneK.1 (hs.argE Hga0_fdoneD) a1.Element) h9.1 (l4 e) e) e e (ZaR (l4 e) e e fun g10=>Zav 0 e e e (l4 e) e e e e (l4 e) (r2 e) (gz6 0 3 6 13 14 15 e (Zad (Zak (jdr (L':=[_,_]) 4 [0,1] [0,1,2,3,4,5,6,7,8,9,10] 2047 2047 [0,1,0,4,8,16,32,66,0,256,640] [0,1,0,4,12,28,60,127,0,256,1023] [(0,true),(1,true),(2,true),(3,true),(4,true),(5,true),(6,true),(7,true),(8,true),(9,true),(10,true)] e (Zas (Zay (Zas (Za0 (Zay (Zas Zbb)))))) (jdy e (Zab e) e e (jdl 0 e e e e e e (Zau e e e e (jdy e (Zbg e) e e ?_))))))))))))))
 refine jdy e (Zab e) e e (jdy e (Zab e) e e (jd_y e (fun w hs=>ZaJ e (ld1B (hs.argb Hp0) e)) e e (jdy e (Zal e e) e e (jdy e (Zab e) e e (jdl 1 e e e e e e (jdy e (Zbh e e) e e (ZaU [(0,_),(3,_),(13,_),(14,_),(15,_),(29,_)] ⟨e,e,e,e,e,e,trivial⟩ (Zad (Zai e ?_ ?_)))))))))
 rotate_left
 ·refine ZaK (ZaG (Zad ?_))
  refine Zar 6 (jy (Zal e e) e e (Zac e e e (gz5 0 3 13 14 15 e (Zap H6 (w64 (z3 + 1)) () [1] (u5 e) e e e))))
 refine jqr 5 (Zac e e e (jy (Zbg e) e e (jy (Zab e) e e (jy (Zab e) e e (jg_y (fun w hs=>ZaJ e (ld1B (hs.argb Hp0) e)) e e (jy (Zbh e e) e e (Zaf e e e (gz1 4 e (ZaF (is:=[]) (s0 e) e (Zad (Zam (ZaI (Zaw (Zbd (ZaI (Zaw ?_))))))))))))))))
 exact Zaj e (fun w hs=>.tmp e) (fun w hs=>⟨e,hs.drop⟩)
theorem Zfp {w:World}{a0:(List Element)}{a1:Int}{a2:Int}{ha0:Hd}{v:Int}(hm:Zdf a0 a1 a2 = some v) (Rha0:Sl w ha0 Element.enc a0):Gives Tryz.prog 149 [ha0.v,.int .i64 a1,.int .i64 a2] w (.int .i64 v):=by
 refine Za4 (vs:=[ha0.v,.int .i64 a1,.int .i64 a2]) (U:=fun (v:Int)=>.int .i64 v) Tryz.func149 e Tryz.ntmps149 e e hm ?_
 unfold Zdf
 clear hm
 refine jqr 0 (Zaf e e e (gz3 0 1 2 e (Zad (Zak (jqr 1 (Zac e e e (jg_y (fun w hs=>ZaV e (hs.arg Rha0)) e e (Zac e e e (gz5 1 2 9 10 11 e (Zad (Zao (Zbj (n:=big) (fun (s:Int) (g:Unit)=>[(1,.int .i64 a1),(2,.int .i64 a2),(9,ha0.v),(10,.int .i64 (a0.length:Int)),(11,.int .i64 s)]) (fun s g=>[]) (fun s g=>[]) 0 () [] (u5 e) e e e ?_))))))))))))
 intro z1 q2 n5 k3 H4
 refine jqr 2 (jy (ZaD e e) e e (gz6 1 2 9 10 11 12 e (Zad (Zak (Zai e ?_ ?_)))))
 rotate_left
 ·refine ZaE (Za9 (Zbe (Zba (Zad ?_))))
  refine jqr 7 (Zaf e e e (gz1 6 e (Zad (Zam (Zaj e (fun w hs=>.tmp e) (fun w hs=>⟨e,hs.drop⟩))))))
 refine jks (Zak (Zao (jqr 3 (Zac e e e (Za6 fun x6 h7=>jg_y (fun w hs=>ZaC e e (hs.arg Rha0) h7) e e (jg_y (fun w hs=>ZbJ e (hs.arg Rha0) h7.1 (l8 e) e) e e (ZaR (l8 e) e e fun g8=>Zaf e e e (Zav 0 e e e (l8 e) e e e e (l8 e) (r1 e) (gz7 1 2 7 8 9 10 11 e (jsr 4 (jy (Zab e) e e (jgl 0 e e e e e (jy (Zbt e e) e e (Zac e e e ?_))))))))))))))
 refine Zaq 19 e ?_ ?_
 rotate_left
 ·refine Zaa e e (Zaa e e (Zaa e e (Zaa e e (jy (Zae e e) e e (Zac e e e (Zaa e e (Zaa e e (Zaa e e (Zaa e e (jy (Zae e e) e e (gz7 1 2 7 9 10 11 30 e (Zad (ZdC e (ZaK (ZaG (Zad ?_))))))))))))))))
  refine Zar 6 (jy (Zal e e) e e (Zac e e e (gz5 1 2 9 10 11 e (Zap H4 (w64 (z1 + 1)) () [] (u5 e) e e e))))
 refine jy (Zab e) e e (jgl 0 e e e e e (Zac e e e (jy (ZaL e e) e e (jy (Zah e e) e e (Zac e e e (Zaq 25 e ?_ ?_))))))
 rotate_left
 ·refine Zaa e e (Zaa e e (Zaa e e (Zaa e e (jy (Zae e e) e e (gz7 1 2 7 9 10 11 30 e (Zad (ZdC e (ZaK (ZaG (Zad ?_))))))))))
  refine Zar 6 (jy (Zal e e) e e (Zac e e e (gz5 1 2 9 10 11 e (Zap H4 (w64 (z1 + 1)) () [] (u5 e) e e e))))
 refine jy (Zab e) e e (jgl 0 e e e e e (Zac e e e (jy (ZaL e e) e e (jy (Zah e e) e e (gz7 1 2 7 9 10 11 30 e (Zad (Zai e ?_ ?_)))))))
 rotate_left
 ·refine ZaK (ZaG (Zad ?_))
  refine Zar 6 (jy (Zal e e) e e (Zac e e e (gz5 1 2 9 10 11 e (Zap H4 (w64 (z1 + 1)) () [] (u5 e) e e e))))
 refine jqr 5 (Zac e e e (Zaf e e e (gz1 6 e (Zad (Zam (ZaI (Zaw (Zbd (ZaI (Zaw ?_))))))))))
 exact Zaj e (fun w hs=>.tmp e) (fun w hs=>⟨e,hs.drop⟩)
theorem Zci {w:World}{a0:Int}{a1:Int}{a2:Int}  {v:Bool}(hm:Zb9 a0 a1 a2 = some v):Gives Tryz.prog 22 [.int .i64 a0,.int .i64 a1,.int .i64 a2] w (.bool v):=by
 refine Za4 (vs:=[.int .i64 a0,.int .i64 a1,.int .i64 a2]) (U:=fun (v:Bool)=>.bool v) Tryz.func22 e Tryz.ntmps22 e e hm ?_
 unfold Zb9
 clear hm
 refine jqr 0 (Zaf e e e (gz3 0 1 2 e (jsr 1 (Zac e e e (Zac e e e (jy (Zbv e e) e e (Zac e e e (Zaq 10 e ?_ ?_))))))))
 ·refine Zac e e e (Zac e e e (jy (ZbR e e) e e (jy (Zah e e) e e (Zaf e e e (gz1 6 e (Zad (Zam (Zaj e (fun w hs=>.tmp e) (fun w hs=>⟨e,hs.drop⟩)))))))))
 refine Zaa e e (Zaa e e (Zaa e e (jy (Zae e e) e e (Zaf e e e (gz1 6 e (Zad (Zam (Zaj e (fun w hs=>.tmp e) (fun w hs=>⟨e,hs.drop⟩)))))))))
theorem Zet {w:World}{a0:(List Piece)}{ha0:Hd}{v:Int}(hm:Zb6 a0 = some v) (Rha0:Sl w ha0 Piece.enc a0):Gives Tryz.prog 20 [ha0.v] w (.int .i64 v):=by
 refine Za4 (vs:=[ha0.v]) (U:=fun (v:Int)=>.int .i64 v) Tryz.func20 e Tryz.ntmps20 e e hm ?_
 unfold Zb6
 clear hm
 refine jqr 0 (Zaf e e e (gz1 0 e (Zad (Zak (jqr 1 (Zac e e e (jg_y (fun w hs=>ZaV e (hs.arg Rha0)) e e (jy (ZaD e e) e e (Zac e e e (Zaq 8 e ?_ ?_))))))))))
 ·refine Zaa e e (Zaa e e (Zaa e e (jy (Zah e e) e e (gz2 0 12 e (Zad (Zbo e (jqr 2 (Zaf e e e (gz1 2 e (Zad (Zam (Zaw (Zaj e (fun w hs=>.tmp e) (fun w hs=>⟨e,hs.drop⟩))))))))))))))
 refine Zac e e e (jg_y (fun w hs=>ZaV e (hs.arg Rha0)) e e (jy (Zbh e e) e e (jy (Zae e e) e e (gz2 0 12 e (Zad (Zai e ?_ ?_))))))
 ·refine jqr 2 (Zaf e e e (gz1 2 e (Zad (Zam (Zaw (Zaj e (fun w hs=>.tmp e) (fun w hs=>⟨e,hs.drop⟩)))))))
 refine jks (Zak (jqr 3 (Zac e e e (jg_y (fun w hs=>ZaV e (hs.arg Rha0)) e e (Zac e e e (gz3 13 14 15 e (Zad (Zao (Zbj (n:=big) (fun (s:Int) (g:Unit)=>[(13,ha0.v),(14,.int .i64 (a0.length:Int)),(15,.int .i64 s)]) (fun s g=>[]) (fun s g=>[]) 0 () [] (u3 e) e e e ?_)))))))))
 intro z1 q2 n5 k3 H4
 refine jqr 4 (jy (ZaD e e) e e (gz4 13 14 15 16 e (Zad (Zak (Zai e ?_ ?_)))))
 rotate_left
 ·refine ZaE (Za9 (Zbe (Zba (Zad ?_))))
  refine jqr 9 (Zaf e e e (gz1 2 e (Zad (Zam (Zaj e (fun w hs=>.tmp e) (fun w hs=>⟨e,hs.drop⟩))))))
 refine jks (Zak (Zao (jqr 5 (Za6 fun x6 h7=>jg_y (fun w hs=>ZaC e e (hs.arg Rha0) h7) e e (jg_y (fun w hs=>ZbJ e (hs.arg Rha0) h7.1 (l5 e) e) e e (ZaR (l5 e) e e fun g8=>Zav 0 e e e (l5 e) e e e e (l5 e) (r1 e) (gz4 4 13 14 15 e (jsr 6 (jy (Zab e) e e (jgl 0 e e e e e (Zbc e (fun v w hs hm=>Zci hm ) e e fun v9=>jy (Zbl e) e e (Zac e e e (Zaq 23 e ?_ ?_)))))))))))))
 ·refine Zaa e e (Zaa e e (Zaa e e (Zaa e e (jy (Zah e e) e e (Zac e e e (Zaa e e (Zaa e e (Zaa e e (Zaa e e (jy (Zah e e) e e (Zac e e e (Zaa e e (Zaa e e (Zaa e e (Zaa e e (jy (Zah e e) e e ?_))))))))))))))))
  refine Zac e e e (Zaa e e (Zaa e e (Zaa e e (Zaa e e (jy (Zah e e) e e (gz4 13 14 15 46 e (Zad (Zbo e (jqr 7 (Zaf e e e (gz1 2 e (Zad (Zam (ZaI (Zaw (Zbd (ZaI (Zaw ?_))))))))))))))))))
  exact Zaj e (fun w hs=>.tmp e) (fun w hs=>⟨e,hs.drop⟩)
 refine jy (Zab e) e e (jgl 0 e e e e e (Zbc e (fun v w hs hm=>Zci hm ) e e fun v10=>jy (Zbl e) e e (jy (Zae e e) e e (Zac e e e (Zaq 29 e ?_ ?_)))))
 ·refine Zaa e e (Zaa e e (Zaa e e (Zaa e e (jy (Zah e e) e e (Zac e e e (Zaa e e (Zaa e e (Zaa e e (Zaa e e (jy (Zah e e) e e (Zac e e e (Zaa e e (Zaa e e (Zaa e e (Zaa e e (jy (Zah e e) e e ?_))))))))))))))))
  refine gz4 13 14 15 46 e (Zad (Zbo e (jqr 7 (Zaf e e e (gz1 2 e (Zad (Zam (ZaI (Zaw (Zbd (ZaI (Zaw ?_))))))))))))
  exact Zaj e (fun w hs=>.tmp e) (fun w hs=>⟨e,hs.drop⟩)
 refine jy (Zab e) e e (jgl 0 e e e e e (Zbc e (fun v w hs hm=>Zci hm ) e e fun v11=>jy (Zbl e) e e (jy (Zae e e) e e (Zac e e e (Zaq 35 e ?_ ?_)))))
 ·refine Zaa e e (Zaa e e (Zaa e e (Zaa e e (jy (Zah e e) e e (Zac e e e (Zaa e e (Zaa e e (Zaa e e (Zaa e e (jy (Zah e e) e e (gz4 13 14 15 46 e (Zad (Zbo e (jqr 7 (Zaf e e e (gz1 2 e ?_))))))))))))))))
  refine Zad (Zam (ZaI (Zaw (Zbd (ZaI (Zaw ?_))))))
  exact Zaj e (fun w hs=>.tmp e) (fun w hs=>⟨e,hs.drop⟩)
 refine jy (Zab e) e e (jgl 0 e e e e e (Zbc e (fun v w hs hm=>Zci hm ) e e fun v12=>jy (Zbl e) e e (jy (Zae e e) e e (Zac e e e (Zaq 41 e ?_ ?_)))))
 ·refine Zaa e e (Zaa e e (Zaa e e (Zaa e e (jy (Zah e e) e e (gz4 13 14 15 46 e (Zad (Zbo e (jqr 7 (Zaf e e e (gz1 2 e (Zad (Zam (ZaI (Zaw (Zbd (ZaI (Zaw ?_)))))))))))))))))
  exact Zaj e (fun w hs=>.tmp e) (fun w hs=>⟨e,hs.drop⟩)
 refine jy (Zab e) e e (jgl 0 e e e e e (Zbc e (fun v w hs hm=>Zci hm ) e e fun v13=>jy (Zbl e) e e (jy (Zae e e) e e (gz4 13 14 15 46 e (Zad (Zai e ?_ ?_))))))
 rotate_left
 ·refine ZaK (ZaG (Zad ?_))
  refine Zar 8 (jy (Zal e e) e e (Zac e e e (gz3 13 14 15 e (Zap H4 (w64 (z1 + 1)) () [] (u3 e) e e e))))
 refine jqr 7 (Zaf e e e (gz1 2 e (Zad (Zam (ZaI (Zaw (Zbd (ZaI (Zaw ?_)))))))))
 exact Zaj e (fun w hs=>.tmp e) (fun w hs=>⟨e,hs.drop⟩)
theorem ZeN {w:World}{a0:(List Piece)}{ha0:Hd}{v:Int}(hm:Zb8 a0 = some v) (Rha0:Sl w ha0 Piece.enc a0):Gives Tryz.prog 21 [ha0.v] w (.int .i64 v):=by
 refine Za4 (vs:=[ha0.v]) (U:=fun (v:Int)=>.int .i64 v) Tryz.func21 e Tryz.ntmps21 e e hm ?_
 unfold Zb8
 clear hm
 refine jqr 0 (Zaf e e e (gz1 0 e (jsr 1 (Zaf e e e (gz2 0 3 e (Zad (Zak (jqr 2 (Zac e e e (jg_y (fun w hs=>ZaV e (hs.arg Rha0)) e e (Zac e e e (gz4 3 6 7 8 e (Zad (Zao (Zbj (n:=big) (fun (s:(Int×Int)) (g:Unit)=>[(3,.int .i64 s.1),(6,ha0.v),(7,.int .i64 (a0.length:Int)),(8,.int .i64 s.2)]) (fun s g=>[]) (fun s g=>[]) (0,0) () [] (u4 e) e e e ?_)))))))))))))))
 intro z1 q2 n5 k3 H4
 refine jqr 3 (jy (ZaD e e) e e (gz5 3 6 7 8 9 e (Zad (Zak (Zai e ?_ ?_)))))
 rotate_left
 ·refine ZaE (Za9 (Zbe (Zba (Zad ?_))))
  refine jqr 8 (Zac e e e (Zaf e e e (gz1 2 e (Zad (Zam (Zaj e (fun w hs=>.tmp e) (fun w hs=>⟨e,hs.drop⟩)))))))
 refine jks (Zak (Zao (jqr 4 (Za6 fun x6 h7=>jg_y (fun w hs=>ZaC e e (hs.arg Rha0) h7) e e (jg_y (fun w hs=>ZbJ e (hs.arg Rha0) h7.1 (l5 e) e) e e (ZaR (l5 e) e e fun g8=>Zav 0 e e e (l5 e) e e e e (l5 e) (r1 e) (gz5 3 5 6 7 8 e (jsr 5 (jy (Zab e) e e (jgl 0 e e e e e (jy (Zbh e e) e e (gz5 3 6 7 8 14 e (Zad (Zai e ?_ ?_))))))))))))))
 rotate_left
 ·refine ZaK (ZaG (Zad ?_))
  refine Zar 7 (jy (Zal e e) e e (Zac e e e (gz4 3 6 7 8 e (Zap H4 (z1.1,w64 (z1.2 + 1)) () [] (u4 e) e e e))))
 refine Zar 6 (Zac e e e (jy (Zal e e) e e (Zaf e e e (gz4 3 6 7 8 e (ZaG (Zad ?_))))))
 refine Zar 7 (jy (Zal e e) e e (Zac e e e (gz4 3 6 7 8 e (Zap H4 (w64 (z1.1 + 1),w64 (z1.2 + 1)) () [] (u4 e) e e e))))
theorem Zfs {w:World}{a0:(List Int)}{ha0:Hd}{v:Bool}(hm:ZbW a0 = some v) (Rha0:Sl w ha0 encI a0):Gives Tryz.prog 23 [ha0.v] w (.bool v):=by
 refine Za4 (vs:=[ha0.v]) (U:=fun (v:Bool)=>.bool v) Tryz.func23 e Tryz.ntmps23 e e hm ?_
 unfold ZbW
 clear hm
 refine jqr 0 (Zaf e e e (gz1 0 e (Zad (Zak (jqr 1 (Zac e e e (jg_y (fun w hs=>ZaV e (hs.arg Rha0)) e e (Zac e e e (gz3 5 6 7 e (Zad (Zao (Zbj (n:=big) (fun (s:Int) (g:Unit)=>[(5,ha0.v),(6,.int .i64 (a0.length:Int)),(7,.int .i64 s)]) (fun s g=>[]) (fun s g=>[]) 0 () [] (u3 e) e e e ?_))))))))))))
 intro z1 q2 n5 k3 H4
 refine jqr 2 (jy (ZaD e e) e e (gz4 5 6 7 8 e (Zad (Zak (Zai e ?_ ?_)))))
 rotate_left
 ·refine ZaE (Za9 (Zbe (Zba (Zad ?_))))
  refine jqr 7 (Zaf e e e (gz1 2 e (Zad (Zam (Zaj e (fun w hs=>.tmp e) (fun w hs=>⟨e,hs.drop⟩))))))
 refine jks (Zak (Zao (jqr 3 (Za6 fun x6 h7=>jg_y (fun w hs=>ZaC e e (hs.arg Rha0) h7) e e (jg_y (fun w hs=>ZaQ e (hs.arg Rha0) h7.1 e) e e (Zaf e e e (gz4 4 5 6 7 e (jsr 4 (Zac e e e (Zbc e (fun v w hs hm=>Zci hm ) e e fun v8=>jy (Zbl e) e e (gz4 5 6 7 13 e (Zad (Zai e ?_ ?_)))))))))))))
 rotate_left
 ·refine ZaK (ZaG (Zad ?_))
  refine Zar 6 (jy (Zal e e) e e (Zac e e e (gz3 5 6 7 e (Zap H4 (w64 (z1 + 1)) () [] (u3 e) e e e))))
 refine jqr 5 (Zaf e e e (gz1 2 e (Zad (Zam (ZaI (Zaw (Zbd (ZaI (Zaw ?_)))))))))
 exact Zaj e (fun w hs=>.tmp e) (fun w hs=>⟨e,hs.drop⟩)
theorem Zcq {w:World}{a0:Int}  {v:Bool}(hm:ZbO a0 = some v):Gives Tryz.prog 96 [.int .i64 a0] w (.bool v):=by
 refine Za4 (vs:=[.int .i64 a0]) (U:=fun (v:Bool)=>.bool v) Tryz.func96 e Tryz.ntmps96 e e hm ?_
 unfold ZbO
 clear hm
 refine jqr 0 (Zaf e e e (gz1 0 e (jsr 1 (Zac e e e (jy (Zbv e e) e e (Zac e e e (Zaq 5 e ?_ ?_)))))))
 ·refine Zac e e e (jy (ZbR e e) e e (jy (Zah e e) e e (Zaf e e e (gz1 2 e (Zad (Zam (Zaj e (fun w hs=>.tmp e) (fun w hs=>⟨e,hs.drop⟩))))))))
 refine Zaa e e (Zaa e e (jy (Zae e e) e e (Zaf e e e (gz1 2 e (Zad (Zam (Zaj e (fun w hs=>.tmp e) (fun w hs=>⟨e,hs.drop⟩))))))))
theorem Zfu {w:World}{a0:Interval}  {v:Bool}(hm:Zcv a0 = some v):Gives Tryz.prog 93 [.agg #[.int .i64 a0.Lo,.int .i64 a0.Hi]] w (.bool v):=by
 refine Za4 (vs:=[.agg #[.int .i64 a0.Lo,.int .i64 a0.Hi]]) (U:=fun (v:Bool)=>.bool v) Tryz.func93 e Tryz.ntmps93 e e hm ?_
 unfold Zcv
 clear hm
 refine jqr 0 (ZbD e (l2 e) e e fun g1=>Zaf e e e (gz1 1 e (jsr 1 (jy (Zab e) e e (jgl 0 e e e e e (jy (Zab e) e e (jgl 0 e e e e e (jy (ZbR e e) e e (Zac e e e (Zaq 8 e ?_ ?_))))))))))
 rotate_left
 ·refine Zaa e e (Zaa e e (Zaa e e (jy (Zae e e) e e (Zac e e e (Zaa e e (Zaa e e (Zaa e e (jy (Zae e e) e e (Zaf e e e (gz1 2 e (Zad (Zam (Zaj e (fun w hs=>.tmp e) (fun w hs=>⟨e,hs.drop⟩))))))))))))))
 refine jy (Zab e) e e (jgl 0 e e e e e (Zbc e (fun v w hs hm=>Zcq hm ) e e fun v2=>jy (Zah e e) e e (Zac e e e (Zaq 13 e ?_ ?_))))
 ·refine jy (Zab e) e e (jgl 0 e e e e e (Zbc e (fun v w hs hm=>Zcq hm ) e e fun v3=>jy (Zah e e) e e (Zaf e e e (gz1 2 e (Zad (Zam (Zaj e (fun w hs=>.tmp e) (fun w hs=>⟨e,hs.drop⟩))))))))
 refine Zaa e e (Zaa e e (Zaa e e (jy (Zae e e) e e (Zaf e e e (gz1 2 e (Zad (Zam (Zaj e (fun w hs=>.tmp e) (fun w hs=>⟨e,hs.drop⟩)))))))))
theorem Zd7 {w:World}{a0:Int}  {v:Int}(hm:Zcp a0 = some v):Gives Tryz.prog 94 [.int .i64 a0] w (.int .i64 v):=by
 refine Za4 (vs:=[.int .i64 a0]) (U:=fun (v:Int)=>.int .i64 v) Tryz.func94 e Tryz.ntmps94 e e hm ?_
 unfold Zcp
 clear hm
 refine jqr 0 (Zaf e e e (gz1 0 e (jsr 1 (Zaf e e e (Zaf e e e (gz3 0 3 4 e (Zad (Zak (Zao (Zbj (n:=big) (fun (s:(Int×Int)) (g:Unit)=>[(0,.int .i64 a0),(3,.int .i64 s.1),(4,.int .i64 s.2)]) (fun s g=>[]) (fun s g=>[]) (0,1000001) () [] (u3 e) e e e ?_))))))))))
 intro z1 q2 n5 k3 H4
 refine Zak (jqr 2 (Zac e e e (Zac e e e (jy (ZaZ e e) e e (jy (Zbh e e) e e (gz4 0 3 4 9 e (Zad (Zai e ?_ ?_))))))))
 rotate_left
 ·refine ZaE (Za9 (Zbe (Zba (Zad ?_))))
  refine jqr 7 (Zac e e e (Zaf e e e (gz1 2 e (Zad (Zam (Zaj e (fun w hs=>.tmp e) (fun w hs=>⟨e,hs.drop⟩)))))))
 refine jks (Zao (jqr 3 (Zac e e e (Zac e e e (jy (Zal e e) e e (Zc6 (fun w hs=>Zch e e (by decide)) e e fun x6=>Zaf e e e (gz4 0 3 4 5 e (jsr 4 (Zac e e e (Zac e e e (jy (ZbI e e) e e (Zac e e e (jy (ZbR e e) e e (gz5 0 3 4 5 18 e (Zad ?_)))))))))))))))
 refine Zai e ?_ ?_
 ·refine Zar 5 (Zac e e e (Zaf e e e (gz3 0 3 4 e (ZaG (Zap H4 (x6,z1.2) () [] (u3 e) e e e)))))
 refine Zar 6 (Zac e e e (Zaf e e e (gz3 0 3 4 e (ZaG (Zap H4 (z1.1,x6) () [] (u3 e) e e e)))))
theorem Zgb {w:World}{a0:Interval}  {v:(Interval×Int)}(hm:ZcO a0 = some v):Gives Tryz.prog 50 [.agg #[.int .i64 a0.Lo,.int .i64 a0.Hi]] w (.tuple #[.agg #[.int .i64 v.1.Lo,.int .i64 v.1.Hi],.int .i64 v.2]):=by
 refine Za4 (vs:=[.agg #[.int .i64 a0.Lo,.int .i64 a0.Hi]]) (U:=fun (v:(Interval×Int))=>.tuple #[.agg #[.int .i64 v.1.Lo,.int .i64 v.1.Hi],.int .i64 v.2]) Tryz.func50 e Tryz.ntmps50 e e hm ?_
 unfold ZcO
 clear hm
 refine jqr 0 (ZbD e (l2 e) e e fun g1=>ZaR (l2 e) e e fun g2=>Zaf e e e (gz2 1 2 e (Zad (Zak (jqr 1 (jg_y (fun w hs=>ZaJ e (ldBB (hs.blkL (i:=1) e) e)) e e (Zbc e (fun v w hs hm=>Zfu (a0:=a0) hm ) e e fun v3=>jy (Zbl e) e e (gz3 1 2 7 e (Zad (Zai e ?_ ?_))))))))))
 ·refine jqr 2 (jy (ZaX e (o2 e)) e e (Zav 0 e e e (l2 e) e e e e (l2 e) (r2 e) (Zaf e e e (gz2 2 3 e (Zad (Zam (Zaw (Za7 e (fun w hs=>.cell e (ldBB (hs.blkL (i:=0) e) e)) (fun w hs=>.tmp e) (fun w hs=>⟨e,hs.drop⟩)))))))))
 refine jks (Zak (jqr 3 (jy (Zab e) e e (jgl 1 e e e e e (jy (ZaD e e) e e (gz3 1 2 11 e (Zad (Zai e ?_ ?_))))))))
 ·refine jqr 4 (jy (ZaX e (o2 e)) e e (Zav 0 e e e (l2 e) e e e e (l2 e) (r2 e) (Zaf e e e (gz2 2 3 e (Zad (Zam (Zaw (Za7 e (fun w hs=>.cell e (ldBB (hs.blkL (i:=0) e) e)) (fun w hs=>.tmp e) (fun w hs=>⟨e,hs.drop⟩)))))))))
 refine jks (jqr 5 (jy (Zab e) e e (jgl 1 e e e e e (Zbc e (fun v w hs hm=>Zd7 hm ) e e fun v4=>Zaf e e e (gz3 1 2 4 e (Zad (Za2 (fun (s:Int) (g:Unit)=>[(1,.pointer (some ⟨g1,0,none⟩)),(2,.pointer (some ⟨g2,0,none⟩)),(4,.int .i64 s)]) (fun s g=>[]) (fun s g=>[(Res.blk g1 35 [.int .i64 a0.Lo,.int .i64 a0.Hi]),(Res.blk g2 35 [.int .i64 0,.int .i64 0])]) ?_ ?_)))))))
 ·intro z5 q6
  refine jqr 8 (jy (Zab e) e e (jgl 0 e e e e e (Zbc e (fun v w hs hm=>Zd7 hm ) e e fun v9=>Zac e e e (jy (ZaX e (o2 e)) e e (Zav 1 e e e (l2 e) e e e e (l2 e) (r2 e) (Zaf e e e (gz2 2 3 e (Zad (Zam (Za7 e (fun w hs=>.cell e (ldBB (hs.blkL (i:=1) e) e)) (fun w hs=>.tmp e) (fun w hs=>⟨e,hs.drop⟩)))))))))))
 intro k7 H8
 refine jqr 6 (Zac e e e (Zac e e e (jy (ZbI e e) e e (jy (Zab e) e e (jgl 1 e e e e e (jy (ZaD e e) e e (gz4 1 2 4 21 e (Zad (Zai e ?_ ?_)))))))))
 rotate_left
 ·refine ZaK (Zap H8 v4 () [1,0] (u3 e) e e e)
 refine Zar 7 (Zac e e e (jy (Zal e e) e e (Zaf e e e (gz3 1 2 4 e (Zap H8 (w64 (v4 + 1)) () [1,0] (u3 e) e e e)))))
theorem Zes {w:World}{a0:Int}  {v:(Int×Int)}(hm:ZcA a0 = some v):Gives Tryz.prog 24 [.int .i64 a0] w (.tuple #[.int .i64 v.1,.int .i64 v.2]):=by
 refine Za4 (vs:=[.int .i64 a0]) (U:=fun (v:(Int×Int))=>.tuple #[.int .i64 v.1,.int .i64 v.2]) Tryz.func24 e Tryz.ntmps24 e e hm ?_
 unfold ZcA
 clear hm
 refine jqr 0 (Zaf e e e (Zaf e e e (gz1 0 e (jsr 1 (Zac e e e (Zac e e e (jy (ZaX e (o2 e)) e e (Zbc e (fun v w hs hm=>Zgb (a0:=(Interval.mk a0 a0)) hm ) e e fun v1=>Zac e e e (jy (ZaH e e) e e (jy (ZaH e e) e e (ZaR (l2 e) e e fun g2=>Zav 0 e e e (l2 e) e e e e (l2 e) (r1 e) (Zaf e e e (gz1 4 e (Zad ?_))))))))))))))
 refine Zak (jdr (L':=[_]) 2 [0] [0,1,2,3,4,5] 63 63 [0,1,0,4,3,31] [0,1,0,4,3,31] [(0,true),(1,true),(2,true),(3,true),(4,true),(5,true)] e (Zas Zbb) (jdy e (Zab e) e e (jdl 0 e e e e e e (jdy e (Zab e) e e (jdl 0 e e e e e e (Zbz e e e e (Zbz e e e e (ZaU [(2,_),(3,_)] ⟨e,e,trivial⟩ (Zad (Zam (Za7 e (fun w hs=>.tmp e) (fun w hs=>.tmp e) (fun w hs=>⟨e,hs.drop⟩))))))))))))
theorem Zga {w:World}{a0:Int}{a1:Int}  {v:Int}(hm:ZcN a0 a1 = some v):Gives Tryz.prog 95 [.int .i64 a0,.int .i64 a1] w (.int .i64 v):=by
 refine Za4 (vs:=[.int .i64 a0,.int .i64 a1]) (U:=fun (v:Int)=>.int .i64 v) Tryz.func95 e Tryz.ntmps95 e e hm ?_
 unfold ZcN
 clear hm
 refine jqr 0 (Zaf e e e (gz2 0 1 e (Zad (Zak (jdr (L':=[]) 1 [] [0,1,2,3,4,5,6,7] 255 255 [0,0,3,0,0,24,7,127] [0,0,3,0,0,24,7,127] [(0,true),(1,true),(2,true),(3,true),(4,true),(5,true),(6,true),(7,true)] e (Zas Zbb) (Zau e e e e (Zau e e e e (ZdV fun h1=>jdy e (Zch e e (of_decide_eq_true h1)) e e (Zau e e e e (Zau e e e e (ZdV fun h2=>jdy e (ZdG e e (of_decide_eq_true h2)) e e (Zbz e e e e (Zbz e e e e (ZaU [(1,_),(5,_),(6,_)] ⟨e,e,e,trivial⟩ ?_))))))))))))))
 refine Zad (Zak (jqr 2 (Zac e e e (jy (Zbt e e) e e (Zac e e e (Zaq 15 e ?_ ?_))))))
 rotate_left
 ·refine Zaa e e (Zaa e e (Zaa e e (Zaa e e (Zaa e e (jy (Zae e e) e e (gz2 5 21 e (Zad (ZdC e (jks (jqr 4 (Zac e e e (Zaf e e e (gz1 4 e (Zad (Zam (Zaj e (fun w hs=>.tmp e) (fun w hs=>⟨e,hs.drop⟩)))))))))))))))))
 refine Zac e e e (jy (ZaD e e) e e (Zac e e e (jy (ZaD e e) e e (jy (ZfA Tryz.underlying4 e e) e e (jy (Zah e e) e e (gz2 5 21 e (Zad (Zai e ?_ ?_))))))))
 rotate_left
 ·refine jks (jqr 4 (Zac e e e (Zaf e e e (gz1 4 e (Zad (Zam (Zaj e (fun w hs=>.tmp e) (fun w hs=>⟨e,hs.drop⟩))))))))
 refine Zar 3 (Zac e e e (Zc6 (fun w hs=>ZaZ e e) e e fun x3=>Zaf e e e (gz1 5 e (jsr 4 (Zac e e e (Zaf e e e (gz1 4 e (Zad (Zam (Zaj e (fun w hs=>.tmp e) (fun w hs=>⟨e,hs.drop⟩)))))))))))
theorem Zfv {w:World}{a0:Int}{a1:Int}  {v:(Int×Int)}(hm:Zcw a0 a1 = some v):Gives Tryz.prog 51 [.int .i64 a0,.int .i64 a1] w (.tuple #[.int .i64 v.1,.int .i64 v.2]):=by
 refine Za4 (vs:=[.int .i64 a0,.int .i64 a1]) (U:=fun (v:(Int×Int))=>.tuple #[.int .i64 v.1,.int .i64 v.2]) Tryz.func51 e Tryz.ntmps51 e e hm ?_
 unfold Zcw
 clear hm
 refine jqr 0 (Zaf e e e (Zaf e e e (gz2 0 1 e (Zad (Zak (jqr 1 (Zac e e e (jy (ZaL e e) e e (gz3 0 1 8 e (Zad (Zai e ?_ ?_)))))))))))
 ·refine jqr 2 (Zaf e e e (Zaf e e e (gz2 4 5 e (Zad (Zam (Zaw (Za7 e (fun w hs=>.tmp e) (fun w hs=>.tmp e) (fun w hs=>⟨e,hs.drop⟩))))))))
 refine jks (Zak (jqr 3 (Zac e e e (Zac e e e (Zbc e (fun v w hs hm=>Zga hm ) e e fun v1=>Zaf e e e (gz1 6 e (jsr 4 (Zac e e e (Zbc e (fun v w hs hm=>Zcq hm ) e e fun v2=>gz2 6 13 e (Zad (Zai e ?_ ?_)))))))))))
 ·refine jqr 5 (Zac e e e (Zaf e e e (Zaf e e e (gz2 4 5 e (Zad (Zam (Zaw (Za7 e (fun w hs=>.tmp e) (fun w hs=>.tmp e) (fun w hs=>⟨e,hs.drop⟩)))))))))
 refine jks (jqr 6 (Zaf e e e (Zaf e e e (gz2 4 5 e (Zad (Zam (Za7 e (fun w hs=>.tmp e) (fun w hs=>.tmp e) (fun w hs=>⟨e,hs.drop⟩))))))))
theorem Zhn {w:World}{a0:Int}{a1:Int}  {v:Int}(hm:Zdp a0 a1 = some v):Gives Tryz.prog 97 [.int .i64 a0,.int .i64 a1] w (.int .i64 v):=by
 refine Za4 (vs:=[.int .i64 a0,.int .i64 a1]) (U:=fun (v:Int)=>.int .i64 v) Tryz.func97 e Tryz.ntmps97 e e hm ?_
 unfold Zdp
 clear hm
 refine jqr 0 (Zaf e e e (gz2 0 1 e (Zad (Zak (jdr (L':=[]) 1 [] [0,1,2,3,4,5,6,7] 255 255 [0,0,3,0,0,24,7,127] [0,0,3,0,0,24,7,127] [(0,true),(1,true),(2,true),(3,true),(4,true),(5,true),(6,true),(7,true)] e (Zas Zbb) (Zau e e e e (Zau e e e e (ZdV fun h1=>jdy e (Zch e e (of_decide_eq_true h1)) e e (Zau e e e e (Zau e e e e (ZdV fun h2=>jdy e (ZdG e e (of_decide_eq_true h2)) e e (Zbz e e e e (Zbz e e e e (ZaU [(1,_),(5,_),(6,_)] ⟨e,e,e,trivial⟩ ?_))))))))))))))
 refine Zad (Zak (jqr 2 (Zac e e e (jy (Zbt e e) e e (Zac e e e (Zaq 15 e ?_ ?_))))))
 rotate_left
 ·refine Zaa e e (Zaa e e (Zaa e e (Zaa e e (Zaa e e (jy (Zae e e) e e (gz2 5 21 e (Zad (ZdC e (jks (jqr 4 (Zac e e e (Zaf e e e (gz1 4 e (Zad (Zam (Zaj e (fun w hs=>.tmp e) (fun w hs=>⟨e,hs.drop⟩)))))))))))))))))
 refine Zac e e e (jy (ZaD e e) e e (Zac e e e (jy (ZaD e e) e e (jy (Zh3 Tryz.underlying4 e e) e e (jy (Zah e e) e e (gz2 5 21 e (Zad (Zai e ?_ ?_))))))))
 rotate_left
 ·refine jks (jqr 4 (Zac e e e (Zaf e e e (gz1 4 e (Zad (Zam (Zaj e (fun w hs=>.tmp e) (fun w hs=>⟨e,hs.drop⟩))))))))
 refine Zar 3 (Zac e e e (Zc6 (fun w hs=>Zal e e) e e fun x3=>Zaf e e e (gz1 5 e (jsr 4 (Zac e e e (Zaf e e e (gz1 4 e (Zad (Zam (Zaj e (fun w hs=>.tmp e) (fun w hs=>⟨e,hs.drop⟩)))))))))))
theorem Zgc {w:World}{a0:Int}{a1:Int}  {v:(Int×Int)}(hm:ZcP a0 a1 = some v):Gives Tryz.prog 52 [.int .i64 a0,.int .i64 a1] w (.tuple #[.int .i64 v.1,.int .i64 v.2]):=by
 refine Za4 (vs:=[.int .i64 a0,.int .i64 a1]) (U:=fun (v:(Int×Int))=>.tuple #[.int .i64 v.1,.int .i64 v.2]) Tryz.func52 e Tryz.ntmps52 e e hm ?_
 unfold ZcP
 clear hm
 refine jqr 0 (Zaf e e e (Zaf e e e (gz2 0 1 e (Zad (Zak (jqr 1 (Zac e e e (jy (ZaL e e) e e (gz3 0 1 8 e (Zad (Zai e ?_ ?_)))))))))))
 ·refine jqr 2 (Zaf e e e (Zaf e e e (gz2 4 5 e (Zad (Zam (Zaw (Za7 e (fun w hs=>.tmp e) (fun w hs=>.tmp e) (fun w hs=>⟨e,hs.drop⟩))))))))
 refine jks (Zak (jqr 3 (Zac e e e (Zac e e e (Zbc e (fun v w hs hm=>Zhn hm ) e e fun v1=>Zaf e e e (gz1 6 e (jsr 4 (Zac e e e (Zbc e (fun v w hs hm=>Zcq hm ) e e fun v2=>gz2 6 13 e (Zad (Zai e ?_ ?_)))))))))))
 ·refine jqr 5 (Zac e e e (Zaf e e e (Zaf e e e (gz2 4 5 e (Zad (Zam (Zaw (Za7 e (fun w hs=>.tmp e) (fun w hs=>.tmp e) (fun w hs=>⟨e,hs.drop⟩)))))))))
 refine jks (jqr 6 (Zaf e e e (Zaf e e e (gz2 4 5 e (Zad (Zam (Za7 e (fun w hs=>.tmp e) (fun w hs=>.tmp e) (fun w hs=>⟨e,hs.drop⟩))))))))
end Go.Proofs.YtdgminllobhncaaGreat
namespace Go.Proofs.YtdgminllobhncaaGreat
open Go.Hy
set_option linter.unusedVariables false
set_option linter.unusedSimpArgs false
set_option maxHeartbeats 2000000
set_option maxRecDepth 100000
theorem Zha {w:World}{a0:Piece}{a1:Int}  {v:(Int×Int)}(hm:Zdg a0 a1 = some v):Gives Tryz.prog 25 [.agg #[.int .i64 a0.Element,.int .i64 a0.Length,.int .i64 a0.Grade,.int .i64 a0.Curve,.int .i64 a0.Power],.int .i64 a1] w (.tuple #[.int .i64 v.1,.int .i64 v.2]):=by
 refine Za4 (vs:=[.agg #[.int .i64 a0.Element,.int .i64 a0.Length,.int .i64 a0.Grade,.int .i64 a0.Curve,.int .i64 a0.Power],.int .i64 a1]) (U:=fun (v:(Int×Int))=>.tuple #[.int .i64 v.1,.int .i64 v.2]) Tryz.func25 e Tryz.ntmps25 e e hm ?_
 unfold Zdg
 clear hm
 refine jqr 0 (ZbD e (l5 e) e e fun g1=>Zaf e e e (Zaf e e e (gz2 1 2 e (jsr 1 (jy (Zab e) e e (jgl 0 e e e e e (Zac e e e (jy (ZaZ e e) e e (Zc6 (fun w hs=>ZbI e e) e e fun x2=>jy (Zab e) e e (jgl 0 e e e e e (jy (ZbI e e) e e (Zaf e e e (gz1 6 e (jsr 2 ?_))))))))))))))
 refine Zac e e e (Zbc e (fun v w hs hm=>Zfv hm ) e e fun v3=>Zac e e e (jy (ZaH e e) e e (jy (ZaH e e) e e (Zaf e e e (gz2 4 6 e (jsr 3 (Zac e e e (Zbc e (fun v w hs hm=>Zgc hm ) e e fun v4=>Zac e e e (jy (ZaH e e) e e (jy (ZaH e e) e e (Zaf e e e (gz2 4 5 e (jsr 4 (Zac e e e ?_))))))))))))))
 refine Zac e e e (Zaf e e e (Zaf e e e (gz2 4 5 e (Zad (Zam (Za7 e (fun w hs=>.tmp e) (fun w hs=>.tmp e) (fun w hs=>⟨e,hs.drop⟩)))))))
theorem Zgm {w:World}{a0:(List Piece)}{a1:Run}{ha0:Hd}{ha1A:Hd}{ha1B:Hd}{v:((List Moment)×Int×Int)}(hm:ZcZ a0 a1 = some v) (Rha0:Sl w ha0 Piece.enc a0) (Rha1_Resist:Sl w ha1A encI a1.Resist) (Rha1_Targets:Sl w ha1B encI a1.Targets):Calls Tryz.prog 7 ([ha0.v,.agg #[.int .i64 a1.Speed,ha1A.v,ha1B.v]]:List Value).toArray w (fun e w'=>∃ g:Hd,e = .returned (.tuple #[g.v,.int .i64 v.2.1,.int .i64 v.2.2])∧St w w' [] [(rowH g 44 2 Moment.enc v.1)]):=by
 refine ZbN (vs:=[ha0.v,.agg #[.int .i64 a1.Speed,ha1A.v,ha1B.v]]) (R:=fun (v:((List Moment)×Int×Int)) (e:Ending) (w':World)=>∃ g:Hd,e = .returned (.tuple #[g.v,.int .i64 v.2.1,.int .i64 v.2.2])∧St w w' [] [(rowH g 44 2 Moment.enc v.1)]) Tryz.func7 e Tryz.ntmps7 e e (St.refl w) hm ?_
 unfold ZcZ
 clear hm
 refine jqr 0 (ZbD e (l3 e) e e fun g1=>Zaf e e e (Zaf e e e (Zaf e e e (gz2 0 3 e (Zad (Zak (jqr 1 (Zac e e e (Zbc e (fun v w hs hm=>Zet hm (hs.arg Rha0)) e e fun v2=>Zaf e e e (gz3 0 3 7 e (jsr 2 (Zac e e e (jy (Zbt e e) e e (gz4 0 3 7 25 e ?_))))))))))))))
 refine Zad (Zai e ?_ ?_)
 ·refine jqr 3 (Zac e e e (Zaf e e e (Zaf e e e (Zaf e e e (gz3 4 5 6 e (Zad (Zam (Zaw (Za3 44 2 Moment.enc (Zb4 e (fun w hs=>.tmp e) (fun w hs=>.tmp e) (fun w hs=>.tmp e) (fun w hs=>⟨(Hd.mk none 0 0),e,hs.sel (is:=[0]) e e⟩)))))))))))
 refine jks (Zak (Zak (jdr (L':=[_]) 4 [0] [0,1,2,3,4,5,6,7,8,9,10,11,12,13] 16383 16383 [0,1,2,0,8,20,32,64,192,320,64,1088,2624,4160] [0,1,3,0,8,31,63,127,255,511,127,1151,4095,8191] [(0,true),(1,true),(2,true),(3,true),(4,true),(5,true),(6,true),(7,true),(8,true),(9,true),(10,true),(11,true),(12,true),(13,true)] e (Zas (Zas Zbb)) (jdy e (Zab e) e e (jdl 0 e e e e e e (jd_y e (fun w hs=>ZaV e (hs.arg Rha1_Resist)) e e (Zau e e e e (jd_y e (fun w hs=>ZaV e (hs.arg Rha0)) e e (jdy e (Zbt e e) e e (Zau e e e e (Zbp 33 e ?_ ?_)))))))))))
 ·refine Zag e e e (Zag e e e (Zag e e e (Zag e e e (Zag e e e (Zag e e e (jdy e (Zah e e) e e (ZaU [(0,_),(3,_),(40,_)] ⟨e,e,e,trivial⟩ (Zad (Zbo e (jqr 5 (Zaf e e e (Zaf e e e (Zaf e e e (gz3 4 5 6 e (Zad (Zam ?_))))))))))))))))
  refine Zaw (Za3 44 2 Moment.enc (Zb4 e (fun w hs=>.tmp e) (fun w hs=>.tmp e) (fun w hs=>.tmp e) (fun w hs=>⟨(Hd.mk none 0 0),e,hs.sel (is:=[0]) e e⟩)))
 refine jdy e (Zab e) e e (jdl 0 e e e e e e (jd_y e (fun w hs=>ZaV e (hs.arg Rha1_Targets)) e e (Zau e e e e (Zcc e e (fun v w hs hm=>ZeN hm (hs.arg Rha0)) e e fun v3=>jdy e (Zbt e e) e e (jdy e (Zae e e) e e (ZaU [(0,_),(3,_),(40,_)] ⟨e,e,e,trivial⟩ (Zad (Zai e ?_ ?_))))))))
 ·refine jqr 5 (Zaf e e e (Zaf e e e (Zaf e e e (gz3 4 5 6 e (Zad (Zam (Zaw (Za3 44 2 Moment.enc (Zb4 e (fun w hs=>.tmp e) (fun w hs=>.tmp e) (fun w hs=>.tmp e) (fun w hs=>⟨(Hd.mk none 0 0),e,hs.sel (is:=[0]) e e⟩))))))))))
 refine jks (Za2 (fun (s:Unit) (g:Unit)=>[(0,ha0.v),(3,.pointer (some ⟨g1,0,none⟩))]) (fun s g=>[]) (fun s g=>[(Res.blk g1 32 [.int .i64 a1.Speed,ha1A.v,ha1B.v])]) ?_ ?_)
 rotate_left
 ·intro k6 H7
  refine jqr 6 (jy (Zab e) e e (jgl 0 e e e e e (jg_y (fun w hs=>ZaV e (hs.arg Rha1_Resist)) e e (Zac e e e (gz5 0 3 42 43 44 e (Zad (Zao (Zbj (n:=big) (fun (s:Int) (g:Unit)=>[(0,ha0.v),(3,.pointer (some ⟨g1,0,none⟩)),(42,ha1A.v),(43,.int .i64 (a1.Resist.length:Int)),(44,.int .i64 s)]) (fun s g=>[]) (fun s g=>[(Res.blk g1 32 [.int .i64 a1.Speed,ha1A.v,ha1B.v])]) 0 () [0] (u5 e) e e e ?_))))))))
  intro z42 q43 n46 k44 H45
  refine jqr 7 (jy (ZaD e e) e e (gz6 0 3 42 43 44 45 e (Zad (Zak (Zai e ?_ ?_)))))
  rotate_left
  ·refine ZaE (Za9 (Zbe (Zba ?_)))
   exact Zap H7 () () [0] (u2 e) e e e
  refine jks (Zak (Zao (jqr 8 (Za6 fun x47 h48=>jg_y (fun w hs=>ZaC e e (hs.arg Rha1_Resist) h48) e e (jg_y (fun w hs=>ZaQ e (hs.arg Rha1_Resist) h48.1 e) e e (Zaf e e e (gz6 0 3 9 42 43 44 e (jsr 9 (Zac e e e (Zbc e (fun v w hs hm=>Zci hm ) e e fun v49=>jy (Zbl e) e e (gz6 0 3 42 43 44 50 e (Zad (Zai e ?_ ?_)))))))))))))
  rotate_left
  ·refine ZaK (ZaG (Zad ?_))
   refine Zar 11 (jy (Zal e e) e e (Zac e e e (gz5 0 3 42 43 44 e (Zap H45 (w64 (z42 + 1)) () [0] (u5 e) e e e))))
  refine jqr 10 (Zaf e e e (Zaf e e e (Zaf e e e (gz3 4 5 6 e (Zad (Zam (ZaI (Zaw (Zbd (ZaI (Zaw ?_)))))))))))
  refine Za3 44 2 Moment.enc (Zb4 e (fun w hs=>.tmp e) (fun w hs=>.tmp e) (fun w hs=>.tmp e) (fun w hs=>⟨(Hd.mk none 0 0),e,hs.sel (is:=[0]) e e⟩))
 intro z4 q5
 refine Zak (jqr 12 (jy (Zab e) e e (jgl 0 e e e e e (Zbc e (fun v w hs hm=>Zci hm ) e e fun v8=>jy (Zbl e) e e (Zac e e e (Zaq 56 e ?_ ?_))))))
 ·refine Zaa e e (Zaa e e (Zaa e e (Zaa e e (jy (Zah e e) e e (gz3 0 3 61 e (Zad (Zbo e (jqr 13 (Zaf e e e (Zaf e e e (Zaf e e e (gz3 4 5 6 e (Zad (Zam (Zaw (Za3 44 2 Moment.enc ?_))))))))))))))))
  exact Zb4 e (fun w hs=>.tmp e) (fun w hs=>.tmp e) (fun w hs=>.tmp e) (fun w hs=>⟨(Hd.mk none 0 0),e,hs.sel (is:=[0]) e e⟩)
 refine jy (Zab e) e e (jgl 0 e e e e e (Zbc e (fun v w hs hm=>Zfs hm (hs.arg Rha1_Targets)) e e fun v9=>jy (Zbl e) e e (jy (Zae e e) e e (gz3 0 3 61 e (Zad (Zai e ?_ ?_))))))
 ·refine jqr 13 (Zaf e e e (Zaf e e e (Zaf e e e (gz3 4 5 6 e (Zad (Zam (Zaw (Za3 44 2 Moment.enc (Zb4 e (fun w hs=>.tmp e) (fun w hs=>.tmp e) (fun w hs=>.tmp e) (fun w hs=>⟨(Hd.mk none 0 0),e,hs.sel (is:=[0]) e e⟩))))))))))
 refine jks (jqr 14 (jy (Zab e) e e (jgl 0 e e e e e (jy (Zab e) e e (jgl 0 e e e e e (jy (ZbI e e) e e (jy (ZaX e (o2 e)) e e (ZaR (l2 e) e e fun g10=>Zav 0 e e e (l2 e) e e e e (l2 e) (r2 e) (gz3 0 3 10 e (jsr 15 (jg_y (fun w hs=>ZaJ e (ldBB (hs.blkL (i:=0) e) e)) e e (ZaT (enc:=Moment.enc) [(Moment.mk 0 (w64 (a1.Speed * a1.Speed)))] e e e e e e e e fun hd11=>Zaf e e e (gz4 0 3 10 11 e (jsr 16 ?_))))))))))))))
 refine Zaf e e e (gz5 0 3 10 11 12 e (Zad (Zak (jqr 17 (Zac e e e (jg_y (fun w hs=>ZaV e (hs.arg Rha0)) e e (Zac e e e (gz7 3 10 11 12 70 71 72 e (Zad (Zao (Zbj (n:=big) (fun (s:(Int×Int×(List Moment)×Int×Int)) (g:Hd)=>[(3,.pointer (some ⟨g1,0,none⟩)),(10,.pointer (some ⟨g10,0,none⟩)),(11,g.v),(12,.int .i64 s.2.2.2.1),(70,ha0.v),(71,.int .i64 (a0.length:Int)),(72,.int .i64 s.2.2.2.2)]) (fun s g=>[]) (fun s g=>[(Res.blk g1 32 [.int .i64 a1.Speed,ha1A.v,ha1B.v]),(Res.blk g10 44 [.int .i64 s.1,.int .i64 s.2.1]),(rowH g 44 2 Moment.enc s.2.2.1)]) (0,w64 (a1.Speed * a1.Speed),([(Moment.mk 0 (w64 (a1.Speed * a1.Speed)))]:List Moment),0,0) hd11 [2,1,0] (u7 e) e e e ?_)))))))))))
 intro z12 q13 n16 k14 H15
 refine jqr 18 (jy (ZaD e e) e e (gz8 3 10 11 12 70 71 72 73 e (Zad (Zak (Zai e ?_ ?_)))))
 rotate_left
 ·refine ZaE (Za9 (Zbe (Zba (Zad ?_))))
  refine jqr 36 (Zac e e e (Zaf e e e (Zaf e e e (Zaf e e e (gz3 4 5 6 e (ZaF (is:=[2]) (s1 e) e (Zad (Zam (Zb4 e (fun w hs=>.tmp e) (fun w hs=>.tmp e) (fun w hs=>.tmp e) (fun w hs=>⟨q13,e,hs.sel (is:=[0]) e e⟩))))))))))
 refine jks (Zak (Zao (jqr 19 (Zac e e e (Za6 fun x17 h18=>jg_y (fun w hs=>ZaC e e (hs.arg Rha0) h18) e e (jg_y (fun w hs=>ZbJ e (hs.arg Rha0) h18.1 (l5 e) e) e e (ZaR (l5 e) e e fun g19=>Zaf e e e (Zav 0 e e e (l5 e) e e e e (l5 e) (r4 e) (gz9 3 10 11 12 13 14 70 71 72 e (jsr 20 (jy (Zab e) e e (jgl 2 e e e e e (Zbc e (fun v w hs hm=>Zes hm ) e e fun v20=>Zac e e e ?_)))))))))))))
 refine jy (ZaH e e) e e (jy (ZaH e e) e e (Zaf e e e (Zaf e e e (gz10 3 10 11 12 13 14 15 70 71 72 e (Zad (Zak (jdr (L':=[_,_,_,_]) 21 [0,1,2,3] [0,1,2,3,4,5,6,7,8,9,10,11] 4095 4095 [0,0,2,0,12,16,33,64,128,128,511,2047] [0,0,2,0,14,30,63,127,255,255,511,2047] [(0,true),(1,true),(2,true),(3,true),(4,true),(5,true),(6,true),(7,true),(8,true),(9,true),(10,true),(11,true)] e (Zas (Zay (Zas (Za0 (Zay (Zas Zbb)))))) (jd_y e (fun w hs=>ZaJ e (ldBB (hs.blk (i:=0) e) e)) e e (jdy e (Zab e) e e (jdl 1 e e e e e e (Zau e e e e (Zbk fun x21 h22=>jd_y e (fun w hs=>ZaC e e (hs.arg Rha1_Resist) h22) e e (jd_y e (fun w hs=>ZaQ e (hs.arg Rha1_Resist) h22.1 e) e e (Zcc e e (fun v w hs hm=>Zha (a0:=x17) hm ) e e fun v23=>Zau e e e e ?_))))))))))))))
 refine jdy e (ZaH e e) e e (jdy e (ZaH e e) e e (Zbz e e e e (Zbz e e e e (ZaU [(3,_),(10,_),(11,_),(12,_),(13,_),(14,_),(15,_),(17,_),(70,_),(71,_),(72,_)] ⟨e,e,e,e,e,e,e,e,e,e,e,trivial⟩ (jsr 22 (jy (Zab e) e e (jgl 2 e e e e e (Zac e e e (jy (Zal e e) e e (jy (Zab e) e e (Zav 2 e e e (l1 e) e e e e (l2 e) (r4 e) (gz10 3 10 11 12 13 14 15 70 71 72 e (Zad (Zak (jqr 23 (jy (Zab e) e e ?_))))))))))))))))
 refine jgl 2 e e e e e (jy (ZaD e e) e e (gz11 3 10 11 12 13 14 15 70 71 72 100 e (Zad (Zai e ?_ ?_))))
 ·refine jqr 24 (Zac e e e (Zac e e e (Zaf e e e (Zaf e e e (Zaf e e e (gz3 4 5 6 e (ZaF (is:=[3]) (s1 e) e (Zad (Zam (Zaw (ZaI (Zaw (Zbd (ZaI (Zaw ?_)))))))))))))))
  exact Zb4 e (fun w hs=>.tmp e) (fun w hs=>.tmp e) (fun w hs=>.tmp e) (fun w hs=>⟨q13,e,hs.sel (is:=[0]) e e⟩)
 refine jks (jqr 25 (jy (Zab e) e e (jgl 2 e e e e e (Zbc e (fun v w hs hm=>Zes hm ) e e fun v24=>Zac e e e (jy (ZaH e e) e e (jy (ZaH e e) e e (Zaf e e e (Zaf e e e (gz11 3 10 11 12 13 14 15 19 70 71 72 e (Zad (Zak (jqr 26 (Zac e e e (Zac e e e (jy (Zal e e) e e ?_)))))))))))))))
 refine jy (ZaL e e) e e (gz12 3 10 11 12 13 14 15 19 70 71 72 112 e (Zad (Zai e ?_ ?_)))
 ·refine jqr 27 (Zac e e e (Zac e e e (Zaf e e e (Zaf e e e (Zaf e e e (gz3 4 5 6 e (ZaF (is:=[3]) (s1 e) e (Zad (Zam (Zaw (ZaI (Zaw (Zbd (ZaI (Zaw ?_)))))))))))))))
  exact Zb4 e (fun w hs=>.tmp e) (fun w hs=>.tmp e) (fun w hs=>.tmp e) (fun w hs=>⟨q13,e,hs.sel (is:=[0]) e e⟩)
 refine jks (Zak (jdr (L':=[_,_,_,_]) 28 [0,1,2,3] [0,1,2,3,4,5,6,7,8,9,10,11,12,13,14,15,16] 131071 262143 [0,1,0,4,8,0,48,0,192,256,0,0,3072,4608,8194,16384,65535,131071] [0,1,0,4,12,0,60,0,252,508,0,0,3072,8188,16383,32767,65535,131071] [(0,true),(1,true),(2,true),(3,true),(4,true),(5,true),(6,true),(7,true),(8,true),(9,true),(10,true),(11,true),(12,true),(13,true),(14,true),(15,true),(16,true),(17,false)] e (Zas (Zay (Zas (Za0 (Zay (Zas Zbb)))))) (jdy e (Zab e) e e (jdl 2 e e e e e e (jdy e (Zab e) e e (jdl 0 e e e e e e (jdy e (ZbI e e) e e (Zau e e e e (ZdP e (fun w hs=>Zal e e) e e fun x25=>Zau e e e e (jdy e (Zal e e) e e (jdy e (ZaZ e e) e e (Zau e e e e (Zau e e e e (jdy e (Zal e e) e e (ZdV fun h26=>?_)))))))))))))))
 refine ZdP e (fun w hs=>Zch e e (of_decide_eq_true h26)) e e fun x27=>jdy e (Zal e e) e e (ZdP e (fun w hs=>ZdW e e) e e fun x28=>jdy e (Zab e) e e (jd_h e (Zav 2 e e e (l1 e) e e e e (l2 e) (r4 e) (ZaA (ZbG e (Zbf [(3,_),(10,_),(11,_),(12,_),(14,_),(70,_),(71,_),(72,_)] ⟨e,e,e,e,e,e,e,e,trivial⟩ (Zad (Zak (jqr 29 (jy (Zab e) e e (jgl 0 e e e e e (jy (Zbh e e) e e (gz9 3 10 11 12 14 70 71 72 134 e (Zad ?_))))))))))))))
 refine Zai e ?_ ?_
 rotate_left
 ·refine jks (Zar 34 (Zac e e e (jg_y (fun w hs=>ZaJ e (ldBB (hs.blkL (i:=2) e) e)) e e (ZaT (enc:=Moment.enc) [(Moment.mk x28 (w64 (z12.2.1 + v23.1)))] e e e e e e e e fun hd39=>ZaO 4 e e e (fun w hs=>(hs.row 0 e)) e e e fun y40 hd41=>jg_L (r5 e) (Zaf e e e (gz7 3 10 11 12 70 71 72 e (ZaF (is:=[2,3,4]) (s3 e) e (ZaG (Zad ?_)))))))))
  refine Zar 35 (jy (Zal e e) e e (Zac e e e (gz7 3 10 11 12 70 71 72 e (Zap H15 (x28,w64 (z12.2.1 + v23.1),y40,z12.2.2.2.1,w64 (z12.2.2.2.2 + 1)) hd41 [0,1,2] (u7 e) e e e))))
 refine Zak (jqr 30 (jy (Zab e) e e (jgl 1 e e e e e (Zac e e e (Za6 fun x29 h30=>jg_y (fun w hs=>ZaC e e (hs.arg Rha1_Targets) h30) e e (jg_y (fun w hs=>ZaQ e (hs.arg Rha1_Targets) h30.1 e) e e (Zaf e e e (gz9 3 10 11 12 14 21 70 71 72 e (jsr 31 (Zac e e e (jy (Zbv e e) e e (gz10 3 10 11 12 14 21 70 71 72 141 e (Zad (Zai e ?_ ?_))))))))))))))
 rotate_left
 ·refine jks (Zar 33 (Zac e e e (jy (Zal e e) e e (Zaf e e e (gz7 3 10 11 12 70 71 72 e (Zad (Zar 34 (Zac e e e (jg_y (fun w hs=>ZaJ e (ldBB (hs.blkL (i:=2) e) e)) e e (ZaT (enc:=Moment.enc) [(Moment.mk x28 (w64 (z12.2.1 + v23.1)))] e e e e e e e e fun hd36=>ZaO 4 e e e (fun w hs=>(hs.row 0 e)) e e e fun y37 hd38=>jg_L (r5 e) (Zaf e e e (gz7 3 10 11 12 70 71 72 e (ZaF (is:=[2,3,4]) (s3 e) e (ZaG (Zad ?_)))))))))))))))
  refine Zar 35 (jy (Zal e e) e e (Zac e e e (gz7 3 10 11 12 70 71 72 e (Zap H15 (x28,w64 (z12.2.1 + v23.1),y37,w64 (z12.2.2.2.1 + 1),w64 (z12.2.2.2.2 + 1)) hd38 [0,1,2] (u7 e) e e e))))
 refine Zar 32 (jy (Zab e) e e (jgl 2 e e e e e (Zac e e e (Zac e e e (jy (ZbI e e) e e (Zc6 (fun w hs=>ZdW e e) e e fun x31=>jy (Zab e) e e (jgl 2 e e e e e (jy (Zab e) e e (jgl 0 e e e e e (Zc6 (fun w hs=>ZaZ e e) e e fun x32=>jy (ZeI e e) e e (jy (Zab e) e e (Zav 2 e e e (l1 e) e e e e (l2 e) (r4 e) (gz7 3 10 11 12 70 71 72 e (Zad ?_))))))))))))))
 refine Zar 33 (Zac e e e (jy (Zal e e) e e (Zaf e e e (gz7 3 10 11 12 70 71 72 e (Zad (Zar 34 (Zac e e e (jg_y (fun w hs=>ZaJ e (ldBB (hs.blkL (i:=2) e) e)) e e (ZaT (enc:=Moment.enc) [(Moment.mk x28 (max x31 x32))] e e e e e e e e fun hd33=>ZaO 4 e e e (fun w hs=>(hs.row 0 e)) e e e fun y34 hd35=>jg_L (r5 e) (Zaf e e e (gz7 3 10 11 12 70 71 72 e (ZaF (is:=[2,3,4]) (s3 e) e (ZaG (Zad ?_))))))))))))))
 refine Zar 35 (jy (Zal e e) e e (Zac e e e (gz7 3 10 11 12 70 71 72 e (Zap H15 (x28,max x31 x32,y34,w64 (z12.2.2.2.1 + 1),w64 (z12.2.2.2.2 + 1)) hd35 [0,1,2] (u7 e) e e e))))
theorem ZgV {w:World}{a0:(List Piece)}{a1:Rolling}{ha0:Hd}{ha1A:Hd}{ha1B:Hd}{v:((List Moment)×Int)}(hm:Zel a0 a1 = some v) (Rha0:Sl w ha0 Piece.enc a0) (Rha1_Resist:Sl w ha1A encI a1.Resist) (Rha1_Targets:Sl w ha1B encI a1.Targets):Calls Tryz.prog 123 ([ha0.v,.agg #[.int .i64 a1.Release,.int .i64 a1.Length,.int .i64 a1.Track,.int .i64 a1.Speed,ha1A.v,ha1B.v]]:List Value).toArray w (fun e w'=>∃ g:Hd,e = .returned (.tuple #[g.v,.int .i64 v.2])∧St w w' [] [(rowH g 44 2 Moment.enc v.1)]):=by
 refine ZbN (vs:=[ha0.v,.agg #[.int .i64 a1.Release,.int .i64 a1.Length,.int .i64 a1.Track,.int .i64 a1.Speed,ha1A.v,ha1B.v]]) (R:=fun (v:((List Moment)×Int)) (e:Ending) (w':World)=>∃ g:Hd,e = .returned (.tuple #[g.v,.int .i64 v.2])∧St w w' [] [(rowH g 44 2 Moment.enc v.1)]) Tryz.func123 e Tryz.ntmps123 e e (St.refl w) hm ?_
 unfold Zel
 clear hm
 refine jqr 0 (ZbD e (l6 e) e e fun g1=>Zaf e e e (Zaf e e e (gz2 0 3 e (jsr 1 (jy (Zab e) e e (jgl 0 e e e e e (jy (ZaX e (o3 e)) e e (ZaR (l3 e) e e fun g2=>Zav 0 e e e (l3 e) e e e e (l3 e) (r2 e) (gz3 0 3 6 e (Zad (Za2 (fun (s:((List Int)×(List Int))) (g:(Hd×Hd))=>[(0,ha0.v),(6,.pointer (some ⟨g2,0,none⟩))]) (fun s g=>[]) (fun s g=>[(Res.blk g2 32 [.int .i64 a1.Speed,g.1.v,g.2.v]),(rowH g.1 3 1 encI s.1),(rowH g.2 3 1 encI s.2)]) ?_ ?_)))))))))))
 ·intro z3 q4
  refine jqr 9 (Zac e e e (jg_y (fun w hs=>ZaJ e (ldBB (hs.blkL (i:=0) e) e)) e e (jg_c e (fun v w hs hm=>Zgm (a1:=(Run.mk a1.Speed z3.1 z3.2)) hm (hs.arg Rha0) (hs.row 1 e) (hs.row 2 e)) e e fun v7 q8=>jg_L (r4 e) (Zac e e e (jy (ZaH e e) e e (jy (ZaH e e) e e (jy (ZaH e e) e e (Zaf e e e (Zaf e e e (Zaf e e e (gz2 9 10 e (ZaF (is:=[0]) (s1 e) e (jsr 10 (Zac e e e (Zac e e e ?_)))))))))))))))
  refine Zaf e e e (Zaf e e e (gz2 4 5 e (Zad (Zam (Za7 e (fun w hs=>.tmp e) (fun w hs=>.tmp e) (fun w hs=>⟨q8,e,hs.sel (is:=[0]) e e⟩))))))
 intro k5 H6
 refine jqr 2 (Zac e e e (jg_y (fun w hs=>ZaV e (hs.arg Rha0)) e e (Zac e e e (gz6 0 3 6 15 16 17 e (Zad (Zao (Zbm 3 1 encI (Zbm 3 1 encI (Zbj (n:=big) (fun (s:((List Int)×(List Int)×Int)) (g:(Hd×Hd))=>[(0,ha0.v),(3,.pointer (some ⟨g1,0,none⟩)),(6,.pointer (some ⟨g2,0,none⟩)),(15,ha0.v),(16,.int .i64 (a0.length:Int)),(17,.int .i64 s.2.2)]) (fun s g=>[]) (fun s g=>[(Res.blk g1 104 [.int .i64 a1.Release,.int .i64 a1.Length,.int .i64 a1.Track,.int .i64 a1.Speed,ha1A.v,ha1B.v]),(Res.blk g2 32 [.int .i64 a1.Speed,g.1.v,g.2.v]),(rowH g.1 3 1 encI s.1),(rowH g.2 3 1 encI s.2.1)]) (([]:List Int),([]:List Int),0) ((Hd.mk none 0 0),(Hd.mk none 0 0)) [3,2,1,0] (u6 e) e e e ?_)))))))))
 intro z9 q10 n13 k11 H12
 refine jqr 3 (jy (ZaD e e) e e (gz7 0 3 6 15 16 17 18 e (Zad (Zak (Zai e ?_ ?_)))))
 rotate_left
 ·refine ZaE (Za9 (Zbe (Zba ?_)))
  exact Zap H6 (z9.1,z9.2.1) (q10.1,q10.2) [1,2,3] (u2 e) e e e
 refine jks (Zak (Zao (jqr 4 (Za6 fun x14 h15=>jg_y (fun w hs=>ZaC e e (hs.arg Rha0) h15) e e (jg_y (fun w hs=>ZbJ e (hs.arg Rha0) h15.1 (l5 e) e) e e (ZaR (l5 e) e e fun g16=>Zav 0 e e e (l5 e) e e e e (l5 e) (r5 e) (gz7 0 3 6 8 15 16 17 e (Zad (Zak (jdr (L':=[_,_,_,_]) 5 [0,1,2,4] [0,1,2,3,4,5,6,7,8,9,10] 2047 4095 [0,1,0,4,0,16,40,64,128,258,1023,2047] [0,1,0,4,0,16,60,124,252,511,1023,2047] [(0,true),(1,true),(2,true),(3,true),(4,true),(5,true),(6,true),(7,true),(8,false),(9,false),(10,true),(11,false)] e (Zas (Zay (Zas (Za0 (Zay (Zas Zbb)))))) (jdy e (Zab e) e e (jdl 2 e e e e e e (jdy e (Zab e) e e (jdl 1 e e e e e e ?_))))))))))))))
 refine jdy e (Zab e) e e (jdl 0 e e e e e e (Zbk fun x17 h18=>jd_y e (fun w hs=>ZaC e e (hs.arg Rha1_Resist) h18) e e (jd_y e (fun w hs=>ZaQ e (hs.arg Rha1_Resist) h18.1 e) e e (jd_h e (ZaT (enc:=encI) [x17] e e e e e e e e fun hd19=>ZaA (Zbs [1,2,3,5] e (jd_h e (ZaO 4 e e e (fun w hs=>(hs.row 0 e)) e e e fun y20 hd21=>jg_L (r6 e) (ZaA (Zbs [1,2,3,5] e (jdy e (Zab e) e e (jd_h e (Zav 3 e e e (l1 e) e e e e (l3 e) (r6 e) ?_)))))))))))))
 refine ZaA (ZbG e (Zbf [(0,_),(3,_),(6,_),(8,_),(15,_),(16,_),(17,_)] ⟨e,e,e,e,e,e,e,trivial⟩ (jsr 6 (jy (Zab e) e e (jgl 1 e e e e e (jy (Zbh e e) e e (gz8 0 3 6 8 15 16 17 34 e (Zad (Zai e ?_ ?_)))))))))
 rotate_left
 ·refine ZaK (ZaG (Zad ?_))
  refine Zar 8 (jy (Zal e e) e e (Zac e e e (gz6 0 3 6 15 16 17 e (ZaF (is:=[2,3,4,5]) (s4 e) e (Zap H12 (y20,z9.2.1,w64 (z9.2.2 + 1)) (hd21,q10.2) [0,1,2,3] (u6 e) e e e)))))
 refine jdr (L':=[_,_,_,_]) 7 [1,2,3,4] [0,1,2,3,4,5,6,7,8,9,10] 2047 4095 [0,1,0,4,0,16,40,64,128,258,1023,2047] [0,1,0,4,0,16,60,124,252,511,1023,2047] [(0,true),(1,true),(2,true),(3,true),(4,true),(5,true),(6,true),(7,true),(8,false),(9,false),(10,true),(11,false)] e (Zay (Zas (Za0 (Zay (Zas Zbb))))) (jdy e (Zab e) e e (jdl 2 e e e e e e (jdy e (Zab e) e e (jdl 1 e e e e e e (jdy e (Zab e) e e (jdl 0 e e e e e e (Zbk fun x22 h23=>jd_y e (fun w hs=>ZaC e e (hs.arg Rha1_Targets) h23) e e (jd_y e (fun w hs=>ZaQ e (hs.arg Rha1_Targets) h23.1 e) e e (jd_h e (ZaT (enc:=encI) [x22] e e e e e e e e fun hd24=>ZaA (Zbs [2,3,4,5] e (jd_h e (ZaO 6 e e e (fun w hs=>(hs.row 0 e)) e e e fun y25 hd26=>jg_L (r7 e) ?_)))))))))))))
 refine ZaA (Zbs [2,3,4,5] e (jdy e (Zab e) e e (jd_h e (Zav 4 e e e (l1 e) e e e e (l3 e) (r7 e) (ZaA (ZbG e (Zbf [(0,_),(3,_),(6,_),(15,_),(16,_),(17,_)] ⟨e,e,e,e,e,e,trivial⟩ (ZaF (is:=[3,4,5,6]) (s4 e) e (ZaG (Zad ?_))))))))))
 refine Zar 8 (jy (Zal e e) e e (Zac e e e (gz6 0 3 6 15 16 17 e (Zap H12 (y20,y25,w64 (z9.2.2 + 1)) (hd21,hd26) [0,1,2,3] (u6 e) e e e))))
theorem ZhY {w:World}{a0:(List Piece)}{a1:Rolling}{ha0:Hd}{ha1A:Hd}{ha1B:Hd}{v:(Int×Bool)}(hm:ZdE a0 a1 = some v) (Rha0:Sl w ha0 Piece.enc a0) (Rha1_Resist:Sl w ha1A encI a1.Resist) (Rha1_Targets:Sl w ha1B encI a1.Targets):Gives Tryz.prog 150 [ha0.v,.agg #[.int .i64 a1.Release,.int .i64 a1.Length,.int .i64 a1.Track,.int .i64 a1.Speed,ha1A.v,ha1B.v]] w (.tuple #[.int .i64 v.1,.bool v.2]):=by
 refine Za4 (vs:=[ha0.v,.agg #[.int .i64 a1.Release,.int .i64 a1.Length,.int .i64 a1.Track,.int .i64 a1.Speed,ha1A.v,ha1B.v]]) (U:=fun (v:(Int×Bool))=>.tuple #[.int .i64 v.1,.bool v.2]) Tryz.func150 e Tryz.ntmps150 e e hm ?_
 unfold ZdE
 clear hm
 refine jqr 0 (ZbD e (l6 e) e e fun g1=>Zaf e e e (Zaf e e e (gz2 0 3 e (Zad (Zak (jqr 1 (Zac e e e (jg_y (fun w hs=>ZaV e (hs.arg Rha0)) e e (jy (ZaL e e) e e (gz3 0 3 10 e (Zad (Zai e ?_ ?_))))))))))))
 ·refine jqr 2 (jy (Zab e) e e (jgl 0 e e e e e (Zaf e e e (Zaf e e e (gz2 4 5 e (Zad (Zam (Zaw (Za7 e (fun w hs=>.tmp e) (fun w hs=>.tmp e) (fun w hs=>⟨e,hs.drop⟩))))))))))
 refine jks (jqr 3 (Zac e e e (jg_y (fun w hs=>ZaJ e (ldBB (hs.blkL (i:=0) e) e)) e e (jg_c e (fun v w hs hm=>ZgV (a1:=a1) hm (hs.arg Rha0) (hs.arg Rha1_Resist) (hs.arg Rha1_Targets)) e e fun v2 q3=>jg_L (r2 e) (Zac e e e (jy (ZaH e e) e e (jy (ZaH e e) e e (Zaf e e e (Zaf e e e (gz3 3 6 7 e (Zad (Zak (jqr 4 (Zac e e e (jy (Zbv e e) e e ?_)))))))))))))))
 refine gz3 3 6 20 e (Zad (Zai e ?_ ?_))
 ·refine jqr 5 (Zaf e e e (Zaf e e e (gz2 4 5 e (ZaF (is:=[]) (s0 e) e (Zad (Zam (Zaw (Za7 e (fun w hs=>.tmp e) (fun w hs=>.tmp e) (fun w hs=>⟨e,hs.drop⟩)))))))))
 refine jks (Zak (jdr (L':=[_,_]) 6 [0,1] [0,1,2,3,4,5,6,7,8,9,10,11] 4095 4095 [0,1,0,0,8,16,36,64,128,258,1023,2047] [0,1,0,0,8,24,60,124,252,511,1023,2047] [(0,true),(1,true),(2,true),(3,true),(4,true),(5,true),(6,true),(7,true),(8,true),(9,true),(10,true),(11,true)] e (Zas Zbb) (jdy e (Zab e) e e (jdl 1 e e e e e e (Zau e e e e (Zau e e e e (jd_y e (fun w hs=>ZaV e (hs.row 0 e)) e e (jdy e (ZaZ e e) e e (Zbk fun x4 h5=>jd_y e (fun w hs=>ZaC e e (hs.row 0 e) h5) e e (jd_y e (fun w hs=>ZaS e (hs.row 0 e) h5.1) e e (jd_y e (fun w hs=>ZaQ e (hs.row 0 e) h5.1 e) e e (jdy e (Zal e e) e e (Zbz e e e e (Zbz e e e e (ZaU [(4,_),(5,_)] ⟨e,e,trivial⟩ ?_)))))))))))))))
 refine ZaF (is:=[]) (s0 e) e (Zad (Zam (Za7 e (fun w hs=>.tmp e) (fun w hs=>.tmp e) (fun w hs=>⟨e,hs.drop⟩))))
theorem Zfw {w:World}{a0:HumpPush}{a1:Int}{a2:Int}{b0:Nat}{ha0A:Hd}{ha0B:Hd}{ha0C:Hd}{ha0D:Hd}{qa0D:List (Rolling×(Hd×Hd))}{ga0_fstart:Nat}{ga0_fdone:Nat}{qa0E:List (Ent Command)}{ha0F:Hd}{qa0F:List (Ride×Hd)}{ha0G:Hd}{v:(Int×Bool)}(hm:Zcx a0 a1 a2 = some v) (Rha0_fs_Elements:Sl w ha0A Element.enc a0.fs.Elements) (Rha0_fs_Start:Sl w ha0B Throw.enc a0.fs.Start) (Rha0_fs_Commands:Sl w ha0C Command.enc a0.fs.Commands) (Rha0_fincidents:Sl w ha0G Incident.enc a0.fincidents) (eha0_fs_Cuts:qa0D.map (·.1) = a0.fs.Cuts) (Rha0_fs_Cuts:Sl w ha0D Nt.enc qa0D) (Dha0_fs_Cuts:∀ p∈qa0D,rdN w p) (eha0_frides:qa0F.map (·.1) = a0.frides) (Rha0_frides:Sl w ha0F Nt.enc qa0F) (Dha0_frides:∀ p∈qa0F,rdN w p) (Hga0_fstart:MapVAt w ga0_fstart keyP valP a0.fstart) (Hga0_fdone:MapVAt w ga0_fdone keyE valE qa0E) (Hga0_fdoneK:KF qa0E a0.fdone) (Hga0_fdoneD:∀ x∈qa0E,(rowE 132 4 Command.enc x).rd w) (Hp0:Blk w b0 185 [ha0A.v,.int .i64 a0.fs.Throw,ha0B.v,ha0C.v,ha0D.v,.map (some ga0_fstart),.map (some ga0_fdone),ha0F.v,ha0G.v]):Gives Tryz.prog 151 [.pointer (some ⟨b0,0,none⟩),.int .i64 a1,.int .i64 a2] w (.tuple #[.int .i64 v.1,.bool v.2]):=by
 refine Za4 (vs:=[.pointer (some ⟨b0,0,none⟩),.int .i64 a1,.int .i64 a2]) (U:=fun (v:(Int×Bool))=>.tuple #[.int .i64 v.1,.bool v.2]) Tryz.func151 e Tryz.ntmps151 e e hm ?_
 unfold Zcx
 clear hm
 refine jqr 0 (Zaf e e e (Zaf e e e (gz3 0 1 2 e (jsr 1 (Zac e e e (jy (Zbg e) e e (jy (Zab e) e e (jg_y (fun w hs=>ZaJ e (ld1B (hs.argb Hp0) e)) e e (Zac e e e (jg_y (fun w hs=>Zg2 e e (hs.argV Hga0_fdone)) e e (Zaf e e e (gz4 0 1 2 8 e (Zad (Za2 (fun (s:Unit) (g:Unit)=>[(0,.pointer (some ⟨b0,0,none⟩)),(1,.int .i64 a1)]) (fun s g=>[]) (fun s g=>[]) ?_ ?_))))))))))))))
 ·intro z1 q2
  refine Zak (jqr 7 (Zac e e e (jy (Zbg e) e e (jy (Zab e) e e (jg_y (fun w hs=>ZaJ e (ld1B (hs.argb Hp0) e)) e e (Zac e e e (jg_y (fun w hs=>Zjt e e (hs.argV Hga0_fstart)) e e (Zac e e e (jy (ZaH e e) e e (jy (ZaH e e) e e (Zaf e e e (Zaf e e e (gz2 10 11 e (jsr 8 (Zac e e e (gz2 10 59 e ?_))))))))))))))))
  refine Zad (Zai e ?_ ?_)
  ·refine jqr 9 (Zac e e e (Zaf e e e (Zaf e e e (gz2 6 7 e (Zad (Zam (Zaw (Za7 e (fun w hs=>.tmp e) (fun w hs=>.tmp e) (fun w hs=>⟨e,hs.drop⟩)))))))))
  refine jks (jqr 10 (Zaf e e e (Zaf e e e (gz2 6 7 e (Zad (Zam (Za7 e (fun w hs=>.tmp e) (fun w hs=>.tmp e) (fun w hs=>⟨e,hs.drop⟩))))))))
 intro k3 H4
 refine jqr 2 (Zac e e e (Zc6 (fun w hs=>ZaV e (ZdF Hga0_fdoneK.1 (hs.argE Hga0_fdoneD) a1)) e e fun x5=>jy (ZaZ e e) e e (Zaf e e e (gz5 0 1 2 8 9 e (Zad (Zao (Zbj (n:=big) (fun (s:Int) (g:Unit)=>[(0,.pointer (some ⟨b0,0,none⟩)),(1,.int .i64 a1),(2,.int .i64 a2),(8,(hdOf a1 qa0E).v),(9,.int .i64 s)]) (fun s g=>[]) (fun s g=>[]) (w64 (x5 - 1)) () [] (u5 e) e e e ?_)))))))
 intro z6 q7 n10 k8 H9
 refine Zak (jqr 3 (Zac e e e (jy (Zbv e e) e e (gz6 0 1 2 8 9 22 e (Zad (Zai e ?_ ?_))))))
 rotate_left
 ·refine ZaE (Za9 (Zbe (Zba ?_)))
  exact Zap H4 () () [] (u2 e) e e e
 refine jks (Zak (Zao (jqr 5 (Zac e e e (Zac e e e (Za6 fun x11 h12=>jg_y (fun w hs=>ZaC e e (ZdF Hga0_fdoneK.1 (hs.argE Hga0_fdoneD) a1) h12) e e (jg_y (fun w hs=>ZaS e (ZdF Hga0_fdoneK.1 (hs.argE Hga0_fdoneD) a1) h12.1) e e (jg_y (fun w hs=>ZaQ e (ZdF Hga0_fdoneK.1 (hs.argE Hga0_fdoneD) a1) h12.1 e) e e (Zac e e e (jy (ZbR e e) e e (gz6 0 1 2 8 9 31 e (Zad (Zai e ?_ ?_)))))))))))))
 rotate_left
 ·refine ZaK (ZaG (Zad ?_))
  refine Zar 4 (Zac e e e (jy (ZaZ e e) e e (Zaf e e e (gz5 0 1 2 8 9 e (Zap H9 (w64 (z6 - 1)) () [] (u5 e) e e e)))))
 refine Zak (jdr (L':=[]) 6 [] [0,1,2,3,4,5,6,7,8,9,10,11,12,13,14,15,16,17,18,19] 1048575 1048575 [0,0,3,4,8,0,0,96,128,256,0,1024,2048,4096,8192,16896,0,98304,31,524287] [0,0,3,7,15,0,0,96,224,480,0,1024,3072,7168,15360,32736,0,131040,31,524287] [(0,true),(1,true),(2,true),(3,true),(4,true),(5,true),(6,true),(7,true),(8,true),(9,true),(10,true),(11,true),(12,true),(13,true),(14,true),(15,true),(16,true),(17,true),(18,true),(19,true)] e (Zas (Zay (Zas (Za0 (Zay (Zas Zbb)))))) (Zau e e e e (Zau e e e e (Zbk fun x13 h14=>jd_y e (fun w hs=>ZaC e e (ZdF Hga0_fdoneK.1 (hs.argE Hga0_fdoneD) a1) h14) e e (jd_y e (fun w hs=>ZaS e (ZdF Hga0_fdoneK.1 (hs.argE Hga0_fdoneD) a1) h14.1) e e (jd_y e (fun w hs=>ZaQ e (ZdF Hga0_fdoneK.1 (hs.argE Hga0_fdoneD) a1) h14.1 e) e e (Zau e e e e (Zau e e e e (Zbk fun x15 h16=>jd_y e (fun w hs=>ZaC e e (ZdF Hga0_fdoneK.1 (hs.argE Hga0_fdoneD) a1) h16) e e (jd_y e (fun w hs=>ZaS e (ZdF Hga0_fdoneK.1 (hs.argE Hga0_fdoneD) a1) h16.1) e e (jd_y e (fun w hs=>ZaQ e (ZdF Hga0_fdoneK.1 (hs.argE Hga0_fdoneD) a1) h16.1 e) e e (Zau e e e e (jdy e (Zbg e) e e (jdy e (Zab e) e e ?_))))))))))))))
 refine jdy e (Zab e) e e (jd_y e (fun w hs=>ZaJ e (ld1B (hs.argb Hp0) e)) e e (jdy e (Zal e e) e e (Zau e e e e (jdy e (Zbh e e) e e (Zbz e e e e (Zbz e e e e (ZaU [(6,_),(7,_)] ⟨e,e,trivial⟩ (Zad (Zam (ZaI (Zaw (Zbd (ZaI (Zaw ?_))))))))))))))
 exact Za7 e (fun w hs=>.tmp e) (fun w hs=>.tmp e) (fun w hs=>⟨e,hs.drop⟩)
theorem Zfb {w:World}{a0:(List Piece)}{a1:Int}{a2:Int}{ha0:Hd}{v:Int}(hm:Zck a0 a1 a2 = some v) (Rha0:Sl w ha0 Piece.enc a0):Gives Tryz.prog 168 [ha0.v,.int .i64 a1,.int .i64 a2] w (.int .i64 v):=by
 refine Za4 (vs:=[ha0.v,.int .i64 a1,.int .i64 a2]) (U:=fun (v:Int)=>.int .i64 v) Tryz.func168 e Tryz.ntmps168 e e hm ?_
 unfold Zck
 clear hm
 refine jqr 0 (Zaf e e e (gz3 0 1 2 e (Zad (Zak (jqr 1 (Zac e e e (jy (ZaD e e) e e (Zac e e e (Zaq 12 e ?_ ?_)))))))))
 ·refine Zaa e e (Zaa e e (Zaa e e (Zaa e e (jy (Zah e e) e e (Zac e e e (Zaa e e (Zaa e e (jy (Zah e e) e e (Zac e e e (Zaa e e (Zaa e e (jy (Zah e e) e e (gz4 0 1 2 25 e (Zad (Zbo e (jqr 2 ?_))))))))))))))))
  refine Zaf e e e (gz1 6 e (Zad (Zam (Zaw (Zaj e (fun w hs=>.tmp e) (fun w hs=>⟨e,hs.drop⟩))))))
 refine Zac e e e (Zac e e e (jg_y (fun w hs=>ZaV e (hs.arg Rha0)) e e (jy (Zbv e e) e e (jy (Zae e e) e e (Zac e e e (Zaq 18 e ?_ ?_))))))
 ·refine Zaa e e (Zaa e e (jy (Zah e e) e e (Zac e e e (Zaa e e (Zaa e e (jy (Zah e e) e e (gz4 0 1 2 25 e (Zad (Zbo e (jqr 2 (Zaf e e e (gz1 6 e (Zad (Zam (Zaw (Zaj e (fun w hs=>.tmp e) (fun w hs=>⟨e,hs.drop⟩)))))))))))))))))
 refine Zac e e e (jy (ZaD e e) e e (jy (Zae e e) e e (Zac e e e (Zaq 22 e ?_ ?_))))
 ·refine Zaa e e (Zaa e e (jy (Zah e e) e e (gz4 0 1 2 25 e (Zad (Zbo e (jqr 2 (Zaf e e e (gz1 6 e (Zad (Zam (Zaw (Zaj e (fun w hs=>.tmp e) (fun w hs=>⟨e,hs.drop⟩)))))))))))))
 refine Zac e e e (jy (Zbh e e) e e (jy (Zae e e) e e (gz4 0 1 2 25 e (Zad (Zai e ?_ ?_)))))
 ·refine jqr 2 (Zaf e e e (gz1 6 e (Zad (Zam (Zaw (Zaj e (fun w hs=>.tmp e) (fun w hs=>⟨e,hs.drop⟩)))))))
 refine jks (Za2 (fun (s:Unit) (g:Unit)=>[(0,ha0.v),(1,.int .i64 a1),(2,.int .i64 a2)]) (fun s g=>[]) (fun s g=>[]) ?_ ?_)
 ·intro z1 q2
  refine jqr 9 (Zaf e e e (gz4 0 1 2 9 e (Zad (Zak (Zao (Zbj (n:=big) (fun (s:(Int×Int)) (g:Unit)=>[(0,ha0.v),(1,.int .i64 s.1),(2,.int .i64 a2),(9,.int .i64 s.2)]) (fun s g=>[]) (fun s g=>[]) (a1,0) () [] (u4 e) e e e ?_))))))
  intro z5 q6 n9 k7 H8
  refine Zak (jqr 10 (Zac e e e (Zac e e e (jy (ZaD e e) e e (gz5 0 1 2 9 43 e (Zad (Zai e ?_ ?_)))))))
  rotate_left
  ·refine ZaE (Za9 (Zbe (Zba (Zad ?_))))
   refine jqr 15 (Zac e e e (Zaf e e e (gz1 6 e (Zad (Zam (Zaj e (fun w hs=>.tmp e) (fun w hs=>⟨e,hs.drop⟩)))))))
  refine jks (Zao (jqr 11 (Zac e e e (jy (Zal e e) e e (Zaf e e e (gz4 0 1 2 9 e (Zad (Zak (jqr 12 (Zac e e e (Zac e e e (jg_y (fun w hs=>ZaV e (hs.arg Rha0)) e e (jy (ZaL e e) e e (gz5 0 1 2 9 49 e (Zad (Zai e ?_ ?_))))))))))))))))
  ·refine jqr 13 (Zaf e e e (gz1 6 e (Zad (Zam (Zaw (ZaI (Zbd (ZaI (Zaw ?_)))))))))
   exact Zaj e (fun w hs=>.tmp e) (fun w hs=>⟨e,hs.drop⟩)
  refine jks (Zar 14 (Zac e e e (Zac e e e (Zac e e e (Za6 fun x10 h11=>jg_y (fun w hs=>ZaC e e (hs.arg Rha0) h11) e e (jg_y (fun w hs=>ZaS e (hs.arg Rha0) h11.1) e e (jg_y (fun w hs=>ZaQ e (hs.arg Rha0) h11.1 e) e e (jy (Zal e e) e e (Zaf e e e (gz4 0 1 2 9 e (ZaG (Zap H8 (w64 (z5.1 + 1),w64 (z5.2 + x10.Length)) () [] (u4 e) e e e))))))))))))
 intro k3 H4
 refine jqr 3 (Zac e e e (jg_y (fun w hs=>ZaV e (hs.arg Rha0)) e e (Zac e e e (gz6 0 1 2 26 27 28 e (Zad (Zao (Zbj (n:=big) (fun (s:Int) (g:Unit)=>[(0,ha0.v),(1,.int .i64 a1),(2,.int .i64 a2),(26,ha0.v),(27,.int .i64 (a0.length:Int)),(28,.int .i64 s)]) (fun s g=>[]) (fun s g=>[]) 0 () [] (u6 e) e e e ?_)))))))
 intro z12 q13 n16 k14 H15
 refine jqr 4 (jy (ZaD e e) e e (gz7 0 1 2 26 27 28 29 e (Zad (Zak (Zai e ?_ ?_)))))
 rotate_left
 ·refine ZaE (Za9 (Zbe (Zba ?_)))
  exact Zap H4 () () [] (u3 e) e e e
 refine jks (Zak (Zao (jqr 5 (Za6 fun x17 h18=>jg_y (fun w hs=>ZaC e e (hs.arg Rha0) h18) e e (jg_y (fun w hs=>ZbJ e (hs.arg Rha0) h18.1 (l5 e) e) e e (ZaR (l5 e) e e fun g19=>Zav 0 e e e (l5 e) e e e e (l5 e) (r1 e) (gz7 0 1 2 8 26 27 28 e (jsr 6 (jy (Zab e) e e (jgl 0 e e e e e (jy (ZaD e e) e e (Zac e e e (Zaq 35 e ?_ ?_)))))))))))))
 ·refine Zaa e e (Zaa e e (Zaa e e (jy (Zah e e) e e (gz7 0 1 2 26 27 28 39 e (Zad (Zbo e (jqr 7 (Zaf e e e (gz1 6 e (Zad (Zam (ZaI (Zaw (Zbd (ZaI (Zaw ?_))))))))))))))))
  exact Zaj e (fun w hs=>.tmp e) (fun w hs=>⟨e,hs.drop⟩)
 refine jy (Zab e) e e (jgl 0 e e e e e (jy (Zbh e e) e e (jy (Zae e e) e e (gz7 0 1 2 26 27 28 39 e (Zad (Zai e ?_ ?_))))))
 rotate_left
 ·refine ZaK (ZaG (Zad ?_))
  refine Zar 8 (jy (Zal e e) e e (Zac e e e (gz6 0 1 2 26 27 28 e (Zap H15 (w64 (z12 + 1)) () [] (u6 e) e e e))))
 refine jqr 7 (Zaf e e e (gz1 6 e (Zad (Zam (ZaI (Zaw (Zbd (ZaI (Zaw ?_)))))))))
 exact Zaj e (fun w hs=>.tmp e) (fun w hs=>⟨e,hs.drop⟩)
theorem ZeY {w:World}{a0:(List Element)}{a1:(List Piece)}{a2:Int}{a3:Int}{a4:Int}{ha0:Hd}{ha1:Hd}{v:((List Int)×Int)}(hm:Zca a0 a1 a2 a3 a4 = some v) (Rha0:Sl w ha0 Element.enc a0) (Rha1:Sl w ha1 Piece.enc a1):Calls Tryz.prog 152 ([ha0.v,ha1.v,.int .i64 a2,.int .i64 a3,.int .i64 a4]:List Value).toArray w (fun e w'=>∃ g:Hd,e = .returned (.tuple #[g.v,.int .i64 v.2])∧St w w' [] [(rowH g 3 1 encI v.1)]):=by
 refine ZbN (vs:=[ha0.v,ha1.v,.int .i64 a2,.int .i64 a3,.int .i64 a4]) (R:=fun (v:((List Int)×Int)) (e:Ending) (w':World)=>∃ g:Hd,e = .returned (.tuple #[g.v,.int .i64 v.2])∧St w w' [] [(rowH g 3 1 encI v.1)]) Tryz.func152 e Tryz.ntmps152 e e (St.refl w) hm ?_
 unfold Zca
 clear hm
 refine jqr 0 (Zaf e e e (Zaf e e e (gz5 0 1 2 3 4 e (Zad (Zak (jqr 1 (Zac e e e (Zbc e (fun v w hs hm=>Zet hm (hs.arg Rha1)) e e fun v1=>Zaf e e e (gz6 0 1 2 3 4 12 e (jsr 2 (Zac e e e (jy (Zbt e e) e e (gz7 0 1 2 3 4 12 21 e (Zad (Zai e ?_ ?_)))))))))))))))
 ·refine jqr 3 (Zac e e e (Zaf e e e (Zaf e e e (gz2 10 11 e (Zad (Zam (Zaw (Za3 3 1 encI (Za7 e (fun w hs=>.tmp e) (fun w hs=>.tmp e) (fun w hs=>⟨(Hd.mk none 0 0),e,hs.sel (is:=[0]) e e⟩))))))))))
 refine jks (Zak (jqr 4 (Zac e e e (jy (ZaD e e) e e (Zac e e e (Zaq 25 e ?_ ?_))))))
 ·refine Zaa e e (Zaa e e (jy (Zah e e) e e (gz6 0 1 2 3 4 28 e (Zad (Zbo e (jqr 5 (Zaf e e e (Zaf e e e (gz2 10 11 e (Zad (Zam (Zaw (Za3 3 1 encI (Za7 e (fun w hs=>.tmp e) (fun w hs=>.tmp e) (fun w hs=>⟨(Hd.mk none 0 0),e,hs.sel (is:=[0]) e e⟩)))))))))))))))
 refine Zac e e e (jy (Zbh e e) e e (jy (Zae e e) e e (gz6 0 1 2 3 4 28 e (Zad (Zai e ?_ ?_)))))
 ·refine jqr 5 (Zaf e e e (Zaf e e e (gz2 10 11 e (Zad (Zam (Zaw (Za3 3 1 encI (Za7 e (fun w hs=>.tmp e) (fun w hs=>.tmp e) (fun w hs=>⟨(Hd.mk none 0 0),e,hs.sel (is:=[0]) e e⟩)))))))))
 refine jks (Zak (jqr 6 (Zac e e e (Zac e e e (jy (ZaD e e) e e (Zac e e e (Zaq 32 e ?_ ?_)))))))
 ·refine Zaa e e (Zaa e e (Zaa e e (Zaa e e (Zaa e e (jy (Zah e e) e e (gz4 0 1 4 38 e (Zad (Zbo e (jqr 7 (Zaf e e e (Zaf e e e (gz2 10 11 e (Zad (Zam (Zaw (Za3 3 1 encI ?_))))))))))))))))
  exact Za7 e (fun w hs=>.tmp e) (fun w hs=>.tmp e) (fun w hs=>⟨(Hd.mk none 0 0),e,hs.sel (is:=[0]) e e⟩)
 refine Zac e e e (Zac e e e (jg_y (fun w hs=>ZaV e (hs.arg Rha1)) e e (jy (Zal e e) e e (jy (Zbh e e) e e (jy (Zae e e) e e (gz4 0 1 4 38 e (Zad (Zai e ?_ ?_))))))))
 ·refine jqr 7 (Zaf e e e (Zaf e e e (gz2 10 11 e (Zad (Zam (Zaw (Za3 3 1 encI (Za7 e (fun w hs=>.tmp e) (fun w hs=>.tmp e) (fun w hs=>⟨(Hd.mk none 0 0),e,hs.sel (is:=[0]) e e⟩)))))))))
 refine jks (Za2 (fun (s:Unit) (g:Unit)=>[(1,ha1.v),(4,.int .i64 a4)]) (fun s g=>[]) (fun s g=>[]) ?_ ?_)
 ·intro z2 q3
  refine jqr 14 (Zaf e e e (gz3 1 4 15 e (Zad (Zak (jqr 15 (Zaf e e e (gz4 1 4 15 16 e (Zad (Zao (Zbm 3 1 encI (Zbj (n:=big) (fun (s:((List Int)×Int)) (g:Hd)=>[(1,ha1.v),(4,.int .i64 a4),(15,g.v),(16,.int .i64 s.2)]) (fun s g=>[]) (fun s g=>[(rowH g 3 1 encI s.1)]) (([]:List Int),0) (Hd.mk none 0 0) [0] (u4 e) e e e ?_)))))))))))
  intro z6 q7 n10 k8 H9
  refine Zak (jqr 16 (Zac e e e (jy (Zal e e) e e (Zac e e e (jg_y (fun w hs=>ZaV e (hs.arg Rha1)) e e (jy (ZaD e e) e e (gz5 1 4 15 16 60 e (Zad (Zai e ?_ ?_)))))))))
  rotate_left
  ·refine ZaE (Za9 (Zbe (Zba (Zad ?_))))
   refine jqr 22 (Zac e e e (Zaf e e e (Zaf e e e (gz2 10 11 e (Zad (Zam (Za7 e (fun w hs=>.tmp e) (fun w hs=>.tmp e) (fun w hs=>⟨q7,e,hs.sel (is:=[0]) e e⟩))))))))
  refine jks (Zak (Zao (jqr 18 (Zac e e e (Zac e e e (Zac e e e (Zbc e (fun v w hs hm=>Zfb hm (hs.arg Rha1)) e e fun v11=>Zaf e e e (gz5 1 4 15 16 17 e (Zad (Zak (jqr 19 (Zac e e e (jy (ZaD e e) e e (gz6 1 4 15 16 17 68 e (Zad ?_)))))))))))))))
  refine Zai e ?_ ?_
  ·refine jqr 20 (Zaf e e e (Zaf e e e (gz2 10 11 e (Zad (Zam (Zaw (ZaI (Zaw (Zbd (ZaI (Zaw ?_)))))))))))
   refine Za3 3 1 encI (Za7 e (fun w hs=>.tmp e) (fun w hs=>.tmp e) (fun w hs=>⟨(Hd.mk none 0 0),e,hs.sel (is:=[0]) e e⟩))
  refine jks (Zar 21 (Zac e e e (Zac e e e (ZaT (enc:=encI) [v11] e e e e e e e e fun hd12=>ZaO 1 e e e (fun w hs=>(hs.row 0 e)) e e e fun y13 hd14=>jg_L (r2 e) (Zaf e e e (gz4 1 4 15 16 e (ZaG (Zad ?_))))))))
  refine Zar 17 (Zac e e e (jy (Zal e e) e e (Zaf e e e (gz4 1 4 15 16 e (Zap H9 (y13,w64 (z6.2 + 1)) hd14 [1] (u4 e) e e e)))))
 intro k4 H5
 refine jqr 8 (Zac e e e (jg_y (fun w hs=>ZaV e (hs.arg Rha1)) e e (Zac e e e (gz6 0 1 4 39 40 41 e (Zad (Zao (Zbj (n:=big) (fun (s:Int) (g:Unit)=>[(0,ha0.v),(1,ha1.v),(4,.int .i64 a4),(39,ha1.v),(40,.int .i64 (a1.length:Int)),(41,.int .i64 s)]) (fun s g=>[]) (fun s g=>[]) 0 () [] (u6 e) e e e ?_)))))))
 intro z15 q16 n19 k17 H18
 refine jqr 9 (jy (ZaD e e) e e (gz7 0 1 4 39 40 41 42 e (Zad (Zak (Zai e ?_ ?_)))))
 rotate_left
 ·refine ZaE (Za9 (Zbe (Zba ?_)))
  exact Zap H5 () () [] (u2 e) e e e
 refine jks (Zak (Zao (jqr 10 (Za6 fun x20 h21=>jg_y (fun w hs=>ZaC e e (hs.arg Rha1) h21) e e (jg_y (fun w hs=>ZbJ e (hs.arg Rha1) h21.1 (l5 e) e) e e (ZaR (l5 e) e e fun g22=>Zav 0 e e e (l5 e) e e e e (l5 e) (r1 e) (gz7 0 1 4 14 39 40 41 e (jsr 11 (jy (Zab e) e e (jgl 0 e e e e e (jy (ZaD e e) e e (Zac e e e (Zaq 48 e ?_ ?_)))))))))))))
 ·refine Zaa e e (Zaa e e (Zaa e e (Zaa e e (Zaa e e (jy (Zah e e) e e (gz7 0 1 4 39 40 41 54 e (Zad (Zbo e (jqr 12 (Zaf e e e (Zaf e e e (gz2 10 11 e (Zad (Zam (ZaI (Zaw (Zbd (ZaI (Zaw ?_)))))))))))))))))))
  refine Za3 3 1 encI (Za7 e (fun w hs=>.tmp e) (fun w hs=>.tmp e) (fun w hs=>⟨(Hd.mk none 0 0),e,hs.sel (is:=[0]) e e⟩))
 refine jy (Zab e) e e (jgl 0 e e e e e (Zac e e e (jg_y (fun w hs=>ZaV e (hs.arg Rha0)) e e (jy (Zbv e e) e e (jy (Zae e e) e e (gz7 0 1 4 39 40 41 54 e (Zad (Zai e ?_ ?_))))))))
 rotate_left
 ·refine ZaK (ZaG (Zad ?_))
  refine Zar 13 (jy (Zal e e) e e (Zac e e e (gz6 0 1 4 39 40 41 e (Zap H18 (w64 (z15 + 1)) () [] (u6 e) e e e))))
 refine jqr 12 (Zaf e e e (Zaf e e e (gz2 10 11 e (Zad (Zam (ZaI (Zaw (Zbd (ZaI (Zaw ?_))))))))))
 refine Za3 3 1 encI (Za7 e (fun w hs=>.tmp e) (fun w hs=>.tmp e) (fun w hs=>⟨(Hd.mk none 0 0),e,hs.sel (is:=[0]) e e⟩))
theorem Zft {w:World}{a0:(List Element)}{a1:(List Piece)}{a2:Int}{ha0:Hd}{ha1:Hd}{v:Span}(hm:Zcu a0 a1 a2 = some v) (Rha0:Sl w ha0 Element.enc a0) (Rha1:Sl w ha1 Piece.enc a1):Gives Tryz.prog 153 [ha0.v,ha1.v,.int .i64 a2] w (.agg #[.int .i64 v.Element,.int .i64 v.Side,.int .i64 v.From,.int .i64 v.To]):=by
 refine Za4 (vs:=[ha0.v,ha1.v,.int .i64 a2]) (U:=fun (v:Span)=>.agg #[.int .i64 v.Element,.int .i64 v.Side,.int .i64 v.From,.int .i64 v.To]) Tryz.func153 e Tryz.ntmps153 e e hm ?_
 unfold Zcu
 clear hm
 refine jqr 0 (ZaR (l4 e) e e fun g1=>gz4 0 1 2 6 e (jsr 1 (Zac e e e (Zac e e e (Za6 fun x2 h3=>jg_y (fun w hs=>ZaC e e (hs.arg Rha1) h3) e e (jg_y (fun w hs=>ZaS e (hs.arg Rha1) h3.1) e e (jg_y (fun w hs=>ZaQ e (hs.arg Rha1) h3.1 e) e e (jy (ZaX e (o4 e)) e e (ZaR (l4 e) e e fun g4=>Zav 0 e e e (l4 e) e e e e (l4 e) (r2 e) (gz5 0 1 2 6 7 e (Zad (Zak (jqr 2 ?_)))))))))))))
 refine Zac e e e (jy (Zab e) e e (jgl 0 e e e e e (Za6 fun x5 h6=>jg_y (fun w hs=>ZaC e e (hs.arg Rha0) h6) e e (jg_y (fun w hs=>ZaS e (hs.arg Rha0) h6.1) e e (jg_y (fun w hs=>ZaQ e (hs.arg Rha0) h6.1 e) e e (jy (ZaL e e) e e (gz6 0 1 2 6 7 20 e (Zad (Zai e ?_ ?_)))))))))
 rotate_left
 ·refine jks (jqr 4 (jg_y (fun w hs=>ZaJ e (ldBB (hs.blkL (i:=0) e) e)) e e (Zav 1 e e e (l4 e) e e e e (l4 e) (r2 e) (gz1 6 e (Zad (Zam (Zaj e (fun w hs=>.cell e (ldBB (hs.blkL (i:=1) e) e)) (fun w hs=>⟨e,hs.drop⟩))))))))
 refine Zar 3 (Zac e e e (Zac e e e (Zac e e e (jy (Zal e e) e e (Za6 fun x7 h8=>jg_y (fun w hs=>ZaC e e (hs.arg Rha1) h8) e e (jg_y (fun w hs=>ZaS e (hs.arg Rha1) h8.1) e e (jg_y (fun w hs=>ZaQ e (hs.arg Rha1) h8.1 e) e e (Za6 fun x9 h10=>jg_y (fun w hs=>ZaC e e (hs.arg Rha0) h10) e e (jg_y (fun w hs=>ZaS e (hs.arg Rha0) h10.1) e e (jg_y (fun w hs=>ZaQ e (hs.arg Rha0) h10.1 e) e e (jy (Zab e) e e (Zav 0 e e e (l1 e) e e e e (l4 e) (r2 e) (gz2 6 7 e (jsr 4 ?_))))))))))))))
 refine jg_y (fun w hs=>ZaJ e (ldBB (hs.blkL (i:=0) e) e)) e e (Zav 1 e e e (l4 e) e e e e (l4 e) (r2 e) (gz1 6 e (Zad (Zam (Zaj e (fun w hs=>.cell e (ldBB (hs.blkL (i:=1) e) e)) (fun w hs=>⟨e,hs.drop⟩))))))
theorem Zfa {w:World}{a0:(List Element)}{a1:(List Piece)}{a2:(List Moment)}{a3:Int}{ha0:Hd}{ha1:Hd}{ha2:Hd}{v:((List Span)×Int)}(hm:Zcj a0 a1 a2 a3 = some v) (Rha0:Sl w ha0 Element.enc a0) (Rha1:Sl w ha1 Piece.enc a1) (Rha2:Sl w ha2 Moment.enc a2):Calls Tryz.prog 124 ([ha0.v,ha1.v,ha2.v,.int .i64 a3]:List Value).toArray w (fun e w'=>∃ g:Hd,e = .returned (.tuple #[g.v,.int .i64 v.2])∧St w w' [] [(rowH g 139 4 Span.enc v.1)]):=by
 refine ZbN (vs:=[ha0.v,ha1.v,ha2.v,.int .i64 a3]) (R:=fun (v:((List Span)×Int)) (e:Ending) (w':World)=>∃ g:Hd,e = .returned (.tuple #[g.v,.int .i64 v.2])∧St w w' [] [(rowH g 139 4 Span.enc v.1)]) Tryz.func124 e Tryz.ntmps124 e e (St.refl w) hm ?_
 unfold Zcj
 clear hm
 refine jqr 0 (Zaf e e e (Zaf e e e (gz4 0 1 2 3 e (jsr 1 (Zac e e e (Zac e e e (Zac e e e (jg_y (fun w hs=>ZaV e (hs.arg Rha2)) e e (Zac e e e (jg_c e (fun v w hs hm=>ZeY hm (hs.arg Rha0) (hs.arg Rha1)) e e fun v1 q2=>jg_L (r1 e) (Zac e e e (jy (ZaH e e) e e (jy (ZaH e e) e e (Zaf e e e (Zaf e e e ?_)))))))))))))))
 refine gz5 0 1 2 10 11 e (Zad (Zak (jqr 2 (Zac e e e (jy (Zbt e e) e e (gz6 0 1 2 10 11 26 e (Zad (Zai e ?_ ?_))))))))
 ·refine jqr 3 (Zac e e e (Zaf e e e (Zaf e e e (gz2 8 9 e (Zad (Zam (Zaw (Za3 139 4 Span.enc (Za7 e (fun w hs=>.tmp e) (fun w hs=>.tmp e) (fun w hs=>⟨(Hd.mk none 0 0),e,hs.sel (is:=[0]) e e⟩))))))))))
 refine jks (jqr 4 (Zaf e e e (gz5 0 1 2 10 12 e (Zad (Zak (jqr 5 (Zac e e e (jg_y (fun w hs=>ZaV e (hs.row 0 e)) e e (Zac e e e (gz7 0 1 2 12 28 29 30 e (Zad (Zao (Zbm 139 4 Span.enc (Zbj (n:=big) (fun (s:((List Span)×Int)) (g:Hd)=>[(0,ha0.v),(1,ha1.v),(2,ha2.v),(12,g.v),(28,q2.v),(29,.int .i64 (v1.1.length:Int)),(30,.int .i64 s.2)]) (fun s g=>[]) (fun s g=>[(rowH g 139 4 Span.enc s.1),(rowH q2 3 1 encI v1.1)]) (([]:List Span),0) (Hd.mk none 0 0) [0,1] (u7 e) e e e ?_))))))))))))))
 intro z3 q4 n7 k5 H6
 refine jqr 6 (jy (ZaD e e) e e (gz8 0 1 2 12 28 29 30 31 e (Zad (Zak (Zai e ?_ ?_)))))
 rotate_left
 ·refine ZaE (Za9 (Zbe (Zba (Zad ?_))))
  refine jqr 15 (Zac e e e (Zaf e e e (Zaf e e e (gz2 8 9 e (Zad (Zam (Za7 e (fun w hs=>.tmp e) (fun w hs=>.tmp e) (fun w hs=>⟨q4,e,hs.sel (is:=[0]) e e⟩))))))))
 refine jks (Zak (Zao (jqr 7 (Zac e e e (Za6 fun x8 h9=>jg_y (fun w hs=>ZaC e e (hs.row 1 e) h9) e e (jg_y (fun w hs=>ZaQ e (hs.row 1 e) h9.1 e) e e (Zaf e e e (Zaf e e e (gz9 0 1 2 12 13 14 28 29 30 e (Zad (Zak (jqr 8 (Zac e e e (Zac e e e (jg_y (fun w hs=>ZaV e (hs.arg Rha2)) e e ?_)))))))))))))))
 refine jy (Zbv e e) e e (gz10 0 1 2 12 13 14 28 29 30 38 e (Zad (Zai e ?_ ?_)))
 ·refine ZaE (Za9 (Zjm e (Za9 (Zbe (Zba (Zad ?_))))))
  refine jqr 15 (Zac e e e (Zaf e e e (Zaf e e e (gz2 8 9 e (Zad (Zam (Za7 e (fun w hs=>.tmp e) (fun w hs=>.tmp e) (fun w hs=>⟨q4,e,hs.sel (is:=[0]) e e⟩))))))))
 refine jks (jqr 9 (Zac e e e (Zac e e e (Zac e e e (Zbc e (fun v w hs hm=>Zft hm (hs.arg Rha0) (hs.arg Rha1)) e e fun v10=>ZaR (l4 e) e e fun g11=>Zav 0 e e e (l4 e) e e e e (l4 e) (r3 e) (gz10 0 1 2 12 13 14 15 28 29 30 e (jsr 10 (Zac e e e (Zac e e e (Za6 fun x12 h13=>jg_y (fun w hs=>ZaC e e (hs.arg Rha2) h13) e e (jg_y (fun w hs=>ZaS e (hs.arg Rha2) h13.1) e e (jg_y (fun w hs=>ZaQ e (hs.arg Rha2) h13.1 e) e e (jy (Zab e) e e ?_)))))))))))))
 refine Zav 0 e e e (l1 e) e e e e (l4 e) (r3 e) (gz9 0 1 2 12 14 15 28 29 30 e (Zad (Zak (jqr 11 (Zac e e e (jy (Zal e e) e e (Zac e e e (jg_y (fun w hs=>ZaV e (hs.arg Rha2)) e e (jy (ZaD e e) e e (gz10 0 1 2 12 14 15 28 29 30 53 e (Zad (Zai e ?_ ?_))))))))))))
 rotate_left
 ·refine jks (Zar 13 (Zac e e e (jg_y (fun w hs=>ZaJ e (ldBB (hs.blkL (i:=0) e) e)) e e (ZaT (enc:=Span.enc) [(Span.mk v10.Element v10.Side x12.Time v10.To)] e e e e e e e e fun hd19=>ZaO 2 e e e (fun w hs=>(hs.row 0 e)) e e e fun y20 hd21=>jg_L (r4 e) (Zaf e e e (gz7 0 1 2 12 28 29 30 e (ZaF (is:=[2,3]) (s2 e) e (ZaG (Zad ?_)))))))))
  refine Zar 14 (jy (Zal e e) e e (Zac e e e (gz7 0 1 2 12 28 29 30 e (Zap H6 (y20,w64 (z3.2 + 1)) hd21 [0,1] (u7 e) e e e))))
 refine Zar 12 (Zac e e e (Zac e e e (jy (Zal e e) e e (Za6 fun x14 h15=>jg_y (fun w hs=>ZaC e e (hs.arg Rha2) h15) e e (jg_y (fun w hs=>ZaS e (hs.arg Rha2) h15.1) e e (jg_y (fun w hs=>ZaQ e (hs.arg Rha2) h15.1 e) e e (jy (Zab e) e e (Zav 0 e e e (l1 e) e e e e (l4 e) (r3 e) (gz8 0 1 2 12 15 28 29 30 e (Zad (Zar 13 (Zac e e e (jg_y (fun w hs=>ZaJ e (ldBB (hs.blkL (i:=0) e) e)) e e (ZaT (enc:=Span.enc) [(Span.mk v10.Element v10.Side x12.Time x14.Time)] e e e e e e e e fun hd16=>ZaO 2 e e e (fun w hs=>(hs.row 0 e)) e e e fun y17 hd18=>?_))))))))))))))
 refine jg_L (r4 e) (Zaf e e e (gz7 0 1 2 12 28 29 30 e (ZaF (is:=[2,3]) (s2 e) e (ZaG (Zad ?_)))))
 refine Zar 14 (jy (Zal e e) e e (Zac e e e (gz7 0 1 2 12 28 29 30 e (Zap H6 (y17,w64 (z3.2 + 1)) hd18 [0,1] (u7 e) e e e))))
end Go.Proofs.YtdgminllobhncaaGreat
