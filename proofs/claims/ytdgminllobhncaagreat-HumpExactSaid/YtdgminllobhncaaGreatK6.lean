/-
  What the proof leans on, part 6: plain rules, plain models of the functions, and what they give. No condition.
-/
import Derived.Test.YtdgminllobhncaaGreatK5
import Derived.Carry
import Derived.OpenShut
import Derived.Lib.SmallJoins
import Derived.SizedLaws
namespace Go.Proofs.YtdgminllobhncaaGreat
open Go.Hy
set_option linter.unusedVariables false
set_option linter.unusedSimpArgs false
set_option maxHeartbeats 2000000
set_option maxRecDepth 100000
theorem Zdt {w:World}{a0:HumpgenMaker}{a1:Scene}{ha0A:Hd}{b0:Nat}{ha1B:Hd}{ha1C:Hd}{ha1D:Hd}{ha1E:Hd}{qa1E:List (Rolling×(Hd×Hd))}{v:(Scene×Int)}(hm:Zb2 a0 a1 = some v) (Hb:Blk w b0 65 [ha0A.v,.int .i64 a0.fn]) (Rha0_fl:Sl w ha0A encI a0.fl) (Oha0_fl:Offs ha0A [b0]) (Rha1_Elements:Sl w ha1B Element.enc a1.Elements) (Oha1_Elements:Offs ha1B [b0]) (Rha1_Start:Sl w ha1C Throw.enc a1.Start) (Oha1_Start:Offs ha1C [b0]) (Rha1_Commands:Sl w ha1D Command.enc a1.Commands) (Oha1_Commands:Offs ha1D [b0]) (eha1_Cuts:qa1E.map (·.1) = a1.Cuts) (Rha1_Cuts:Sl w ha1E Nt.enc qa1E) (Dha1_Cuts:∀ p∈qa1E,rdN w p) (Oha1_Cuts:Offs ha1E [b0]) (DOha1_Cuts:∀ p∈qa1E,offN [b0] p):Calls Tryz.prog 15 ([.pointer (some ⟨b0,0,none⟩),.agg #[ha1B.v,.int .i64 a1.Throw,ha1C.v,ha1D.v,ha1E.v]]:List Value).toArray w (fun e w'=>∃ g:(Hd×Hd×List (Rolling×(Hd×Hd))×List Rw),e = .returned (.agg #[ha1B.v,.int .i64 v.1.Throw,ha1C.v,g.1.v,g.2.1.v])∧St w w' [.blk b0 65 [ha0A.v,.int .i64 v.2]] [(rowH g.1 132 4 Command.enc v.1.Commands),(rowH g.2.1 104 6 Nt.enc g.2.2.1),(Res.nest g.2.2.2 (NF (arOf qa1E) g.2.2.2 g.2.2.1 v.1.Cuts))]):=by
 refine ZbN (vs:=[.pointer (some ⟨b0,0,none⟩),.agg #[ha1B.v,.int .i64 a1.Throw,ha1C.v,ha1D.v,ha1E.v]]) (R:=fun (v:(Scene×Int)) (e:Ending) (w':World)=>∃ g:(Hd×Hd×List (Rolling×(Hd×Hd))×List Rw),e = .returned (.agg #[ha1B.v,.int .i64 v.1.Throw,ha1C.v,g.1.v,g.2.1.v])∧St w w' [.blk b0 65 [ha0A.v,.int .i64 v.2]] [(rowH g.1 132 4 Command.enc v.1.Commands),(rowH g.2.1 104 6 Nt.enc g.2.2.1),(Res.nest g.2.2.2 (NF (arOf qa1E) g.2.2.2 g.2.2.1 v.1.Cuts))]) Tryz.func15 e Tryz.ntmps15 e e (ZhS Hb) hm ?_
 unfold Zb2
 clear hm
 refine jqr 0 (ZbD e (l5 e) e e fun g1=>ZaR (l5 e) e e fun g2=>gz3 0 3 4 e (jsr 1 (ZgU (ZdO (enc:=(Nt.enc (α:=Rolling) (η:=(Hd×Hd)))) e e fun hd3=>?_))))
 have n4:NF (arOf qa1E) [] ([]:List (Rolling×(Hd×Hd))) ([]:List Rolling):=NF.nil
 refine jy (Zab e) e e (jgl 3 e e e e e (Zcg 0 e e e (fun w hs=>n4.1) (fun w hs=>eha1_Cuts) (fun w hs=>(hs.argM Rha1_Cuts Oha1_Cuts)) e e e fun y5 hd6 H7=>jg_L (r4 e) ?_))
 have n8:NF (arOf qa1E) [] (([]:List (Rolling×(Hd×Hd))) ++ qa1E) y5:=n4.app (NF.arg eha1_Cuts) H7
 refine jy (Zab e) e e (Zav 3 e e e (l1 e) e e e e (l5 e) (r4 e) (gz3 0 3 4 e (jsr 2 (ZdO (enc:=Command.enc) e e fun hd9=>jy (Zab e) e e (jgl 4 e e e e e (ZaO 0 e e e (fun w hs=>(hs.argM Rha1_Commands Oha1_Commands)) e e e fun y10 hd11=>jg_L (r5 e) (jy (Zab e) e e (Zav 4 e e e (l1 e) e e e e (l5 e) (r5 e) (gz3 0 3 4 e (Zad (Zak (jqr 3 (Zac e e e (jm_c e (fun v w hs hm=>ZaP hm (hs.blkM (i:=0) e) (hs.argM Rha0_fl Oha0_fl) Oha0_fl) (fun _=>e) e e fun v12 q13=>?_))))))))))))))
 refine jy (Zal e e) e e (Zaf e e e (gz4 0 3 4 5 e (Zad (Zao (ZbC (i:=2) (NF (arOf qa1E) [] (([]:List (Rolling×(Hd×Hd))) ++ qa1E) y5) e (fun _=>n8) (r5 e) (Zbj (n:=big) (fun (s:((List Command)×(List Rolling)×Int×Int)) (g:(Hd×(List (Rolling×(Hd×Hd)))×List Rw))=>[(0,.pointer (some ⟨b0,0,none⟩)),(3,.pointer (some ⟨g1,0,none⟩)),(4,.pointer (some ⟨g2,0,none⟩)),(5,.int .i64 s.2.2.1)]) (fun s g=>[(Res.blk b0 65 [ha0A.v,.int .i64 s.2.2.2])]) (fun s g=>[(Res.blk g1 56 [ha1B.v,.int .i64 a1.Throw,ha1C.v,g.1.v,hd6.v]),(rowH g.1 132 4 Command.enc s.1),(rowH hd6 104 6 Nt.enc g.2.1),(Res.blk g2 56 [(Hd.mk none 0 0).v,.int .i64 0,(Hd.mk none 0 0).v,(Hd.mk none 0 0).v,(Hd.mk none 0 0).v]),(Res.nest g.2.2 (NF (arOf qa1E) g.2.2 g.2.1 s.2.1))]) (y10,y5,w64 (1 + v12.1),v12.2) (hd11,(([]:List (Rolling×(Hd×Hd))) ++ qa1E),[]) [4,0,1,3,2] (u4 e) e e e ?_))))))
 intro z14 q15 n18 k16 H17
 refine ZbB (i:=4) e fun n19=>Zak (jqr 4 (Zac e e e (jy (Zbh e e) e e (gz5 0 3 4 5 23 e (Zad (Zai e ?_ ?_))))))
 rotate_left
 ·refine ZaE (Za9 (Zbe (Zba (Zad ?_))))
  refine jqr 27 (jg_y (fun w hs=>ZaJ e (ldBB (hs.blkL (i:=0) e) e)) e e (Zav 3 e e e (l5 e) e e e e (l5 e) (r5 e) (gz1 4 e (Zad (Zam (Zax (i:=4) (NF (arOf qa1E) q15.2.2 q15.2.1 z14.2.1) e (fun _=>n19) (r5 e) (Zaj e (fun w hs=>.cell e (ldBB (hs.blkL (i:=3) e) e)) (fun w hs=>⟨(q15.1,hd6,q15.2.1,q15.2.2),e,hs.sel (is:=[1,2,4]) e e⟩))))))))
 refine jks (Zak (Zao (Zak (Za2 (fun (s:(Bool×Int)) (g:Unit)=>[(0,.pointer (some ⟨b0,0,none⟩)),(3,.pointer (some ⟨g1,0,none⟩)),(4,.pointer (some ⟨g2,0,none⟩)),(5,.int .i64 z14.2.2.1),(34,.bool s.1)]) (fun s g=>[(Res.blk b0 65 [ha0A.v,.int .i64 s.2])]) (fun s g=>[(Res.blk g1 56 [ha1B.v,.int .i64 a1.Throw,ha1C.v,q15.1.v,hd6.v]),(rowH q15.1 132 4 Command.enc z14.1),(rowH hd6 104 6 Nt.enc q15.2.1),(Res.blk g2 56 [(Hd.mk none 0 0).v,.int .i64 0,(Hd.mk none 0 0).v,(Hd.mk none 0 0).v,(Hd.mk none 0 0).v]),(Res.nest q15.2.2 (NF (arOf qa1E) q15.2.2 q15.2.1 z14.2.1))]) ?_ ?_))))
 rotate_left
 ·intro k22 H23
  refine Zar 6 (jy (Zab e) e e (jgl 0 e e e e e (jg_y (fun w hs=>ZaV e (hs.row 1 e)) e e (jy (Zbh e e) e e (Zac e e e (Zaq 30 e ?_ ?_))))))
  ·refine Zac e e e (jm_c e (fun v w hs hm=>ZaP hm (hs.blkM (i:=0) e) (hs.argM Rha0_fl Oha0_fl) Oha0_fl) (fun _=>e) e e fun v499 q500=>jy (ZaL e e) e e (jy (Zah e e) e e (gz5 0 3 4 5 34 e (Zax (i:=4) (NF (arOf qa1E) q15.2.2 q15.2.1 z14.2.1) e (fun _=>n19) (r5 e) (Zap H23 (decide (v499.1 = 0),v499.2) () [0,1,2,3,4] (u5 e) e e e)))))
  refine Zaa e e (Zaa e e (Zaa e e (jy (Zae e e) e e (gz5 0 3 4 5 34 e (Zax (i:=4) (NF (arOf qa1E) q15.2.2 q15.2.1 z14.2.1) e (fun _=>n19) (r5 e) (Zap H23 (false,z14.2.2.2) () [0,1,2,3,4] (u5 e) e e e))))))
 intro z20 q21
 refine ZbB (i:=4) e fun n24=>Zai e ?_ ?_
 ·refine jqr 7 (Zac e e e (jy (Zab e) e e (jgl 0 e e e e e (jg_y (fun w hs=>ZaV e (hs.row 1 e)) e e (jm_c e (fun v w hs hm=>ZaP hm (hs.blkM (i:=0) e) (hs.argM Rha0_fl Oha0_fl) Oha0_fl) (fun _=>e) e e fun v25 q26=>Zaf e e e (gz5 0 3 4 5 6 e (Zad (Zak (jqr 8 (Zac e e e (jm_c e (fun v w hs hm=>ZaP hm (hs.blkM (i:=0) e) (hs.argM Rha0_fl Oha0_fl) Oha0_fl) (fun _=>e) e e fun v27 q28=>gz6 0 3 4 5 6 41 e (Zad (Zao (jqr 10 ?_))))))))))))))
  refine jy (ZaL e e) e e (Zaf e e e (gz7 0 3 4 5 6 41 58 e (Zad (Zai e ?_ ?_))))
  ·refine jdr (L':=[_,_,_,_,_,_]) 11 [0,1,2,3,4,5] [0,1,2,3,4,5,6,7,8] 511 4095 [0,1,0,6,0,16,0,64,160,264,1023,2047] [0,1,0,7,0,16,0,64,240,511,1023,2047] [(0,true),(1,true),(2,true),(3,true),(4,true),(5,true),(6,true),(7,true),(8,true),(9,false),(10,false),(11,false)] e (Zay (Zas (Zas (Zay (Zas (Za0 (Zay (Zas Zbb)))))))) (jdy e (Zab e) e e (jdl 0 e e e e e e (Zau e e e e (ZdV fun h29=>jd_y e (fun w hs=>yv_hi e e (hs.row 1 e) (of_decide_eq_true h29)) e e (jdy e (Zab e) e e (jdl 0 e e e e e e (Zau e e e e (jdy e (Zal e e) e e (ZdV fun h30=>jd_y e (fun w hs=>Zkq e e (hs.row 1 e) (of_decide_eq_true h30)) e e (jd_h e (Zf9 1 (of_decide_eq_true h29) e e e (fun w hs=>(Sl.lo (sz:=4) (hs.row 1 e) (of_decide_eq_true h30))) e e e fun y31 hd32=>jg_L (r5 e) (ZaA (ZbG e ?_)))))))))))))
   refine jf_h e (jy (Zab e) e e (ZaA (ZbG e (jf_h e (Zav 0 e e e (l1 e) e e e e (l5 e) (r5 e) (ZaA (ZbG e (Zbf [(0,_),(3,_),(4,_),(5,_)] ⟨e,e,e,e,trivial⟩ (ZaG (Zad ?_))))))))))
   refine ZaE (Za9 (Zba (Zad ?_)))
   refine Zar 5 (Zac e e e (jy (ZaZ e e) e e (Zaf e e e (gz4 0 3 4 5 e (Zax (i:=4) (NF (arOf qa1E) q15.2.2 q15.2.1 z14.2.1) e (fun _=>n24) (r5 e) (Zap H17 (y31,z14.2.1,w64 (z14.2.2.1 - 1),v27.2) (hd32,q15.2.1,q15.2.2) [0,1,2,3,4] (u4 e) e e e))))))
  refine jqr 12 (jy (ZaL e e) e e (Zaf e e e (gz6 0 3 4 5 6 71 e (Zad (Zai e ?_ ?_)))))
  ·refine jdr (L':=[_,_,_,_,_]) 13 [0,1,2,3,4] [0,1,2,3,4,5,6,7,8,9,10,11] 4095 8191 [0,1,0,6,8,16,0,0,192,288,1023,2047,3071] [0,1,0,7,15,31,0,0,192,511,1023,2047,4095] [(0,true),(1,true),(2,true),(3,true),(4,true),(5,true),(6,true),(7,false),(8,false),(9,true),(10,true),(11,true),(12,false)] e (Zay (Zas (Zas (Zay (Zas (Za0 (Zay (Zas Zbb)))))))) (jdy e (Zab e) e e (jdl 0 e e e e e e (Zau e e e e (Zbk fun x33 h34=>jd_y e (fun w hs=>ZaC e e (hs.row 1 e) h34) e e (jd_y e (fun w hs=>ZaS e (hs.row 1 e) h34.1) e e (jd_y e (fun w hs=>ZaQ e (hs.row 1 e) h34.1 e) e e (Zau e e e e (jd_h e (ZaT (enc:=encI) [1,500,20000] e e e e e e e e fun hd35=>ZaA (Zbs [1,2,3,4,5] e (jd_h e (jm_c e (fun v w hs hm=>ZaB hm (hs.blkM (i:=0) e) (hs.argM Rha0_fl Oha0_fl) Oha0_fl (hs.row 0 e) (hs.offML 0 0 e e)) (fun _=>e) e e fun v36 q37=>ZaA (Zbs [1,2,3,4,5] e ?_)))))))))))))
   refine jdy e (Zal e e) e e (Zbk fun x38 h39=>jd_y e (fun w hs=>ZaC e e (hs.row 1 e) h39) e e (jd_y e (fun w hs=>ZaS e (hs.row 1 e) h39.1) e e (jd_h e (Zbr 2 (a':=(Command.mk (w64 (x33.Time + v36.1)) x38.Element x38.Side x38.Cut)) e e h39.1 e (l1 e) e e e e fun y40=>jg_L (r6 e) (ZaA (ZbG e (Zbf [(0,_),(3,_),(4,_),(5,_)] ⟨e,e,e,e,trivial⟩ (ZaG (Zad ?_)))))))))
   refine ZaE (Za9 (Zba (Zad ?_)))
   refine Zar 5 (Zac e e e (jy (ZaZ e e) e e (Zaf e e e (gz4 0 3 4 5 e (Zax (i:=5) (NF (arOf qa1E) q15.2.2 q15.2.1 z14.2.1) e (fun _=>n24) (r6 e) (Zap H17 (y40,z14.2.1,w64 (z14.2.2.1 - 1),v36.2) (q15.1,q15.2.1,q15.2.2) [1,2,3,4,5] (u4 e) e e e))))))
  refine jdr (L':=[_,_,_,_,_]) 9 [0,1,2,3,4] [0,1,2,3,4,5,6,7,8,9,10,11,12,13,14,15] 65535 131071 [0,1,0,0,8,0,48,64,128,0,0,1536,2304,4096,16383,32767,49151] [0,1,0,0,8,0,56,120,248,0,0,1536,4088,8184,16383,32767,65535] [(0,true),(1,true),(2,true),(3,true),(4,true),(5,true),(6,true),(7,true),(8,true),(9,true),(10,false),(11,false),(12,true),(13,true),(14,true),(15,true),(16,false)] e (Zay (Zas (Zas (Zay (Zas (Za0 (Zay (Zas Zbb)))))))) (jdy e (Zab e) e e (jdl 0 e e e e e e (Zau e e e e (jdy e (Zab e) e e (jdl 0 e e e e e e (Zau e e e e (Zbk fun x41 h42=>jd_y e (fun w hs=>ZaC e e (hs.row 1 e) h42) e e (jd_y e (fun w hs=>ZaS e (hs.row 1 e) h42.1) e e (jd_y e (fun w hs=>ZaQ e (hs.row 1 e) h42.1 e) e e (Zau e e e e (jd_h e (ZaT (enc:=encI) [1,500,20000] e e e e e e e e fun hd43=>ZaA (Zbs [1,2,3,4,5] e (jd_h e ?_))))))))))))))
  refine jm_c e (fun v w hs hm=>ZaB hm (hs.blkM (i:=0) e) (hs.argM Rha0_fl Oha0_fl) Oha0_fl (hs.row 0 e) (hs.offML 0 0 e e)) (fun _=>e) e e fun v44 q45=>ZaA (Zbs [1,2,3,4,5] e (jdy e (ZaZ e e) e e (jdy e (ZeI e e) e e (Zbk fun x46 h47=>jd_y e (fun w hs=>ZaC e e (hs.row 1 e) h47) e e (jd_y e (fun w hs=>ZaS e (hs.row 1 e) h47.1) e e (jd_h e (Zbr 2 (a':=(Command.mk (max 0 (w64 (x41.Time - v44.1))) x46.Element x46.Side x46.Cut)) e e h47.1 e (l1 e) e e e e fun y48=>jg_L (r6 e) (ZaA (ZbG e (Zbf [(0,_),(3,_),(4,_),(5,_)] ⟨e,e,e,e,trivial⟩ (ZaG (Zad ?_))))))))))))
  refine ZaE (Za9 (Zba (Zad ?_)))
  refine Zar 5 (Zac e e e (jy (ZaZ e e) e e (Zaf e e e (gz4 0 3 4 5 e (Zax (i:=5) (NF (arOf qa1E) q15.2.2 q15.2.1 z14.2.1) e (fun _=>n24) (r6 e) (Zap H17 (y48,z14.2.1,w64 (z14.2.2.1 - 1),v44.2) (q15.1,q15.2.1,q15.2.2) [1,2,3,4,5] (u4 e) e e e))))))
 refine jks (Zak (jqr 14 (jy (Zab e) e e (jgl 0 e e e e e (jg_y (fun w hs=>ZbY n24.1 e (hs.row 2 e)) e e (jy (ZaL e e) e e (gz5 0 3 4 5 88 e (Zad (Zai e ?_ ?_)))))))))
 ·refine jqr 15 (jg_y (fun w hs=>ZaJ e (ldBB (hs.blkL (i:=0) e) e)) e e (Zav 3 e e e (l5 e) e e e e (l5 e) (r5 e) (gz1 4 e (Zad (Zam (Zaw (ZaI (Zaw (Zbd (ZaI (Zaw ?_)))))))))))
  refine Zax (i:=4) (NF (arOf qa1E) q15.2.2 q15.2.1 z14.2.1) e (fun _=>n24) (r5 e) (Zaj e (fun w hs=>.cell e (ldBB (hs.blkL (i:=3) e) e)) (fun w hs=>⟨(q15.1,hd6,q15.2.1,q15.2.2),e,hs.sel (is:=[1,2,4]) e e⟩))
 refine jks (Zak (jdr (L':=[_,_,_,_,_]) 16 [0,1,2,3,4] [0,1,2,3,4,5,6,7,8] 511 511 [0,1,0,0,8,16,36,66,255] [0,1,0,0,8,24,60,127,255] [(0,true),(1,true),(2,true),(3,true),(4,true),(5,true),(6,false),(7,true),(8,true)] e (Zas (Zay (Zas (Za0 (Zay (Zas Zbb)))))) (jdy e (Zab e) e e (jdl 0 e e e e e e (Zau e e e e (jdy e (Zab e) e e (jdl 0 e e e e e e (jd_y e (fun w hs=>ZbY n24.1 e (hs.row 2 e)) e e (jd_h e (jm_c e (fun v w hs hm=>ZaP hm (hs.blkM (i:=0) e) (hs.argM Rha0_fl Oha0_fl) Oha0_fl) (fun _=>e) e e fun v49 q50=>ZaA (Zbs [0,1,2,3,4] e (ZcE (fun w hs=>n24.1) fun x51 d53 h52=>?_))))))))))))
 have n54:okN (arOf qa1E) q15.2.2 (x51,d53):=n24.2 _ (List.mem_of_getElem? h52.1)
 refine jd_y e (fun w hs=>ZaC e e (hs.row 2 e) h52) e e (Zbz e e e e (ZaU [(0,_),(3,_),(4,_),(5,_),(7,_)] ⟨e,e,e,e,e,trivial⟩ (jsr 17 (Zac e e e (Zac e e e (jg_y (fun w hs=>Zbn e (hs.row 2 e) h52.1) e e (jg_y (fun w hs=>ZaS e (hs.row 2 e) h52.1) e e (jg_y (fun w hs=>ZaQ e (hs.row 2 e) h52.1 e) e e (jg_y (fun w hs=>ZaV e ((hs.nO 4 e n54 (ZeH (hs.argNM Dha1_Cuts DOha1_Cuts))).sl (.head _))) e e (jm_c e (fun v w hs hm=>ZaP hm (hs.blkM (i:=0) e) (hs.argM Rha0_fl Oha0_fl) Oha0_fl) (fun _=>e) e e fun v55 q56=>Zaf e e e (gz6 0 3 4 5 7 8 e (Zad (Zak (Zhk 18 [0,1,2,3,4,5,6,7,8,9,10,11,12,13,14,15,16,17,18,19] 1048575 523 16 [0,0,0,0,8,16,32,68,0,0,512,1024,2048,4480,12541,28925,45309,131071,262143,393215] [0,0,0,0,8,24,56,124,0,0,512,1536,3584,8188,16381,32765,65533,131071,262143,524287] [(0,true),(1,true),(3,true),(9,true)] (Zas (Zay (Zas (Za0 (Zay (Zas Zbb)))))) (by kernel_rfl) (by kernel_rfl) (by kernel_rfl) (by kernel_rfl) (by kernel_rfl) (by kernel_rfl) (by kernel_rfl) (by kernel_rfl) (Zf6 e e e ?_)))))))))))))))
 refine Zf6 e e e (Zf6 e e e (Zf6 e e e (jd_x (jx_to (L':=[_,_,_,_,_,_]) [2,4,5,6,7,8,10,11,12,13,14,15] [16,19] [0,1,2,3,4,5] e (ZdT [0,1,2,3,4,5] 65012 7803 10 [0,0,0,0,8,24,56,124,0,0,512,1536,3584,8188,16381,32765,65533,131071,262143,524287] [(4,true),(5,true),(6,true),(10,true),(11,true),(12,true)] e (Zas (Zay (Zas (Za0 (Zay (Zas Zbb)))))) (by kernel_rfl) (by kernel_rfl) (by kernel_rfl) (by kernel_rfl) (by kernel_rfl) (by kernel_rfl) (by kernel_rfl) (by kernel_rfl) (by kernel_rfl) (jd_y e (fun w hs=>Zbn e (hs.row 2 e) h52.1) e e (jd_y e (fun w hs=>ZaS e (hs.row 2 e) h52.1) e e (jd_y e (fun w hs=>ZaQ e (hs.row 2 e) h52.1 e) e e (jd_y e (fun w hs=>Zbn e (hs.row 2 e) h52.1) e e (jd_y e (fun w hs=>ZaS e (hs.row 2 e) h52.1) e e (jd_y e (fun w hs=>ZaQ e (hs.row 2 e) h52.1 e) e e (jd_x (jx2 (i:=2) (i2:=8) (by kernel_rfl) (by kernel_rfl) e e ?_ ?_)))))))))))))
 ·refine ZdO (enc:=encI) e e fun hd97=>ZaA (Zcr [1,2,3,4,5,6] e (jx2 (i:=7) (i2:=8) (by kernel_rfl) (by kernel_rfl) e e ?_ ?_))
  ·refine ZaO 0 e e e (fun w hs=>((hs.nO 5 e n54 (ZeH (hs.argNM Dha1_Cuts DOha1_Cuts))).sl (.head _))) e e e fun y197 hd198=>jg_L (r6 e) (ZaA (Zcr [1,2,3,4,5,6] e (jx1 (i:=8) (by kernel_rfl) (by kernel_rfl) e (ZdO (enc:=encI) e e fun hd217=>ZaA (Zcr [2,3,4,5,6,7] e (jx1 (i:=13) (by kernel_rfl) (by kernel_rfl) e (ZaO 0 e e e (fun w hs=>((hs.nO 6 e n54 (ZeH (hs.argNM Dha1_Cuts DOha1_Cuts))).sl (.tail _ (.head _)))) e e e fun y317 hd318=>jg_L (r7 e) (ZaA (Zcr [2,3,4,5,6,7] e (ZdT [2,3,4,5,6,7] 65012 65535 4 [0,0,0,0,8,24,56,124,0,0,512,1536,3584,8188,16381,32765,65533,131071,262143,524287] [(14,true),(15,true)] e (Zas (Zay (Zas (Za0 (Zay (Zas Zbb)))))) (by kernel_rfl) (by kernel_rfl) (by kernel_rfl) (by kernel_rfl) (by kernel_rfl) (by kernel_rfl) (by kernel_rfl) (by kernel_rfl) (by kernel_rfl) (jd_y e (fun w hs=>Zbn e (hs.row 2 e) h52.1) e e (jd_y e (fun w hs=>ZaS e (hs.row 2 e) h52.1) e e (jd_x ?_)))))))))))))
   refine jx1 (i:=16) (by kernel_rfl) (by kernel_rfl) e (Ze2 4 (q:=q15.2.1) (a':=(x51,(hd198,d53.2))) e e h52.1 e (l1 e) e e e e (jg_L (r7 e) ?_))
   have h377:(q15.2.1.set (Int.toNat v49.1) (x51,(hd198,d53.2)))[Int.toNat v49.1]? = some (x51,(hd198,d53.2))∧(0:Int) ≤ v49.1:=⟨Zdu h52.1,h52.2⟩
   refine ZaA (Zcs (by kernel_rfl) (jx1 (i:=17) (by kernel_rfl) (by kernel_rfl) e (jg_y (fun w hs=>Zbn e (hs.row 4 e) h377.1) e e (ZaA (Zcs (by kernel_rfl) (jx1 (i:=18) (by kernel_rfl) (by kernel_rfl) e (jg_y (fun w hs=>ZaS e (hs.row 4 e) h377.1) e e (ZaA (Zcs (by kernel_rfl) (jx1 (i:=19) (by kernel_rfl) (by kernel_rfl) e (Zco 4 (q:=q15.2.1) (a':=(x51,(hd198,hd318))) e e h52.1 e (l1 e) e e e e (jg_L (r7 e) ?_))))))))))))
   have h437:(q15.2.1.set (Int.toNat v49.1) (x51,(hd198,hd318)))[Int.toNat v49.1]? = some (x51,(hd198,hd318))∧(0:Int) ≤ v49.1:=⟨Zdu h52.1,h52.2⟩
   refine ZaA (Zcs (by kernel_rfl) (jx0 [(0,_),(3,_),(4,_),(5,_),(7,_),(8,_)] ⟨e,e,e,e,e,e,trivial⟩ (by kernel_rfl) (by kernel_rfl) (jsr 19 (Zac e e e (jm_c e (fun v w hs hm=>ZaP hm (hs.blkM (i:=0) e) (hs.argM Rha0_fl Oha0_fl) Oha0_fl) (fun _=>e) e e fun v457 q458=>gz7 0 3 4 5 7 8 124 e (Zad (Zao (jqr 21 (jy (ZaL e e) e e (Zaf e e e (gz8 0 3 4 5 7 8 124 134 e (Zad (Zai e ?_ ?_)))))))))))))
   ·refine jdr (L':=[_,_,_,_,_,_,_]) 22 [0,1,2,3,4,5,6] [0,1,2,3,4,5,6,7,8] 511 1023 [0,1,2,4,0,0,0,96,255,511] [0,1,3,7,0,0,0,96,255,511] [(0,true),(1,true),(2,true),(3,true),(4,true),(5,true),(6,false),(7,false),(8,true),(9,false)] e (Zay (Zay (Zas (Za0 (Zay (Zas Zbb)))))) (Zau e e e e (jd_y e (fun w hs=>Zbn e (hs.row 4 e) h437.1) e e (jd_y e (fun w hs=>ZaS e (hs.row 4 e) h437.1) e e (jd_y e (fun w hs=>ZaQ e (hs.row 4 e) h437.1 e) e e (Zau e e e e (Zau e e e e (jd_h e (ZaT (enc:=encI) [(-200),400,1000,5000] e e e e e e e e fun hd459=>ZaA (Zbs [1,2,3,4,5,6,7] e (jd_h e (jm_c e (fun v w hs hm=>ZaB hm (hs.blkM (i:=0) e) (hs.argM Rha0_fl Oha0_fl) Oha0_fl (hs.row 0 e) (hs.offML 0 0 e e)) (fun _=>e) e e fun v460 q461=>ZaA (Zbs [1,2,3,4,5,6,7] e (Zbk fun x462 h463=>jd_y e (fun w hs=>ZaC e e (hs.row 1 e) h463) e e ?_)))))))))))))
    refine jd_h e (Zbr 2 (a':=v460.1) e e h463.1 e (l1 e) e e e e fun y464=>jg_L (r8 e) (ZaA (ZbG e (Zbf [(0,_),(3,_),(4,_),(5,_)] ⟨e,e,e,e,trivial⟩ (Zbx (i:=7) (j:=2) (is:=[0,1,3,4,5,6,7]) (h:=hd198) (e:=3) (sz:=1) (enc:=encI) (l:=y464) _ e e e (fun h=>h) (s7 e) e e ?_)))))
    have n465:NF (arOf qa1E) (rw1 hd198 3 1 encI y464 :: q15.2.2) q15.2.1 z14.2.1:=n24.mono mn1
    refine Zbx (i:=6) (j:=1) (is:=[0,2,3,4,5,6]) (h:=hd318) (e:=3) (sz:=1) (enc:=encI) (l:=y317) _ e e e (fun h=>h) (s6 e) e e ?_
    have n466:NF (arOf qa1E) (rw1 hd318 3 1 encI y317 :: (rw1 hd198 3 1 encI y464 :: q15.2.2)) q15.2.1 z14.2.1:=n465.mono mn1
    refine Zcb 3 (q:=q15.2.1) (a':=(Rolling.mk x51.Release x51.Length x51.Track x51.Speed y464 y317)) (d':=(hd198,hd318)) e e (r6 e) fun y467 H468=>?_
    have n469:NF (arOf qa1E) (rw1 hd318 3 1 encI y317 :: (rw1 hd198 3 1 encI y464 :: q15.2.2)) (q15.2.1.set (Int.toNat v49.1) ((Rolling.mk x51.Release x51.Length x51.Track x51.Speed y464 y317),(hd198,hd318))) y467:=n466.set (okc (.inl (.tail _ (.head _))) (okc (.inl (.head _)) ok0)) H468
    refine ZaG (ZaG (Zad ?_))
    refine Zar 5 (Zac e e e (jy (ZaZ e e) e e (Zaf e e e (gz4 0 3 4 5 e (Zax (i:=5) (NF (arOf qa1E) (rw1 hd318 3 1 encI y317 :: (rw1 hd198 3 1 encI y464 :: q15.2.2)) (q15.2.1.set (Int.toNat v49.1) ((Rolling.mk x51.Release x51.Length x51.Track x51.Speed y464 y317),(hd198,hd318))) y467) e (fun _=>n469) (r6 e) (Zap H17 (z14.1,y467,w64 (z14.2.2.1 - 1),v460.2) (q15.1,(q15.2.1.set (Int.toNat v49.1) ((Rolling.mk x51.Release x51.Length x51.Track x51.Speed y464 y317),(hd198,hd318))),(rw1 hd318 3 1 encI y317 :: (rw1 hd198 3 1 encI y464 :: q15.2.2))) [1,2,3,4,5] (u4 e) e e e))))))
   refine jqr 23 (jy (ZaL e e) e e (Zaf e e e (gz8 0 3 4 5 7 8 124 145 e (Zad (Zai e ?_ ?_)))))
   ·refine jdr (L':=[_,_,_,_,_,_,_]) 24 [0,1,2,3,4,5,6] [0,1,2,3,4,5,6,7,8] 511 1023 [0,1,2,4,0,0,0,96,255,511] [0,1,3,7,0,0,0,96,255,511] [(0,true),(1,true),(2,true),(3,true),(4,true),(5,true),(6,false),(7,false),(8,true),(9,false)] e (Zay (Zay (Zas (Za0 (Zay (Zas Zbb)))))) (Zau e e e e (jd_y e (fun w hs=>Zbn e (hs.row 4 e) h437.1) e e (jd_y e (fun w hs=>ZaS e (hs.row 4 e) h437.1) e e (jd_y e (fun w hs=>ZaQ e (hs.row 4 e) h437.1 e) e e (Zau e e e e (Zau e e e e (jd_h e (ZaT (enc:=encI) [(-1),0,300,9000] e e e e e e e e fun hd470=>ZaA (Zbs [1,2,3,4,5,6,7] e (jd_h e (jm_c e (fun v w hs hm=>ZaB hm (hs.blkM (i:=0) e) (hs.argM Rha0_fl Oha0_fl) Oha0_fl (hs.row 0 e) (hs.offML 0 0 e e)) (fun _=>e) e e fun v471 q472=>ZaA (Zbs [1,2,3,4,5,6,7] e (Zbk fun x473 h474=>jd_y e (fun w hs=>ZaC e e (hs.row 0 e) h474) e e ?_)))))))))))))
    refine jd_h e (Zbr 1 (a':=v471.1) e e h474.1 e (l1 e) e e e e fun y475=>jg_L (r8 e) (ZaA (ZbG e (Zbf [(0,_),(3,_),(4,_),(5,_)] ⟨e,e,e,e,trivial⟩ (Zbx (i:=7) (j:=2) (is:=[0,1,3,4,5,6,7]) (h:=hd198) (e:=3) (sz:=1) (enc:=encI) (l:=y197) _ e e e (fun h=>h) (s7 e) e e ?_)))))
    have n476:NF (arOf qa1E) (rw1 hd198 3 1 encI y197 :: q15.2.2) q15.2.1 z14.2.1:=n24.mono mn1
    refine Zbx (i:=6) (j:=1) (is:=[0,2,3,4,5,6]) (h:=hd318) (e:=3) (sz:=1) (enc:=encI) (l:=y475) _ e e e (fun h=>h) (s6 e) e e ?_
    have n477:NF (arOf qa1E) (rw1 hd318 3 1 encI y475 :: (rw1 hd198 3 1 encI y197 :: q15.2.2)) q15.2.1 z14.2.1:=n476.mono mn1
    refine Zcb 3 (q:=q15.2.1) (a':=(Rolling.mk x51.Release x51.Length x51.Track x51.Speed y197 y475)) (d':=(hd198,hd318)) e e (r6 e) fun y478 H479=>?_
    have n480:NF (arOf qa1E) (rw1 hd318 3 1 encI y475 :: (rw1 hd198 3 1 encI y197 :: q15.2.2)) (q15.2.1.set (Int.toNat v49.1) ((Rolling.mk x51.Release x51.Length x51.Track x51.Speed y197 y475),(hd198,hd318))) y478:=n477.set (okc (.inl (.tail _ (.head _))) (okc (.inl (.head _)) ok0)) H479
    refine ZaG (ZaG (Zad ?_))
    refine Zar 5 (Zac e e e (jy (ZaZ e e) e e (Zaf e e e (gz4 0 3 4 5 e (Zax (i:=5) (NF (arOf qa1E) (rw1 hd318 3 1 encI y475 :: (rw1 hd198 3 1 encI y197 :: q15.2.2)) (q15.2.1.set (Int.toNat v49.1) ((Rolling.mk x51.Release x51.Length x51.Track x51.Speed y197 y475),(hd198,hd318))) y478) e (fun _=>n480) (r6 e) (Zap H17 (z14.1,y478,w64 (z14.2.2.1 - 1),v471.2) (q15.1,(q15.2.1.set (Int.toNat v49.1) ((Rolling.mk x51.Release x51.Length x51.Track x51.Speed y197 y475),(hd198,hd318))),(rw1 hd318 3 1 encI y475 :: (rw1 hd198 3 1 encI y197 :: q15.2.2))) [1,2,3,4,5] (u4 e) e e e))))))
   refine jqr 25 (jy (ZaL e e) e e (Zaf e e e (gz6 0 3 4 5 7 156 e (Zad (Zai e ?_ ?_)))))
   ·refine Zar 26 (Zac e e e (Zac e e e (ZaT (enc:=encI) [0,300,5000] e e e e e e e e fun hd481=>jm_c e (fun v w hs hm=>ZaB hm (hs.blkM (i:=0) e) (hs.argM Rha0_fl Oha0_fl) Oha0_fl (hs.row 0 e) (hs.offML 0 0 e e)) (fun _=>e) e e fun v482 q483=>jg_y (fun w hs=>Zbn e (hs.row 5 e) h437.1) e e (jg_y (fun w hs=>ZaS e (hs.row 5 e) h437.1) e e (Zco 5 (q:=q15.2.1) (a':=((Rolling.mk x51.Release x51.Length x51.Track v482.1 x51.Resist x51.Targets),(hd198,hd318))) e e h52.1 e (l1 e) e e e e (jg_L (r8 e) ?_))))))
    have h484:(q15.2.1.set (Int.toNat v49.1) ((Rolling.mk x51.Release x51.Length x51.Track v482.1 x51.Resist x51.Targets),(hd198,hd318)))[Int.toNat v49.1]? = some ((Rolling.mk x51.Release x51.Length x51.Track v482.1 x51.Resist x51.Targets),(hd198,hd318))∧(0:Int) ≤ v49.1:=⟨Zdu h52.1,h52.2⟩
    refine gz4 0 3 4 5 e (Zbx (i:=7) (j:=2) (is:=[0,1,3,4,5,6,7]) (h:=hd198) (e:=3) (sz:=1) (enc:=encI) (l:=y197) _ e e e (fun h=>h) (s7 e) e e ?_)
    have n485:NF (arOf qa1E) (rw1 hd198 3 1 encI y197 :: q15.2.2) q15.2.1 z14.2.1:=n24.mono mn1
    refine Zbx (i:=6) (j:=1) (is:=[0,2,3,4,5,6]) (h:=hd318) (e:=3) (sz:=1) (enc:=encI) (l:=y317) _ e e e (fun h=>h) (s6 e) e e ?_
    have n486:NF (arOf qa1E) (rw1 hd318 3 1 encI y317 :: (rw1 hd198 3 1 encI y197 :: q15.2.2)) q15.2.1 z14.2.1:=n485.mono mn1
    refine Zcb 3 (q:=q15.2.1) (a':=(Rolling.mk x51.Release x51.Length x51.Track v482.1 y197 y317)) (d':=(hd198,hd318)) e e (r6 e) fun y487 H488=>?_
    have n489:NF (arOf qa1E) (rw1 hd318 3 1 encI y317 :: (rw1 hd198 3 1 encI y197 :: q15.2.2)) (q15.2.1.set (Int.toNat v49.1) ((Rolling.mk x51.Release x51.Length x51.Track v482.1 y197 y317),(hd198,hd318))) y487:=n486.set (okc (.inl (.tail _ (.head _))) (okc (.inl (.head _)) ok0)) H488
    refine ZaG (ZaG (Zad ?_))
    refine Zar 5 (Zac e e e (jy (ZaZ e e) e e (Zaf e e e (gz4 0 3 4 5 e (Zax (i:=5) (NF (arOf qa1E) (rw1 hd318 3 1 encI y317 :: (rw1 hd198 3 1 encI y197 :: q15.2.2)) (q15.2.1.set (Int.toNat v49.1) ((Rolling.mk x51.Release x51.Length x51.Track v482.1 y197 y317),(hd198,hd318))) y487) e (fun _=>n489) (r6 e) (Zap H17 (z14.1,y487,w64 (z14.2.2.1 - 1),v482.2) (q15.1,(q15.2.1.set (Int.toNat v49.1) ((Rolling.mk x51.Release x51.Length x51.Track v482.1 y197 y317),(hd198,hd318))),(rw1 hd318 3 1 encI y317 :: (rw1 hd198 3 1 encI y197 :: q15.2.2))) [1,2,3,4,5] (u4 e) e e e))))))
   refine Zar 20 (Zac e e e (Zac e e e (jy (Zab e) e e (jgl 2 e e e e e (Zbc e (fun v w hs hm=>Zcf hm (hs.argM Rha1_Elements Oha1_Elements)) e e fun v490=>jm_c e (fun v w hs hm=>ZaP hm (hs.blkM (i:=0) e) (hs.argM Rha0_fl Oha0_fl) Oha0_fl) (fun _=>e) e e fun v491 q492=>jy (Zal e e) e e (jg_y (fun w hs=>Zbn e (hs.row 4 e) h437.1) e e (jg_y (fun w hs=>ZaS e (hs.row 4 e) h437.1) e e (Zco 4 (q:=q15.2.1) (a':=((Rolling.mk x51.Release (w64 (1 + v491.1)) x51.Track x51.Speed x51.Resist x51.Targets),(hd198,hd318))) e e h52.1 e (l1 e) e e e e (jg_L (r7 e) ?_)))))))))
   have h493:(q15.2.1.set (Int.toNat v49.1) ((Rolling.mk x51.Release (w64 (1 + v491.1)) x51.Track x51.Speed x51.Resist x51.Targets),(hd198,hd318)))[Int.toNat v49.1]? = some ((Rolling.mk x51.Release (w64 (1 + v491.1)) x51.Track x51.Speed x51.Resist x51.Targets),(hd198,hd318))∧(0:Int) ≤ v49.1:=⟨Zdu h52.1,h52.2⟩
   refine gz4 0 3 4 5 e (Zbx (i:=6) (j:=1) (is:=[0,2,3,4,5,6]) (h:=hd198) (e:=3) (sz:=1) (enc:=encI) (l:=y197) _ e e e (fun h=>h) (s6 e) e e ?_)
   have n494:NF (arOf qa1E) (rw1 hd198 3 1 encI y197 :: q15.2.2) q15.2.1 z14.2.1:=n24.mono mn1
   refine Zbx (i:=5) (j:=0) (is:=[1,2,3,4,5]) (h:=hd318) (e:=3) (sz:=1) (enc:=encI) (l:=y317) _ e e e (fun h=>h) (s5 e) e e ?_
   have n495:NF (arOf qa1E) (rw1 hd318 3 1 encI y317 :: (rw1 hd198 3 1 encI y197 :: q15.2.2)) q15.2.1 z14.2.1:=n494.mono mn1
   refine Zcb 2 (q:=q15.2.1) (a':=(Rolling.mk x51.Release (w64 (1 + v491.1)) x51.Track x51.Speed y197 y317)) (d':=(hd198,hd318)) e e (r5 e) fun y496 H497=>?_
   have n498:NF (arOf qa1E) (rw1 hd318 3 1 encI y317 :: (rw1 hd198 3 1 encI y197 :: q15.2.2)) (q15.2.1.set (Int.toNat v49.1) ((Rolling.mk x51.Release (w64 (1 + v491.1)) x51.Track x51.Speed y197 y317),(hd198,hd318))) y496:=n495.set (okc (.inl (.tail _ (.head _))) (okc (.inl (.head _)) ok0)) H497
   refine ZaG (ZaG (Zad ?_))
   refine Zar 5 (Zac e e e (jy (ZaZ e e) e e (Zaf e e e (gz4 0 3 4 5 e (Zax (i:=4) (NF (arOf qa1E) (rw1 hd318 3 1 encI y317 :: (rw1 hd198 3 1 encI y197 :: q15.2.2)) (q15.2.1.set (Int.toNat v49.1) ((Rolling.mk x51.Release (w64 (1 + v491.1)) x51.Track x51.Speed y197 y317),(hd198,hd318))) y496) e (fun _=>n498) (r5 e) (Zap H17 (z14.1,y496,w64 (z14.2.2.1 - 1),v491.2) (q15.1,(q15.2.1.set (Int.toNat v49.1) ((Rolling.mk x51.Release (w64 (1 + v491.1)) x51.Track x51.Speed y197 y317),(hd198,hd318))),(rw1 hd318 3 1 encI y317 :: (rw1 hd198 3 1 encI y197 :: q15.2.2))) [0,1,2,3,4] (u4 e) e e e))))))
  refine ZdO (enc:=encI) e e fun hd217=>ZaA (Zcr [2,3,4,5,6,7] e (jx1 (i:=7) (by kernel_rfl) (by kernel_rfl) e (ZaO 1 e e e (fun w hs=>((hs.nO 6 e n54 (ZeH (hs.argNM Dha1_Cuts DOha1_Cuts))).sl (.head _))) e e e fun y197 hd198=>jg_L (r7 e) (ZaA (Zcr [2,3,4,5,6,7] e (jx1 (i:=13) (by kernel_rfl) (by kernel_rfl) e (ZaO 0 e e e (fun w hs=>((hs.nO 6 e n54 (ZeH (hs.argNM Dha1_Cuts DOha1_Cuts))).sl (.tail _ (.head _)))) e e e fun y317 hd318=>jg_L (r7 e) (ZaA (Zcr [2,3,4,5,6,7] e (ZdT [2,3,4,5,6,7] 65012 65535 4 [0,0,0,0,8,24,56,124,0,0,512,1536,3584,8188,16381,32765,65533,131071,262143,524287] [(14,true),(15,true)] e (Zas (Zay (Zas (Za0 (Zay (Zas Zbb)))))) (by kernel_rfl) (by kernel_rfl) (by kernel_rfl) (by kernel_rfl) (by kernel_rfl) (by kernel_rfl) (by kernel_rfl) (by kernel_rfl) (by kernel_rfl) (jd_y e (fun w hs=>Zbn e (hs.row 2 e) h52.1) e e (jd_y e (fun w hs=>ZaS e (hs.row 2 e) h52.1) e e (jd_x ?_)))))))))))))
  refine jx1 (i:=16) (by kernel_rfl) (by kernel_rfl) e (Ze2 4 (q:=q15.2.1) (a':=(x51,(hd198,d53.2))) e e h52.1 e (l1 e) e e e e (jg_L (r7 e) ?_))
  have h377:(q15.2.1.set (Int.toNat v49.1) (x51,(hd198,d53.2)))[Int.toNat v49.1]? = some (x51,(hd198,d53.2))∧(0:Int) ≤ v49.1:=⟨Zdu h52.1,h52.2⟩
  refine ZaA (Zcs (by kernel_rfl) (jx1 (i:=17) (by kernel_rfl) (by kernel_rfl) e (jg_y (fun w hs=>Zbn e (hs.row 4 e) h377.1) e e (ZaA (Zcs (by kernel_rfl) (jx1 (i:=18) (by kernel_rfl) (by kernel_rfl) e (jg_y (fun w hs=>ZaS e (hs.row 4 e) h377.1) e e (ZaA (Zcs (by kernel_rfl) (jx1 (i:=19) (by kernel_rfl) (by kernel_rfl) e (Zco 4 (q:=q15.2.1) (a':=(x51,(hd198,hd318))) e e h52.1 e (l1 e) e e e e (jg_L (r7 e) ?_))))))))))))
  have h437:(q15.2.1.set (Int.toNat v49.1) (x51,(hd198,hd318)))[Int.toNat v49.1]? = some (x51,(hd198,hd318))∧(0:Int) ≤ v49.1:=⟨Zdu h52.1,h52.2⟩
  refine ZaA (Zcs (by kernel_rfl) (jx0 [(0,_),(3,_),(4,_),(5,_),(7,_),(8,_)] ⟨e,e,e,e,e,e,trivial⟩ (by kernel_rfl) (by kernel_rfl) (jsr 19 (Zac e e e (jm_c e (fun v w hs hm=>ZaP hm (hs.blkM (i:=0) e) (hs.argM Rha0_fl Oha0_fl) Oha0_fl) (fun _=>e) e e fun v457 q458=>gz7 0 3 4 5 7 8 124 e (Zad (Zao (jqr 21 (jy (ZaL e e) e e (Zaf e e e (gz8 0 3 4 5 7 8 124 134 e (Zad (Zai e ?_ ?_)))))))))))))
  ·refine jdr (L':=[_,_,_,_,_,_,_]) 22 [0,1,2,3,4,5,6] [0,1,2,3,4,5,6,7,8] 511 1023 [0,1,2,4,0,0,0,96,255,511] [0,1,3,7,0,0,0,96,255,511] [(0,true),(1,true),(2,true),(3,true),(4,true),(5,true),(6,false),(7,false),(8,true),(9,false)] e (Zay (Zay (Zas (Za0 (Zay (Zas Zbb)))))) (Zau e e e e (jd_y e (fun w hs=>Zbn e (hs.row 4 e) h437.1) e e (jd_y e (fun w hs=>ZaS e (hs.row 4 e) h437.1) e e (jd_y e (fun w hs=>ZaQ e (hs.row 4 e) h437.1 e) e e (Zau e e e e (Zau e e e e (jd_h e (ZaT (enc:=encI) [(-200),400,1000,5000] e e e e e e e e fun hd459=>ZaA (Zbs [1,2,3,4,5,6,7] e (jd_h e (jm_c e (fun v w hs hm=>ZaB hm (hs.blkM (i:=0) e) (hs.argM Rha0_fl Oha0_fl) Oha0_fl (hs.row 0 e) (hs.offML 0 0 e e)) (fun _=>e) e e fun v460 q461=>ZaA (Zbs [1,2,3,4,5,6,7] e (Zbk fun x462 h463=>jd_y e (fun w hs=>ZaC e e (hs.row 1 e) h463) e e ?_)))))))))))))
   refine jd_h e (Zbr 2 (a':=v460.1) e e h463.1 e (l1 e) e e e e fun y464=>jg_L (r8 e) (ZaA (ZbG e (Zbf [(0,_),(3,_),(4,_),(5,_)] ⟨e,e,e,e,trivial⟩ (Zbx (i:=7) (j:=2) (is:=[0,1,3,4,5,6,7]) (h:=hd198) (e:=3) (sz:=1) (enc:=encI) (l:=y464) _ e e e (fun h=>h) (s7 e) e e ?_)))))
   have n465:NF (arOf qa1E) (rw1 hd198 3 1 encI y464 :: q15.2.2) q15.2.1 z14.2.1:=n24.mono mn1
   refine Zbx (i:=6) (j:=1) (is:=[0,2,3,4,5,6]) (h:=hd318) (e:=3) (sz:=1) (enc:=encI) (l:=y317) _ e e e (fun h=>h) (s6 e) e e ?_
   have n466:NF (arOf qa1E) (rw1 hd318 3 1 encI y317 :: (rw1 hd198 3 1 encI y464 :: q15.2.2)) q15.2.1 z14.2.1:=n465.mono mn1
   refine Zcb 3 (q:=q15.2.1) (a':=(Rolling.mk x51.Release x51.Length x51.Track x51.Speed y464 y317)) (d':=(hd198,hd318)) e e (r6 e) fun y467 H468=>?_
   have n469:NF (arOf qa1E) (rw1 hd318 3 1 encI y317 :: (rw1 hd198 3 1 encI y464 :: q15.2.2)) (q15.2.1.set (Int.toNat v49.1) ((Rolling.mk x51.Release x51.Length x51.Track x51.Speed y464 y317),(hd198,hd318))) y467:=n466.set (okc (.inl (.tail _ (.head _))) (okc (.inl (.head _)) ok0)) H468
   refine ZaG (ZaG (Zad ?_))
   refine Zar 5 (Zac e e e (jy (ZaZ e e) e e (Zaf e e e (gz4 0 3 4 5 e (Zax (i:=5) (NF (arOf qa1E) (rw1 hd318 3 1 encI y317 :: (rw1 hd198 3 1 encI y464 :: q15.2.2)) (q15.2.1.set (Int.toNat v49.1) ((Rolling.mk x51.Release x51.Length x51.Track x51.Speed y464 y317),(hd198,hd318))) y467) e (fun _=>n469) (r6 e) (Zap H17 (z14.1,y467,w64 (z14.2.2.1 - 1),v460.2) (q15.1,(q15.2.1.set (Int.toNat v49.1) ((Rolling.mk x51.Release x51.Length x51.Track x51.Speed y464 y317),(hd198,hd318))),(rw1 hd318 3 1 encI y317 :: (rw1 hd198 3 1 encI y464 :: q15.2.2))) [1,2,3,4,5] (u4 e) e e e))))))
  refine jqr 23 (jy (ZaL e e) e e (Zaf e e e (gz8 0 3 4 5 7 8 124 145 e (Zad (Zai e ?_ ?_)))))
  ·refine jdr (L':=[_,_,_,_,_,_,_]) 24 [0,1,2,3,4,5,6] [0,1,2,3,4,5,6,7,8] 511 1023 [0,1,2,4,0,0,0,96,255,511] [0,1,3,7,0,0,0,96,255,511] [(0,true),(1,true),(2,true),(3,true),(4,true),(5,true),(6,false),(7,false),(8,true),(9,false)] e (Zay (Zay (Zas (Za0 (Zay (Zas Zbb)))))) (Zau e e e e (jd_y e (fun w hs=>Zbn e (hs.row 4 e) h437.1) e e (jd_y e (fun w hs=>ZaS e (hs.row 4 e) h437.1) e e (jd_y e (fun w hs=>ZaQ e (hs.row 4 e) h437.1 e) e e (Zau e e e e (Zau e e e e (jd_h e (ZaT (enc:=encI) [(-1),0,300,9000] e e e e e e e e fun hd470=>ZaA (Zbs [1,2,3,4,5,6,7] e (jd_h e (jm_c e (fun v w hs hm=>ZaB hm (hs.blkM (i:=0) e) (hs.argM Rha0_fl Oha0_fl) Oha0_fl (hs.row 0 e) (hs.offML 0 0 e e)) (fun _=>e) e e fun v471 q472=>ZaA (Zbs [1,2,3,4,5,6,7] e (Zbk fun x473 h474=>jd_y e (fun w hs=>ZaC e e (hs.row 0 e) h474) e e ?_)))))))))))))
   refine jd_h e (Zbr 1 (a':=v471.1) e e h474.1 e (l1 e) e e e e fun y475=>jg_L (r8 e) (ZaA (ZbG e (Zbf [(0,_),(3,_),(4,_),(5,_)] ⟨e,e,e,e,trivial⟩ (Zbx (i:=7) (j:=2) (is:=[0,1,3,4,5,6,7]) (h:=hd198) (e:=3) (sz:=1) (enc:=encI) (l:=y197) _ e e e (fun h=>h) (s7 e) e e ?_)))))
   have n476:NF (arOf qa1E) (rw1 hd198 3 1 encI y197 :: q15.2.2) q15.2.1 z14.2.1:=n24.mono mn1
   refine Zbx (i:=6) (j:=1) (is:=[0,2,3,4,5,6]) (h:=hd318) (e:=3) (sz:=1) (enc:=encI) (l:=y475) _ e e e (fun h=>h) (s6 e) e e ?_
   have n477:NF (arOf qa1E) (rw1 hd318 3 1 encI y475 :: (rw1 hd198 3 1 encI y197 :: q15.2.2)) q15.2.1 z14.2.1:=n476.mono mn1
   refine Zcb 3 (q:=q15.2.1) (a':=(Rolling.mk x51.Release x51.Length x51.Track x51.Speed y197 y475)) (d':=(hd198,hd318)) e e (r6 e) fun y478 H479=>?_
   have n480:NF (arOf qa1E) (rw1 hd318 3 1 encI y475 :: (rw1 hd198 3 1 encI y197 :: q15.2.2)) (q15.2.1.set (Int.toNat v49.1) ((Rolling.mk x51.Release x51.Length x51.Track x51.Speed y197 y475),(hd198,hd318))) y478:=n477.set (okc (.inl (.tail _ (.head _))) (okc (.inl (.head _)) ok0)) H479
   refine ZaG (ZaG (Zad ?_))
   refine Zar 5 (Zac e e e (jy (ZaZ e e) e e (Zaf e e e (gz4 0 3 4 5 e (Zax (i:=5) (NF (arOf qa1E) (rw1 hd318 3 1 encI y475 :: (rw1 hd198 3 1 encI y197 :: q15.2.2)) (q15.2.1.set (Int.toNat v49.1) ((Rolling.mk x51.Release x51.Length x51.Track x51.Speed y197 y475),(hd198,hd318))) y478) e (fun _=>n480) (r6 e) (Zap H17 (z14.1,y478,w64 (z14.2.2.1 - 1),v471.2) (q15.1,(q15.2.1.set (Int.toNat v49.1) ((Rolling.mk x51.Release x51.Length x51.Track x51.Speed y197 y475),(hd198,hd318))),(rw1 hd318 3 1 encI y475 :: (rw1 hd198 3 1 encI y197 :: q15.2.2))) [1,2,3,4,5] (u4 e) e e e))))))
  refine jqr 25 (jy (ZaL e e) e e (Zaf e e e (gz6 0 3 4 5 7 156 e (Zad (Zai e ?_ ?_)))))
  ·refine Zar 26 (Zac e e e (Zac e e e (ZaT (enc:=encI) [0,300,5000] e e e e e e e e fun hd481=>jm_c e (fun v w hs hm=>ZaB hm (hs.blkM (i:=0) e) (hs.argM Rha0_fl Oha0_fl) Oha0_fl (hs.row 0 e) (hs.offML 0 0 e e)) (fun _=>e) e e fun v482 q483=>jg_y (fun w hs=>Zbn e (hs.row 5 e) h437.1) e e (jg_y (fun w hs=>ZaS e (hs.row 5 e) h437.1) e e (Zco 5 (q:=q15.2.1) (a':=((Rolling.mk x51.Release x51.Length x51.Track v482.1 x51.Resist x51.Targets),(hd198,hd318))) e e h52.1 e (l1 e) e e e e (jg_L (r8 e) ?_))))))
   have h484:(q15.2.1.set (Int.toNat v49.1) ((Rolling.mk x51.Release x51.Length x51.Track v482.1 x51.Resist x51.Targets),(hd198,hd318)))[Int.toNat v49.1]? = some ((Rolling.mk x51.Release x51.Length x51.Track v482.1 x51.Resist x51.Targets),(hd198,hd318))∧(0:Int) ≤ v49.1:=⟨Zdu h52.1,h52.2⟩
   refine gz4 0 3 4 5 e (Zbx (i:=7) (j:=2) (is:=[0,1,3,4,5,6,7]) (h:=hd198) (e:=3) (sz:=1) (enc:=encI) (l:=y197) _ e e e (fun h=>h) (s7 e) e e ?_)
   have n485:NF (arOf qa1E) (rw1 hd198 3 1 encI y197 :: q15.2.2) q15.2.1 z14.2.1:=n24.mono mn1
   refine Zbx (i:=6) (j:=1) (is:=[0,2,3,4,5,6]) (h:=hd318) (e:=3) (sz:=1) (enc:=encI) (l:=y317) _ e e e (fun h=>h) (s6 e) e e ?_
   have n486:NF (arOf qa1E) (rw1 hd318 3 1 encI y317 :: (rw1 hd198 3 1 encI y197 :: q15.2.2)) q15.2.1 z14.2.1:=n485.mono mn1
   refine Zcb 3 (q:=q15.2.1) (a':=(Rolling.mk x51.Release x51.Length x51.Track v482.1 y197 y317)) (d':=(hd198,hd318)) e e (r6 e) fun y487 H488=>?_
   have n489:NF (arOf qa1E) (rw1 hd318 3 1 encI y317 :: (rw1 hd198 3 1 encI y197 :: q15.2.2)) (q15.2.1.set (Int.toNat v49.1) ((Rolling.mk x51.Release x51.Length x51.Track v482.1 y197 y317),(hd198,hd318))) y487:=n486.set (okc (.inl (.tail _ (.head _))) (okc (.inl (.head _)) ok0)) H488
   refine ZaG (ZaG (Zad ?_))
   refine Zar 5 (Zac e e e (jy (ZaZ e e) e e (Zaf e e e (gz4 0 3 4 5 e (Zax (i:=5) (NF (arOf qa1E) (rw1 hd318 3 1 encI y317 :: (rw1 hd198 3 1 encI y197 :: q15.2.2)) (q15.2.1.set (Int.toNat v49.1) ((Rolling.mk x51.Release x51.Length x51.Track v482.1 y197 y317),(hd198,hd318))) y487) e (fun _=>n489) (r6 e) (Zap H17 (z14.1,y487,w64 (z14.2.2.1 - 1),v482.2) (q15.1,(q15.2.1.set (Int.toNat v49.1) ((Rolling.mk x51.Release x51.Length x51.Track v482.1 y197 y317),(hd198,hd318))),(rw1 hd318 3 1 encI y317 :: (rw1 hd198 3 1 encI y197 :: q15.2.2))) [1,2,3,4,5] (u4 e) e e e))))))
  refine Zar 20 (Zac e e e (Zac e e e (jy (Zab e) e e (jgl 2 e e e e e (Zbc e (fun v w hs hm=>Zcf hm (hs.argM Rha1_Elements Oha1_Elements)) e e fun v490=>jm_c e (fun v w hs hm=>ZaP hm (hs.blkM (i:=0) e) (hs.argM Rha0_fl Oha0_fl) Oha0_fl) (fun _=>e) e e fun v491 q492=>jy (Zal e e) e e (jg_y (fun w hs=>Zbn e (hs.row 4 e) h437.1) e e (jg_y (fun w hs=>ZaS e (hs.row 4 e) h437.1) e e (Zco 4 (q:=q15.2.1) (a':=((Rolling.mk x51.Release (w64 (1 + v491.1)) x51.Track x51.Speed x51.Resist x51.Targets),(hd198,hd318))) e e h52.1 e (l1 e) e e e e (jg_L (r7 e) ?_)))))))))
  have h493:(q15.2.1.set (Int.toNat v49.1) ((Rolling.mk x51.Release (w64 (1 + v491.1)) x51.Track x51.Speed x51.Resist x51.Targets),(hd198,hd318)))[Int.toNat v49.1]? = some ((Rolling.mk x51.Release (w64 (1 + v491.1)) x51.Track x51.Speed x51.Resist x51.Targets),(hd198,hd318))∧(0:Int) ≤ v49.1:=⟨Zdu h52.1,h52.2⟩
  refine gz4 0 3 4 5 e (Zbx (i:=6) (j:=1) (is:=[0,2,3,4,5,6]) (h:=hd198) (e:=3) (sz:=1) (enc:=encI) (l:=y197) _ e e e (fun h=>h) (s6 e) e e ?_)
  have n494:NF (arOf qa1E) (rw1 hd198 3 1 encI y197 :: q15.2.2) q15.2.1 z14.2.1:=n24.mono mn1
  refine Zbx (i:=5) (j:=0) (is:=[1,2,3,4,5]) (h:=hd318) (e:=3) (sz:=1) (enc:=encI) (l:=y317) _ e e e (fun h=>h) (s5 e) e e ?_
  have n495:NF (arOf qa1E) (rw1 hd318 3 1 encI y317 :: (rw1 hd198 3 1 encI y197 :: q15.2.2)) q15.2.1 z14.2.1:=n494.mono mn1
  refine Zcb 2 (q:=q15.2.1) (a':=(Rolling.mk x51.Release (w64 (1 + v491.1)) x51.Track x51.Speed y197 y317)) (d':=(hd198,hd318)) e e (r5 e) fun y496 H497=>?_
  have n498:NF (arOf qa1E) (rw1 hd318 3 1 encI y317 :: (rw1 hd198 3 1 encI y197 :: q15.2.2)) (q15.2.1.set (Int.toNat v49.1) ((Rolling.mk x51.Release (w64 (1 + v491.1)) x51.Track x51.Speed y197 y317),(hd198,hd318))) y496:=n495.set (okc (.inl (.tail _ (.head _))) (okc (.inl (.head _)) ok0)) H497
  refine ZaG (ZaG (Zad ?_))
  refine Zar 5 (Zac e e e (jy (ZaZ e e) e e (Zaf e e e (gz4 0 3 4 5 e (Zax (i:=4) (NF (arOf qa1E) (rw1 hd318 3 1 encI y317 :: (rw1 hd198 3 1 encI y197 :: q15.2.2)) (q15.2.1.set (Int.toNat v49.1) ((Rolling.mk x51.Release (w64 (1 + v491.1)) x51.Track x51.Speed y197 y317),(hd198,hd318))) y496) e (fun _=>n498) (r5 e) (Zap H17 (z14.1,y496,w64 (z14.2.2.1 - 1),v491.2) (q15.1,(q15.2.1.set (Int.toNat v49.1) ((Rolling.mk x51.Release (w64 (1 + v491.1)) x51.Track x51.Speed y197 y317),(hd198,hd318))),(rw1 hd318 3 1 encI y317 :: (rw1 hd198 3 1 encI y197 :: q15.2.2))) [0,1,2,3,4] (u4 e) e e e))))))
 refine ZdO (enc:=encI) e e fun hd217=>ZaA (Zcr [1,2,3,4,5,6] e (jx1 (i:=2) (by kernel_rfl) (by kernel_rfl) e (ZdO (enc:=encI) e e fun hd97=>ZaA (Zcr [2,3,4,5,6,7] e (jx1 (i:=7) (by kernel_rfl) (by kernel_rfl) e (ZaO 0 e e e (fun w hs=>((hs.nO 6 e n54 (ZeH (hs.argNM Dha1_Cuts DOha1_Cuts))).sl (.head _))) e e e fun y197 hd198=>jg_L (r7 e) (ZaA (Zcr [2,3,4,5,6,7] e (jx1 (i:=13) (by kernel_rfl) (by kernel_rfl) e (ZaO 1 e e e (fun w hs=>((hs.nO 6 e n54 (ZeH (hs.argNM Dha1_Cuts DOha1_Cuts))).sl (.tail _ (.head _)))) e e e fun y317 hd318=>jg_L (r7 e) (ZaA (Zcr [2,3,4,5,6,7] e ?_))))))))))))
 refine ZdT [2,3,4,5,6,7] 65012 65535 4 [0,0,0,0,8,24,56,124,0,0,512,1536,3584,8188,16381,32765,65533,131071,262143,524287] [(14,true),(15,true)] e (Zas (Zay (Zas (Za0 (Zay (Zas Zbb)))))) (by kernel_rfl) (by kernel_rfl) (by kernel_rfl) (by kernel_rfl) (by kernel_rfl) (by kernel_rfl) (by kernel_rfl) (by kernel_rfl) (by kernel_rfl) (jd_y e (fun w hs=>Zbn e (hs.row 2 e) h52.1) e e (jd_y e (fun w hs=>ZaS e (hs.row 2 e) h52.1) e e (jd_x (jx1 (i:=16) (by kernel_rfl) (by kernel_rfl) e (Ze2 4 (q:=q15.2.1) (a':=(x51,(hd198,d53.2))) e e h52.1 e (l1 e) e e e e (jg_L (r7 e) ?_))))))
 have h377:(q15.2.1.set (Int.toNat v49.1) (x51,(hd198,d53.2)))[Int.toNat v49.1]? = some (x51,(hd198,d53.2))∧(0:Int) ≤ v49.1:=⟨Zdu h52.1,h52.2⟩
 refine ZaA (Zcs (by kernel_rfl) (jx1 (i:=17) (by kernel_rfl) (by kernel_rfl) e (jg_y (fun w hs=>Zbn e (hs.row 4 e) h377.1) e e (ZaA (Zcs (by kernel_rfl) (jx1 (i:=18) (by kernel_rfl) (by kernel_rfl) e (jg_y (fun w hs=>ZaS e (hs.row 4 e) h377.1) e e (ZaA (Zcs (by kernel_rfl) (jx1 (i:=19) (by kernel_rfl) (by kernel_rfl) e (Zco 4 (q:=q15.2.1) (a':=(x51,(hd198,hd318))) e e h52.1 e (l1 e) e e e e (jg_L (r7 e) ?_))))))))))))
 have h437:(q15.2.1.set (Int.toNat v49.1) (x51,(hd198,hd318)))[Int.toNat v49.1]? = some (x51,(hd198,hd318))∧(0:Int) ≤ v49.1:=⟨Zdu h52.1,h52.2⟩
 refine ZaA (Zcs (by kernel_rfl) (jx0 [(0,_),(3,_),(4,_),(5,_),(7,_),(8,_)] ⟨e,e,e,e,e,e,trivial⟩ (by kernel_rfl) (by kernel_rfl) (jsr 19 (Zac e e e (jm_c e (fun v w hs hm=>ZaP hm (hs.blkM (i:=0) e) (hs.argM Rha0_fl Oha0_fl) Oha0_fl) (fun _=>e) e e fun v457 q458=>gz7 0 3 4 5 7 8 124 e (Zad (Zao (jqr 21 (jy (ZaL e e) e e (Zaf e e e (gz8 0 3 4 5 7 8 124 134 e (Zad (Zai e ?_ ?_)))))))))))))
 ·refine jdr (L':=[_,_,_,_,_,_,_]) 22 [0,1,2,3,4,5,6] [0,1,2,3,4,5,6,7,8] 511 1023 [0,1,2,4,0,0,0,96,255,511] [0,1,3,7,0,0,0,96,255,511] [(0,true),(1,true),(2,true),(3,true),(4,true),(5,true),(6,false),(7,false),(8,true),(9,false)] e (Zay (Zay (Zas (Za0 (Zay (Zas Zbb)))))) (Zau e e e e (jd_y e (fun w hs=>Zbn e (hs.row 4 e) h437.1) e e (jd_y e (fun w hs=>ZaS e (hs.row 4 e) h437.1) e e (jd_y e (fun w hs=>ZaQ e (hs.row 4 e) h437.1 e) e e (Zau e e e e (Zau e e e e (jd_h e (ZaT (enc:=encI) [(-200),400,1000,5000] e e e e e e e e fun hd459=>ZaA (Zbs [1,2,3,4,5,6,7] e (jd_h e (jm_c e (fun v w hs hm=>ZaB hm (hs.blkM (i:=0) e) (hs.argM Rha0_fl Oha0_fl) Oha0_fl (hs.row 0 e) (hs.offML 0 0 e e)) (fun _=>e) e e fun v460 q461=>ZaA (Zbs [1,2,3,4,5,6,7] e (Zbk fun x462 h463=>jd_y e (fun w hs=>ZaC e e (hs.row 0 e) h463) e e ?_)))))))))))))
  refine jd_h e (Zbr 1 (a':=v460.1) e e h463.1 e (l1 e) e e e e fun y464=>jg_L (r8 e) (ZaA (ZbG e (Zbf [(0,_),(3,_),(4,_),(5,_)] ⟨e,e,e,e,trivial⟩ (Zbx (i:=7) (j:=1) (is:=[0,2,3,4,5,6,7]) (h:=hd198) (e:=3) (sz:=1) (enc:=encI) (l:=y464) _ e e e (fun h=>h) (s7 e) e e ?_)))))
  have n465:NF (arOf qa1E) (rw1 hd198 3 1 encI y464 :: q15.2.2) q15.2.1 z14.2.1:=n24.mono mn1
  refine Zbx (i:=6) (j:=1) (is:=[0,2,3,4,5,6]) (h:=hd318) (e:=3) (sz:=1) (enc:=encI) (l:=y317) _ e e e (fun h=>h) (s6 e) e e ?_
  have n466:NF (arOf qa1E) (rw1 hd318 3 1 encI y317 :: (rw1 hd198 3 1 encI y464 :: q15.2.2)) q15.2.1 z14.2.1:=n465.mono mn1
  refine Zcb 3 (q:=q15.2.1) (a':=(Rolling.mk x51.Release x51.Length x51.Track x51.Speed y464 y317)) (d':=(hd198,hd318)) e e (r6 e) fun y467 H468=>?_
  have n469:NF (arOf qa1E) (rw1 hd318 3 1 encI y317 :: (rw1 hd198 3 1 encI y464 :: q15.2.2)) (q15.2.1.set (Int.toNat v49.1) ((Rolling.mk x51.Release x51.Length x51.Track x51.Speed y464 y317),(hd198,hd318))) y467:=n466.set (okc (.inl (.tail _ (.head _))) (okc (.inl (.head _)) ok0)) H468
  refine ZaG (ZaG (Zad ?_))
  refine Zar 5 (Zac e e e (jy (ZaZ e e) e e (Zaf e e e (gz4 0 3 4 5 e (Zax (i:=5) (NF (arOf qa1E) (rw1 hd318 3 1 encI y317 :: (rw1 hd198 3 1 encI y464 :: q15.2.2)) (q15.2.1.set (Int.toNat v49.1) ((Rolling.mk x51.Release x51.Length x51.Track x51.Speed y464 y317),(hd198,hd318))) y467) e (fun _=>n469) (r6 e) (Zap H17 (z14.1,y467,w64 (z14.2.2.1 - 1),v460.2) (q15.1,(q15.2.1.set (Int.toNat v49.1) ((Rolling.mk x51.Release x51.Length x51.Track x51.Speed y464 y317),(hd198,hd318))),(rw1 hd318 3 1 encI y317 :: (rw1 hd198 3 1 encI y464 :: q15.2.2))) [1,2,3,4,5] (u4 e) e e e))))))
 refine jqr 23 (jy (ZaL e e) e e (Zaf e e e (gz8 0 3 4 5 7 8 124 145 e (Zad (Zai e ?_ ?_)))))
 ·refine jdr (L':=[_,_,_,_,_,_,_]) 24 [0,1,2,3,4,5,6] [0,1,2,3,4,5,6,7,8] 511 1023 [0,1,2,4,0,0,0,96,255,511] [0,1,3,7,0,0,0,96,255,511] [(0,true),(1,true),(2,true),(3,true),(4,true),(5,true),(6,false),(7,false),(8,true),(9,false)] e (Zay (Zay (Zas (Za0 (Zay (Zas Zbb)))))) (Zau e e e e (jd_y e (fun w hs=>Zbn e (hs.row 4 e) h437.1) e e (jd_y e (fun w hs=>ZaS e (hs.row 4 e) h437.1) e e (jd_y e (fun w hs=>ZaQ e (hs.row 4 e) h437.1 e) e e (Zau e e e e (Zau e e e e (jd_h e (ZaT (enc:=encI) [(-1),0,300,9000] e e e e e e e e fun hd470=>ZaA (Zbs [1,2,3,4,5,6,7] e (jd_h e (jm_c e (fun v w hs hm=>ZaB hm (hs.blkM (i:=0) e) (hs.argM Rha0_fl Oha0_fl) Oha0_fl (hs.row 0 e) (hs.offML 0 0 e e)) (fun _=>e) e e fun v471 q472=>ZaA (Zbs [1,2,3,4,5,6,7] e (Zbk fun x473 h474=>jd_y e (fun w hs=>ZaC e e (hs.row 1 e) h474) e e ?_)))))))))))))
  refine jd_h e (Zbr 2 (a':=v471.1) e e h474.1 e (l1 e) e e e e fun y475=>jg_L (r8 e) (ZaA (ZbG e (Zbf [(0,_),(3,_),(4,_),(5,_)] ⟨e,e,e,e,trivial⟩ (Zbx (i:=7) (j:=1) (is:=[0,2,3,4,5,6,7]) (h:=hd198) (e:=3) (sz:=1) (enc:=encI) (l:=y197) _ e e e (fun h=>h) (s7 e) e e ?_)))))
  have n476:NF (arOf qa1E) (rw1 hd198 3 1 encI y197 :: q15.2.2) q15.2.1 z14.2.1:=n24.mono mn1
  refine Zbx (i:=6) (j:=1) (is:=[0,2,3,4,5,6]) (h:=hd318) (e:=3) (sz:=1) (enc:=encI) (l:=y475) _ e e e (fun h=>h) (s6 e) e e ?_
  have n477:NF (arOf qa1E) (rw1 hd318 3 1 encI y475 :: (rw1 hd198 3 1 encI y197 :: q15.2.2)) q15.2.1 z14.2.1:=n476.mono mn1
  refine Zcb 3 (q:=q15.2.1) (a':=(Rolling.mk x51.Release x51.Length x51.Track x51.Speed y197 y475)) (d':=(hd198,hd318)) e e (r6 e) fun y478 H479=>?_
  have n480:NF (arOf qa1E) (rw1 hd318 3 1 encI y475 :: (rw1 hd198 3 1 encI y197 :: q15.2.2)) (q15.2.1.set (Int.toNat v49.1) ((Rolling.mk x51.Release x51.Length x51.Track x51.Speed y197 y475),(hd198,hd318))) y478:=n477.set (okc (.inl (.tail _ (.head _))) (okc (.inl (.head _)) ok0)) H479
  refine ZaG (ZaG (Zad ?_))
  refine Zar 5 (Zac e e e (jy (ZaZ e e) e e (Zaf e e e (gz4 0 3 4 5 e (Zax (i:=5) (NF (arOf qa1E) (rw1 hd318 3 1 encI y475 :: (rw1 hd198 3 1 encI y197 :: q15.2.2)) (q15.2.1.set (Int.toNat v49.1) ((Rolling.mk x51.Release x51.Length x51.Track x51.Speed y197 y475),(hd198,hd318))) y478) e (fun _=>n480) (r6 e) (Zap H17 (z14.1,y478,w64 (z14.2.2.1 - 1),v471.2) (q15.1,(q15.2.1.set (Int.toNat v49.1) ((Rolling.mk x51.Release x51.Length x51.Track x51.Speed y197 y475),(hd198,hd318))),(rw1 hd318 3 1 encI y475 :: (rw1 hd198 3 1 encI y197 :: q15.2.2))) [1,2,3,4,5] (u4 e) e e e))))))
 refine jqr 25 (jy (ZaL e e) e e (Zaf e e e (gz6 0 3 4 5 7 156 e (Zad (Zai e ?_ ?_)))))
 ·refine Zar 26 (Zac e e e (Zac e e e (ZaT (enc:=encI) [0,300,5000] e e e e e e e e fun hd481=>jm_c e (fun v w hs hm=>ZaB hm (hs.blkM (i:=0) e) (hs.argM Rha0_fl Oha0_fl) Oha0_fl (hs.row 0 e) (hs.offML 0 0 e e)) (fun _=>e) e e fun v482 q483=>jg_y (fun w hs=>Zbn e (hs.row 5 e) h437.1) e e (jg_y (fun w hs=>ZaS e (hs.row 5 e) h437.1) e e (Zco 5 (q:=q15.2.1) (a':=((Rolling.mk x51.Release x51.Length x51.Track v482.1 x51.Resist x51.Targets),(hd198,hd318))) e e h52.1 e (l1 e) e e e e (jg_L (r8 e) ?_))))))
  have h484:(q15.2.1.set (Int.toNat v49.1) ((Rolling.mk x51.Release x51.Length x51.Track v482.1 x51.Resist x51.Targets),(hd198,hd318)))[Int.toNat v49.1]? = some ((Rolling.mk x51.Release x51.Length x51.Track v482.1 x51.Resist x51.Targets),(hd198,hd318))∧(0:Int) ≤ v49.1:=⟨Zdu h52.1,h52.2⟩
  refine gz4 0 3 4 5 e (Zbx (i:=7) (j:=1) (is:=[0,2,3,4,5,6,7]) (h:=hd198) (e:=3) (sz:=1) (enc:=encI) (l:=y197) _ e e e (fun h=>h) (s7 e) e e ?_)
  have n485:NF (arOf qa1E) (rw1 hd198 3 1 encI y197 :: q15.2.2) q15.2.1 z14.2.1:=n24.mono mn1
  refine Zbx (i:=6) (j:=1) (is:=[0,2,3,4,5,6]) (h:=hd318) (e:=3) (sz:=1) (enc:=encI) (l:=y317) _ e e e (fun h=>h) (s6 e) e e ?_
  have n486:NF (arOf qa1E) (rw1 hd318 3 1 encI y317 :: (rw1 hd198 3 1 encI y197 :: q15.2.2)) q15.2.1 z14.2.1:=n485.mono mn1
  refine Zcb 3 (q:=q15.2.1) (a':=(Rolling.mk x51.Release x51.Length x51.Track v482.1 y197 y317)) (d':=(hd198,hd318)) e e (r6 e) fun y487 H488=>?_
  have n489:NF (arOf qa1E) (rw1 hd318 3 1 encI y317 :: (rw1 hd198 3 1 encI y197 :: q15.2.2)) (q15.2.1.set (Int.toNat v49.1) ((Rolling.mk x51.Release x51.Length x51.Track v482.1 y197 y317),(hd198,hd318))) y487:=n486.set (okc (.inl (.tail _ (.head _))) (okc (.inl (.head _)) ok0)) H488
  refine ZaG (ZaG (Zad ?_))
  refine Zar 5 (Zac e e e (jy (ZaZ e e) e e (Zaf e e e (gz4 0 3 4 5 e (Zax (i:=5) (NF (arOf qa1E) (rw1 hd318 3 1 encI y317 :: (rw1 hd198 3 1 encI y197 :: q15.2.2)) (q15.2.1.set (Int.toNat v49.1) ((Rolling.mk x51.Release x51.Length x51.Track v482.1 y197 y317),(hd198,hd318))) y487) e (fun _=>n489) (r6 e) (Zap H17 (z14.1,y487,w64 (z14.2.2.1 - 1),v482.2) (q15.1,(q15.2.1.set (Int.toNat v49.1) ((Rolling.mk x51.Release x51.Length x51.Track v482.1 y197 y317),(hd198,hd318))),(rw1 hd318 3 1 encI y317 :: (rw1 hd198 3 1 encI y197 :: q15.2.2))) [1,2,3,4,5] (u4 e) e e e))))))
 refine Zar 20 (Zac e e e (Zac e e e (jy (Zab e) e e (jgl 2 e e e e e (Zbc e (fun v w hs hm=>Zcf hm (hs.argM Rha1_Elements Oha1_Elements)) e e fun v490=>jm_c e (fun v w hs hm=>ZaP hm (hs.blkM (i:=0) e) (hs.argM Rha0_fl Oha0_fl) Oha0_fl) (fun _=>e) e e fun v491 q492=>jy (Zal e e) e e (jg_y (fun w hs=>Zbn e (hs.row 4 e) h437.1) e e (jg_y (fun w hs=>ZaS e (hs.row 4 e) h437.1) e e (Zco 4 (q:=q15.2.1) (a':=((Rolling.mk x51.Release (w64 (1 + v491.1)) x51.Track x51.Speed x51.Resist x51.Targets),(hd198,hd318))) e e h52.1 e (l1 e) e e e e (jg_L (r7 e) ?_)))))))))
 have h493:(q15.2.1.set (Int.toNat v49.1) ((Rolling.mk x51.Release (w64 (1 + v491.1)) x51.Track x51.Speed x51.Resist x51.Targets),(hd198,hd318)))[Int.toNat v49.1]? = some ((Rolling.mk x51.Release (w64 (1 + v491.1)) x51.Track x51.Speed x51.Resist x51.Targets),(hd198,hd318))∧(0:Int) ≤ v49.1:=⟨Zdu h52.1,h52.2⟩
 refine gz4 0 3 4 5 e (Zbx (i:=6) (j:=0) (is:=[1,2,3,4,5,6]) (h:=hd198) (e:=3) (sz:=1) (enc:=encI) (l:=y197) _ e e e (fun h=>h) (s6 e) e e ?_)
 have n494:NF (arOf qa1E) (rw1 hd198 3 1 encI y197 :: q15.2.2) q15.2.1 z14.2.1:=n24.mono mn1
 refine Zbx (i:=5) (j:=0) (is:=[1,2,3,4,5]) (h:=hd318) (e:=3) (sz:=1) (enc:=encI) (l:=y317) _ e e e (fun h=>h) (s5 e) e e ?_
 have n495:NF (arOf qa1E) (rw1 hd318 3 1 encI y317 :: (rw1 hd198 3 1 encI y197 :: q15.2.2)) q15.2.1 z14.2.1:=n494.mono mn1
 refine Zcb 2 (q:=q15.2.1) (a':=(Rolling.mk x51.Release (w64 (1 + v491.1)) x51.Track x51.Speed y197 y317)) (d':=(hd198,hd318)) e e (r5 e) fun y496 H497=>?_
 have n498:NF (arOf qa1E) (rw1 hd318 3 1 encI y317 :: (rw1 hd198 3 1 encI y197 :: q15.2.2)) (q15.2.1.set (Int.toNat v49.1) ((Rolling.mk x51.Release (w64 (1 + v491.1)) x51.Track x51.Speed y197 y317),(hd198,hd318))) y496:=n495.set (okc (.inl (.tail _ (.head _))) (okc (.inl (.head _)) ok0)) H497
 refine ZaG (ZaG (Zad ?_))
 refine Zar 5 (Zac e e e (jy (ZaZ e e) e e (Zaf e e e (gz4 0 3 4 5 e (Zax (i:=4) (NF (arOf qa1E) (rw1 hd318 3 1 encI y317 :: (rw1 hd198 3 1 encI y197 :: q15.2.2)) (q15.2.1.set (Int.toNat v49.1) ((Rolling.mk x51.Release (w64 (1 + v491.1)) x51.Track x51.Speed y197 y317),(hd198,hd318))) y496) e (fun _=>n498) (r5 e) (Zap H17 (z14.1,y496,w64 (z14.2.2.1 - 1),v491.2) (q15.1,(q15.2.1.set (Int.toNat v49.1) ((Rolling.mk x51.Release (w64 (1 + v491.1)) x51.Track x51.Speed y197 y317),(hd198,hd318))),(rw1 hd318 3 1 encI y317 :: (rw1 hd198 3 1 encI y197 :: q15.2.2))) [0,1,2,3,4] (u4 e) e e e))))))
theorem ZdQ {w:World}{a0:HumpgenMaker}{a1:(List Element)}{ha0A:Hd}{b0:Nat}{ha1:Hd}{v:((List Element)×Int)}(hm:ZbP a0 a1 = some v) (Hb:Blk w b0 65 [ha0A.v,.int .i64 a0.fn]) (Rha0_fl:Sl w ha0A encI a0.fl) (Oha0_fl:Offs ha0A [b0]) (Rha1:Sl w ha1 Element.enc a1) (Oha1:Offs ha1 [b0]):Calls Tryz.prog 48 ([.pointer (some ⟨b0,0,none⟩),ha1.v]:List Value).toArray w (fun e w'=>∃ g:Hd,e = .returned (g.v)∧St w w' [.blk b0 65 [ha0A.v,.int .i64 v.2]] [(rowH g 102 8 Element.enc v.1)]):=by
 refine ZbN (vs:=[.pointer (some ⟨b0,0,none⟩),ha1.v]) (R:=fun (v:((List Element)×Int)) (e:Ending) (w':World)=>∃ g:Hd,e = .returned (g.v)∧St w w' [.blk b0 65 [ha0A.v,.int .i64 v.2]] [(rowH g 102 8 Element.enc v.1)]) Tryz.func48 e Tryz.ntmps48 e e (ZhS Hb) hm ?_
 unfold ZbP
 clear hm
 refine jqr 0 (Zaf e e e (gz2 0 1 e (jsr 1 (ZdO (enc:=Element.enc) e e fun hd1=>Zac e e e (ZaO 0 e e e (fun w hs=>(hs.argM Rha1 Oha1)) e e e fun y2 hd3=>jg_L (r1 e) (Zaf e e e (gz2 0 1 e (Zad (Zak (jqr 2 (Zac e e e (jg_y (fun w hs=>ZaV e (hs.row 0 e)) e e (jy (ZaL e e) e e (gz3 0 1 12 e ?_))))))))))))))
 refine Zad (Zai e ?_ ?_)
 ·refine jqr 3 (Zac e e e (Zaf e e e (gz1 4 e (Zad (Zam (Zaw (Zaj e (fun w hs=>.tmp e) (fun w hs=>⟨hd3,e,hs.sel (is:=[0]) e e⟩))))))))
 refine jks (jqr 4 (Zac e e e (Zac e e e (jg_y (fun w hs=>ZaV e (hs.row 0 e)) e e (jm_c e (fun v w hs hm=>ZaP hm (hs.blkM (i:=0) e) (hs.argM Rha0_fl Oha0_fl) Oha0_fl) (fun _=>e) e e fun v4 q5=>Zaf e e e (gz3 0 1 5 e (jsr 5 (Zac e e e (Zac e e e (Za6 fun x6 h7=>jg_y (fun w hs=>ZaC e e (hs.row 0 e) h7) e e (Zaf e e e (gz4 0 1 5 6 e (Zad (Zak ?_))))))))))))))
 refine jqr 6 (Zac e e e (jm_c e (fun v w hs hm=>ZaP hm (hs.blkM (i:=0) e) (hs.argM Rha0_fl Oha0_fl) Oha0_fl) (fun _=>e) e e fun v8 q9=>gz5 0 1 5 6 22 e (Zad (Zao (jqr 7 (jy (ZaL e e) e e (Zaf e e e (gz6 0 1 5 6 22 23 e (Zad (Zai e ?_ ?_))))))))))
 ·refine Zar 8 (Zac e e e (Zac e e e (ZaT (enc:=encI) [(-1),0,1,2,3,4,5] e e e e e e e e fun hd10=>jm_c e (fun v w hs hm=>ZaB hm (hs.blkM (i:=0) e) (hs.argM Rha0_fl Oha0_fl) Oha0_fl (hs.row 0 e) (hs.offML 0 0 e e)) (fun _=>e) e e fun v11 q12=>jg_y (fun w hs=>Zbn e (hs.row 1 e) h7.1) e e (jg_y (fun w hs=>ZaS e (hs.row 1 e) h7.1) e e (Zbr 1 (a':=(Element.mk v11.1 x6.Name x6.Parent x6.Side x6.Length x6.Grade x6.Curve x6.Power)) e e h7.1 e (l1 e) e e e e fun y13=>jg_L (r2 e) (gz1 1 e (ZaG (Zad ?_))))))))
  refine jqr 27 (Zac e e e (Zaf e e e (gz1 4 e (Zad (Zam (Zaj e (fun w hs=>.tmp e) (fun w hs=>⟨hd3,e,hs.sel (is:=[1]) e e⟩)))))))
 refine jqr 9 (jy (ZaL e e) e e (Zaf e e e (gz6 0 1 5 6 22 31 e (Zad (Zai e ?_ ?_)))))
 ·refine Zar 10 (Zac e e e (ZaT (enc:=encZ) [⟨#[]⟩,⟨#[65]⟩,⟨#[101,48,48,48]⟩,⟨#[101,48,48,49]⟩,⟨#[97,98,99,100,101,102,103,104,105,106,107,108,109]⟩,⟨#[97,58,108,101,102,116]⟩] e e e e e e e e fun hd14=>Zac e e e (jm_c e (fun v w hs hm=>ZaP hm (hs.blkM (i:=0) e) (hs.argM Rha0_fl Oha0_fl) Oha0_fl) (fun _=>e) e e fun v15 q16=>Za6 fun x17 h18=>jg_y (fun w hs=>ZaC e e (hs.row 0 e) h18) e e (jg_y (fun w hs=>ZaQ e (hs.row 0 e) h18.1 e) e e (jg_y (fun w hs=>Zbn e (hs.row 1 e) h7.1) e e (jg_y (fun w hs=>ZaS e (hs.row 1 e) h7.1) e e (Zbr 1 (a':=(Element.mk x6.Kind x17 x6.Parent x6.Side x6.Length x6.Grade x6.Curve x6.Power)) e e h7.1 e (l1 e) e e e e fun y19=>jg_L (r2 e) (gz1 1 e (ZaG (Zad ?_))))))))))
  refine jqr 27 (Zac e e e (Zaf e e e (gz1 4 e (Zad (Zam (Zaj e (fun w hs=>.tmp e) (fun w hs=>⟨hd3,e,hs.sel (is:=[1]) e e⟩)))))))
 refine jqr 11 (jy (ZaL e e) e e (Zaf e e e (gz6 0 1 5 6 22 41 e (Zad (Zai e ?_ ?_)))))
 ·refine Zar 12 (Zac e e e (Zac e e e (Zac e e e (Zac e e e (jy (Zal e e) e e (Zac e e e (jg_y (fun w hs=>ZaV e (hs.row 0 e)) e e (ZaT (enc:=encI) [(-1),0,1,v4.1,w64 (v4.1 + 1),(y2.length:Int)] e e e e e e e e fun hd20=>jm_c e (fun v w hs hm=>ZaB hm (hs.blkM (i:=0) e) (hs.argM Rha0_fl Oha0_fl) Oha0_fl (hs.row 0 e) (hs.offML 0 0 e e)) (fun _=>e) e e fun v21 q22=>jg_y (fun w hs=>Zbn e (hs.row 1 e) h7.1) e e (jg_y (fun w hs=>ZaS e (hs.row 1 e) h7.1) e e (Zbr 1 (a':=(Element.mk x6.Kind x6.Name v21.1 x6.Side x6.Length x6.Grade x6.Curve x6.Power)) e e h7.1 e (l1 e) e e e e fun y23=>jg_L (r2 e) (gz1 1 e (ZaG (Zad ?_)))))))))))))
  refine jqr 27 (Zac e e e (Zaf e e e (gz1 4 e (Zad (Zam (Zaj e (fun w hs=>.tmp e) (fun w hs=>⟨hd3,e,hs.sel (is:=[1]) e e⟩)))))))
 refine jqr 13 (jy (ZaL e e) e e (Zaf e e e (gz6 0 1 5 6 22 54 e (Zad (Zai e ?_ ?_)))))
 ·refine Zar 14 (Zac e e e (Zac e e e (ZaT (enc:=encI) [(-1),0,1,2,3] e e e e e e e e fun hd24=>jm_c e (fun v w hs hm=>ZaB hm (hs.blkM (i:=0) e) (hs.argM Rha0_fl Oha0_fl) Oha0_fl (hs.row 0 e) (hs.offML 0 0 e e)) (fun _=>e) e e fun v25 q26=>jg_y (fun w hs=>Zbn e (hs.row 1 e) h7.1) e e (jg_y (fun w hs=>ZaS e (hs.row 1 e) h7.1) e e (Zbr 1 (a':=(Element.mk x6.Kind x6.Name x6.Parent v25.1 x6.Length x6.Grade x6.Curve x6.Power)) e e h7.1 e (l1 e) e e e e fun y27=>jg_L (r2 e) (gz1 1 e (ZaG (Zad ?_))))))))
  refine jqr 27 (Zac e e e (Zaf e e e (gz1 4 e (Zad (Zam (Zaj e (fun w hs=>.tmp e) (fun w hs=>⟨hd3,e,hs.sel (is:=[1]) e e⟩)))))))
 refine jqr 15 (jy (ZaL e e) e e (Zaf e e e (gz6 0 1 5 6 22 62 e (Zad (Zai e ?_ ?_)))))
 ·refine Zar 16 (Zac e e e (Zac e e e (ZaT (enc:=encI) [0,1,1000000,1000001,(-1)] e e e e e e e e fun hd28=>jm_c e (fun v w hs hm=>ZaB hm (hs.blkM (i:=0) e) (hs.argM Rha0_fl Oha0_fl) Oha0_fl (hs.row 0 e) (hs.offML 0 0 e e)) (fun _=>e) e e fun v29 q30=>jg_y (fun w hs=>Zbn e (hs.row 1 e) h7.1) e e (jg_y (fun w hs=>ZaS e (hs.row 1 e) h7.1) e e (Zbr 1 (a':=(Element.mk x6.Kind x6.Name x6.Parent x6.Side v29.1 x6.Grade x6.Curve x6.Power)) e e h7.1 e (l1 e) e e e e fun y31=>jg_L (r2 e) (gz1 1 e (ZaG (Zad ?_))))))))
  refine jqr 27 (Zac e e e (Zaf e e e (gz1 4 e (Zad (Zam (Zaj e (fun w hs=>.tmp e) (fun w hs=>⟨hd3,e,hs.sel (is:=[1]) e e⟩)))))))
 refine jqr 17 (jy (ZaL e e) e e (Zaf e e e (gz6 0 1 5 6 22 70 e (Zad (Zai e ?_ ?_)))))
 ·refine Zar 18 (Zac e e e (Zac e e e (ZaT (enc:=encI) [(-10001),(-10000),10000,10001] e e e e e e e e fun hd32=>jm_c e (fun v w hs hm=>ZaB hm (hs.blkM (i:=0) e) (hs.argM Rha0_fl Oha0_fl) Oha0_fl (hs.row 0 e) (hs.offML 0 0 e e)) (fun _=>e) e e fun v33 q34=>jg_y (fun w hs=>Zbn e (hs.row 1 e) h7.1) e e (jg_y (fun w hs=>ZaS e (hs.row 1 e) h7.1) e e (Zbr 1 (a':=(Element.mk x6.Kind x6.Name x6.Parent x6.Side x6.Length v33.1 x6.Curve x6.Power)) e e h7.1 e (l1 e) e e e e fun y35=>jg_L (r2 e) (gz1 1 e (ZaG (Zad ?_))))))))
  refine jqr 27 (Zac e e e (Zaf e e e (gz1 4 e (Zad (Zam (Zaj e (fun w hs=>.tmp e) (fun w hs=>⟨hd3,e,hs.sel (is:=[1]) e e⟩)))))))
 refine jqr 19 (jy (ZaL e e) e e (Zaf e e e (gz6 0 1 5 6 22 78 e (Zad (Zai e ?_ ?_)))))
 ·refine Zar 20 (Zac e e e (Zac e e e (ZaT (enc:=encI) [(-1),5000,5001] e e e e e e e e fun hd36=>jm_c e (fun v w hs hm=>ZaB hm (hs.blkM (i:=0) e) (hs.argM Rha0_fl Oha0_fl) Oha0_fl (hs.row 0 e) (hs.offML 0 0 e e)) (fun _=>e) e e fun v37 q38=>jg_y (fun w hs=>Zbn e (hs.row 1 e) h7.1) e e (jg_y (fun w hs=>ZaS e (hs.row 1 e) h7.1) e e (Zbr 1 (a':=(Element.mk x6.Kind x6.Name x6.Parent x6.Side x6.Length x6.Grade v37.1 x6.Power)) e e h7.1 e (l1 e) e e e e fun y39=>jg_L (r2 e) (gz1 1 e (ZaG (Zad ?_))))))))
  refine jqr 27 (Zac e e e (Zaf e e e (gz1 4 e (Zad (Zam (Zaj e (fun w hs=>.tmp e) (fun w hs=>⟨hd3,e,hs.sel (is:=[1]) e e⟩)))))))
 refine jqr 21 (jy (ZaL e e) e e (Zaf e e e (gz6 0 1 5 6 22 86 e (Zad (Zai e ?_ ?_)))))
 ·refine Zar 22 (Zac e e e (Zac e e e (ZaT (enc:=encI) [(-1),0,1,1000000000,1000000001] e e e e e e e e fun hd40=>jm_c e (fun v w hs hm=>ZaB hm (hs.blkM (i:=0) e) (hs.argM Rha0_fl Oha0_fl) Oha0_fl (hs.row 0 e) (hs.offML 0 0 e e)) (fun _=>e) e e fun v41 q42=>jg_y (fun w hs=>Zbn e (hs.row 1 e) h7.1) e e (jg_y (fun w hs=>ZaS e (hs.row 1 e) h7.1) e e (Zbr 1 (a':=(Element.mk x6.Kind x6.Name x6.Parent x6.Side x6.Length x6.Grade x6.Curve v41.1)) e e h7.1 e (l1 e) e e e e fun y43=>jg_L (r2 e) (gz1 1 e (ZaG (Zad ?_))))))))
  refine jqr 27 (Zac e e e (Zaf e e e (gz1 4 e (Zad (Zam (Zaj e (fun w hs=>.tmp e) (fun w hs=>⟨hd3,e,hs.sel (is:=[1]) e e⟩)))))))
 refine jqr 23 (jy (ZaL e e) e e (Zaf e e e (gz4 1 5 22 94 e (Zad (Zai e ?_ ?_)))))
 ·refine jdr (L':=[_]) 24 [0] [0,1,2,3,4,5,6] 127 511 [0,0,3,0,0,16,40,68,255] [0,0,3,0,0,16,56,127,255] [(0,true),(1,true),(2,true),(3,true),(4,true),(5,true),(6,true),(7,false),(8,false)] e (Zay (Zas Zbb)) (Zau e e e e (Zau e e e e (ZdV fun h44=>jd_y e (fun w hs=>yv_hi e e (hs.row 0 e) (of_decide_eq_true h44)) e e (Zau e e e e (Zau e e e e (jdy e (Zal e e) e e (ZdV fun h45=>jd_y e (fun w hs=>Zkq e e (hs.row 0 e) (of_decide_eq_true h45)) e e (jd_h e (Zf9 0 (of_decide_eq_true h44) e e e (fun w hs=>(Sl.lo (sz:=8) (hs.row 0 e) (of_decide_eq_true h45))) e e e fun y46 hd47=>jg_L (r1 e) (ZaA (ZbG e (jf_h e (Zaf e e e ?_)))))))))))))
  refine ZaA (ZbG e (Zbf [(1,_)] ⟨e,trivial⟩ (ZaG (Zad ?_))))
  refine jqr 27 (Zac e e e (Zaf e e e (gz1 4 e (Zad (Zam (Zaj e (fun w hs=>.tmp e) (fun w hs=>⟨hd47,e,hs.sel (is:=[0]) e e⟩)))))))
 refine jqr 25 (jy (ZaL e e) e e (Zaf e e e (gz3 1 5 104 e (Zad (Zai e ?_ ?_)))))
 rotate_left
 ·refine ZaK (ZaG (Zad ?_))
  refine jqr 27 (Zac e e e (Zaf e e e (gz1 4 e (Zad (Zam (Zaj e (fun w hs=>.tmp e) (fun w hs=>⟨hd3,e,hs.sel (is:=[0]) e e⟩)))))))
 refine Zar 26 (Zac e e e (Zac e e e (Zgs fun h48=>jg_y (fun w hs=>yv_hi e e (hs.row 0 e) (of_decide_eq_true h48)) e e (Zaf e e e (gz1 1 e (jk_rhi 0 e (of_decide_eq_true h48) (r1 e) (ZaG (Zad ?_))))))))
 refine jqr 27 (Zac e e e (Zaf e e e (gz1 4 e (Zad (Zam (Zaj e (fun w hs=>.tmp e) (fun w hs=>⟨(⟨hd3.A,(Int.toNat v4.1),hd3.c⟩:Hd),e,hs.sel (is:=[0]) e e⟩)))))))
theorem ZeZ {w:World}   {v:Scene}(hm:ZdN = some v):Calls Tryz.prog 49 ([]:List Value).toArray w (fun e w'=>∃ g:(Hd×Hd×Hd×Hd×List (Rolling×(Hd×Hd))×List Rw),e = .returned (.agg #[g.1.v,.int .i64 v.Throw,g.2.1.v,g.2.2.1.v,g.2.2.2.1.v])∧St w w' [] [(rowH g.1 102 8 Element.enc v.Elements),(rowH g.2.1 119 2 Throw.enc v.Start),(rowH g.2.2.1 132 4 Command.enc v.Commands),(rowH g.2.2.2.1 104 6 Nt.enc g.2.2.2.2.1),(Res.nest g.2.2.2.2.2 (NF noAr g.2.2.2.2.2 g.2.2.2.2.1 v.Cuts))]):=by
 refine ZbN (vs:=[]) (R:=fun (v:Scene) (e:Ending) (w':World)=>∃ g:(Hd×Hd×Hd×Hd×List (Rolling×(Hd×Hd))×List Rw),e = .returned (.agg #[g.1.v,.int .i64 v.Throw,g.2.1.v,g.2.2.1.v,g.2.2.2.1.v])∧St w w' [] [(rowH g.1 102 8 Element.enc v.Elements),(rowH g.2.1 119 2 Throw.enc v.Start),(rowH g.2.2.1 132 4 Command.enc v.Commands),(rowH g.2.2.2.1 104 6 Nt.enc g.2.2.2.2.1),(Res.nest g.2.2.2.2.2 (NF noAr g.2.2.2.2.2 g.2.2.2.2.1 v.Cuts))]) Tryz.func49 e Tryz.ntmps49 e e (St.refl w) hm ?_
 unfold ZdN
 clear hm
 refine jqr 0 (ZaR (l5 e) e e fun g1=>gz1 0 e (jsr 1 (ZaT (enc:=encI) [0,0,0,0] e e e e e e e e fun hd2=>Zaf e e e (gz2 0 1 e (jsr 2 (Zac e e e (Zac e e e (jy (ZaX e (o6 e)) e e (ZaR (l6 e) e e fun g3=>Zav 0 e e e (l6 e) e e e e (l6 e) (r3 e) (gz2 0 2 e (jsr 3 (jy (ZaX e (o8 e)) e e (jy (ZaX e (o8 e)) e e ?_)))))))))))))
 refine jy (ZaX e (o8 e)) e e (jy (ZaX e (o8 e)) e e (ZaT (enc:=Element.enc) [(Element.mk 0 (⟨#[99]⟩) (-1) 0 0 0 0 0),(Element.mk 3 (⟨#[119]⟩) 0 0 10000 1000 0 0),(Element.mk 4 (⟨#[97]⟩) 1 1 500000 100 0 0),(Element.mk 4 (⟨#[98]⟩) 1 2 500000 100 0 0)] e e e e e e e e fun hd4=>jg_y (fun w hs=>ZaJ e (ldBB (hs.blkL (i:=1) e) e)) e e (ZgU (Zcm (i:=0) (j:=3) (is:=[0,1,2,4]) (h:=hd2) (e:=3) (sz:=1) (enc:=encI) (l:=([0,0,0,0]:List Int)) _ e e e (fun h=>h) (s4 e) e e (ZaT (enc:=(Nt.enc (α:=Rolling) (η:=(Hd×Hd)))) [((Rolling.mk 0 20000 2 1000 ([0,0,0,0]:List Int) ([0,0,0,0]:List Int)),(hd2,hd2))] e e e e e e e e fun hd5=>?_)))))
 have n6:NF noAr (rw1 hd2 3 1 encI ([0,0,0,0]:List Int) :: []) ([((Rolling.mk 0 20000 2 1000 ([0,0,0,0]:List Int) ([0,0,0,0]:List Int)),(hd2,hd2))]:List (Rolling×(Hd×Hd))) ([(Rolling.mk 0 20000 2 1000 ([0,0,0,0]:List Int) ([0,0,0,0]:List Int))]:List Rolling):=NF.one (okc (.inl (.head _)) (okc (.inl (.head _)) ok0))
 refine jy (ZaX e (o5 e)) e e (Zav 4 e e e (l5 e) e e e e (l5 e) (r5 e) (gz1 0 e (Zad (Zam (Za3 119 2 Throw.enc (Za3 132 4 Command.enc (Zax (i:=3) (NF noAr (rw1 hd2 3 1 encI ([0,0,0,0]:List Int) :: []) ([((Rolling.mk 0 20000 2 1000 ([0,0,0,0]:List Int) ([0,0,0,0]:List Int)),(hd2,hd2))]:List (Rolling×(Hd×Hd))) ([(Rolling.mk 0 20000 2 1000 ([0,0,0,0]:List Int) ([0,0,0,0]:List Int))]:List Rolling)) e (fun _=>n6) (r7 e) (Zaj e (fun w hs=>.cell e (ldBB (hs.blkL (i:=6) e) e)) (fun w hs=>⟨(hd4,(Hd.mk none 0 0),(Hd.mk none 0 0),hd5,([((Rolling.mk 0 20000 2 1000 ([0,0,0,0]:List Int) ([0,0,0,0]:List Int)),(hd2,hd2))]:List (Rolling×(Hd×Hd))),(rw1 hd2 3 1 encI ([0,0,0,0]:List Int) :: [])),e,hs.sel (is:=[4,1,0,2,3]) e e⟩)))))))))
theorem Zdr {w:World}   {v:Bool}(hm:Zb3 = some v):Gives Tryz.prog 17 [] w (.bool v):=by
 refine Za4 (vs:=[]) (U:=fun (v:Bool)=>.bool v) Tryz.func17 e Tryz.ntmps17 e e hm ?_
 unfold Zb3
 clear hm
 refine jqr 0 (Zaf e e e (Zcl [] trivial (jsr 1 (jg_c e (fun v w hs hm=>ZeZ hm ) e e fun v1 q2=>jg_L (r5 e) (Zhm (i:=4) e fun n3=>?_)))))
 have n4:NF noAr q2.2.2.2.2.2 q2.2.2.2.2.1 v1.Cuts:=n3
 refine jg_c e (fun v w hs hm=>Zfi (a0:=v1) hm (hs.row 0 e) (hs.row 1 e) (hs.row 2 e) n4.1 (hs.row 3 e) (hs.nD 4 e n4.2 Zbw)) e e fun v5 q6=>jg_L (r8 e) (Zhm (i:=2) e fun n7=>Zek (i:=7) (j:=2) (is:=[0,1,3,4,5,6,7]) True e e e (fun _ _=>trivial) (s7 e) e e ?_)
 have n8:NF noAr (q2.2.2.2.2.2 ++ q6.2.2.2) q2.2.2.2.2.1 v1.Cuts:=n4.mono mnl
 have n9:NF noAr (q2.2.2.2.2.2 ++ q6.2.2.2) q6.2.1 v5.1:=n7.mono mnr
 refine Zac e e e (jy (ZaH e e) e e (jy (ZaH e e) e e (jy (ZaH e e) e e (Zaf e e e (Zaf e e e (Zaf e e e (gz3 1 2 3 e (ZaF (is:=[0,1,6]) (s3 e) e (jsr 2 (jg_c e (fun v w hs hm=>ZeZ hm ) e e fun v10 q11=>jg_L (r8 e) (Zhm (i:=4) e fun n12=>Zek (i:=7) (j:=4) (is:=[0,1,2,3,5,6,7]) True e e e (fun _ _=>trivial) (s7 e) e e ?_)))))))))))
 have n13:NF noAr ((q2.2.2.2.2.2 ++ q6.2.2.2) ++ q11.2.2.2.2.2) q6.2.1 v5.1:=n9.mono mnl
 have n14:NF noAr ((q2.2.2.2.2.2 ++ q6.2.2.2) ++ q11.2.2.2.2.2) q11.2.2.2.2.1 v10.Cuts:=n12.mono mnr
 refine ZaR (l5 e) e e fun g15=>Zav 0 e e e (l5 e) e e e e (l5 e) (r8 e) (gz4 1 2 3 4 e (jsr 3 (jy (ZaX e (o4 e)) e e (ZaT (enc:=Command.enc) [(Command.mk 0 1 2 0)] e e e e e e e e fun hd16=>jy (Zab e) e e (Zav 1 e e e (l1 e) e e e e (l5 e) (r9 e) (gz4 1 2 3 4 e (Zad (Zak (jdr (L':=[_,_,_,_,_,_,_,_]) 4 [0,1,2,3,5,6,7,8] [0,1,2,3,4,5,6] 127 1023 [0,1,0,4,8,16,32,66,255,511] [0,1,0,4,12,28,60,127,255,511] [(0,true),(1,true),(2,true),(3,true),(4,true),(5,true),(6,false),(7,false),(8,false),(9,false)] e (Zas Zbb) (jdy e (Zab e) e e (jdl 1 e e e e e e (jdy e (Zab e) e e (jdl 1 e e e e e e (ZcE (fun w hs=>n14.1) fun x17 d19 h18=>?_))))))))))))))
 have n20:okN noAr ((q2.2.2.2.2.2 ++ q6.2.2.2) ++ q11.2.2.2.2.2) (x17,d19):=n14.2 _ (List.mem_of_getElem? h18.1)
 refine jd_y e (fun w hs=>ZaC e e (hs.row 4 e) h18) e e (jd_y e (fun w hs=>ZbJ e (hs.row 4 e) h18.1 (l6 e) e) e e (jd_h e (ZaT (enc:=(Nt.enc (α:=Rolling) (η:=(Hd×Hd)))) [(x17,(d19.1,d19.2))] e e e e e e e e fun hd21=>?_)))
 have n22:NF noAr ((q2.2.2.2.2.2 ++ q6.2.2.2) ++ q11.2.2.2.2.2) ([(x17,(d19.1,d19.2))]:List (Rolling×(Hd×Hd))) ([x17]:List Rolling):=NF.one (okc (n20 _ (.head _)) (okc (n20 _ (.tail _ (.head _))) ok0))
 refine ZaA (Zbs [1,2,3,4,6,7,8,9] e (jd_h e (Zcg 6 e e e (fun w hs=>n14.1) (fun w hs=>n22.1) (fun w hs=>(hs.row 0 e)) e e e fun y23 hd24 H25=>jg_L (r10 e) ?_)))
 have n26:NF noAr ((q2.2.2.2.2.2 ++ q6.2.2.2) ++ q11.2.2.2.2.2) (q11.2.2.2.2.1 ++ ([(x17,(d19.1,d19.2))]:List (Rolling×(Hd×Hd)))) y23:=n14.app n22 H25
 refine ZaA (ZbG e (jf_h e (jy (Zab e) e e (ZaA (ZbG e (jf_h e (Zav 2 e e e (l1 e) e e e e (l5 e) (r10 e) (ZaA (ZbG e (Zbf [(1,_),(2,_),(3,_),(4,_)] ⟨e,e,e,e,trivial⟩ (ZaF (is:=[1,2,3,4,6,7,8,9]) (s8 e) e (jsr 5 (jy (Zab e) e e (jgl 1 e e e e e (ZcM (fun w hs=>n26.1) fun x27 d29 h28=>?_)))))))))))))))
 have n30:okN noAr ((q2.2.2.2.2.2 ++ q6.2.2.2) ++ q11.2.2.2.2.2) (x27,d29):=n26.2 _ (List.mem_of_getElem? h28.1)
 refine jg_y (fun w hs=>ZaC e e (hs.row 4 e) h28) e e (jg_y (fun w hs=>ZaS e (hs.row 4 e) h28.1) e e (Zc7 4 (a':=(Rolling.mk 1 x27.Length x27.Track x27.Speed x27.Resist x27.Targets)) e e h28.1 e (l1 e) e e e e fun y31 H32=>jg_L (r8 e) ?_))
 have n33:NF noAr ((q2.2.2.2.2.2 ++ q6.2.2.2) ++ q11.2.2.2.2.2) ((q11.2.2.2.2.1 ++ ([(x17,(d19.1,d19.2))]:List (Rolling×(Hd×Hd)))).set (Int.toNat 1) ((Rolling.mk 1 x27.Length x27.Track x27.Speed x27.Resist x27.Targets),(d29.1,d29.2))) y31:=n26.setp h28.1 e H32
 refine gz4 1 2 3 4 e (jsr 6 (jg_y (fun w hs=>ZaJ e (ldBB (hs.blkL (i:=1) e) e)) e e (jg_c e (fun v w hs hm=>Zfi (a0:=(Scene.mk v10.Elements v10.Throw v10.Start ([(Command.mk 0 1 2 0)]:List Command) y31)) hm (hs.row 2 e) (hs.row 3 e) (hs.row 0 e) n33.1 (hs.row 4 e) (hs.nD 7 e n33.2 Zbw)) e e fun v34 q35=>jg_L (r11 e) (Zhm (i:=2) e fun n36=>Zek (i:=10) (j:=2) (is:=[0,1,3,4,5,6,7,8,9,10]) True e e e (fun _ _=>trivial) (s10 e) e e ?_))))
 have n37:NF noAr (((q2.2.2.2.2.2 ++ q6.2.2.2) ++ q11.2.2.2.2.2) ++ q35.2.2.2) q6.2.1 v5.1:=n13.mono mnl
 have n38:NF noAr (((q2.2.2.2.2.2 ++ q6.2.2.2) ++ q11.2.2.2.2.2) ++ q35.2.2.2) ((q11.2.2.2.2.1 ++ ([(x17,(d19.1,d19.2))]:List (Rolling×(Hd×Hd)))).set (Int.toNat 1) ((Rolling.mk 1 x27.Length x27.Track x27.Speed x27.Resist x27.Targets),(d29.1,d29.2))) y31:=n33.mono mnl
 have n39:NF noAr (((q2.2.2.2.2.2 ++ q6.2.2.2) ++ q11.2.2.2.2.2) ++ q35.2.2.2) q35.2.1 v34.1:=n36.mono mnr
 refine Zac e e e (jy (ZaH e e) e e (jy (ZaH e e) e e (jy (ZaH e e) e e (Zaf e e e (Zaf e e e (Zaf e e e (gz6 1 2 3 5 6 7 e (ZaF (is:=[0,1,7,8,9]) (s5 e) e (jsr 7 (Zac e e e (jy (ZaL e e) e e (Zac e e e (Zaq 39 e ?_ ?_)))))))))))))
 rotate_left
 ·refine Zaa e e (Zaa e e (Zaa e e (jy (Zae e e) e e (Zac e e e (Zaa e e (Zaa e e (Zaa e e (jy (Zae e e) e e (Zac e e e (Zaa e e (Zaa e e (Zaa e e (Zaa e e (Zaa e e (jy (Zae e e) e e (Zac e e e ?_))))))))))))))))
  refine Zaa e e (Zaa e e (Zaa e e (Zaa e e (Zaa e e (Zaa e e (jy (Zae e e) e e (Zac e e e (Zaa e e (Zaa e e (Zaa e e (Zaa e e (Zaa e e (Zaa e e (Zaa e e (Zaa e e (jy (Zae e e) e e ?_))))))))))))))))
  refine Zac e e e (Zaa e e (Zaa e e (Zaa e e (Zaa e e (Zaa e e (Zaa e e (Zaa e e (Zaa e e (jy (Zae e e) e e (Zac e e e (Zaa e e (Zaa e e (Zaa e e (Zaa e e (Zaa e e (Zaa e e ?_))))))))))))))))
  refine Zaa e e (Zaa e e (jy (Zae e e) e e (Zac e e e (Zaa e e (Zaa e e (jy (Zae e e) e e (Zac e e e (Zaa e e (Zaa e e (Zaa e e (jy (Zae e e) e e (Zac e e e (Zaa e e (Zaa e e (Zaa e e (jy (Zae e e) e e ?_))))))))))))))))
  refine Zac e e e (Zaa e e (Zaa e e (Zaa e e (Zaa e e (Zaa e e (jy (Zae e e) e e (Zac e e e (Zaa e e (Zaa e e (Zaa e e (Zaa e e (Zaa e e (jy (Zae e e) e e (Zac e e e (Zaa e e (Zaa e e ?_))))))))))))))))
  refine Zaa e e (Zaa e e (Zaa e e (jy (Zae e e) e e (Zac e e e (Zaa e e (Zaa e e (Zaa e e (Zaa e e (Zaa e e (jy (Zae e e) e e (Zac e e e (Zaa e e (Zaa e e (Zaa e e (Zaa e e (Zaa e e ?_))))))))))))))))
  refine jy (Zae e e) e e (Zaf e e e (gz1 0 e (ZaF (is:=[]) (s0 e) e (Zad (Zam (Zaj e (fun w hs=>.tmp e) (fun w hs=>⟨e,hs.drop⟩)))))))
 refine Zac e e e (jg_y (fun w hs=>ZbY n37.1 e (hs.row 2 e)) e e (jy (ZaL e e) e e (jy (Zah e e) e e (Zac e e e (Zaq 44 e ?_ ?_)))))
 rotate_left
 ·refine Zaa e e (Zaa e e (Zaa e e (jy (Zae e e) e e (Zac e e e (Zaa e e (Zaa e e (Zaa e e (Zaa e e (Zaa e e (jy (Zae e e) e e (Zac e e e (Zaa e e (Zaa e e (Zaa e e (Zaa e e (Zaa e e ?_))))))))))))))))
  refine Zaa e e (jy (Zae e e) e e (Zac e e e (Zaa e e (Zaa e e (Zaa e e (Zaa e e (Zaa e e (Zaa e e (Zaa e e (Zaa e e (jy (Zae e e) e e (Zac e e e (Zaa e e (Zaa e e (Zaa e e (Zaa e e ?_))))))))))))))))
  refine Zaa e e (Zaa e e (Zaa e e (Zaa e e (jy (Zae e e) e e (Zac e e e (Zaa e e (Zaa e e (Zaa e e (Zaa e e (Zaa e e (Zaa e e (Zaa e e (Zaa e e (jy (Zae e e) e e (Zac e e e (Zaa e e ?_))))))))))))))))
  refine Zaa e e (jy (Zae e e) e e (Zac e e e (Zaa e e (Zaa e e (Zaa e e (jy (Zae e e) e e (Zac e e e (Zaa e e (Zaa e e (Zaa e e (jy (Zae e e) e e (Zac e e e (Zaa e e (Zaa e e (Zaa e e (Zaa e e ?_))))))))))))))))
  refine Zaa e e (jy (Zae e e) e e (Zac e e e (Zaa e e (Zaa e e (Zaa e e (Zaa e e (Zaa e e (jy (Zae e e) e e (Zac e e e (Zaa e e (Zaa e e (Zaa e e (Zaa e e (Zaa e e (jy (Zae e e) e e (Zac e e e ?_))))))))))))))))
  refine Zaa e e (Zaa e e (Zaa e e (Zaa e e (Zaa e e (jy (Zae e e) e e (Zac e e e (Zaa e e (Zaa e e (Zaa e e (Zaa e e (Zaa e e (jy (Zae e e) e e (Zaf e e e (gz1 0 e (ZaF (is:=[]) (s0 e) e (Zad ?_))))))))))))))))
  refine Zam (Zaj e (fun w hs=>.tmp e) (fun w hs=>⟨e,hs.drop⟩))
 refine Zac e e e (jg_y (fun w hs=>ZaV e (hs.row 3 e)) e e (jy (ZaL e e) e e (jy (Zah e e) e e (Zac e e e (Zaq 49 e ?_ ?_)))))
 rotate_left
 ·refine Zaa e e (Zaa e e (Zaa e e (Zaa e e (Zaa e e (jy (Zae e e) e e (Zac e e e (Zaa e e (Zaa e e (Zaa e e (Zaa e e (Zaa e e (Zaa e e (jy (Zae e e) e e (Zac e e e (Zaa e e (Zaa e e ?_))))))))))))))))
  refine Zaa e e (Zaa e e (Zaa e e (Zaa e e (Zaa e e (Zaa e e (jy (Zae e e) e e (Zac e e e (Zaa e e (Zaa e e (Zaa e e (Zaa e e (Zaa e e (Zaa e e (Zaa e e (Zaa e e (jy (Zae e e) e e ?_))))))))))))))))
  refine Zac e e e (Zaa e e (Zaa e e (Zaa e e (Zaa e e (Zaa e e (Zaa e e (Zaa e e (Zaa e e (jy (Zae e e) e e (Zac e e e (Zaa e e (Zaa e e (jy (Zae e e) e e (Zac e e e (Zaa e e (Zaa e e ?_))))))))))))))))
  refine Zaa e e (jy (Zae e e) e e (Zac e e e (Zaa e e (Zaa e e (Zaa e e (jy (Zae e e) e e (Zac e e e (Zaa e e (Zaa e e (Zaa e e (Zaa e e (Zaa e e (jy (Zae e e) e e (Zac e e e (Zaa e e (Zaa e e ?_))))))))))))))))
  refine Zaa e e (Zaa e e (Zaa e e (jy (Zae e e) e e (Zac e e e (Zaa e e (Zaa e e (Zaa e e (Zaa e e (Zaa e e (jy (Zae e e) e e (Zac e e e (Zaa e e (Zaa e e (Zaa e e (Zaa e e (Zaa e e ?_))))))))))))))))
  refine jy (Zae e e) e e (Zac e e e (Zaa e e (Zaa e e (Zaa e e (Zaa e e (Zaa e e (jy (Zae e e) e e (Zaf e e e (gz1 0 e (ZaF (is:=[]) (s0 e) e (Zad (Zam (Zaj e (fun w hs=>.tmp e) (fun w hs=>⟨e,hs.drop⟩))))))))))))))
 refine Zac e e e (ZcM (fun w hs=>n37.1) fun x40 d42 h41=>?_)
 have n43:okN noAr (((q2.2.2.2.2.2 ++ q6.2.2.2) ++ q11.2.2.2.2.2) ++ q35.2.2.2) (x40,d42):=n37.2 _ (List.mem_of_getElem? h41.1)
 refine jg_y (fun w hs=>ZaC e e (hs.row 2 e) h41) e e (jg_y (fun w hs=>ZaS e (hs.row 2 e) h41.1) e e (jg_y (fun w hs=>ZaQ e (hs.row 2 e) h41.1 e) e e (jy (ZaL e e) e e (jy (Zah e e) e e (Zac e e e (Zaq 56 e ?_ ?_))))))
 rotate_left
 ·refine Zaa e e (Zaa e e (Zaa e e (Zaa e e (Zaa e e (Zaa e e (jy (Zae e e) e e (Zac e e e (Zaa e e (Zaa e e (Zaa e e (Zaa e e (Zaa e e (Zaa e e (Zaa e e (Zaa e e (jy (Zae e e) e e ?_))))))))))))))))
  refine Zac e e e (Zaa e e (Zaa e e (Zaa e e (Zaa e e (Zaa e e (Zaa e e (Zaa e e (Zaa e e (jy (Zae e e) e e (Zac e e e (Zaa e e (Zaa e e (Zaa e e (Zaa e e (Zaa e e (Zaa e e ?_))))))))))))))))
  refine Zaa e e (Zaa e e (jy (Zae e e) e e (Zac e e e (Zaa e e (Zaa e e (jy (Zae e e) e e (Zac e e e (Zaa e e (Zaa e e (Zaa e e (jy (Zae e e) e e (Zac e e e (Zaa e e (Zaa e e (Zaa e e (jy (Zae e e) e e ?_))))))))))))))))
  refine Zac e e e (Zaa e e (Zaa e e (Zaa e e (Zaa e e (Zaa e e (jy (Zae e e) e e (Zac e e e (Zaa e e (Zaa e e (Zaa e e (Zaa e e (Zaa e e (jy (Zae e e) e e (Zac e e e (Zaa e e (Zaa e e ?_))))))))))))))))
  refine Zaa e e (Zaa e e (Zaa e e (jy (Zae e e) e e (Zac e e e (Zaa e e (Zaa e e (Zaa e e (Zaa e e (Zaa e e (jy (Zae e e) e e (Zac e e e (Zaa e e (Zaa e e (Zaa e e (Zaa e e (Zaa e e ?_))))))))))))))))
  refine jy (Zae e e) e e (Zaf e e e (gz1 0 e (ZaF (is:=[]) (s0 e) e (Zad (Zam (Zaj e (fun w hs=>.tmp e) (fun w hs=>⟨e,hs.drop⟩)))))))
 refine Zac e e e (ZcM (fun w hs=>n37.1) fun x44 d46 h45=>?_)
 have n47:okN noAr (((q2.2.2.2.2.2 ++ q6.2.2.2) ++ q11.2.2.2.2.2) ++ q35.2.2.2) (x44,d46):=n37.2 _ (List.mem_of_getElem? h45.1)
 refine jg_y (fun w hs=>ZaC e e (hs.row 2 e) h45) e e (jg_y (fun w hs=>ZaS e (hs.row 2 e) h45.1) e e (jg_y (fun w hs=>ZaQ e (hs.row 2 e) h45.1 e) e e (jg_y (fun w hs=>ZaV e ((hs.nO 4 e n47 Zbw).sl (.head _))) e e (jy (ZaL e e) e e (jy (Zah e e) e e (Zac e e e (Zaq 64 e ?_ ?_)))))))
 rotate_left
 ·refine Zaa e e (Zaa e e (Zaa e e (Zaa e e (Zaa e e (Zaa e e (Zaa e e (Zaa e e (jy (Zae e e) e e (Zac e e e (Zaa e e (Zaa e e (Zaa e e (Zaa e e (Zaa e e (Zaa e e (Zaa e e ?_))))))))))))))))
  refine Zaa e e (jy (Zae e e) e e (Zac e e e (Zaa e e (Zaa e e (Zaa e e (Zaa e e (Zaa e e (Zaa e e (Zaa e e (Zaa e e (jy (Zae e e) e e (Zac e e e (Zaa e e (Zaa e e (jy (Zae e e) e e (Zac e e e ?_))))))))))))))))
  refine Zaa e e (Zaa e e (Zaa e e (jy (Zae e e) e e (Zac e e e (Zaa e e (Zaa e e (Zaa e e (jy (Zae e e) e e (Zac e e e (Zaa e e (Zaa e e (Zaa e e (Zaa e e (Zaa e e (jy (Zae e e) e e (Zac e e e ?_))))))))))))))))
  refine Zaa e e (Zaa e e (Zaa e e (Zaa e e (Zaa e e (jy (Zae e e) e e (Zac e e e (Zaa e e (Zaa e e (Zaa e e (Zaa e e (Zaa e e (jy (Zae e e) e e (Zac e e e (Zaa e e (Zaa e e (Zaa e e ?_))))))))))))))))
  refine Zaa e e (Zaa e e (jy (Zae e e) e e (Zac e e e (Zaa e e (Zaa e e (Zaa e e (Zaa e e (Zaa e e (jy (Zae e e) e e (Zaf e e e (gz1 0 e (ZaF (is:=[]) (s0 e) e (Zad (Zam (Zaj e (fun w hs=>.tmp e) (fun w hs=>⟨e,hs.drop⟩))))))))))))))))
 refine Zac e e e (ZcM (fun w hs=>n37.1) fun x48 d50 h49=>?_)
 have n51:okN noAr (((q2.2.2.2.2.2 ++ q6.2.2.2) ++ q11.2.2.2.2.2) ++ q35.2.2.2) (x48,d50):=n37.2 _ (List.mem_of_getElem? h49.1)
 refine jg_y (fun w hs=>ZaC e e (hs.row 2 e) h49) e e (jg_y (fun w hs=>ZaS e (hs.row 2 e) h49.1) e e (jg_y (fun w hs=>ZaQ e (hs.row 2 e) h49.1 e) e e (Za6 fun x52 h53=>jg_y (fun w hs=>ZaC e e ((hs.nO 4 e n51 Zbw).sl (.head _)) h53) e e (jg_y (fun w hs=>ZaS e ((hs.nO 4 e n51 Zbw).sl (.head _)) h53.1) e e (jg_y (fun w hs=>ZaQ e ((hs.nO 4 e n51 Zbw).sl (.head _)) h53.1 e) e e (jy (ZaL e e) e e (jy (Zah e e) e e (Zac e e e (Zaq 74 e ?_ ?_)))))))))
 rotate_left
 ·refine Zaa e e (Zaa e e (Zaa e e (Zaa e e (Zaa e e (Zaa e e (Zaa e e (Zaa e e (jy (Zae e e) e e (Zac e e e (Zaa e e (Zaa e e (Zaa e e (Zaa e e (Zaa e e (Zaa e e (Zaa e e ?_))))))))))))))))
  refine Zaa e e (jy (Zae e e) e e (Zac e e e (Zaa e e (Zaa e e (jy (Zae e e) e e (Zac e e e (Zaa e e (Zaa e e (Zaa e e (jy (Zae e e) e e (Zac e e e (Zaa e e (Zaa e e (Zaa e e (jy (Zae e e) e e (Zac e e e ?_))))))))))))))))
  refine Zaa e e (Zaa e e (Zaa e e (Zaa e e (Zaa e e (jy (Zae e e) e e (Zac e e e (Zaa e e (Zaa e e (Zaa e e (Zaa e e (Zaa e e (jy (Zae e e) e e (Zac e e e (Zaa e e (Zaa e e (Zaa e e ?_))))))))))))))))
  refine Zaa e e (Zaa e e (jy (Zae e e) e e (Zac e e e (Zaa e e (Zaa e e (Zaa e e (Zaa e e (Zaa e e (jy (Zae e e) e e (Zac e e e (Zaa e e (Zaa e e (Zaa e e (Zaa e e (Zaa e e (jy (Zae e e) e e ?_))))))))))))))))
  refine Zaf e e e (gz1 0 e (ZaF (is:=[]) (s0 e) e (Zad (Zam (Zaj e (fun w hs=>.tmp e) (fun w hs=>⟨e,hs.drop⟩))))))
 refine Zac e e e (ZcM (fun w hs=>n37.1) fun x54 d56 h55=>?_)
 have n57:okN noAr (((q2.2.2.2.2.2 ++ q6.2.2.2) ++ q11.2.2.2.2.2) ++ q35.2.2.2) (x54,d56):=n37.2 _ (List.mem_of_getElem? h55.1)
 refine jg_y (fun w hs=>ZaC e e (hs.row 2 e) h55) e e (jg_y (fun w hs=>ZaS e (hs.row 2 e) h55.1) e e (jg_y (fun w hs=>ZaQ e (hs.row 2 e) h55.1 e) e e (Za6 fun x58 h59=>jg_y (fun w hs=>ZaC e e ((hs.nO 4 e n57 Zbw).sl (.head _)) h59) e e (jg_y (fun w hs=>ZaS e ((hs.nO 4 e n57 Zbw).sl (.head _)) h59.1) e e (jg_y (fun w hs=>ZaQ e ((hs.nO 4 e n57 Zbw).sl (.head _)) h59.1 e) e e (jy (ZaL e e) e e (jy (Zah e e) e e (Zac e e e (Zaq 84 e ?_ ?_)))))))))
 rotate_left
 ·refine Zaa e e (Zaa e e (Zaa e e (Zaa e e (Zaa e e (Zaa e e (Zaa e e (Zaa e e (jy (Zae e e) e e (Zac e e e (Zaa e e (Zaa e e (jy (Zae e e) e e (Zac e e e (Zaa e e (Zaa e e (Zaa e e ?_))))))))))))))))
  refine jy (Zae e e) e e (Zac e e e (Zaa e e (Zaa e e (Zaa e e (jy (Zae e e) e e (Zac e e e (Zaa e e (Zaa e e (Zaa e e (Zaa e e (Zaa e e (jy (Zae e e) e e (Zac e e e (Zaa e e (Zaa e e (Zaa e e ?_))))))))))))))))
  refine Zaa e e (Zaa e e (jy (Zae e e) e e (Zac e e e (Zaa e e (Zaa e e (Zaa e e (Zaa e e (Zaa e e (jy (Zae e e) e e (Zac e e e (Zaa e e (Zaa e e (Zaa e e (Zaa e e (Zaa e e (jy (Zae e e) e e ?_))))))))))))))))
  refine Zac e e e (Zaa e e (Zaa e e (Zaa e e (Zaa e e (Zaa e e (jy (Zae e e) e e (Zaf e e e (gz1 0 e (ZaF (is:=[]) (s0 e) e (Zad (Zam (Zaj e (fun w hs=>.tmp e) (fun w hs=>⟨e,hs.drop⟩)))))))))))))
 refine Zac e e e (ZcM (fun w hs=>n37.1) fun x60 d62 h61=>?_)
 have n63:okN noAr (((q2.2.2.2.2.2 ++ q6.2.2.2) ++ q11.2.2.2.2.2) ++ q35.2.2.2) (x60,d62):=n37.2 _ (List.mem_of_getElem? h61.1)
 refine jg_y (fun w hs=>ZaC e e (hs.row 2 e) h61) e e (jg_y (fun w hs=>ZaS e (hs.row 2 e) h61.1) e e (jg_y (fun w hs=>ZaQ e (hs.row 2 e) h61.1 e) e e (Za6 fun x64 h65=>jg_y (fun w hs=>ZaC e e ((hs.nO 4 e n63 Zbw).sl (.head _)) h65) e e (jg_y (fun w hs=>ZaS e ((hs.nO 4 e n63 Zbw).sl (.head _)) h65.1) e e (jg_y (fun w hs=>ZaQ e ((hs.nO 4 e n63 Zbw).sl (.head _)) h65.1 e) e e (jy (ZaL e e) e e (jy (Zah e e) e e (Zac e e e (Zaq 94 e ?_ ?_)))))))))
 rotate_left
 ·refine Zaa e e (Zaa e e (jy (Zae e e) e e (Zac e e e (Zaa e e (Zaa e e (Zaa e e (jy (Zae e e) e e (Zac e e e (Zaa e e (Zaa e e (Zaa e e (jy (Zae e e) e e (Zac e e e (Zaa e e (Zaa e e (Zaa e e ?_))))))))))))))))
  refine Zaa e e (Zaa e e (jy (Zae e e) e e (Zac e e e (Zaa e e (Zaa e e (Zaa e e (Zaa e e (Zaa e e (jy (Zae e e) e e (Zac e e e (Zaa e e (Zaa e e (Zaa e e (Zaa e e (Zaa e e (jy (Zae e e) e e ?_))))))))))))))))
  refine Zac e e e (Zaa e e (Zaa e e (Zaa e e (Zaa e e (Zaa e e (jy (Zae e e) e e (Zac e e e (Zaa e e (Zaa e e (Zaa e e (Zaa e e (Zaa e e (jy (Zae e e) e e (Zaf e e e (gz1 0 e (ZaF (is:=[]) (s0 e) e ?_))))))))))))))))
  refine Zad (Zam (Zaj e (fun w hs=>.tmp e) (fun w hs=>⟨e,hs.drop⟩)))
 refine Zac e e e (jy (ZaL e e) e e (jy (Zah e e) e e (Zac e e e (Zaq 98 e ?_ ?_))))
 rotate_left
 ·refine Zaa e e (Zaa e e (Zaa e e (jy (Zae e e) e e (Zac e e e (Zaa e e (Zaa e e (Zaa e e (jy (Zae e e) e e (Zac e e e (Zaa e e (Zaa e e (Zaa e e (Zaa e e (Zaa e e (jy (Zae e e) e e (Zac e e e ?_))))))))))))))))
  refine Zaa e e (Zaa e e (Zaa e e (Zaa e e (Zaa e e (jy (Zae e e) e e (Zac e e e (Zaa e e (Zaa e e (Zaa e e (Zaa e e (Zaa e e (jy (Zae e e) e e (Zac e e e (Zaa e e (Zaa e e (Zaa e e ?_))))))))))))))))
  refine Zaa e e (Zaa e e (jy (Zae e e) e e (Zac e e e (Zaa e e (Zaa e e (Zaa e e (Zaa e e (Zaa e e (jy (Zae e e) e e (Zaf e e e (gz1 0 e (ZaF (is:=[]) (s0 e) e (Zad (Zam (Zaj e (fun w hs=>.tmp e) (fun w hs=>⟨e,hs.drop⟩))))))))))))))))
 refine Zac e e e (jg_y (fun w hs=>ZbY n39.1 e (hs.row 0 e)) e e (jy (ZaL e e) e e (jy (Zah e e) e e (Zac e e e (Zaq 103 e ?_ ?_)))))
 rotate_left
 ·refine Zaa e e (Zaa e e (Zaa e e (jy (Zae e e) e e (Zac e e e (Zaa e e (Zaa e e (Zaa e e (Zaa e e (Zaa e e (jy (Zae e e) e e (Zac e e e (Zaa e e (Zaa e e (Zaa e e (Zaa e e (Zaa e e ?_))))))))))))))))
  refine jy (Zae e e) e e (Zac e e e (Zaa e e (Zaa e e (Zaa e e (Zaa e e (Zaa e e (jy (Zae e e) e e (Zac e e e (Zaa e e (Zaa e e (Zaa e e (Zaa e e (Zaa e e (jy (Zae e e) e e (Zac e e e (Zaa e e ?_))))))))))))))))
  refine Zaa e e (Zaa e e (Zaa e e (Zaa e e (jy (Zae e e) e e (Zaf e e e (gz1 0 e (ZaF (is:=[]) (s0 e) e (Zad (Zam (Zaj e (fun w hs=>.tmp e) (fun w hs=>⟨e,hs.drop⟩)))))))))))
 refine Zac e e e (jg_y (fun w hs=>ZaV e (hs.row 1 e)) e e (jy (ZaL e e) e e (jy (Zah e e) e e (Zac e e e (Zaq 108 e ?_ ?_)))))
 rotate_left
 ·refine Zaa e e (Zaa e e (Zaa e e (Zaa e e (Zaa e e (jy (Zae e e) e e (Zac e e e (Zaa e e (Zaa e e (Zaa e e (Zaa e e (Zaa e e (jy (Zae e e) e e (Zac e e e (Zaa e e (Zaa e e (Zaa e e ?_))))))))))))))))
  refine Zaa e e (Zaa e e (jy (Zae e e) e e (Zac e e e (Zaa e e (Zaa e e (Zaa e e (Zaa e e (Zaa e e (jy (Zae e e) e e (Zac e e e (Zaa e e (Zaa e e (Zaa e e (Zaa e e (Zaa e e (jy (Zae e e) e e ?_))))))))))))))))
  refine Zaf e e e (gz1 0 e (ZaF (is:=[]) (s0 e) e (Zad (Zam (Zaj e (fun w hs=>.tmp e) (fun w hs=>⟨e,hs.drop⟩))))))
 refine Zac e e e (Za6 fun x66 h67=>jg_y (fun w hs=>ZaC e e (hs.row 1 e) h67) e e (jg_y (fun w hs=>ZaS e (hs.row 1 e) h67.1) e e (jg_y (fun w hs=>ZaQ e (hs.row 1 e) h67.1 e) e e (jy (ZaL e e) e e (jy (Zah e e) e e (Zac e e e (Zaq 115 e ?_ ?_)))))))
 rotate_left
 ·refine Zaa e e (Zaa e e (Zaa e e (Zaa e e (Zaa e e (jy (Zae e e) e e (Zac e e e (Zaa e e (Zaa e e (Zaa e e (Zaa e e (Zaa e e (jy (Zae e e) e e (Zac e e e (Zaa e e (Zaa e e (Zaa e e ?_))))))))))))))))
  refine Zaa e e (Zaa e e (jy (Zae e e) e e (Zac e e e (Zaa e e (Zaa e e (Zaa e e (Zaa e e (Zaa e e (jy (Zae e e) e e (Zaf e e e (gz1 0 e (ZaF (is:=[]) (s0 e) e (Zad (Zam (Zaj e (fun w hs=>.tmp e) (fun w hs=>⟨e,hs.drop⟩))))))))))))))))
 refine Zac e e e (Za6 fun x68 h69=>jg_y (fun w hs=>ZaC e e (hs.row 1 e) h69) e e (jg_y (fun w hs=>ZaS e (hs.row 1 e) h69.1) e e (jg_y (fun w hs=>ZaQ e (hs.row 1 e) h69.1 e) e e (jy (ZaL e e) e e (jy (Zah e e) e e (Zac e e e (Zaq 122 e ?_ ?_)))))))
 rotate_left
 ·refine Zaa e e (Zaa e e (Zaa e e (Zaa e e (Zaa e e (jy (Zae e e) e e (Zac e e e (Zaa e e (Zaa e e (Zaa e e (Zaa e e (Zaa e e (jy (Zae e e) e e (Zac e e e (Zaa e e (Zaa e e (Zaa e e ?_))))))))))))))))
  refine Zaa e e (Zaa e e (jy (Zae e e) e e (Zaf e e e (gz1 0 e (ZaF (is:=[]) (s0 e) e (Zad (Zam (Zaj e (fun w hs=>.tmp e) (fun w hs=>⟨e,hs.drop⟩)))))))))
 refine Zac e e e (Za6 fun x70 h71=>jg_y (fun w hs=>ZaC e e (hs.row 1 e) h71) e e (jg_y (fun w hs=>ZaS e (hs.row 1 e) h71.1) e e (jg_y (fun w hs=>ZaQ e (hs.row 1 e) h71.1 e) e e (jy (ZaL e e) e e (jy (Zah e e) e e (Zac e e e (Zaq 129 e ?_ ?_)))))))
 rotate_left
 ·refine Zaa e e (Zaa e e (Zaa e e (Zaa e e (Zaa e e (jy (Zae e e) e e (Zac e e e (Zaa e e (Zaa e e (Zaa e e (Zaa e e (Zaa e e (jy (Zae e e) e e (Zaf e e e (gz1 0 e (ZaF (is:=[]) (s0 e) e (Zad ?_))))))))))))))))
  refine Zam (Zaj e (fun w hs=>.tmp e) (fun w hs=>⟨e,hs.drop⟩))
 refine Zac e e e (Za6 fun x72 h73=>jg_y (fun w hs=>ZaC e e (hs.row 1 e) h73) e e (jg_y (fun w hs=>ZbJ e (hs.row 1 e) h73.1 (l5 e) e) e e (jy (ZaX e (o5 e)) e e (jy (yeq141 e e) e e (jy (Zah e e) e e (Zac e e e (Zaq 136 e ?_ ?_)))))))
 rotate_left
 ·refine Zaa e e (Zaa e e (Zaa e e (Zaa e e (Zaa e e (jy (Zae e e) e e (Zaf e e e (gz1 0 e (ZaF (is:=[]) (s0 e) e (Zad (Zam (Zaj e (fun w hs=>.tmp e) (fun w hs=>⟨e,hs.drop⟩))))))))))))
 refine Zac e e e (ZcM (fun w hs=>n39.1) fun x74 d76 h75=>?_)
 have n77:okN noAr (((q2.2.2.2.2.2 ++ q6.2.2.2) ++ q11.2.2.2.2.2) ++ q35.2.2.2) (x74,d76):=n39.2 _ (List.mem_of_getElem? h75.1)
 refine jg_y (fun w hs=>ZaC e e (hs.row 0 e) h75) e e (jg_y (fun w hs=>ZaS e (hs.row 0 e) h75.1) e e (jg_y (fun w hs=>ZaQ e (hs.row 0 e) h75.1 e) e e (jy (ZaL e e) e e (jy (Zah e e) e e (Zaf e e e (gz1 0 e (ZaF (is:=[]) (s0 e) e (Zad (Zam (Zaj e (fun w hs=>.tmp e) (fun w hs=>⟨e,hs.drop⟩)))))))))))
end Go.Proofs.YtdgminllobhncaaGreat
namespace Go.Proofs.YtdgminllobhncaaGreat
open Go.Hy
set_option linter.unusedVariables false
set_option linter.unusedSimpArgs false
set_option maxHeartbeats 2000000
set_option maxRecDepth 100000
theorem Zfe {w:World}{a0:(List Int)}{a1:Scene}{ha0:Hd}{ha1A:Hd}{ha1B:Hd}{ha1C:Hd}{ha1D:Hd}{qa1D:List (Rolling×(Hd×Hd))}{v:Bool}(hm:ZcK a0 a1 = some v) (Rha0:Sl w ha0 encI a0) (Rha1_Elements:Sl w ha1A Element.enc a1.Elements) (Rha1_Start:Sl w ha1B Throw.enc a1.Start) (Rha1_Commands:Sl w ha1C Command.enc a1.Commands) (eha1_Cuts:qa1D.map (·.1) = a1.Cuts) (Rha1_Cuts:Sl w ha1D Nt.enc qa1D) (Dha1_Cuts:∀ p∈qa1D,rdN w p):Gives Tryz.prog 4 [ha0.v,.agg #[ha1A.v,.int .i64 a1.Throw,ha1B.v,ha1C.v,ha1D.v]] w (.bool v):=by
 refine Za4 (vs:=[ha0.v,.agg #[ha1A.v,.int .i64 a1.Throw,ha1B.v,ha1C.v,ha1D.v]]) (U:=fun (v:Bool)=>.bool v) Tryz.func4 e Tryz.ntmps4 e e hm ?_
 unfold ZcK
 clear hm
 refine jqr 0 (ZbD e (l5 e) e e fun g1=>Zaf e e e (gz2 0 3 e (jsr 1 (Zac e e e (jg_c e (fun v w hs hm=>Zkf hm (hs.arg Rha0)) e e fun v2 q3=>jg_L (r2 e) (Zaf e e e (gz2 3 5 e (jsr 2 (Zac e e e (jl_c 0 e e (fun v w hs hm=>Zgl hm (hs.blkL (i:=0) e) (hs.arg Rha0) (hs.offAL 0 Rha0 e)) (fun _=>e) e e fun v4 q5=>jg_L (r9 e) (Zhm (i:=6) e fun n6=>?_)))))))))))
 have n7:NF noAr q5.2.2.2.2.2.2.2.2 q5.2.2.2.2.1 v4.1.Scene.Cuts:=n6.1
 have n8:NF noAr q5.2.2.2.2.2.2.2.2 q5.2.2.2.2.2.2.1 v4.1.Spans:=n6.2
 refine ZaR (l8 e) e e fun g9=>Zav 0 e e e (l8 e) e e e e (l8 e) (r10 e) (gz3 3 5 6 e (Zad (Za2 (fun (s:Unit) (g:Unit)=>[(3,.pointer (some ⟨g1,0,none⟩))]) (fun s g=>[]) (fun s g=>[(Res.blk g1 56 [ha1A.v,.int .i64 a1.Throw,ha1B.v,ha1C.v,ha1D.v])]) ?_ ?_)))
 ·intro z10 q11
  refine Zak (jqr 5 (jy (Zab e) e e (jgl 0 e e e e e (jg_y (fun w hs=>ZaV e (hs.arg Rha1_Elements)) e e (jy (Zbh e e) e e (Zac e e e (Zaq 35 e ?_ ?_)))))))
  ·refine Zaa e e (Zaa e e (Zaa e e (Zaa e e (jy (Zah e e) e e (Zac e e e (Zaa e e (Zaa e e (Zaa e e (Zaa e e (jy (Zah e e) e e (gz2 3 46 e (Zad (Zbo e (jqr 6 (Zbc e (fun v w hs hm=>Zdr hm ) e e fun v14=>Zaf e e e ?_)))))))))))))))
   refine gz1 4 e (Zad (Zam (Zaw (Zaj e (fun w hs=>.tmp e) (fun w hs=>⟨e,hs.drop⟩)))))
  refine jy (Zab e) e e (jgl 0 e e e e e (jg_y (fun w hs=>ZaV e (hs.arg Rha1_Commands)) e e (jy (Zbh e e) e e (jy (Zae e e) e e (Zac e e e (Zaq 41 e ?_ ?_))))))
  ·refine Zaa e e (Zaa e e (Zaa e e (Zaa e e (jy (Zah e e) e e (gz2 3 46 e (Zad (Zbo e (jqr 6 (Zbc e (fun v w hs hm=>Zdr hm ) e e fun v15=>Zaf e e e (gz1 4 e (Zad (Zam (Zaw (Zaj e (fun w hs=>.tmp e) (fun w hs=>⟨e,hs.drop⟩)))))))))))))))
  refine jy (Zab e) e e (jgl 0 e e e e e (jg_y (fun w hs=>ZbY eha1_Cuts e (hs.arg Rha1_Cuts)) e e (jy (Zbh e e) e e (jy (Zae e e) e e (gz2 3 46 e (Zad (Zai e ?_ ?_)))))))
  ·refine jqr 6 (Zbc e (fun v w hs hm=>Zdr hm ) e e fun v16=>Zaf e e e (gz1 4 e (Zad (Zam (Zaw (Zaj e (fun w hs=>.tmp e) (fun w hs=>⟨e,hs.drop⟩)))))))
  refine jks (jqr 7 (jg_y (fun w hs=>ZaJ e (ldBB (hs.blkL (i:=0) e) e)) e e (Zbc e (fun v w hs hm=>ZbE (a0:=a1) hm (hs.arg Rha1_Elements) (hs.arg Rha1_Start) (hs.arg Rha1_Commands) eha1_Cuts (hs.arg Rha1_Cuts) (hs.argN Dha1_Cuts)) e e fun v17=>Zac e e e (Zaq 50 e ?_ ?_))))
  ·refine Zbc e (fun v w hs hm=>Zdr hm ) e e fun v18=>jy (Zah e e) e e (Zaf e e e (gz1 4 e (Zad (Zam (Zaj e (fun w hs=>.tmp e) (fun w hs=>⟨e,hs.drop⟩))))))
  refine Zaa e e (jy (Zae e e) e e (Zaf e e e (gz1 4 e (Zad (Zam (Zaj e (fun w hs=>.tmp e) (fun w hs=>⟨e,hs.drop⟩)))))))
 intro k12 H13
 refine jqr 3 (jy (Zab e) e e (jg_y (fun w hs=>ZaJ e (ldPB (hs.blkL (i:=0) e) (l5 e) e)) e e (Zbc e (fun v w hs hm=>ZbE (a0:=v4.1.Scene) hm (hs.row 1 e) (hs.row 2 e) (hs.row 3 e) n7.1 (hs.row 4 e) (hs.nD 7 e n7.2 Zbw)) e e fun v19=>jy (Zbl e) e e (Zac e e e (Zaq 15 e ?_ ?_)))))
 ·refine Zaa e e (Zaa e e (Zaa e e (Zaa e e (Zaa e e (Zaa e e (jy (Zah e e) e e (Zac e e e (Zaa e e (Zaa e e (Zaa e e (Zaa e e (Zaa e e (Zaa e e (jy (Zah e e) e e (gz2 3 30 e (ZaF (is:=[9]) (s1 e) e ?_))))))))))))))))
  refine Zad (Zbo e (jqr 4 (Zaf e e e (gz1 4 e (Zad (Zam (Zaw (Zaj e (fun w hs=>.tmp e) (fun w hs=>⟨e,hs.drop⟩)))))))))
 refine Zac e e e (jy (Zab e) e e (jg_y (fun w hs=>ZaJ e (ldPB (hs.blkL (i:=0) e) (l5 e) e)) e e (jl_c 8 e e (fun v w hs hm=>Zdt (a1:=v4.1.Scene) hm (hs.blkL (i:=8) e) (hs.arg Rha0) (hs.offAL 8 Rha0 e) (hs.row 1 e) (hs.offLL 1 8 e e) (hs.row 2 e) (hs.offLL 2 8 e e) (hs.row 3 e) (hs.offLL 3 8 e e) n7.1 (hs.row 4 e) (hs.nD 7 e n7.2 Zbw) (hs.offLL 4 8 e e) (hs.offNN 7 8 e e n7.2)) (fun _=>e) e e fun v20 q21=>jg_L (r13 e) (Zhm (i:=2) e fun n22=>Zek (i:=10) (j:=2) (is:=[0,1,3,4,5,6,7,8,9,10,11,12]) True e e e (fun _ _=>trivial) (s12 e) e e ?_))))
 have n23:NF noAr (q5.2.2.2.2.2.2.2.2 ++ q21.2.2.2) q5.2.2.2.2.1 v4.1.Scene.Cuts:=n7.mono mnl
 have n24:NF noAr (q5.2.2.2.2.2.2.2.2 ++ q21.2.2.2) q5.2.2.2.2.2.2.1 v4.1.Spans:=n8.mono mnl
 have n25:NF noAr (q5.2.2.2.2.2.2.2.2 ++ q21.2.2.2) q21.2.2.1 v20.1.Cuts:=n22.from n23.2 mnr (fun _ h=>h)
 refine Zbc e (fun v w hs hm=>ZbE (a0:=(Scene.mk v4.1.Scene.Elements v20.1.Throw v4.1.Scene.Start v20.1.Commands v20.1.Cuts)) hm (hs.row 3 e) (hs.row 4 e) (hs.row 0 e) n25.1 (hs.row 1 e) (hs.nD 9 e n25.2 Zbw)) e e fun v26=>jy (Zbl e) e e (jy (Zae e e) e e (Zac e e e (Zaq 23 e ?_ ?_)))
 ·refine Zaa e e (Zaa e e (Zaa e e (Zaa e e (Zaa e e (Zaa e e (jy (Zah e e) e e (gz2 3 30 e (ZaF (is:=[11]) (s1 e) e (Zad (Zbo e (jqr 4 (Zaf e e e (gz1 4 e (Zad (Zam (Zaw ?_))))))))))))))))
  exact Zaj e (fun w hs=>.tmp e) (fun w hs=>⟨e,hs.drop⟩)
 refine Zac e e e (jy (Zab e) e e (jg_y (fun w hs=>ZaJ e (ldPB (hs.blkL (i:=2) e) (l5 e) e)) e e (Zf8 e Tryz.func16 e Tryz.ntmps16 e e e e (jqr 0 (ZbD e (l5 e) e e fun g27=>ZaR (l5 e) e e fun g28=>gz3 0 3 4 e (ZaF (is:=[0,1,5,6,7,8,11,12,13]) (s9 e) e (jsr 1 (Zac e e e (jg_y (fun w hs=>ZaJ e (ldBB (hs.blkL (i:=1) e) e)) e e (jl_c 7 e e (fun v w hs hm=>Zdt (a1:=v4.1.Scene) hm (hs.blkL (i:=7) e) (hs.arg Rha0) (hs.offAL 7 Rha0 e) (hs.row 2 e) (hs.offLL 2 7 e e) (hs.row 3 e) (hs.offLL 3 7 e e) (hs.row 4 e) (hs.offLL 4 7 e e) n23.1 (hs.row 5 e) (hs.nD 6 e n23.2 Zbw) (hs.offLL 5 7 e e) (hs.offNN 6 7 e e n23.2)) (fun _=>e) e e fun v29 q30=>jg_L (r12 e) (Zhm (i:=2) e fun n31=>Zek (i:=9) (j:=2) (is:=[0,1,3,4,5,6,7,8,9,10,11]) True e e e (fun _ _=>trivial) (s11 e) e e ?_)))))))))))
 have n32:NF noAr ((q5.2.2.2.2.2.2.2.2 ++ q21.2.2.2) ++ q30.2.2.2) q5.2.2.2.2.1 v4.1.Scene.Cuts:=n23.mono mnl
 have n33:NF noAr ((q5.2.2.2.2.2.2.2.2 ++ q21.2.2.2) ++ q30.2.2.2) q30.2.2.1 v29.1.Cuts:=n31.from n32.2 mnr (fun _ h=>h)
 refine Zav 3 e e e (l5 e) e e e e (l5 e) (r11 e) (gz3 0 3 4 e (ZaF (is:=[0,1,2,3,4,5,8,9,10]) (s9 e) e (Zad (Zak (jqr 2 (Zac e e e (jl_c 7 e e (fun v w hs hm=>ZaP hm (hs.blkL (i:=7) e) (hs.arg Rha0) (hs.offAL 7 Rha0 e)) (fun _=>e) e e fun v34 q35=>jg_L (r9 e) (gz4 0 3 4 10 e (Zad (Zao (jqr 3 (jy (ZaL e e) e e (Zaf e e e (gz5 0 3 4 10 11 e (Zad ?_)))))))))))))))
 refine Zai e ?_ ?_
 ·refine Zar 4 (Zac e e e (ZaT (enc:=encI) [(-1),1000000001] e e e e e e e e fun hd36=>jl_c 8 e e (fun v w hs hm=>ZaB hm (hs.blkL (i:=8) e) (hs.arg Rha0) (hs.offAL 8 Rha0 e) (hs.row 0 e) (hs.offLL 0 8 e e)) (fun _=>e) e e fun v37 q38=>jg_L (r10 e) (jy (Zab e) e e (Zav 4 e e e (l1 e) e e e e (l5 e) (r10 e) (gz2 3 4 e (ZaF (is:=[1,2,3,4,5,6,7,9]) (s8 e) e (ZaG (Zad ?_))))))))
  refine jqr 15 (jg_y (fun w hs=>ZaJ e (ldBB (hs.blkL (i:=3) e) e)) e e (Zav 2 e e e (l5 e) e e e e (l5 e) (r8 e) (gz1 4 e (Zad (Zam (ZcL e (fun w hs=>.cell e (ldBB (hs.blkL (i:=2) e) e)) (Zbc e (fun v w hs hm=>ZbE (a0:=(Scene.mk v4.1.Scene.Elements v37.1 v4.1.Scene.Start v29.1.Commands v29.1.Cuts)) hm (hs.row 4 e) (hs.row 5 e) (hs.row 0 e) n33.1 (hs.row 1 e) (hs.nD 6 e n33.2 Zbw)) e e fun v39=>jy (Zbl e) e e (jy (Zae e e) e e (gz2 3 30 e (ZaF (is:=[7]) (s1 e) e (Zad (Zai e ?_ ?_))))))))))))
  rotate_left
  ·refine ZaK (Zap H13 () () [0] (u1 e) e e e)
  refine jqr 4 (Zaf e e e (gz1 4 e (Zad (Zam (Zaw (Zaj e (fun w hs=>.tmp e) (fun w hs=>⟨e,hs.drop⟩)))))))
 refine jqr 5 (jy (ZaL e e) e e (Zaf e e e (gz5 0 3 4 10 17 e (Zad (Zai e ?_ ?_)))))
 ·refine Zar 6 (Zac e e e (jy (Zab e) e e (jgl 3 e e e e e (jl_c 7 e e (fun v w hs hm=>ZdQ hm (hs.blkL (i:=7) e) (hs.arg Rha0) (hs.offAL 7 Rha0 e) (hs.row 4 e) (hs.offLL 4 7 e e)) (fun _=>e) e e fun v40 q41=>jg_L (r10 e) (jy (Zab e) e e (Zav 4 e e e (l1 e) e e e e (l5 e) (r10 e) (gz2 3 4 e (ZaF (is:=[0,1,2,3,4,6,7,9]) (s8 e) e (ZaG (Zad ?_))))))))))
  refine jqr 15 (jg_y (fun w hs=>ZaJ e (ldBB (hs.blkL (i:=4) e) e)) e e (Zav 3 e e e (l5 e) e e e e (l5 e) (r8 e) (gz1 4 e (Zad (Zam (ZcL e (fun w hs=>.cell e (ldBB (hs.blkL (i:=3) e) e)) (Zbc e (fun v w hs hm=>ZbE (a0:=(Scene.mk v40.1 v29.1.Throw v4.1.Scene.Start v29.1.Commands v29.1.Cuts)) hm (hs.row 0 e) (hs.row 5 e) (hs.row 1 e) n33.1 (hs.row 2 e) (hs.nD 6 e n33.2 Zbw)) e e fun v42=>jy (Zbl e) e e (jy (Zae e e) e e (gz2 3 30 e (ZaF (is:=[7]) (s1 e) e (Zad (Zai e ?_ ?_))))))))))))
  rotate_left
  ·refine ZaK (Zap H13 () () [0] (u1 e) e e e)
  refine jqr 4 (Zaf e e e (gz1 4 e (Zad (Zam (Zaw (Zaj e (fun w hs=>.tmp e) (fun w hs=>⟨e,hs.drop⟩)))))))
 refine jqr 7 (jy (ZaL e e) e e (Zaf e e e (gz5 0 3 4 10 24 e (Zad (Zai e ?_ ?_)))))
 ·refine jdr (L':=[_,_,_,_,_,_,_]) 8 [0,1,2,3,4,6,8] [0,1,2,3,4,5,7,6,8,9,10,11,12] 8191 16383 [0,1,0,0,8,16,36,0,192,320,512,1282,4095,8191] [0,1,0,0,8,24,60,0,252,508,1020,2047,4095,8191] [(0,true),(1,true),(2,true),(3,true),(4,true),(5,true),(7,true),(6,false),(8,false),(9,true),(10,false),(11,false),(12,true),(13,false)] e (Zay (Zas Zbb)) (jdy e (Zab e) e e (jdl 3 e e e e e e (Zau e e e e (jdy e (Zab e) e e (jdl 3 e e e e e e (ZdP e (fun w hs=>ZaV e (hs.row 4 e)) e e fun x43=>Zau e e e e (jd_h e (jl_c 7 e e (fun v w hs hm=>ZaP hm (hs.blkL (i:=7) e) (hs.arg Rha0) (hs.offAL 7 Rha0 e)) (fun _=>e) e e fun v44 q45=>jg_L (r9 e) (ZaA (Zbs [0,1,2,3,4,6,8] e (jd_h e (jl_c 7 e e (fun v w hs hm=>ZaP hm (hs.blkL (i:=7) e) (hs.arg Rha0) (hs.offAL 7 Rha0 e)) (fun _=>e) e e fun v46 q47=>jg_L (r9 e) (ZaA ?_)))))))))))))
  refine Zbs [0,1,2,3,4,6,8] e (jdy e (ZaX e (o2 e)) e e (jd_h e (ZaT (enc:=Throw.enc) [(Throw.mk v44.1 v46.1)] e e e e e e e e fun hd48=>ZaA (Zbs [1,2,3,4,5,7,9] e (jd_h e (ZaO 6 e e e (fun w hs=>(hs.row 0 e)) e e e fun y49 hd50=>jg_L (r10 e) (ZaA (Zbs [1,2,3,4,5,7,9] e (jdy e (Zab e) e e (jd_h e (Zav 4 e e e (l1 e) e e e e (l5 e) (r10 e) (ZaA (ZbG e (Zbf [(3,_),(4,_)] ⟨e,e,trivial⟩ ?_))))))))))))))
  refine ZaF (is:=[1,2,3,4,5,6,7,9]) (s8 e) e (ZaG (Zad ?_))
  refine jqr 15 (jg_y (fun w hs=>ZaJ e (ldBB (hs.blkL (i:=3) e) e)) e e (Zav 2 e e e (l5 e) e e e e (l5 e) (r8 e) (gz1 4 e (Zad (Zam (ZcL e (fun w hs=>.cell e (ldBB (hs.blkL (i:=2) e) e)) (Zbc e (fun v w hs hm=>ZbE (a0:=(Scene.mk v4.1.Scene.Elements v29.1.Throw y49 v29.1.Commands v29.1.Cuts)) hm (hs.row 4 e) (hs.row 5 e) (hs.row 0 e) n33.1 (hs.row 1 e) (hs.nD 6 e n33.2 Zbw)) e e fun v51=>jy (Zbl e) e e (jy (Zae e e) e e (gz2 3 30 e (ZaF (is:=[7]) (s1 e) e (Zad (Zai e ?_ ?_))))))))))))
  rotate_left
  ·refine ZaK (Zap H13 () () [0] (u1 e) e e e)
  refine jqr 4 (Zaf e e e (gz1 4 e (Zad (Zam (Zaw (Zaj e (fun w hs=>.tmp e) (fun w hs=>⟨e,hs.drop⟩)))))))
 refine jqr 9 (jy (ZaL e e) e e (Zaf e e e (gz5 0 3 4 10 39 e (Zad (Zai e ?_ ?_)))))
 ·refine jdr (L':=[_,_,_,_,_,_,_]) 10 [1,2,3,4,5,6,8] [0,1,2,5,6,7,8,10,12,13,14,15,16,3,4,9,11,17,18,19,20,21] 4194303 8388607 [0,1,0,0,12,0,0,64,128,304,0,1536,0,0,8192,16384,32768,71680,133648,262144,655362,2097151,4194303] [0,1,0,0,12,0,0,64,192,508,0,2044,0,0,8192,24576,57344,131068,262140,524284,1048575,2097151,4194303] [(0,true),(1,true),(2,true),(5,true),(6,true),(7,true),(8,true),(10,true),(12,true),(13,true),(14,true),(15,true),(16,true),(3,false),(4,false),(9,false),(11,false),(17,false),(18,true),(19,false),(20,false),(21,true),(22,false)] e (Zay (Zas Zbb)) (jdy e (Zab e) e e (jdl 2 e e e e e e (Zau e e e e (Zau e e e e (jdy e (Zab e) e e (jdl 2 e e e e e e (ZdP e (fun w hs=>ZaV e (hs.row 3 e)) e e fun x52=>Zau e e e e (Zau e e e e (jdy e (Zab e) e e (jdl 2 e e e e e e (jd_y e (fun w hs=>ZbY n33.1 e (hs.row 0 e)) e e (ZdP e (fun w hs=>Zal e e) e e fun x53=>jd_h e (ZaT (enc:=encI) [(-1),0] e e e e e e e e fun hd54=>ZaA ?_)))))))))))))
  refine Zbs [2,3,4,5,6,7,9] e (jd_h e (jl_c 8 e e (fun v w hs hm=>ZaB hm (hs.blkL (i:=8) e) (hs.arg Rha0) (hs.offAL 8 Rha0 e) (hs.row 0 e) (hs.offLL 0 8 e e)) (fun _=>e) e e fun v55 q56=>jg_L (r10 e) (ZaA (Zbs [2,3,4,5,6,7,9] e (jd_h e (jl_c 8 e e (fun v w hs hm=>ZaP hm (hs.blkL (i:=8) e) (hs.arg Rha0) (hs.offAL 8 Rha0 e)) (fun _=>e) e e fun v57 q58=>jg_L (r10 e) (ZaA (Zbs [2,3,4,5,6,7,9] e (jd_h e (jl_c 8 e e (fun v w hs hm=>ZaP hm (hs.blkL (i:=8) e) (hs.arg Rha0) (hs.offAL 8 Rha0 e)) (fun _=>e) e e fun v59 q60=>jg_L (r10 e) (ZaA (Zbs [2,3,4,5,6,7,9] e (jd_h e ?_)))))))))))))
  refine jl_c 8 e e (fun v w hs hm=>ZaP hm (hs.blkL (i:=8) e) (hs.arg Rha0) (hs.offAL 8 Rha0 e)) (fun _=>e) e e fun v61 q62=>jg_L (r10 e) (ZaA (Zbs [2,3,4,5,6,7,9] e (jdy e (ZaX e (o4 e)) e e (jd_h e (ZaT (enc:=Command.enc) [(Command.mk v55.1 v57.1 v59.1 v61.1)] e e e e e e e e fun hd63=>ZaA (Zbs [3,4,5,6,7,8,10] e (jd_h e (ZaO 2 e e e (fun w hs=>(hs.row 0 e)) e e e fun y64 hd65=>jg_L (r11 e) (ZaA (Zbs [3,4,5,6,7,8,10] e (jdy e (Zab e) e e (jd_h e (Zav 5 e e e (l1 e) e e e e (l5 e) (r11 e) ?_)))))))))))))
  refine ZaA (ZbG e (Zbf [(3,_),(4,_)] ⟨e,e,trivial⟩ (ZaF (is:=[2,3,4,5,6,7,8,10]) (s8 e) e (ZaG (Zad ?_)))))
  refine jqr 15 (jg_y (fun w hs=>ZaJ e (ldBB (hs.blkL (i:=3) e) e)) e e (Zav 2 e e e (l5 e) e e e e (l5 e) (r8 e) (gz1 4 e (Zad (Zam (ZcL e (fun w hs=>.cell e (ldBB (hs.blkL (i:=2) e) e)) (Zbc e (fun v w hs hm=>ZbE (a0:=(Scene.mk v4.1.Scene.Elements v29.1.Throw v4.1.Scene.Start y64 v29.1.Cuts)) hm (hs.row 4 e) (hs.row 5 e) (hs.row 0 e) n33.1 (hs.row 1 e) (hs.nD 6 e n33.2 Zbw)) e e fun v66=>jy (Zbl e) e e (jy (Zae e e) e e (gz2 3 30 e (ZaF (is:=[7]) (s1 e) e (Zad (Zai e ?_ ?_))))))))))))
  rotate_left
  ·refine ZaK (Zap H13 () () [0] (u1 e) e e e)
  refine jqr 4 (Zaf e e e (gz1 4 e (Zad (Zam (Zaw (Zaj e (fun w hs=>.tmp e) (fun w hs=>⟨e,hs.drop⟩)))))))
 refine jqr 11 (jy (ZaL e e) e e (Zaf e e e (gz4 0 3 4 63 e (Zad (Zai e ?_ ?_)))))
 rotate_left
 ·refine ZaK (ZaG (Zad ?_))
  refine jqr 15 (jg_y (fun w hs=>ZaJ e (ldBB (hs.blkL (i:=3) e) e)) e e (Zav 2 e e e (l5 e) e e e e (l5 e) (r9 e) (gz1 4 e (ZaF (is:=[0,1,2,4,5,6,8]) (s7 e) e (Zad (Zam (ZcL e (fun w hs=>.cell e (ldBB (hs.blkL (i:=2) e) e)) (Zbc e (fun v w hs hm=>ZbE (a0:=(Scene.mk v4.1.Scene.Elements v29.1.Throw v4.1.Scene.Start v29.1.Commands v29.1.Cuts)) hm (hs.row 3 e) (hs.row 4 e) (hs.row 0 e) n33.1 (hs.row 1 e) (hs.nD 5 e n33.2 Zbw)) e e fun v595=>jy (Zbl e) e e (jy (Zae e e) e e (gz2 3 30 e (ZaF (is:=[6]) (s1 e) e (Zad (Zai e ?_ ?_)))))))))))))
  rotate_left
  ·refine ZaK (Zap H13 () () [0] (u1 e) e e e)
  refine jqr 4 (Zaf e e e (gz1 4 e (Zad (Zam (Zaw (Zaj e (fun w hs=>.tmp e) (fun w hs=>⟨e,hs.drop⟩)))))))
 refine jqr 12 (jy (Zab e) e e (jgl 3 e e e e e (jg_y (fun w hs=>ZbY n33.1 e (hs.row 1 e)) e e (jy (Zbh e e) e e (gz4 0 3 4 68 e (Zad (Zai e ?_ ?_)))))))
 rotate_left
 ·refine ZaK (ZaG (Zad ?_))
  refine jqr 15 (jg_y (fun w hs=>ZaJ e (ldBB (hs.blkL (i:=3) e) e)) e e (Zav 2 e e e (l5 e) e e e e (l5 e) (r9 e) (gz1 4 e (ZaF (is:=[0,1,2,4,5,6,8]) (s7 e) e (Zad (Zam (ZcL e (fun w hs=>.cell e (ldBB (hs.blkL (i:=2) e) e)) (Zbc e (fun v w hs hm=>ZbE (a0:=(Scene.mk v4.1.Scene.Elements v29.1.Throw v4.1.Scene.Start v29.1.Commands v29.1.Cuts)) hm (hs.row 3 e) (hs.row 4 e) (hs.row 0 e) n33.1 (hs.row 1 e) (hs.nD 5 e n33.2 Zbw)) e e fun v594=>jy (Zbl e) e e (jy (Zae e e) e e (gz2 3 30 e (ZaF (is:=[6]) (s1 e) e (Zad (Zai e ?_ ?_)))))))))))))
  rotate_left
  ·refine ZaK (Zap H13 () () [0] (u1 e) e e e)
  refine jqr 4 (Zaf e e e (gz1 4 e (Zad (Zam (Zaw (Zaj e (fun w hs=>.tmp e) (fun w hs=>⟨e,hs.drop⟩)))))))
 refine Zak (jdr (L':=[_,_,_,_,_,_,_,_]) 13 [0,1,2,3,4,5,6,8] [0,1,2,3,4,5,6,7,8] 511 511 [0,1,0,0,8,16,36,66,255] [0,1,0,0,8,24,60,127,255] [(0,true),(1,true),(2,true),(3,true),(4,true),(5,true),(6,false),(7,true),(8,true)] e (Zas (Zay (Zas Zbb))) (jdy e (Zab e) e e (jdl 3 e e e e e e (Zau e e e e (jdy e (Zab e) e e (jdl 3 e e e e e e (jd_y e (fun w hs=>ZbY n33.1 e (hs.row 1 e)) e e (jd_h e (jl_c 7 e e (fun v w hs hm=>ZaP hm (hs.blkL (i:=7) e) (hs.arg Rha0) (hs.offAL 7 Rha0 e)) (fun _=>e) e e fun v67 q68=>jg_L (r9 e) (ZaA (Zbs [0,1,2,3,4,5,6,8] e (ZcE (fun w hs=>n33.1) fun x69 d71 h70=>?_))))))))))))
 have n72:okN noAr ((q5.2.2.2.2.2.2.2.2 ++ q21.2.2.2) ++ q30.2.2.2) (x69,d71):=n33.2 _ (List.mem_of_getElem? h70.1)
 refine jd_y e (fun w hs=>ZaC e e (hs.row 1 e) h70) e e (Zbz e e e e (ZaU [(0,_),(3,_),(4,_),(5,_)] ⟨e,e,e,e,trivial⟩ (Zad (Zhk 14 [0,1,2,3,4,5,6,7,8,9,10,11,12,13,14,15,16,17,18,19,20,21,22,23,24,25] 67108863 24591 20 [0,0,0,0,8,16,32,0,128,256,512,1088,2564,0,0,16384,32768,65536,131072,274432,663549,1712125,2760701,8388607,16777215,25165823] [0,0,0,0,8,24,56,0,128,384,896,2040,4092,0,0,16384,49152,114688,245760,524284,1048573,2097149,4194301,8388607,16777215,33554431] [(0,true),(1,true),(2,true),(3,true),(13,true),(14,true)] (Zay (Zas Zbb)) (by kernel_rfl) (by kernel_rfl) (by kernel_rfl) (by kernel_rfl) (by kernel_rfl) (by kernel_rfl) (by kernel_rfl) (by kernel_rfl) (Zf6 e e e (Zf6 e e e (Zf6 e e e (Zf6 e e e (Zf6 e e e (Zf6 e e e (jd_x (jx_to (L':=[_,_,_,_,_,_,_,_]) [4,5,6,7,8,9,10,11,12,15,16,17,18,19,20,21] [22,25] [0,1,2,3,4,5,6,8] e (ZdT [0,1,2,3,4,5,6,8] 4169712 255999 10 [0,0,0,0,8,24,56,0,128,384,896,2040,4092,0,0,16384,49152,114688,245760,524284,1048573,2097149,4194301,8388607,16777215,33554431] [(4,true),(5,true),(6,true),(7,true),(8,true),(9,true),(10,true),(15,true),(16,true),(17,true)] e (Zay (Zas Zbb)) (by kernel_rfl) (by kernel_rfl) (by kernel_rfl) (by kernel_rfl) (by kernel_rfl) (by kernel_rfl) (by kernel_rfl) (by kernel_rfl) (by kernel_rfl) (jd_y e (fun w hs=>Zbn e (hs.row 1 e) h70.1) e e (jd_y e (fun w hs=>ZaS e (hs.row 1 e) h70.1) e e (jd_y e (fun w hs=>ZaQ e (hs.row 1 e) h70.1 e) e e ?_))))))))))))))))
 refine jdy e (Zab e) e e (jdl 3 e e e e e e (Zcc e e (fun v w hs hm=>Zcf hm (hs.row 4 e)) e e fun v253=>jdy e (Zal e e) e e (jd_y e (fun w hs=>Zbn e (hs.row 1 e) h70.1) e e (jd_y e (fun w hs=>ZaS e (hs.row 1 e) h70.1) e e (jd_y e (fun w hs=>ZaQ e (hs.row 1 e) h70.1 e) e e (jd_x (jx2 (i:=11) (i2:=18) (by kernel_rfl) (by kernel_rfl) e e ?_ ?_)))))))
 ·refine ZaT (enc:=encI) [0,x69.Length,w64 (v253 + 1)] e e e e e e e e fun hd293=>ZaA (Zcr [1,2,3,4,5,6,7,9] e (jx2 (i:=12) (i2:=18) (by kernel_rfl) (by kernel_rfl) e e ?_ ?_))
  ·refine jl_c 8 e e (fun v w hs hm=>ZaB hm (hs.blkL (i:=8) e) (hs.arg Rha0) (hs.offAL 8 Rha0 e) (hs.row 0 e) (hs.offLL 0 8 e e)) (fun _=>e) e e fun v313 q314=>jg_L (r10 e) (ZaA (Zcr [1,2,3,4,5,6,7,9] e (jx1 (i:=18) (by kernel_rfl) (by kernel_rfl) e (ZaT (enc:=encI) [(-1),0,x69.Release] e e e e e e e e fun hd433=>ZaA (Zcr [2,3,4,5,6,7,8,10] e (jx1 (i:=19) (by kernel_rfl) (by kernel_rfl) e (jl_c 9 e e (fun v w hs hm=>ZaB hm (hs.blkL (i:=9) e) (hs.arg Rha0) (hs.offAL 9 Rha0 e) (hs.row 0 e) (hs.offLL 0 9 e e)) (fun _=>e) e e fun v453 q454=>jg_L (r11 e) (ZaA (Zcr [2,3,4,5,6,7,8,10] e (ZdT [2,3,4,5,6,7,8,10] 4169712 4194303 4 [0,0,0,0,8,24,56,0,128,384,896,2040,4092,0,0,16384,49152,114688,245760,524284,1048573,2097149,4194301,8388607,16777215,33554431] [(20,true),(21,true)] e (Zay (Zas Zbb)) (by kernel_rfl) (by kernel_rfl) (by kernel_rfl) (by kernel_rfl) (by kernel_rfl) (by kernel_rfl) (by kernel_rfl) (by kernel_rfl) (by kernel_rfl) (jd_y e (fun w hs=>Zbn e (hs.row 1 e) h70.1) e e (jd_y e (fun w hs=>ZaS e (hs.row 1 e) h70.1) e e (jd_x ?_)))))))))))))
   refine jx1 (i:=22) (by kernel_rfl) (by kernel_rfl) e (Zc7 3 (a':=(Rolling.mk x69.Release v313.1 x69.Track x69.Speed x69.Resist x69.Targets)) e e h70.1 e (l1 e) e e e e fun y513 H514=>jg_L (r11 e) ?_)
   have n515:NF noAr ((q5.2.2.2.2.2.2.2.2 ++ q21.2.2.2) ++ q30.2.2.2) (q30.2.2.1.set (Int.toNat v67.1) ((Rolling.mk x69.Release v313.1 x69.Track x69.Speed x69.Resist x69.Targets),(d71.1,d71.2))) y513:=n33.setp h70.1 e H514
   refine ZaA (Zcs (by kernel_rfl) (jx1 (i:=23) (by kernel_rfl) (by kernel_rfl) e (ZcM (fun w hs=>n515.1) fun x533 d535 h534=>?_)))
   have n536:okN noAr ((q5.2.2.2.2.2.2.2.2 ++ q21.2.2.2) ++ q30.2.2.2) (x533,d535):=n515.2 _ (List.mem_of_getElem? h534.1)
   refine jg_y (fun w hs=>Zbn e (hs.row 3 e) h534.1) e e (ZaA (Zcs (by kernel_rfl) (jx1 (i:=24) (by kernel_rfl) (by kernel_rfl) e (jg_y (fun w hs=>ZaS e (hs.row 3 e) h534.1) e e (ZaA (Zcs (by kernel_rfl) (jx1 (i:=25) (by kernel_rfl) (by kernel_rfl) e (Zc7 3 (a':=(Rolling.mk v453.1 x533.Length x533.Track x533.Speed x533.Resist x533.Targets)) e e h534.1 e (l1 e) e e e e fun y573 H574=>jg_L (r11 e) ?_))))))))
   have n575:NF noAr ((q5.2.2.2.2.2.2.2.2 ++ q21.2.2.2) ++ q30.2.2.2) ((q30.2.2.1.set (Int.toNat v67.1) ((Rolling.mk x69.Release v313.1 x69.Track x69.Speed x69.Resist x69.Targets),(d71.1,d71.2))).set (Int.toNat v67.1) ((Rolling.mk v453.1 x533.Length x533.Track x533.Speed x533.Resist x533.Targets),(d535.1,d535.2))) y573:=n515.setp h534.1 e H574
   refine ZaA (Zcs (by kernel_rfl) (jx0 [(3,_),(4,_)] ⟨e,e,trivial⟩ (by kernel_rfl) (by kernel_rfl) (ZaF (is:=[2,3,4,5,6,7,8,10]) (s8 e) e (ZaG (Zad ?_)))))
   refine jqr 15 (jg_y (fun w hs=>ZaJ e (ldBB (hs.blkL (i:=3) e) e)) e e (Zav 2 e e e (l5 e) e e e e (l5 e) (r8 e) (gz1 4 e (Zad (Zam (ZcL e (fun w hs=>.cell e (ldBB (hs.blkL (i:=2) e) e)) (Zbc e (fun v w hs hm=>ZbE (a0:=(Scene.mk v4.1.Scene.Elements v29.1.Throw v4.1.Scene.Start v29.1.Commands y573)) hm (hs.row 4 e) (hs.row 5 e) (hs.row 0 e) n575.1 (hs.row 1 e) (hs.nD 6 e n575.2 Zbw)) e e fun v593=>jy (Zbl e) e e (jy (Zae e e) e e (gz2 3 30 e (ZaF (is:=[7]) (s1 e) e (Zad (Zai e ?_ ?_))))))))))))
   rotate_left
   ·refine ZaK (Zap H13 () () [0] (u1 e) e e e)
   refine jqr 4 (Zaf e e e (gz1 4 e (Zad (Zam (Zaw (Zaj e (fun w hs=>.tmp e) (fun w hs=>⟨e,hs.drop⟩)))))))
  refine ZaT (enc:=encI) [(-1),0,x69.Release] e e e e e e e e fun hd433=>ZaA (Zcr [2,3,4,5,6,7,8,10] e (jx1 (i:=12) (by kernel_rfl) (by kernel_rfl) e (jl_c 9 e e (fun v w hs hm=>ZaB hm (hs.blkL (i:=9) e) (hs.arg Rha0) (hs.offAL 9 Rha0 e) (hs.row 1 e) (hs.offLL 1 9 e e)) (fun _=>e) e e fun v313 q314=>jg_L (r11 e) (ZaA (Zcr [2,3,4,5,6,7,8,10] e (jx1 (i:=19) (by kernel_rfl) (by kernel_rfl) e (jl_c 9 e e (fun v w hs hm=>ZaB hm (hs.blkL (i:=9) e) (hs.arg Rha0) (hs.offAL 9 Rha0 e) (hs.row 0 e) (hs.offLL 0 9 e e)) (fun _=>e) e e fun v453 q454=>jg_L (r11 e) (ZaA (Zcr [2,3,4,5,6,7,8,10] e (ZdT [2,3,4,5,6,7,8,10] 4169712 4194303 4 [0,0,0,0,8,24,56,0,128,384,896,2040,4092,0,0,16384,49152,114688,245760,524284,1048573,2097149,4194301,8388607,16777215,33554431] [(20,true),(21,true)] e (Zay (Zas Zbb)) (by kernel_rfl) (by kernel_rfl) (by kernel_rfl) (by kernel_rfl) (by kernel_rfl) (by kernel_rfl) (by kernel_rfl) (by kernel_rfl) (by kernel_rfl) (jd_y e (fun w hs=>Zbn e (hs.row 1 e) h70.1) e e (jd_y e (fun w hs=>ZaS e (hs.row 1 e) h70.1) e e (jd_x ?_)))))))))))))
  refine jx1 (i:=22) (by kernel_rfl) (by kernel_rfl) e (Zc7 3 (a':=(Rolling.mk x69.Release v313.1 x69.Track x69.Speed x69.Resist x69.Targets)) e e h70.1 e (l1 e) e e e e fun y513 H514=>jg_L (r11 e) ?_)
  have n515:NF noAr ((q5.2.2.2.2.2.2.2.2 ++ q21.2.2.2) ++ q30.2.2.2) (q30.2.2.1.set (Int.toNat v67.1) ((Rolling.mk x69.Release v313.1 x69.Track x69.Speed x69.Resist x69.Targets),(d71.1,d71.2))) y513:=n33.setp h70.1 e H514
  refine ZaA (Zcs (by kernel_rfl) (jx1 (i:=23) (by kernel_rfl) (by kernel_rfl) e (ZcM (fun w hs=>n515.1) fun x533 d535 h534=>?_)))
  have n536:okN noAr ((q5.2.2.2.2.2.2.2.2 ++ q21.2.2.2) ++ q30.2.2.2) (x533,d535):=n515.2 _ (List.mem_of_getElem? h534.1)
  refine jg_y (fun w hs=>Zbn e (hs.row 3 e) h534.1) e e (ZaA (Zcs (by kernel_rfl) (jx1 (i:=24) (by kernel_rfl) (by kernel_rfl) e (jg_y (fun w hs=>ZaS e (hs.row 3 e) h534.1) e e (ZaA (Zcs (by kernel_rfl) (jx1 (i:=25) (by kernel_rfl) (by kernel_rfl) e (Zc7 3 (a':=(Rolling.mk v453.1 x533.Length x533.Track x533.Speed x533.Resist x533.Targets)) e e h534.1 e (l1 e) e e e e fun y573 H574=>jg_L (r11 e) ?_))))))))
  have n575:NF noAr ((q5.2.2.2.2.2.2.2.2 ++ q21.2.2.2) ++ q30.2.2.2) ((q30.2.2.1.set (Int.toNat v67.1) ((Rolling.mk x69.Release v313.1 x69.Track x69.Speed x69.Resist x69.Targets),(d71.1,d71.2))).set (Int.toNat v67.1) ((Rolling.mk v453.1 x533.Length x533.Track x533.Speed x533.Resist x533.Targets),(d535.1,d535.2))) y573:=n515.setp h534.1 e H574
  refine ZaA (Zcs (by kernel_rfl) (jx0 [(3,_),(4,_)] ⟨e,e,trivial⟩ (by kernel_rfl) (by kernel_rfl) (ZaF (is:=[2,3,4,5,6,7,8,10]) (s8 e) e (ZaG (Zad ?_)))))
  refine jqr 15 (jg_y (fun w hs=>ZaJ e (ldBB (hs.blkL (i:=3) e) e)) e e (Zav 2 e e e (l5 e) e e e e (l5 e) (r8 e) (gz1 4 e (Zad (Zam (ZcL e (fun w hs=>.cell e (ldBB (hs.blkL (i:=2) e) e)) (Zbc e (fun v w hs hm=>ZbE (a0:=(Scene.mk v4.1.Scene.Elements v29.1.Throw v4.1.Scene.Start v29.1.Commands y573)) hm (hs.row 4 e) (hs.row 5 e) (hs.row 0 e) n575.1 (hs.row 1 e) (hs.nD 6 e n575.2 Zbw)) e e fun v593=>jy (Zbl e) e e (jy (Zae e e) e e (gz2 3 30 e (ZaF (is:=[7]) (s1 e) e (Zad (Zai e ?_ ?_))))))))))))
  rotate_left
  ·refine ZaK (Zap H13 () () [0] (u1 e) e e e)
  refine jqr 4 (Zaf e e e (gz1 4 e (Zad (Zam (Zaw (Zaj e (fun w hs=>.tmp e) (fun w hs=>⟨e,hs.drop⟩)))))))
 refine ZaT (enc:=encI) [(-1),0,x69.Release] e e e e e e e e fun hd433=>ZaA (Zcr [1,2,3,4,5,6,7,9] e (jx1 (i:=11) (by kernel_rfl) (by kernel_rfl) e (ZaT (enc:=encI) [0,x69.Length,w64 (v253 + 1)] e e e e e e e e fun hd293=>ZaA (Zcr [2,3,4,5,6,7,8,10] e (jx1 (i:=12) (by kernel_rfl) (by kernel_rfl) e (jl_c 9 e e (fun v w hs hm=>ZaB hm (hs.blkL (i:=9) e) (hs.arg Rha0) (hs.offAL 9 Rha0 e) (hs.row 0 e) (hs.offLL 0 9 e e)) (fun _=>e) e e fun v313 q314=>jg_L (r11 e) (ZaA (Zcr [2,3,4,5,6,7,8,10] e (jx1 (i:=19) (by kernel_rfl) (by kernel_rfl) e (jl_c 9 e e (fun v w hs hm=>ZaB hm (hs.blkL (i:=9) e) (hs.arg Rha0) (hs.offAL 9 Rha0 e) (hs.row 1 e) (hs.offLL 1 9 e e)) (fun _=>e) e e fun v453 q454=>jg_L (r11 e) (ZaA (Zcr [2,3,4,5,6,7,8,10] e ?_))))))))))))
 refine ZdT [2,3,4,5,6,7,8,10] 4169712 4194303 4 [0,0,0,0,8,24,56,0,128,384,896,2040,4092,0,0,16384,49152,114688,245760,524284,1048573,2097149,4194301,8388607,16777215,33554431] [(20,true),(21,true)] e (Zay (Zas Zbb)) (by kernel_rfl) (by kernel_rfl) (by kernel_rfl) (by kernel_rfl) (by kernel_rfl) (by kernel_rfl) (by kernel_rfl) (by kernel_rfl) (by kernel_rfl) (jd_y e (fun w hs=>Zbn e (hs.row 1 e) h70.1) e e (jd_y e (fun w hs=>ZaS e (hs.row 1 e) h70.1) e e (jd_x (jx1 (i:=22) (by kernel_rfl) (by kernel_rfl) e (Zc7 3 (a':=(Rolling.mk x69.Release v313.1 x69.Track x69.Speed x69.Resist x69.Targets)) e e h70.1 e (l1 e) e e e e fun y513 H514=>jg_L (r11 e) ?_)))))
 have n515:NF noAr ((q5.2.2.2.2.2.2.2.2 ++ q21.2.2.2) ++ q30.2.2.2) (q30.2.2.1.set (Int.toNat v67.1) ((Rolling.mk x69.Release v313.1 x69.Track x69.Speed x69.Resist x69.Targets),(d71.1,d71.2))) y513:=n33.setp h70.1 e H514
 refine ZaA (Zcs (by kernel_rfl) (jx1 (i:=23) (by kernel_rfl) (by kernel_rfl) e (ZcM (fun w hs=>n515.1) fun x533 d535 h534=>?_)))
 have n536:okN noAr ((q5.2.2.2.2.2.2.2.2 ++ q21.2.2.2) ++ q30.2.2.2) (x533,d535):=n515.2 _ (List.mem_of_getElem? h534.1)
 refine jg_y (fun w hs=>Zbn e (hs.row 3 e) h534.1) e e (ZaA (Zcs (by kernel_rfl) (jx1 (i:=24) (by kernel_rfl) (by kernel_rfl) e (jg_y (fun w hs=>ZaS e (hs.row 3 e) h534.1) e e (ZaA (Zcs (by kernel_rfl) (jx1 (i:=25) (by kernel_rfl) (by kernel_rfl) e (Zc7 3 (a':=(Rolling.mk v453.1 x533.Length x533.Track x533.Speed x533.Resist x533.Targets)) e e h534.1 e (l1 e) e e e e fun y573 H574=>jg_L (r11 e) ?_))))))))
 have n575:NF noAr ((q5.2.2.2.2.2.2.2.2 ++ q21.2.2.2) ++ q30.2.2.2) ((q30.2.2.1.set (Int.toNat v67.1) ((Rolling.mk x69.Release v313.1 x69.Track x69.Speed x69.Resist x69.Targets),(d71.1,d71.2))).set (Int.toNat v67.1) ((Rolling.mk v453.1 x533.Length x533.Track x533.Speed x533.Resist x533.Targets),(d535.1,d535.2))) y573:=n515.setp h534.1 e H574
 refine ZaA (Zcs (by kernel_rfl) (jx0 [(3,_),(4,_)] ⟨e,e,trivial⟩ (by kernel_rfl) (by kernel_rfl) (ZaF (is:=[2,3,4,5,6,7,8,10]) (s8 e) e (ZaG (Zad ?_)))))
 refine jqr 15 (jg_y (fun w hs=>ZaJ e (ldBB (hs.blkL (i:=3) e) e)) e e (Zav 2 e e e (l5 e) e e e e (l5 e) (r8 e) (gz1 4 e (Zad (Zam (ZcL e (fun w hs=>.cell e (ldBB (hs.blkL (i:=2) e) e)) (Zbc e (fun v w hs hm=>ZbE (a0:=(Scene.mk v4.1.Scene.Elements v29.1.Throw v4.1.Scene.Start v29.1.Commands y573)) hm (hs.row 4 e) (hs.row 5 e) (hs.row 0 e) n575.1 (hs.row 1 e) (hs.nD 6 e n575.2 Zbw)) e e fun v593=>jy (Zbl e) e e (jy (Zae e e) e e (gz2 3 30 e (ZaF (is:=[7]) (s1 e) e (Zad (Zai e ?_ ?_))))))))))))
 rotate_left
 ·refine ZaK (Zap H13 () () [0] (u1 e) e e e)
 refine jqr 4 (Zaf e e e (gz1 4 e (Zad (Zam (Zaw (Zaj e (fun w hs=>.tmp e) (fun w hs=>⟨e,hs.drop⟩)))))))
end Go.Proofs.YtdgminllobhncaaGreat
namespace Go.Proofs.YtdgminllobhncaaGreat
set_option linter.unusedVariables false
set_option linter.unusedSimpArgs false
set_option maxHeartbeats 2000000
set_option maxRecDepth 10000
open Go.Hy Go.ChangeShapes Go.WideShapes Go.RowKit Go.Joins
abbrev I64 (a:Int):Prop:=-9223372036854775808 ≤ a∧a ≤ 9223372036854775807
theorem i64_of {a:Int}(h:(Lit.int .i64 a).wf = true):I64 a:=by
 have:=bounds_i64 h
 omega
theorem Sl_len {α:Type}{w:World}{h:Hd}{enc:α→List Value}{l:List α}(k:Sl w h enc l):l.length ≤ 9223372036854775807:=by
 have:=k.n
 have:=k.max
 omega
section
variable {H:Type}{enc:TypeId×Value→H}{P:Program}{w:World}{base b:Nat}{spare:Nat→Bool}{held:Bool}{v:Value}{d:DataW H}{p:List MemPlace}{r:Reach}
theorem open_L {t e:TypeId}(ht:P.underlying t = some (.slice e)) (he:P.underlying e = some (.int .i64)) (hc:P.cellsOf e = 1) (hv:Value.okWide P w r b t v) (h:DataW.Trod enc P w base spare held t v d p):
  ∃ (h:Hd) (l:List Int),v = h.v∧Sl w h encI l∧∀ n∈l,I64 n:=by
 obtain ⟨a,len,cap,rfl⟩:=okWide_slice ht hv
 obtain ⟨fuel,hf⟩:=h
 rcases open_ints ht he hc hf with ⟨hcs,_⟩ | ⟨x,l,c,zs,hcs,_,hl,hm,hz,_,hcell,hwz⟩
 ·simp [Value.cells] at hcs
  obtain ⟨rfl,rfl,rfl⟩:=hcs
  exact ⟨⟨none,0,0⟩,[],rfl,Sl.nil,by simp⟩
 ·simp [Value.cells] at hcs
  obtain ⟨rfl,rfl,rfl⟩:=hcs
  have hzl:len ≤ zs.length:=by rw [hz]; split <;> omega
  have hlen:(zs.take len).length = len:=by rw [List.length_take]; omega
  refine ⟨⟨some x,len,cap⟩,zs.take len,rfl,⟨⟨1,inferInstance,fun _=>rfl,?_,fun _=>⟨x,rfl,fun j u hu=>?_⟩⟩,hlen,hl⟩,fun n hn=>i64_of (hwz n (List.mem_of_mem_take hn))⟩
  ·rw [hlen]; unfold maxLen at hm; omega
  ·have e:cellsOf encI (zs.take len) = (zs.take len).map (.int .i64):=by
    unfold cellsOf encI
    induction zs.take len with
    | nil=>rfl
    | cons y ys ih=>rw [List.flatMap_cons,ih]; rfl
   rw [e,List.getElem?_map,List.getElem?_take] at hu
   split at hu
   ·rename_i hj
    have hj':j < zs.length:=by omega
    rw [List.getElem?_eq_getElem hj'] at hu
    simp only [Option.map_some,Option.some.injEq] at hu
    rw [hcell j hj',← hu,List.getD_eq_getElem?_getD,List.getElem?_eq_getElem hj']
    rfl
   ·simp at hu
theorem Zj5 {α:Type}{Q:Nat→α→Prop}:∀ n,(∀ i,i < n→∃ a,Q i a)→∃ l:List α,l.length = n∧∀ i a,l[i]? = some a→Q i a
 | 0,_=>⟨[],rfl,fun i a h=>by simp at h⟩
 | n + 1,h=>by
  obtain ⟨l,hl,hq⟩:=Zj5 n fun i hi=>h i (by omega)
  obtain ⟨a,ha⟩:=h n (by omega)
  refine ⟨l ++ [a],by simp [hl],fun i b hb=>?_⟩
  rcases Nat.lt_or_ge i l.length with h1 | h1
  ·rw [List.getElem?_append_left h1] at hb; exact hq i b hb
  ·rw [List.getElem?_append_right h1] at hb
   have e:i - l.length = 0:=by
    rcases Nat.eq_zero_or_pos (i - l.length) with h2 | h2
    ·exact h2
    ·rw [List.getElem?_eq_none (by simp; omega)] at hb; cases hb
   rw [e] at hb
   simp only [List.getElem?_cons_zero,Option.some.injEq] at hb
   subst hb
   obtain rfl:i = n:=by omega
   exact ha
theorem ZcD {fuel:Nat}{t:TypeId}{cs:List Value}{x:DataW H×List MemPlace}(ht:P.underlying t = some (.int .i64)) (h:DataW.trod enc P w base spare held fuel t cs = some x):∃ a,cs = [.int .i64 a]∧I64 a:=by
 obtain ⟨a,rfl,_,wa⟩:=DataW.trod_int ht h
 exact ⟨a,rfl,i64_of wa⟩
theorem ZgR {α:Type}{fuel:Nat}{t e:TypeId}{sz:Nat}{en:α→List Value}{R:α→Prop}{cs:List Value}{x:DataW H×List MemPlace} [he:En en sz] (ht:P.underlying t = some (.slice e)) (hc:P.cellsOf e = sz)
  (hE:∀ fuel cs x,DataW.trod enc P w base spare held fuel e cs = some x→∃ a,cs = en a∧R a) (h:DataW.trod enc P w base spare held fuel t cs = some x):
  ∃ (h:Hd) (l:List α),cs = [h.v]∧Sl w h en l∧∀ a∈l,R a:=by
 rcases DataW.trod_slice ht h with ⟨rfl,_⟩ | ⟨a,len,cap,elems,rest,n,_,rfl,_,hb,hl,hm,hlen,hel,_,_⟩
 ·exact ⟨⟨none,0,0⟩,[],rfl,Sl.nil,by simp⟩
 ·obtain ⟨l,hln,hq⟩:=Zj5 (Q:=fun i b=>(w.cells? base (a.add (i * sz)) sz = some (en b))∧R b) len fun i hi=>by
   have h1:=hel i hi
   have h2:i < elems.length:=by omega
   rw [List.getElem?_eq_getElem h2,hc,Option.bind_eq_some_iff] at h1
   obtain ⟨cs',h3,h4⟩:=h1
   obtain ⟨b,rfl,hr⟩:=hE _ _ _ h4
   exact ⟨b,h3,hr⟩
  refine ⟨⟨some a,len,cap⟩,l,rfl,⟨⟨sz,he,he.len,?_,fun _=>⟨a,rfl,fun j u hu=>?_⟩⟩,hln,hl⟩,fun b hb=>?_⟩
  ·unfold maxLen at hm; omega
  ·have hj:=(List.getElem?_eq_some_iff.1 hu).1
   rw [Zfz he.len] at hj
   have hpos:=he.pos
   have hd:j / sz < l.length:=Nat.div_lt_of_lt_mul (by rw [Nat.mul_comm]; exact hj)
   have hmod:=Nat.mod_lt j hpos
   have ej:j / sz * sz + j % sz = j:=by rw [Nat.mul_comm]; exact Nat.div_add_mod j sz
   have hg:=List.getElem?_eq_getElem hd
   have hqq:=(hq _ _ hg).1
   have h5:=(World.cells?_some hqq).2.2 (j % sz) hmod
   rw [Addr.add_add,ej] at h5
   rw [h5,← Zeo he.len l _ _ _ hg hmod,ej]
   exact hu
  ·obtain ⟨i,hi⟩:=List.getElem?_of_mem hb
   exact (hq i b hi).2
theorem og_strB {fuel:Nat}{t:TypeId}{cs:List Value}{x:DataW H×List MemPlace}(ht:P.underlying t = some .string) (h:DataW.trod enc P w base spare held fuel t cs = some x):∃ a,cs = [.string a]∧a.size ≤ 9223372036854775807:=by
 obtain ⟨a,rfl,_,hm⟩:=DataW.trod_string ht h
 exact ⟨a,rfl,by unfold maxLen at hm; omega⟩
theorem agg_of {v:Value}{t:TypeId}{fs:Array Field}{l:List Value}(hs:P.underlying t = some (.struct fs)) (hv:Value.okWide P w r b t v) (h:v.cells.toList = l):v = .agg l.toArray:=by
 obtain ⟨cs,rfl,_⟩:=okWide_struct hs hv
 rw [← h]
 simp [Value.cells]
end
end Go.Proofs.YtdgminllobhncaaGreat
