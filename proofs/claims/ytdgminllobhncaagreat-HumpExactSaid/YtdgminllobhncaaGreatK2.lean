/-
  What the proof leans on, part 2: plain rules, plain models of the functions, and what they give. No condition.
-/
import Derived.Test.YtdgminllobhncaaGreatK1
namespace Go.Hy
set_option linter.unusedVariables false
set_option linter.unusedSimpArgs false
set_option maxHeartbeats 2000000
set_option maxRecDepth 10000
open Go.Hy.Iv
theorem ZkG {ps:List Piece}{r:Run}:Zd4 ps r = some (ptOut ps r):=by
 refine Ok.eq (?_:Ok _ _)
 unfold Zd4
 refine ZaN Zef (Zat (fun h=>Zan (ptOut0 h).symm) (fun h=>?_))
 have hv:vE ps = 0:=Decidable.not_not.1 h
 have hp:=Zg3 hv
 have hl:=hp.len
 have hnr:=Zf2 ps
 refine Zat (fun h=>Zan (ptOut1 hv (by omega)).symm) fun a1=>ZaN (Zgj (by omega)) (Zat (fun h=>Zan (ptOut1 hv (by omega)).symm) fun a2=>?_)
 have hA:RA ps r:=⟨by omega,by omega⟩
 refine Zby (fun (z:Bool)=>z = true↔((0 ≤ r.Speed∧r.Speed ≤ 20000)∧r.Targets.all tB = true)) (fun z hz=>?_) (fun k hk=>?_)
 rotate_left
 ·have no:¬ (0 ≤ r.Speed∧r.Speed ≤ 20000)→Ok (k false) (· = ptOut ps r):=fun h=>hk _ ⟨fun h=>(by cases h),fun hh=>absurd hh.1 h⟩
  refine Zat (fun q1=>Zat (fun q2=>ZaN (ZgF (by omega)) (hk _ ⟨fun h=>⟨⟨q1,q2⟩,h⟩,fun h=>h.2⟩)) (fun h=>no (by omega))) (fun h=>no (by omega))
 refine Zby (fun (y:Bool)=>y = true↔RB r) (fun y hy=>?_) (fun k hk=>?_)
 rotate_left
 ·refine Zbi (fun (y:Bool×Int)=>0 ≤ y.2∧(y.1 = true↔z = true∧(r.Resist.take y.2.toNat).all wB = true)) (fun y=>((ps.length:Int) - y.2).toNat) ⟨Int.le_refl 0,by simp⟩ (by simp only [ZaY]; omega) ?_
  rintro ⟨b,i⟩ next ⟨i0,hb⟩ hn
  dsimp only at i0 hb ⊢
  refine Zat (fun hi=>?_) (fun hi=>?_)
  rotate_left
  ·rw [List.take_of_length_le (by omega),hz] at hb
   exact hk _ (hb.trans ⟨fun h=>⟨h.2,h.1⟩,fun h=>⟨h.2,h.1⟩⟩)
  rw [Zaz (by omega)]
  have hii:i.toNat < r.Resist.length:=by omega
  have ha:=List.getElem?_eq_getElem hii
  generalize r.Resist[i.toNat] = a at ha
  have ei:(i + 1).toNat = i.toNat + 1:=by omega
  have nx:∀ c:Bool,(c = true↔b = true∧wB a = true)→Ok (next (c,i + 1)) (· = ptOut ps r):=fun c hc=>hn _ ⟨by dsimp only; omega,by
   dsimp only
   rw [hc,hb,ei,Zh9 ha,List.all_append]
   simp [and_assoc]⟩ (by dsimp only; omega)
  refine ok_b (fun h=>Za1 i0 ha (Zat (fun h1=>Za1 i0 ha (nx _ ?_)) (fun h1=>nx _ ?_))) (fun h=>nx _ ?_)
  ·unfold wB; simp only [decide_eq_true_eq,h,true_and]; omega
  ·unfold wB; simp only [decide_eq_true_eq,h,true_and]; exact ⟨fun h=>(by cases h),fun hh=>absurd hh.1 h1⟩
  ·simp [h]
 refine ZcG (fun h=>Zan ?_) (fun h=>?_)
 ·rw [ptOut2 hv hA]
  intro hh
  rw [hy.2 hh] at h; cases h
 have hB:=hy.1 h
 rw [ptOut3 hv hA hB]
 obtain ⟨h1,h2,h3,h4,h5⟩:=rE_ok hA hB
 have hq:=Zg8 (v:=r.Speed) (by omega)
 have hq2:r.Speed * r.Speed ≤ 400000000:=ZdI (b:=20000) h3.1 h3.2
 rw [Zaz (n:=r.Speed * r.Speed) (by omega)]
 refine Zbi (fun (z:Int×Int×List Moment×Int×Int)=>∃ x,MomOk x z.2.2.2.2.toNat∧z.1 = x.Time∧z.2.1 = x.Energy∧0 ≤ z.2.2.2.1∧0 ≤ z.2.2.2.2∧z.2.2.2.2 ≤ ps.length∧z.2.2.1.length = z.2.2.2.2.toNat + 1∧
   z.2.2.2.1.toNat + nret (ps.drop z.2.2.2.2.toNat) = r.Targets.length∧z.2.2.1 ++ ptRun (ps.drop z.2.2.2.2.toNat) (r.Resist.drop z.2.2.2.2.toNat) (r.Targets.drop z.2.2.2.1.toNat) x = ptAll ps r)
  (fun z=>((ps.length:Int) - z.2.2.2.2).toNat) ?_ ?_ ?_
 ·exact ⟨pt0 r,⟨by dsimp only [pt0]; omega,by dsimp only [pt0]; omega,by dsimp only [pt0]; omega,by dsimp only [pt0]; omega⟩,rfl,rfl,by dsimp only; omega,by dsimp only; omega,by dsimp only; omega,rfl,by dsimp only; simp [h2],rfl⟩
 ·simp only [ZaY]; omega
 rintro ⟨t,e,out,k,i⟩ next ⟨x,hx,e1,e2,k0,i0,i1,ol,kn,hf⟩ hn
 dsimp only at hx e1 e2 k0 i0 i1 ol kn hf ⊢
 subst e1 e2
 have hlen:(ptAll ps r).length = 1 + (ptRun ps r.Resist r.Targets (pt0 r)).length:=by simp [ptAll]; omega
 refine Zat (fun hi=>?_) (fun hi=>Zan ?_)
 rotate_left
 ·have:ps.drop i.toNat = []:=List.drop_eq_nil_of_le (by omega)
  rw [this] at hf
  simp only [ptRun,List.append_nil] at hf
  rw [hf] at ol ⊢
  unfold ptStop
  rw [if_pos (by omega)]
 refine Za5 i0 hi fun p hpi=>?_
 have hpo:=hp.ok p (Zfc hpi)
 obtain ⟨m0,m1,m2,m3⟩:=hx
 have stop:∀ w,r.Resist[i.toNat]? = some w→ptStep p w (tgOf p (r.Targets.drop k.toNat)) x = none→(out,i,(0:Int)) = (ptAll ps r,ptStop ps r,0):=fun w hw hs=>by
  rw [ZbS hpi,ZbS hw,Zde (by simpa using hs),List.append_nil] at hf
  rw [hf] at ol ⊢
  unfold ptStop
  rw [if_neg (by omega)]
  simp only [Prod.mk.injEq,true_and,and_true]
  omega
 have go:∀ w y k',r.Resist[i.toNat]? = some w→Wr w→ptStep p w (tgOf p (r.Targets.drop k.toNat)) x = some y→(0 < p.Power→k' = k + 1)→(¬ 0 < p.Power→k' = k)→
   Ok (ck (decide (out.length + ([(Moment.mk y.Time y.Energy)]:List Moment).length ≤ 1000000000)) <| vl (out ++ ([(Moment.mk y.Time y.Energy)]:List Moment)) fun o=>next (y.Time,y.Energy,o,k',w64 (i + 1))) (fun v=>v = (ptAll ps r,ptStop ps r,0)):=by
  intro w y k' hw hwr hs hk1 hk2
  have hy:=Zf0 (i:=i.toNat) hpo hwr ⟨m0,m1,m2,m3⟩ hs
  have ei:(i + 1).toNat = i.toNat + 1:=by omega
  refine Zbu (by simp; omega) (Za8 fun o ho=>?_)
  subst ho
  rw [Zaz (by omega)]
  rw [ZbS hpi,ZbS hw,Zdd (by simpa using hs)] at hf
  rw [ZbS hpi] at kn
  simp only [nret] at kn
  refine hn _ ⟨y,by dsimp only; rw [ei]; exact hy,rfl,rfl,?_,by dsimp only; omega,by dsimp only; omega,by simp; omega,?_,?_⟩ (by dsimp only; omega)
  ·dsimp only; by_cases h:0 < p.Power
   ·have:=hk1 h; omega
   ·have:=hk2 h; omega
  ·dsimp only
   rw [ei]
   by_cases h:0 < p.Power
   ·rw [if_pos h] at kn; have:=hk1 h; omega
   ·rw [if_neg h] at kn; have:=hk2 h; omega
  ·dsimp only
   rw [ei,← hf,List.append_assoc]
   congr 1
   simp only [List.singleton_append,List.cons.injEq,true_and,List.tail_cons,tsOf]
   by_cases h:0 < p.Power
   ·rw [if_pos h,hk1 h,List.tail_drop]
    congr 3
    omega
   ·rw [if_neg h,hk2 h]
 have hiw:i.toNat < r.Resist.length:=by omega
 refine Za5 i0 (by omega) fun w hw=>?_
 have hwr:=h4 w (Zfc hw)
 have hg:=Zjq hpo hwr
 have b0:=Zfo m0 (by omega)
 refine ZaN (ZfW hpo hwr) (ZaN (ZiH hpo hwr) ?_)
 rw [Zaz (n:=x.Energy + gd p w) (by omega)]
 refine Zat (fun hs=>Zan (stop w hw (by unfold ptStep; rw [if_pos hs]))) (fun hs=>?_)
 have b1:=Zfo (n:=x.Energy + gd p w) (by omega) (by omega)
 refine ZaN (Zdh m0 (by omega)) (ZaN (Zdh (by omega) (by omega)) ?_)
 rw [Zaz (n:=isq x.Energy + isq (x.Energy + gd p w)) (by omega)]
 refine Zat (fun hz=>Zan (stop w hw (by unfold ptStep; rw [if_neg hs,if_pos hz]))) (fun hz=>?_)
 have hpl:=hpo.l
 have hpw:=hpo.p
 have hu:=Zjw (x:=2000 * p.Length) (d:=isq x.Energy + isq (x.Energy + gd p w)) (by omega) (by omega)
 refine Za1 i0 hpi ?_
 rw [Zaz (n:=2000 * p.Length) (by omega)]
 refine ZaN (rUp_m (by omega) hz) ?_
 have eu:upm (2000 * p.Length) (isq x.Energy + isq (x.Energy + gd p w)) = up (2000 * p.Length) (isq x.Energy + isq (x.Energy + gd p w)):=Zg4 (by omega) (by omega)
 rw [eu,Zaz (n:=x.Time + up (2000 * p.Length) (isq x.Energy + isq (x.Energy + gd p w))) (by omega)]
 refine Za8 fun x28 hx28=>Za1 i0 hpi ?_
 have st:∀ E,E = bk p (tgOf p (r.Targets.drop k.toNat)) (x.Energy + gd p w)→ptStep p w (tgOf p (r.Targets.drop k.toNat)) x = some ⟨x28,E⟩:=fun E hE=>by
  unfold ptStep; rw [if_neg hs,if_neg hz,hx28,hE]
 rw [ZbS hpi] at kn
 simp only [nret] at kn
 refine Zat (fun hpp=>?_) (fun hpp=>?_)
 ·rw [if_pos hpp] at kn
  refine Za5 k0 (by omega) fun tg htg=>?_
  have htt:=h5 tg (Zfc htg)
  have etg:tgOf p (r.Targets.drop k.toNat) = tg:=by unfold tgOf; rw [if_pos hpp,ZbS htg]; rfl
  rw [Zaz (n:=k + 1) (by omega)]
  refine Zat (fun ht=>?_) (fun ht=>?_)
  ·have hsq:=Zg8 (v:=tg) (by omega)
   rw [Zaz (n:=tg * tg) (by omega)]
   refine Za8 fun x31 hx31=>Za1 i0 hpi ?_
   rw [Zaz (n:=x.Energy + gd p w - p.Power) (by omega)]
   refine Za8 fun x32 hx32=>?_
   exact go w ⟨x28,max x31 x32⟩ (k + 1) hw hwr (st _ (by rw [etg]; unfold bk; rw [if_pos ⟨hpp,ht⟩,hx31,hx32])) (fun _=>rfl) (fun h=>absurd hpp h)
  ·exact go w ⟨x28,x.Energy + gd p w⟩ (k + 1) hw hwr (st _ (by rw [etg]; unfold bk; rw [if_neg (by omega)])) (fun _=>rfl) (fun h=>absurd hpp h)
 ·exact go w ⟨x28,x.Energy + gd p w⟩ k hw hwr (st _ (by unfold bk; rw [if_neg (by omega)])) (fun h=>absurd h hpp) (fun _=>rfl)
def oP:Option RunoffState→Passage
 | none=>stopP
 | some s=>toP s
def psO (err:Int) (ps:List Piece) (cs:List Interval) (ts:List Int):Option RunoffState→List Passage
 | none=>List.replicate ps.length stopP
 | some s=>psRun err ps cs ts s
theorem ZkP {err:Int}{p:Piece}{ps:List Piece}{cs:List Interval}{ts:List Int}{q:Option RunoffState}:
  psO err (p :: ps) cs ts q = oP (q.bind (psNext p (cs.headD ⟨0,0⟩) (tgOf p ts) err)) :: psO err ps cs.tail (tsOf p ts) (q.bind (psNext p (cs.headD ⟨0,0⟩) (tgOf p ts) err)):=by
 cases q with
 | none=>rfl
 | some s=>
  cases h:psNext p (cs.headD ⟨0,0⟩) (tgOf p ts) err s with
  | none=>simp only [psO,Option.bind_some,h,oP,ZgO h,List.replicate_succ]
  | some s'=>simp only [psO,Option.bind_some,h,oP,ZgN h]
theorem rstep_m {p:Piece}{c:Interval}{x:Passage}{s:RunoffState}{i:Nat}(hx:s = ⟨x.Time,x.Energy,x.Slow⟩) (hp:PieceOk p) (hc:ClsOk c) (hs:StOk s i) (hi:i ≤ 128):ZeS x p c = some (oP (psStep p c s)):=by
 refine Ok.eq (?_:Ok _ _)
 have a1:x.Energy = s.fenergy:=by rw [hx]
 have a2:x.Time = s.ftime:=by rw [hx]
 have a3:x.Slow = s.fslow:=by rw [hx]
 have hs0:=hs
 obtain ⟨e0,e1,e2,t0,t1,t2⟩:=hs
 have hw:=cls_wr hc
 have hg:=Zjq hp hw.2
 have hu:=gu_bd hp hw.1
 have hl:=hp.l
 have hgu:gd p c.Hi ≤ gu p c.Lo:=Int.le_trans (dn_mono' (by decide) (Zke hp hc.2.1)) gd_le
 unfold ZeS
 rw [a1,a2,a3]
 clear hx a1 a2 a3
 refine ZaN (ZfW hp hw.2) (ZaN (ZiH hp hw.2) (ZaN (ZfW hp hw.1) (ZaN (rup_gn hp hw.1) ?_)))
 rw [Zaz (n:=s.fenergy.Hi + gu p c.Lo) (by omega),Zaz (n:=s.fenergy.Lo + gd p c.Hi) (by omega)]
 have eh:s.fenergy.Hi + gu p c.Lo = hiE p c s:=rfl
 rw [eh]
 refine Zat (fun h=>Zan ?_) (fun h=>?_)
 ·unfold psStep; rw [if_pos h]; rfl
 have hlo:0 ≤ loE p c s∧loE p c s ≤ hiE p c s:=by unfold loE hiE at *; omega
 have hhi:hiE p c s ≤ 400000000 + 3924000000 * ((i:Int) + 1):=by unfold hiE; omega
 have r1:=Zfo e0 (by omega)
 have r2:=Zfo (n:=s.fenergy.Hi) (by omega) (by omega)
 have r3:=Zfo hlo.1 (by omega)
 have r4:=Zfo (n:=hiE p c s) (by omega) (by omega)
 refine ZaN (ZhK (by omega) (by omega)) (ZaN (ZhK (by omega) (by omega)) ?_)
 rw [Zaz (n:=isu s.fenergy.Hi + isu (hiE p c s)) (by omega)]
 refine Zat (fun h2=>Zan ?_) (fun h2=>?_)
 ·unfold psStep; rw [if_neg h,if_pos h2]; rfl
 refine Zby (fun (z:Bool)=>z = true↔s.fslow = true∨s.fenergy.Lo + gd p c.Hi < 0) (fun z z1=>?_) (fun kk hk=>?_)
 rotate_left
 ·refine ok_b (fun h3=>hk _ ?_) (fun h3=>hk _ ?_)
  ·simp [h3]
  ·simp [h3]
 have el:max (s.fenergy.Lo + gd p c.Hi) 0 = loE p c s:=Int.max_comm _ _
 refine Za8 fun x15 hx15=>?_
 rw [el] at hx15
 subst hx15
 refine ZaN (Zdh e0 (by omega)) (ZaN (Zdh hlo.1 (by omega)) ?_)
 rw [Zaz (n:=isq s.fenergy.Lo + isq (loE p c s)) (by omega),Zaz (n:=2000 * p.Length) (by omega)]
 refine Zby (fun (z:Bool)=>z = true↔SlowP p c s) (fun z hz=>?_) (fun kk hk=>?_)
 rotate_left
 ·refine ok_b (fun h3=>hk _ ?_) (fun h3=>hk _ ?_)
  ·have:=z1.1 h3
   unfold SlowP
   simp only [true_iff]
   rcases this with h4 | h4
   ·exact .inl h4
   ·exact .inr (.inl h4)
  ·have:¬ (s.fslow = true∨s.fenergy.Lo + gd p c.Hi < 0):=fun h=>by rw [z1.2 h] at h3; cases h3
   unfold SlowP
   rw [decide_eq_true_iff]
   exact ⟨fun h=>.inr (.inr h),fun h=>by
    rcases h with h | h | h
    ·exact absurd (.inl h) this
    ·exact absurd (.inr h) this
    ·exact h⟩
 refine Zbu h2 ?_
 have d1:=dn_nn (x:=2000 * p.Length) (d:=isu s.fenergy.Hi + isu (hiE p c s)) (by omega) (by omega)
 have ed:(2000 * p.Length).tdiv (isu s.fenergy.Hi + isu (hiE p c s)) = dn (2000 * p.Length) (isu s.fenergy.Hi + isu (hiE p c s)):=Int.tdiv_eq_ediv_of_nonneg (by omega)
 rw [ed,Zaz (n:=dn (2000 * p.Length) (isu s.fenergy.Hi + isu (hiE p c s))) (by omega)]
 refine Za8 fun y15 hy15=>?_
 rw [Zaz (n:=s.ftime.Lo + y15) (by omega),hy15]
 refine Za8 fun x16 hx16=>?_
 have fin:∀ th,th = (if SlowP p c s then 1000000000 else min 1000000000 (s.ftime.Hi + up (2000 * p.Length) (isq s.fenergy.Lo + isq (loE p c s))))→
   Passage.mk (Interval.mk x16 th) (Interval.mk (loE p c s) (hiE p c s)) z false = oP (psStep p c s):=by
  intro th hth
  have ezs:z = decide (SlowP p c s):=by
   by_cases hsl:SlowP p c s
   ·rw [decide_eq_true hsl]; exact hz.2 hsl
   ·rw [decide_eq_false hsl]; exact Bool.eq_false_iff.2 fun h=>hsl (hz.1 h)
  unfold psStep
  rw [if_neg h,if_neg h2,hx16,hth,ezs]
  rfl
 refine ZcG (fun hzf=>?_) (fun hzt=>Zan (fin _ (by rw [if_pos (hz.1 hzt)])))
 have hns:¬ SlowP p c s:=fun h=>by rw [hz.2 h] at hzf; cases hzf
 have hz3:¬ isq s.fenergy.Lo + isq (loE p c s) = 0:=fun h=>hns (.inr (.inr h))
 have hup:=Zjw (x:=2000 * p.Length) (d:=isq s.fenergy.Lo + isq (loE p c s)) (by omega) (by omega)
 refine ZaN (rUp_m (by omega) hz3) ?_
 have eu:upm (2000 * p.Length) (isq s.fenergy.Lo + isq (loE p c s)) = up (2000 * p.Length) (isq s.fenergy.Lo + isq (loE p c s)):=Zg4 (by omega) (by omega)
 rw [eu,Zaz (n:=s.ftime.Hi + up (2000 * p.Length) (isq s.fenergy.Lo + isq (loE p c s))) (by omega)]
 exact Za8 fun x26 hx26=>Zan (fin _ (by rw [if_neg hns,hx26]))
theorem ZkD {e:Interval}{pw t er:Int}(hp:0 ≤ pw∧pw ≤ 1000000000) (ht:0 ≤ t∧t ≤ 20000) (he:0 ≤ er∧er ≤ 1000) (h0:0 ≤ e.Hi∧e.Hi ≤ 1000000000000):
  Zd2 e pw t er = some ⟨min e.Lo (max 0 (t - er) * max 0 (t - er)),max (min e.Hi ((t + er) * (t + er))) (e.Hi - pw)⟩:=by
 refine Ok.eq (?_:Ok _ _)
 unfold Zd2
 have q1:=Zg8 (v:=max 0 (t - er)) (by omega)
 have q2:=Zg8 (v:=t + er) (by omega)
 rw [Zaz (n:=t - er) (by omega),Zaz (n:=t + er) (by omega),Zaz (n:=max 0 (t - er) * max 0 (t - er)) (by omega),Zaz (n:=(t + er) * (t + er)) (by omega),Zaz (n:=e.Hi - pw) (by omega)]
 exact Za8 fun x hx=>Za8 fun y hy=>Za8 fun z hz=>Zan (by rw [hx,hz,hy])
def psOut (ps:List Piece) (m:Motion):List Passage×Int:=if vE ps ≠ 0 then ([],vE ps) else if mE ps m ≠ 0 then ([],mE ps m) else (psAll ps m,0)
theorem rPass_e {ps:List Piece}{m:Motion}:ZeU ps m = some (psOut ps m):=by
 refine Ok.eq (?_:Ok _ _)
 unfold ZeU psOut
 refine ZaN Zef (Zat (fun h=>Zan (by rw [if_pos h])) (fun h=>?_))
 have hv:vE ps = 0:=Decidable.not_not.1 h
 have hp:=Zg3 hv
 have hl:=hp.len
 have hnr:=Zf2 ps
 rw [if_neg h]
 refine ZaN (ZjO hl.2) (Zat (fun h=>Zan (by rw [if_pos h])) (fun h=>?_))
 have hm:mE ps m = 0:=Decidable.not_not.1 h
 rw [if_neg h]
 have hmo:=mE_ok hm
 obtain ⟨hsp,hcl,hc,her,htl,ht⟩:=hmo
 have q1:=Zg8 (v:=m.Speed.Lo) (by omega)
 have q2:m.Speed.Hi * m.Speed.Hi ≤ 400000000:=ZdI (b:=20000) (by omega) hsp.2.2
 have q3:=ZdI hsp.1 hsp.2.1
 rw [Zaz (n:=m.Speed.Lo * m.Speed.Lo) (by omega),Zaz (n:=m.Speed.Hi * m.Speed.Hi) (by omega)]
 refine Za8 fun x4 hx4=>Za8 fun x5 hx5=>?_
 refine Zbi (fun (z:Int×Int×Int×Int×Bool×Bool×List Passage×Int×Int)=>∃ q,(∀ s,q = some s→StOk s z.2.2.2.2.2.2.2.2.toNat)∧Passage.mk ⟨z.1,z.2.1⟩ ⟨z.2.2.1,z.2.2.2.1⟩ z.2.2.2.2.1 z.2.2.2.2.2.1 = oP q∧0 ≤ z.2.2.2.2.2.2.2.1∧0 ≤ z.2.2.2.2.2.2.2.2∧z.2.2.2.2.2.2.2.2 ≤ ps.length∧z.2.2.2.2.2.2.1.length = z.2.2.2.2.2.2.2.2.toNat + 1∧
   z.2.2.2.2.2.2.2.1.toNat + nret (ps.drop z.2.2.2.2.2.2.2.2.toNat) = m.Targets.length∧z.2.2.2.2.2.2.1 ++ psO m.Error (ps.drop z.2.2.2.2.2.2.2.2.toNat) (m.Class.drop z.2.2.2.2.2.2.2.2.toNat) (m.Targets.drop z.2.2.2.2.2.2.2.1.toNat) q = psAll ps m)
  (fun z=>((ps.length:Int) - z.2.2.2.2.2.2.2.2).toNat) ?_ ?_ ?_
 ·refine ⟨some (ps0 m),fun s hs=>?_,by dsimp only; rw [hx4,hx5]; rfl,by dsimp only; omega,by dsimp only; omega,by dsimp only; omega,rfl,by dsimp only; simp [htl],by dsimp only; rw [hx4,hx5]; rfl⟩
  obtain rfl:=Option.some.inj hs
  exact ps0_ok ⟨hsp,hcl,hc,her,htl,ht⟩
 ·simp only [ZaY]; omega
 rintro ⟨tl,th,el,eh,sl,so,out,k,i⟩ next ⟨q,hq,gq,k0,i0,i1,ol,kn,hf⟩ hn
 dsimp only at hq gq k0 i0 i1 ol kn hf ⊢
 refine Zat (fun hi=>?_) (fun hi=>Zan ?_)
 rotate_left
 ·have:ps.drop i.toNat = []:=List.drop_eq_nil_of_le (by omega)
  rw [this] at hf
  have e0:psO m.Error [] (m.Class.drop i.toNat) (m.Targets.drop k.toNat) q = []:=by cases q <;> rfl
  rw [e0,List.append_nil] at hf
  rw [hf]
 have hip:i.toNat < ps.length:=by omega
 have hpi:=List.getElem?_eq_getElem hip
 generalize ps[i.toNat] = p at hpi
 have hpo:=hp.ok p (Zfc hpi)
 have ei:(i + 1).toNat = i.toNat + 1:=by omega
 have hki:=kn
 rw [ZbS hpi] at hki
 simp only [nret] at hki
 have hic:i.toNat < m.Class.length:=by omega
 have hci:=List.getElem?_eq_getElem hic
 generalize m.Class[i.toNat] = c at hci
 have hco:=hc _ (Zfc hci)
 rw [ZbS hpi,ZbS hci,ZkP] at hf
 have go:∀ (q2:Option RunoffState) (a b c1 d:Int) (e f:Bool) (k':Int),q.bind (psNext p c (tgOf p (m.Targets.drop k.toNat)) m.Error) = q2→Passage.mk ⟨a,b⟩ ⟨c1,d⟩ e f = oP q2→(k' = if 0 < p.Power then k + 1 else k)→
   Ok (ck (decide (out.length + ([(Passage.mk (Interval.mk a b) (Interval.mk c1 d) e f)]:List Passage).length ≤ 1000000000)) <| vl (out ++ ([(Passage.mk (Interval.mk a b) (Interval.mk c1 d) e f)]:List Passage)) fun y=>next (a,b,c1,d,e,f,y,k',w64 (i + 1))) (fun v=>v = (psAll ps m,0)):=by
  intro q2 a b c1 d e f k' hb hP hk'
  refine Zbu (by simp; omega) (Za8 fun y hy=>?_)
  subst hy
  rw [Zaz (by omega)]
  refine hn _ ⟨q2,fun s2 hs2=>?_,hP,by dsimp only; rw [hk']; split <;> omega,by dsimp only; omega,by dsimp only; omega,by simp; omega,?_,?_⟩ (by dsimp only; omega)
  ·dsimp only
   rw [ei]
   cases q with
   | none=>rw [← hb] at hs2; cases hs2
   | some s=>
    rw [← hb] at hs2
    have htg:Tg (tgOf p (m.Targets.drop k.toNat)):=by
     unfold tgOf
     split
     ·rename_i hpp
      rw [if_pos hpp] at hki
      have hkk:k.toNat < m.Targets.length:=by omega
      rw [ZbS (List.getElem?_eq_getElem hkk)]
      exact ht _ (List.getElem_mem hkk)
     ·exact ⟨by decide,by decide⟩
    exact Zj1 hpo hco htg her (hq s rfl) hs2
  ·dsimp only
   rw [ei,hk']
   by_cases h:0 < p.Power
   ·rw [if_pos h] at hki ⊢; omega
   ·rw [if_neg h] at hki ⊢; omega
  ·dsimp only
   have e1:(c :: List.drop (i.toNat + 1) m.Class).headD ⟨0,0⟩ = c:=rfl
   rw [e1,hb] at hf
   rw [ei,hP,← hf,List.append_assoc]
   congr 1
   simp only [List.singleton_append,List.tail_cons,tsOf]
   by_cases h:0 < p.Power
   ·rw [if_pos h,hk',if_pos h,List.tail_drop]
    have:(k + 1).toNat = k.toNat + 1:=by omega
    rw [this]
   ·rw [if_neg h,hk',if_neg h]
 refine Zby (fun (z:Int×Int×Int×Int×Bool×Bool)=>Passage.mk ⟨z.1,z.2.1⟩ ⟨z.2.2.1,z.2.2.2.1⟩ z.2.2.2.2.1 z.2.2.2.2.2 = oP (q.bind (psStep p c))) (fun z hz=>?_) (fun kk hk=>?_)
 rotate_left
 ·refine ZcG (fun hs=>Za1 i0 hpi (Za1 i0 hci ?_)) (fun hs=>hk _ ?_)
  ·cases q with
   | none=>rw [oP] at gq; unfold stopP at gq; simp only [Passage.mk.injEq] at gq; rw [gq.2.2.2] at hs; cases hs
   | some s=>
    rw [gq]
    refine ZaN (rstep_m (s:=s) rfl hpo hco (hq s rfl) (by omega)) (hk _ ?_)
    rfl
  ·cases q with
   | none=>exact gq
   | some s=>unfold oP toP at gq; simp only [Passage.mk.injEq] at gq; rw [gq.2.2.2] at hs; cases hs
 obtain ⟨a,b,c1,d,e,f⟩:=z
 dsimp only at hz ⊢
 have nxE:∀ s,q.bind (psStep p c) = some s→q.bind (psNext p c (tgOf p (m.Targets.drop k.toNat)) m.Error) = some ⟨s.ftime,brk p (tgOf p (m.Targets.drop k.toNat)) m.Error s.fenergy,s.fslow⟩:=fun s hs=>by
  cases q with
  | none=>cases hs
  | some s0=>rw [Option.bind_some] at hs ⊢; unfold psNext; rw [hs]; rfl
 have nxN:q.bind (psStep p c) = none→q.bind (psNext p c (tgOf p (m.Targets.drop k.toNat)) m.Error) = none:=fun hs=>by
  cases q with
  | none=>rfl
  | some s0=>rw [Option.bind_some] at hs ⊢; unfold psNext; rw [hs]; rfl
 have same:(¬ (0 < p.Power∧0 ≤ tgOf p (m.Targets.drop k.toNat)))→q.bind (psNext p c (tgOf p (m.Targets.drop k.toNat)) m.Error) = q.bind (psStep p c):=fun hh=>by
  cases hs:q.bind (psStep p c) with
  | none=>exact nxN hs
  | some s=>
   have eb:brk p (tgOf p (m.Targets.drop k.toNat)) m.Error s.fenergy = s.fenergy:=by unfold brk; rw [if_neg hh]
   rw [nxE s hs,eb]
 refine Za1 i0 hpi (Zat (fun hpp=>?_) (fun hpp=>?_))
 rotate_left
 ·exact go _ a b c1 d e f k (same (by omega)) hz (by rw [if_neg hpp])
 rw [if_pos hpp] at hki
 have hkk:k.toNat < m.Targets.length:=by omega
 have htk:=List.getElem?_eq_getElem hkk
 generalize m.Targets[k.toNat] = tg at htk
 have htt:=ht tg (Zfc htk)
 have etg:tgOf p (m.Targets.drop k.toNat) = tg:=by unfold tgOf; rw [if_pos hpp,ZbS htk]; rfl
 rw [Zaz (n:=k + 1) (by omega)]
 refine Zby (fun (z:Bool)=>z = true↔f = false∧0 ≤ tg) (fun z hzz=>?_) (fun kk hk=>?_)
 rotate_left
 ·refine ZcG (fun hs=>Za1 k0 htk (hk _ ?_)) (fun hs=>hk _ ?_)
  ·rw [decide_eq_true_iff]; exact ⟨fun h=>⟨hs,h⟩,fun h=>h.2⟩
  ·simp [hs]
 refine ok_b (fun hb=>?_) (fun hb=>?_)
 ·obtain ⟨hf0,ht0⟩:=hzz.1 hb
  refine Za1 i0 hpi (Za1 k0 htk ?_)
  cases hs:q.bind (psStep p c) with
  | none=>rw [hs] at hz; unfold oP stopP at hz; simp only [Passage.mk.injEq] at hz; rw [hz.2.2.2] at hf0; cases hf0
  | some s=>
   have hso:StOk s (i.toNat + 1):=by
    cases q with
    | none=>cases hs
    | some s0=>exact ZhQ hpo hco (hq s0 rfl) hs
   obtain ⟨a0,a1,a2,a3,a4,a5⟩:=hso
   have nx:=nxE s hs
   rw [hs] at hz
   unfold oP toP at hz
   simp only [Passage.mk.injEq] at hz
   obtain ⟨z1,z2,z3,z4⟩:=hz
   have hpw:=hpo.p
   rw [z2]
   refine ZaN (ZkD hpw ⟨ht0,htt.2⟩ her ⟨by omega,by omega⟩) ?_
   refine go _ a b _ _ e f (k + 1) nx ?_ (by rw [if_pos hpp])
   rw [etg]
   unfold oP toP brk
   rw [if_pos ⟨hpp,ht0⟩,← z1,z3,z4]
 ·by_cases hf1:f = true
  ·have hs:q.bind (psStep p c) = none:=by
    cases hs:q.bind (psStep p c) with
    | none=>rfl
    | some s=>rw [hs] at hz; unfold oP toP at hz; simp only [Passage.mk.injEq] at hz; rw [hz.2.2.2] at hf1; cases hf1
   rw [hs] at hz
   exact go _ a b c1 d e f (k + 1) (nxN hs) hz (by rw [if_pos hpp])
  ·refine go _ a b c1 d e f (k + 1) (same fun hh=>?_) hz (by rw [if_pos hpp])
   rw [etg] at hh
   rw [hzz.2 ⟨by simpa using hf1,hh.2⟩] at hb
   cases hb
theorem ZkL:∀ {ps:List Piece}{ws ts:List Int}{x:Moment},(ptRun ps ws ts x).length ≤ ps.length:=by
 intro ps
 induction ps with
 | nil=>intro ws ts x; simp [ptRun]
 | cons p ps ih=>
  intro ws ts x
  cases h:ptStep p (ws.headD 0) (tgOf p ts) x with
  | none=>rw [Zde h]; simp
  | some y=>rw [Zdd h,List.length_cons,List.length_cons]; have:=ih (ws:=ws.tail) (ts:=tsOf p ts) (x:=y); omega
theorem ZkO {ps:List Piece}{m:Motion}:(psOut ps m).1.length ≤ 1000000000:=by
 unfold psOut
 split
 ·simp
 ·rename_i h
  have hl:=(Zg3 (Decidable.not_not.1 h)).len
  split
  ·simp
  ·rw [Zj2]; omega
end Go.Hy
namespace Go.Hy
set_option linter.unusedVariables false
set_option linter.unusedSimpArgs false
set_option maxHeartbeats 2000000
set_option maxRecDepth 10000
open Go.Hy.Iv
theorem Zh7 {ps:List Piece}(h:PsOk ps):vE ps = 0:=by
 unfold vE
 have:ps.all pB = true:=by
  rw [List.all_eq_true]
  intro p hp
  have:=h.ok p hp
  exact decide_eq_true ⟨this.e,this.l,this.g,this.c,this.p⟩
 rw [if_pos h.len,if_pos this]
theorem ZkM {ps:List Piece}{r:Run}(hp:PsOk ps) (hr:RunOk ps r):ptOut ps r = (ptAll ps r,ptStop ps r,0):=by
 obtain ⟨h1,h2,h3,h4,h5⟩:=hr
 refine ptOut3 (Zh7 hp) ⟨h1,h2⟩ ⟨?_,h3,?_⟩
 ·rw [List.all_eq_true]; intro x hx; exact decide_eq_true (h4 x hx)
 ·rw [List.all_eq_true]; intro x hx; exact decide_eq_true (h5 x hx)
def setL (ps:List Piece) (n:Int):List Piece:=match ps[ps.length - 1]? with
 | none=>ps
 | some x=>ps.set (ps.length - 1) ⟨x.Element,n,x.Grade,x.Curve,x.Power⟩
theorem ZiD {ps:List Piece}{n:Int}{x:Piece}(hx:ps[ps.length - 1]? = some x) (hl:1 ≤ ps.length):(setL ps n).length = ps.length∧(setL ps n)[ps.length - 1]? = some ⟨x.Element,n,x.Grade,x.Curve,x.Power⟩∧∀ i,i ≠ ps.length - 1→(setL ps n)[i]? = ps[i]?:=by
 unfold setL
 rw [hx]
 dsimp only
 refine ⟨by simp,?_,fun i hi=>?_⟩
 ·rw [List.getElem?_set_self (by omega)]
 ·rw [List.getElem?_set_ne (by omega)]
theorem setL_ok {ps:List Piece}{n:Int}(h:PsOk ps) (hn:1 ≤ n∧n ≤ 1000000):PsOk (setL ps n):=by
 have hl:=h.len
 have hx:ps[ps.length - 1]? = some ps[ps.length - 1]:=List.getElem?_eq_getElem (by omega)
 generalize ps[ps.length - 1] = x at hx
 obtain ⟨g1,g2,g3⟩:=ZiD (n:=n) hx (by omega)
 refine ⟨by omega,fun p hp=>?_⟩
 obtain ⟨i,hi⟩:=List.getElem?_of_mem hp
 by_cases e:i = ps.length - 1
 ·subst e
  rw [g2] at hi
  cases hi
  have:=h.ok x (ZbH hx)
  exact ⟨this.e,hn,this.g,this.c,this.p⟩
 ·rw [g3 i e] at hi
  exact h.ok p (ZbH hi)
end Go.Hy
namespace Go.Hy
set_option linter.unusedVariables false
set_option linter.unusedSimpArgs false
set_option maxHeartbeats 2000000
set_option maxRecDepth 10000
open Go.Hy.Iv
def apE (ps:List Piece) (n:Int):List Piece×Int:=
 if vE ps ≠ 0 then ([],vE ps) else if n < 1∨1000000 < n then ([],2) else match ps[ps.length - 1]? with
  | none=>([],0)
  | some x=>if x.Length < n then ([],14) else (setL ps n,0)
theorem Zic {ps:List Piece}{n:Int}:Zc1 ps n = some (apE ps n):=by
 refine Ok.eq (?_:Ok _ _)
 unfold Zc1 apE
 refine ZaN Zef (Zat (fun h=>Zan (by rw [if_pos h])) (fun h=>?_))
 rw [if_neg h]
 have hl:=(Zg3 (Decidable.not_not.1 h)).len
 refine Zat (fun q=>Zan (by rw [if_pos (by omega)])) (fun q1=>Zat (fun q=>Zan (by rw [if_pos (by omega)])) (fun q2=>?_))
 rw [if_neg (by omega),Zaz (by omega)]
 have e:((ps.length:Int) - 1).toNat = ps.length - 1:=by omega
 refine Za5 (by omega) (by omega) fun x hx=>?_
 rw [e] at hx
 rw [hx]
 dsimp only
 refine Zat (fun q=>Zan (by rw [if_pos q])) (fun q=>?_)
 rw [if_neg q]
 refine Zbu (by simp only [List.length_nil]; omega) (Za8 fun y hy=>?_)
 rw [List.nil_append] at hy
 subst hy
 refine Za1 (by omega) (by rw [e]; exact hx) (Za8 fun z hz=>Zan ?_)
 rw [hz,e]
 unfold setL
 rw [hx]
def clN (ps:List Piece) (n:Int):Nat→Int→Int→Int
 | 0,_,_=>-1
 | f + 1,j,s=>if n ≤ s then j else match ps[(j + 1).toNat]? with
  | none=>-1
  | some p=>clN ps n f (j + 1) (s + p.Length)
def clr (ps:List Piece) (i n:Int):Int:=clN ps n (ps.length + 1) i 0
def lB (p:Piece):Bool:=decide (1 ≤ p.Length∧p.Length ≤ 1000000)
def clE (ps:List Piece) (i n:Int):Int:=if 0 ≤ i∧i < ps.length∧0 ≤ n∧n ≤ 1000000∧ps.all lB = true then clr ps i n else -1
theorem Zi2 {ps:List Piece}{n:Int}:∀ (f g:Nat) (j s:Int),0 ≤ j→(ps.length:Int) ≤ f + j→(ps.length:Int) ≤ g + j→1 ≤ f→1 ≤ g→clN ps n f j s = clN ps n g j s:=by
 intro f
 induction f with
 | zero=>intro g j s h0 h1 h2 h3; omega
 | succ f ih=>
  intro g j s h0 h1 h2 _ h4
  obtain ⟨g,rfl⟩:∃ g',g = g' + 1:=⟨g - 1,by omega⟩
  unfold clN
  by_cases h:n ≤ s
  ·rw [if_pos h,if_pos h]
  ·rw [if_neg h,if_neg h]
   cases hx:ps[(j + 1).toNat]? with
   | none=>rfl
   | some p=>
    dsimp only
    have:=ZbQ hx
    exact ih g (j + 1) _ (by omega) (by omega) (by omega) (by omega) (by omega)
theorem Clear_e {ps:List Piece}{i n:Int}(hl:ps.length ≤ 1000000000):Zck ps i n = some (clE ps i n):=by
 refine Ok.eq (?_:Ok _ _)
 unfold Zck clE
 refine Zat (fun q=>Zan (by rw [if_neg (by omega)])) (fun q1=>Zat (fun q=>Zan (by rw [if_neg (by omega)])) (fun q2=>Zat (fun q=>Zan (by rw [if_neg (by omega)])) (fun q3=>Zat (fun q=>Zan (by rw [if_neg (by omega)])) (fun q4=>?_))))
 refine Zby (fun _=>ps.all lB = true) (fun _ ha=>?_) (fun k hk=>?_)
 rotate_left
 ·refine Zbi (fun (z:Int)=>Scan lB ps z) (fun z=>((ps.length:Int) - z).toNat) Scan.zero (by simp only [ZaY]; omega) ?_
  intro z next hz hn
  have z0:=hz.1
  refine Zat (fun h=>Za5 z0 h fun a ha=>?_) (fun h=>hk _ (hz.done h))
  have bad:lB a = false→Ok (some (-1:Int)) (fun v=>v = if 0 ≤ i∧i < ps.length∧0 ≤ n∧n ≤ 1000000∧ps.all lB = true then clr ps i n else -1):=fun h=>Zan (by rw [if_neg (by rw [ZeA ha h]; simp)])
  refine Zat (fun q=>bad (decide_eq_false (by omega))) (fun q5=>Zat (fun q=>bad (decide_eq_false (by omega))) (fun q6=>?_))
  rw [Zaz (by omega)]
  exact hn _ (hz.step ha (decide_eq_true (by omega))) (by omega)
 rw [if_pos ⟨by omega,by omega,by omega,by omega,ha⟩]
 rw [List.all_eq_true] at ha
 refine Zbi (fun (z:Int×Int)=>i ≤ z.1∧z.1 < ps.length∧0 ≤ z.2∧z.2 ≤ 2000000∧clN ps n (ps.length + 1) z.1 z.2 = clr ps i n) (fun z=>((ps.length:Int) - z.1).toNat) ⟨by dsimp only; omega,by dsimp only; omega,by dsimp only; omega,by dsimp only; omega,rfl⟩ (by simp only [ZaY]; omega) ?_
 rintro ⟨j,s⟩ next ⟨j0,j1,s0,s1,hc⟩ hn
 dsimp only at j0 j1 s0 s1 hc ⊢
 rw [Zaz (n:=j + 1) (by omega)]
 have hce:=hc
 unfold clN at hc
 refine Zat (fun h=>?_) (fun h=>Zan (by rw [if_pos (by omega)] at hc; exact hc))
 rw [if_neg (by omega)] at hc
 refine Zat (fun h1=>Zan ?_) (fun h1=>Za5 (by omega) (by omega) fun p hp=>?_)
 ·rw [List.getElem?_eq_none (by omega)] at hc
  exact hc
 rw [hp] at hc
 dsimp only at hc
 have hpl:=of_decide_eq_true (ha p (ZbH hp))
 rw [Zaz (n:=s + p.Length) (by omega)]
 refine hn _ ⟨by dsimp only; omega,by dsimp only; omega,by dsimp only; omega,by dsimp only; omega,?_⟩ (by dsimp only; omega)
 dsimp only
 rw [← hc]
 exact Zi2 _ _ _ _ (by omega) (by omega) (by omega) (by omega) (by omega)
theorem Zhe {ps:List Piece}{i n:Int}(hl:ps.length ≤ 1000000000):Zdk ps i n = some (clE ps i n):=by
 refine Ok.eq (?_:Ok _ _)
 unfold Zdk clE
 refine Zat (fun q=>Zan (by rw [if_neg (by omega)])) (fun q1=>Zat (fun q=>Zan (by rw [if_neg (by omega)])) (fun q2=>Zat (fun q=>Zan (by rw [if_neg (by omega)])) (fun q3=>Zat (fun q=>Zan (by rw [if_neg (by omega)])) (fun q4=>?_))))
 refine Zby (fun _=>ps.all lB = true) (fun _ ha=>?_) (fun k hk=>?_)
 rotate_left
 ·refine Zbi (fun (z:Int)=>Scan lB ps z) (fun z=>((ps.length:Int) - z).toNat) Scan.zero (by simp only [ZaY]; omega) ?_
  intro z next hz hn
  have z0:=hz.1
  refine Zat (fun h=>Za5 z0 h fun a ha=>?_) (fun h=>hk _ (hz.done h))
  have bad:lB a = false→Ok (some (-1:Int)) (fun v=>v = if 0 ≤ i∧i < ps.length∧0 ≤ n∧n ≤ 1000000∧ps.all lB = true then clr ps i n else -1):=fun h=>Zan (by rw [if_neg (by rw [ZeA ha h]; simp)])
  refine Zat (fun q=>bad (decide_eq_false (by omega))) (fun q5=>Za1 z0 ha (Zat (fun q=>bad (decide_eq_false (by omega))) (fun q6=>?_)))
  rw [Zaz (by omega)]
  exact hn _ (hz.step ha (decide_eq_true (by omega))) (by omega)
 rw [if_pos ⟨by omega,by omega,by omega,by omega,ha⟩]
 rw [List.all_eq_true] at ha
 refine Zbi (fun (z:Int×Int)=>i ≤ z.2∧z.2 ≤ ps.length∧0 ≤ z.1∧z.1 ≤ 2000000∧(z.2 = i→z.1 = 0)∧(i < z.2→z.1 < n∧clN ps n (ps.length + 1) (z.2 - 1) z.1 = clr ps i n)) (fun z=>((ps.length:Int) - z.2).toNat) ⟨by dsimp only; omega,by dsimp only; omega,by dsimp only; omega,by dsimp only; omega,fun _=>rfl,fun h=>by dsimp only at h; omega⟩ (by simp only [ZaY]; omega) ?_
 rintro ⟨s,j⟩ next ⟨j0,j1,s0,s1,hz,hc⟩ hn
 dsimp only at j0 j1 s0 s1 hz hc ⊢
 rw [Zaz (n:=j + 1) (by omega)]
 refine Zat (fun h=>?_) (fun h=>Zan ?_)
 rotate_left
 ·obtain ⟨c1,c2⟩:=hc (by omega)
  unfold clN at c2
  rw [if_neg (by omega),List.getElem?_eq_none (by omega)] at c2
  exact c2
 refine Zat (fun h1=>Za5 (by omega) h fun p hp=>?_) (fun h1=>?_)
 ·obtain ⟨c1,c2⟩:=hc h1
  unfold clN at c2
  have ej:j - 1 + 1 = j:=by omega
  rw [if_neg (by omega),ej,hp] at c2
  dsimp only at c2
  have hpl:=of_decide_eq_true (ha p (ZbH hp))
  rw [Zaz (n:=s + p.Length) (by omega)]
  have c3:clN ps n (ps.length + 1) j (s + p.Length) = clr ps i n:=by
   rw [← c2]
   exact Zi2 _ _ _ _ (by omega) (by omega) (by omega) (by omega) (by omega)
  refine Zat (fun h2=>Zan ?_) (fun h2=>?_)
  ·unfold clN at c3; rw [if_pos h2] at c3; exact c3
  ·refine hn _ ⟨by dsimp only; omega,by dsimp only; omega,by dsimp only; omega,by dsimp only; omega,fun h=>by dsimp only at h; omega,fun _=>⟨by dsimp only; omega,?_⟩⟩ (by dsimp only; omega)
   dsimp only
   rw [show j + 1 - 1 = j from by omega]
   exact c3
 ·have eji:j = i:=by omega
  have es:=hz eji
  refine Zat (fun h2=>Zan ?_) (fun h2=>?_)
  ·unfold clr clN; rw [if_pos (by omega)]; exact eji
  ·refine hn _ ⟨by dsimp only; omega,by dsimp only; omega,by dsimp only; omega,by dsimp only; omega,fun h=>by dsimp only at h; omega,fun _=>⟨by dsimp only; omega,?_⟩⟩ (by dsimp only; omega)
   dsimp only
   rw [show j + 1 - 1 = j from by omega,es,eji]
   rfl
theorem clN_rng {ps:List Piece}{n:Int}:∀ (f:Nat) (j s:Int),0 ≤ j→j < ps.length→clN ps n f j s = -1∨(j ≤ clN ps n f j s∧clN ps n f j s < ps.length):=by
 intro f
 induction f with
 | zero=>intro j s _ _; left; rfl
 | succ f ih=>
  intro j s h0 h1
  unfold clN
  by_cases h:n ≤ s
  ·rw [if_pos h]; right; omega
  ·rw [if_neg h]
   cases hx:ps[(j + 1).toNat]? with
   | none=>left; rfl
   | some p=>
    dsimp only
    have:=ZbQ hx
    rcases ih (j + 1) (s + p.Length) (by omega) (by omega) with h | h
    ·exact .inl h
    ·right; omega
theorem PsOk.lb {ps:List Piece}(h:PsOk ps):ps.all lB = true:=by
 rw [List.all_eq_true]
 exact fun p hp=>decide_eq_true (h.ok p hp).l
theorem Zi3 {ps:List Piece}{i n:Int}(hp:PsOk ps) (hi:0 ≤ i∧i < ps.length) (hn:0 ≤ n∧n ≤ 1000000):clE ps i n = clr ps i n:=by
 unfold clE; rw [if_pos ⟨hi.1,hi.2,hn.1,hn.2,hp.lb⟩]
theorem clr_rng {ps:List Piece}{i n:Int}(hi:0 ≤ i∧i < ps.length):clr ps i n = -1∨(i ≤ clr ps i n∧clr ps i n < ps.length):=clN_rng _ i 0 hi.1 hi.2
def bhs (ps:List Piece) (n:Int):List Int:=(List.range (ps.length - 1)).map fun (i:Nat)=>clr ps i n
def inB (l:List Element) (p:Piece):Bool:=decide (p.Element < l.length)
def nnB (v:Int):Bool:=decide (0 ≤ v)
def bE (l:List Element) (ps:List Piece) (ok:Bool) (n:Int):Int:=
 if vE ps ≠ 0 then vE ps else if n < 1∨1000000 < n then 2 else if ok = true∧ps.all (inB l) = true then (if (bhs ps n).all nnB = true then 0 else 14) else 1
theorem Zht {ps:List Piece}{n:Int}{i:Nat}(h:i + 1 < ps.length):(bhs ps n)[i]? = some (clr ps i n):=by
 unfold bhs
 rw [List.getElem?_map,List.getElem?_range (by omega)]
 rfl
theorem Ziw {ps:List Piece}{n:Int}:(bhs ps n).length = ps.length - 1:=by unfold bhs; simp
theorem Zk8 {l:List Element}{ps:List Piece}{pts least n:Int}:Zca l ps pts least n = some (if bE l ps (decide (least ≤ pts∧pts ≤ ps.length + 1)) n ≠ 0 then ([],bE l ps (decide (least ≤ pts∧pts ≤ ps.length + 1)) n) else (bhs ps n,0)):=by
 refine Ok.eq (?_:Ok _ _)
 generalize hE:bE l ps (decide (least ≤ pts∧pts ≤ ps.length + 1)) n = E
 unfold bE at hE
 unfold Zca
 refine ZaN Zlb (Zat (fun h=>Zan ?_) (fun h=>?_))
 ·rw [if_pos h] at hE; rw [← hE,if_pos h]
 rw [if_neg h] at hE
 have hp:=Zg3 (Decidable.not_not.1 h)
 have hl:=hp.len
 have e2:n < 1∨1000000 < n→Ok (some (([]:List Int),(2:Int))) (fun v=>v = if E ≠ 0 then ([],E) else (bhs ps n,0)):=fun h=>Zan (by rw [if_pos h] at hE; rw [← hE]; rfl)
 refine Zat (fun q=>e2 (by omega)) (fun q1=>Zat (fun q=>e2 (by omega)) (fun q2=>?_))
 rw [if_neg (by omega)] at hE
 have e1:¬ (decide (least ≤ pts∧pts ≤ (ps.length:Int) + 1) = true∧ps.all (inB l) = true)→Ok (some (([]:List Int),(1:Int))) (fun v=>v = if E ≠ 0 then ([],E) else (bhs ps n,0)):=fun h=>Zan (by rw [if_neg h] at hE; rw [← hE]; rfl)
 rw [Zaz (n:=(ps.length:Int) + 1) (by omega)]
 refine Zat (fun q=>e1 (fun hh=>by have:=of_decide_eq_true hh.1; omega)) (fun q3=>Zat (fun q=>e1 (fun hh=>by have:=of_decide_eq_true hh.1; omega)) (fun q4=>?_))
 refine Zby (fun _=>ps.all (inB l) = true) (fun _ ha=>?_) (fun k hk=>?_)
 rotate_left
 ·refine Zbi (fun (z:Int)=>Scan (inB l) ps z) (fun z=>((ps.length:Int) - z).toNat) Scan.zero (by simp only [ZaY]; omega) ?_
  intro z next hz hn
  have z0:=hz.1
  refine Zat (fun h=>Za5 z0 h fun a ha=>?_) (fun h=>hk _ (hz.done h))
  have hae:=(hp.ok a (ZbH ha)).e
  refine Zdl (by omega) (Zat (fun q=>e1 (fun hh=>by rw [ZeA ha (decide_eq_false (by omega))] at hh; cases hh.2)) (fun q=>?_))
  rw [Zaz (by omega)]
  exact hn _ (hz.step ha (decide_eq_true (by omega))) (by omega)
 rw [if_pos ⟨decide_eq_true (by omega),ha⟩] at hE
 refine Zbi (fun (z:List Int×Int)=>0 ≤ z.2∧z.2 ≤ ps.length - 1∧z.1 = (bhs ps n).take z.2.toNat∧((bhs ps n).take z.2.toNat).all nnB = true) (fun z=>((ps.length:Int) - z.2).toNat) ⟨Int.le_refl 0,by dsimp only; omega,by simp,by simp⟩ (by simp only [ZaY]; omega) ?_
 rintro ⟨out,i⟩ next ⟨i0,i1,ho,hnn⟩ hn
 dsimp only at i0 i1 ho hnn ⊢
 have hbl:=Ziw (ps:=ps) (n:=n)
 rw [Zaz (n:=i + 1) (by omega)]
 refine Zat (fun hi=>?_) (fun hi=>Zan ?_)
 rotate_left
 ·rw [List.take_of_length_le (by omega)] at ho hnn
  rw [if_pos hnn] at hE
  rw [← hE,ho]
  rfl
 have hg:=Zht (ps:=ps) (n:=n) (i:=i.toNat) (by omega)
 rw [show ((i.toNat:Nat):Int) = i from by omega] at hg
 refine ZaN (Clear_e (by omega)) ?_
 rw [Zi3 hp (by omega) (by omega)]
 refine Zat (fun hc=>Zan ?_) (fun hc=>?_)
 ·have:¬ (bhs ps n).all nnB = true:=fun hh=>by
   rw [ZeA hg (decide_eq_false (by omega))] at hh; cases hh
  rw [if_neg this] at hE
  rw [← hE]
  rfl
 ·refine Zbu (by rw [ho]; simp only [List.length_take,List.length_cons,List.length_nil]; omega) (Za8 fun y hy=>?_)
  have ei:(i + 1).toNat = i.toNat + 1:=by omega
  refine hn _ ⟨by dsimp only; omega,by dsimp only; omega,by dsimp only; rw [hy,ei,Zcy hg,ho],?_⟩ (by dsimp only; omega)
  dsimp only
  rw [ei,Zcy hg,List.all_append,hnn]
  simp only [List.all_cons,List.all_nil,Bool.and_true,Bool.true_and]
  exact decide_eq_true (by omega)
theorem Zhd {l:List Element}{ps:List Piece}{ok:Bool}{n:Int}:Zdj l ps ok n = some (bE l ps ok n):=by
 refine Ok.eq (?_:Ok _ _)
 unfold Zdj bE
 refine ZaN Zef (Zat (fun h=>Zan (by rw [if_pos h])) (fun h=>?_))
 rw [if_neg h]
 have hp:=Zg3 (Decidable.not_not.1 h)
 have hl:=hp.len
 refine Zat (fun q=>Zan (by rw [if_pos (by omega)])) (fun q1=>Zat (fun q=>Zan (by rw [if_pos (by omega)])) (fun q2=>?_))
 rw [if_neg (by omega)]
 refine Zby (fun (b:Bool)=>b = true↔(ok = true∧ps.all (inB l) = true)) (fun b hb=>?_) (fun k hk=>?_)
 rotate_left
 ·refine Zbi (fun (y:Bool×Int)=>0 ≤ y.2∧(y.1 = true↔ok = true∧(ps.take y.2.toNat).all (inB l) = true)) (fun y=>((ps.length:Int) - y.2).toNat) ⟨Int.le_refl 0,by simp⟩ (by simp only [ZaY]; omega) ?_
  rintro ⟨b,i⟩ next ⟨i0,hb⟩ hn
  dsimp only at i0 hb ⊢
  refine Zat (fun hi=>?_) (fun hi=>?_)
  rotate_left
  ·rw [List.take_of_length_le (by omega)] at hb
   exact hk _ hb
  rw [Zaz (by omega)]
  have hii:i.toNat < ps.length:=by omega
  have ha:=List.getElem?_eq_getElem hii
  generalize ps[i.toNat] = a at ha
  have ei:(i + 1).toNat = i.toNat + 1:=by omega
  have nx:∀ c:Bool,(c = true↔b = true∧inB l a = true)→Ok (next (c,i + 1)) (fun v=>v = if ok = true∧ps.all (inB l) = true then (if (bhs ps n).all nnB = true then 0 else 14) else 1):=fun c hc=>hn _ ⟨by dsimp only; omega,by
   dsimp only
   rw [hc,hb,ei,Zcy ha,List.all_append]
   simp [and_assoc]⟩ (by dsimp only; omega)
  refine ok_b (fun h=>Za1 i0 ha (nx _ ?_)) (fun h=>nx _ ?_)
  ·unfold inB; simp [h]
  ·simp [h]
 refine ZcG (fun h=>Zan ?_) (fun h=>?_)
 ·rw [if_neg]
  intro hh
  rw [hb.2 hh] at h; cases h
 rw [if_pos (hb.1 h)]
 refine Zbi (fun (z:Int)=>0 ≤ z∧z ≤ ps.length - 1∧((bhs ps n).take z.toNat).all nnB = true) (fun z=>((ps.length:Int) - z).toNat) ⟨Int.le_refl 0,by omega,by simp⟩ (by simp only [ZaY]; omega) ?_
 intro i next ⟨i0,i1,hnn⟩ hn
 have hbl:=Ziw (ps:=ps) (n:=n)
 rw [Zaz (n:=i + 1) (by omega)]
 refine Zat (fun hi=>?_) (fun hi=>Zan ?_)
 rotate_left
 ·rw [List.take_of_length_le (by omega)] at hnn
  rw [if_pos hnn]
 have hg:=Zht (ps:=ps) (n:=n) (i:=i.toNat) (by omega)
 rw [show ((i.toNat:Nat):Int) = i from by omega] at hg
 refine ZaN (Zhe (by omega)) ?_
 rw [Zi3 hp (by omega) (by omega)]
 refine Zat (fun hc=>Zan ?_) (fun hc=>?_)
 ·rw [if_neg]
  intro hh
  rw [ZeA hg (decide_eq_false (by omega))] at hh; cases hh
 ·have ei:(i + 1).toNat = i.toNat + 1:=by omega
  refine hn _ ⟨by omega,by omega,?_⟩ (by omega)
  rw [ei,Zcy hg,List.all_append,hnn]
  simp only [List.all_cons,List.all_nil,Bool.and_true,Bool.true_and]
  exact decide_eq_true (by omega)
def sdOf (l:List Element) (ps:List Piece) (i:Nat):Int:=match ps[i]? with
 | none=>0
 | some p=>match l[p.Element.toNat]? with
  | none=>0
  | some x=>if x.Kind = 3 then (match ps[i + 1]? with
   | none=>0
   | some q=>match l[q.Element.toNat]? with
    | none=>0
    | some y=>y.Side) else 0
def elOf (ps:List Piece) (i:Nat):Int:=match ps[i]? with
 | none=>0
 | some p=>p.Element
def toP2 (p:List Passage) (j:Int):Int:=match p[j.toNat]? with
 | none=>1000000000
 | some q=>if q.Stops = true then 1000000000 else q.Time.Hi
def spF (l:List Element) (ps:List Piece) (p:List Passage) (n:Int) (i:Nat):Option Span:=match p[i]? with
 | none=>none
 | some x=>if x.Stops = true then none else some ⟨elOf ps i,sdOf l ps i,x.Time.Lo,toP2 p (clr ps i n + 1)⟩
def toM (m:List Moment) (j:Int):Int:=match m[j.toNat]? with
 | none=>1000000000
 | some q=>q.Time
def exF (l:List Element) (ps:List Piece) (m:List Moment) (n:Int) (i:Nat):Option Span:=match m[i]? with
 | none=>none
 | some x=>some ⟨elOf ps i,sdOf l ps i,x.Time,toM m (clr ps i n + 1)⟩
def rows (f:Nat→Option Span):Nat→Nat→List Span
 | 0,_=>[]
 | k + 1,i=>match f i with
  | none=>[]
  | some s=>s :: rows f k (i + 1)
theorem ZeO {f:Nat→Option Span}{k i:Nat}(h:f i = none):rows f k i = []:=by
 cases k with
 | zero=>rfl
 | succ k=>unfold rows; rw [h]
theorem ZdX {f:Nat→Option Span}{k i:Nat}{s:Span}(h:f i = some s):rows f (k + 1) i = s :: rows f k (i + 1):=by rw [rows,h]
def spE (l:List Element) (ps:List Piece) (p:List Passage) (n:Int):List Span×Int:=
 if bE l ps (decide (p.length = ps.length + 1)) n ≠ 0 then ([],bE l ps (decide (p.length = ps.length + 1)) n) else (rows (spF l ps p n) (ps.length - 1) 0,0)
def exE (l:List Element) (ps:List Piece) (m:List Moment) (n:Int):List Span×Int:=
 if bE l ps (decide (1 ≤ m.length∧m.length ≤ ps.length + 1)) n ≠ 0 then ([],bE l ps (decide (1 ≤ m.length∧m.length ≤ ps.length + 1)) n) else (rows (exF l ps m n) (ps.length - 1) 0,0)
structure Chk (l:List Element) (ps:List Piece) (n:Int):Prop where
 p:PsOk ps
 nb:1 ≤ n∧n ≤ 1000000
 e:∀ p∈ps,0 ≤ p.Element∧p.Element < l.length
 c:∀ i:Nat,i + 1 < ps.length→(i:Int) ≤ clr ps i n∧clr ps i n < ps.length
theorem Zk9 {l:List Element}{ps:List Piece}{ok:Bool}{n:Int}(h:bE l ps ok n = 0):Chk l ps n∧ok = true:=by
 unfold bE at h
 split at h
 ·rename_i h1; exact absurd h h1
 rename_i h1
 have hp:=Zg3 (Decidable.not_not.1 h1)
 split at h
 ·cases h
 rename_i h2
 split at h
 ·rename_i h3
  split at h
  ·rename_i h4
   rw [List.all_eq_true] at h4
   have h5:=List.all_eq_true.1 h3.2
   refine ⟨⟨hp,by omega,fun p hp2=>⟨(hp.ok p hp2).e.1,of_decide_eq_true (h5 p hp2)⟩,fun i hi=>?_⟩,h3.1⟩
   have:=of_decide_eq_true (h4 _ (ZbH (Zht (n:=n) hi)))
   rcases clr_rng (ps:=ps) (i:=i) (n:=n) (by omega) with h | h <;> omega
  ·cases h
 ·cases h
theorem span_m {l:List Element}{ps:List Piece}{n:Int}(h:Chk l ps n){i:Int}(i0:0 ≤ i) (i1:i + 1 < ps.length):Zcu l ps i = some ⟨elOf ps i.toNat,sdOf l ps i.toNat,0,1000000000⟩:=by
 refine Ok.eq (?_:Ok _ _)
 have hl:=h.p.len
 unfold Zcu elOf sdOf
 have e:(i + 1).toNat = i.toNat + 1:=by omega
 refine Za5 i0 (by omega) fun p hp=>?_
 have hpe:=h.e p (ZbH hp)
 rw [hp]
 refine Za5 hpe.1 hpe.2 fun x hx=>?_
 dsimp only
 rw [hx]
 dsimp only
 refine Zat (fun hk=>?_) (fun hk=>Zan (by rw [if_neg hk]))
 rw [if_pos hk,Zaz (by omega)]
 refine Za5 (by omega) i1 fun q hq=>?_
 have hqe:=h.e q (ZbH hq)
 refine Za5 hqe.1 hqe.2 fun y hy=>Zan ?_
 rw [e] at hq
 rw [hq]
 dsimp only
 rw [hy]
theorem ZjN {l:List Element}{ps:List Piece}{n:Int}(h:Chk l ps n){i:Int}(i0:0 ≤ i) (i1:i + 1 < ps.length):Zee l ps i = some (sdOf l ps i.toNat):=by
 refine Ok.eq (?_:Ok _ _)
 have hl:=h.p.len
 unfold Zee sdOf
 have e:(i + 1).toNat = i.toNat + 1:=by omega
 refine Za5 i0 (by omega) fun p hp=>?_
 have hpe:=h.e p (ZbH hp)
 rw [hp]
 refine Za5 hpe.1 hpe.2 fun x hx=>?_
 dsimp only
 rw [hx]
 dsimp only
 refine Zat (fun hk=>Zan (by rw [if_neg hk])) (fun hk=>?_)
 rw [if_pos (Decidable.not_not.1 hk),Zaz (by omega)]
 refine Za5 (by omega) i1 fun q hq=>?_
 have hqe:=h.e q (ZbH hq)
 refine Za5 hqe.1 hqe.2 fun y hy=>Zan ?_
 rw [e] at hq
 rw [hq]
 dsimp only
 rw [hy]
theorem ZkF {l:List Element}{ps:List Piece}{p:List Passage}{n:Int}(hpl:p.length ≤ 1000000000):Zd0 l ps p n = some (spE l ps p n):=by
 refine Ok.eq (?_:Ok _ _)
 have eqE:bE l ps (decide ((p.length:Int) = w64 ((ps.length:Int) + 1))) n = bE l ps (decide (p.length = ps.length + 1)) n:=by
  by_cases hv:vE ps ≠ 0
  ·unfold bE; rw [if_pos hv,if_pos hv]
  ·have:=(Zg3 (Decidable.not_not.1 hv)).len
   rw [Zaz (by omega)]
   congr 1
   exact decide_eq_decide.2 (by omega)
 unfold Zd0 spE
 refine ZaN Zhd ?_
 rw [eqE]
 refine Zat (fun h=>Zan (by rw [if_pos h])) (fun hb=>?_)
 rw [if_neg hb]
 obtain ⟨hc,hok⟩:=Zk9 (Decidable.not_not.1 hb)
 have hpp:p.length = ps.length + 1:=of_decide_eq_true hok
 have hl:=hc.p.len
 refine Zbi (fun (z:List Span×Int)=>0 ≤ z.2∧z.2 ≤ ps.length - 1∧z.1.length = z.2.toNat∧z.1 ++ rows (spF l ps p n) (ps.length - 1 - z.2.toNat) z.2.toNat = rows (spF l ps p n) (ps.length - 1) 0) (fun z=>((ps.length:Int) - z.2).toNat) ⟨Int.le_refl 0,by dsimp only; omega,rfl,rfl⟩ (by simp only [ZaY]; omega) ?_
 rintro ⟨out,i⟩ next ⟨i0,i1,ol,hf⟩ hn
 dsimp only at i0 i1 ol hf ⊢
 rw [Zaz (n:=i + 1) (by omega)]
 refine Zat (fun hi=>?_) (fun hi=>Zan ?_)
 rotate_left
 ·rw [show ps.length - 1 - i.toNat = 0 from by omega] at hf
  simp only [rows,List.append_nil] at hf
  rw [hf]
 have ez:((i.toNat:Nat):Int) = i:=by omega
 have hcr:=hc.c i.toNat (by omega)
 refine Za5 i0 (by omega) fun x hx=>ZcG (fun hs=>Za5 i0 (by omega) fun pc hpc=>?_) (fun hs=>Zan ?_)
 rotate_left
 ·have:spF l ps p n i.toNat = none:=by unfold spF; rw [hx]; dsimp only; rw [if_pos hs]
  rw [ZeO this,List.append_nil] at hf
  rw [hf]
 have epc:pc.Element = elOf ps i.toNat:=by unfold elOf; rw [hpc]
 refine ZaN (ZjN hc i0 (by omega)) (Za1 i0 hx (ZaN (Zhe (by omega)) ?_))
 have ecl:clr ps i n = clr ps (i.toNat:Int) n:=by rw [ez]
 rw [Zi3 hc.p (by omega) (by have:=hc.nb; omega),epc,ecl]
 rw [Zaz (n:=clr ps i.toNat n + 1) (by omega)]
 have ei:(i + 1).toNat = i.toNat + 1:=by omega
 have go:∀ t,t = toP2 p (clr ps i.toNat n + 1)→Ok (ck (decide (out.length + ([Span.mk (elOf ps i.toNat) (sdOf l ps i.toNat) x.Time.Lo t]:List Span).length ≤ 1000000000)) <| vl (out ++ ([Span.mk (elOf ps i.toNat) (sdOf l ps i.toNat) x.Time.Lo t]:List Span)) fun y=>next (y,i + 1)) (fun v=>v = (rows (spF l ps p n) (ps.length - 1) 0,0)):=fun t ht=>by
  refine Zbu (by simp only [List.length_cons,List.length_nil]; omega) (Za8 fun y hy=>?_)
  have hsf:spF l ps p n i.toNat = some (Span.mk (elOf ps i.toNat) (sdOf l ps i.toNat) x.Time.Lo t):=by
   unfold spF; rw [hx]; dsimp only; rw [if_neg (by rw [hs]; decide),ht]
  rw [show ps.length - 1 - i.toNat = (ps.length - 1 - (i.toNat + 1)) + 1 from by omega,ZdX hsf] at hf
  refine hn _ ⟨by dsimp only; omega,by dsimp only; omega,by dsimp only; rw [hy]; simp; omega,?_⟩ (by dsimp only; omega)
  dsimp only
  rw [hy,ei,List.append_assoc]
  exact hf
 refine Za5 (by omega) (by omega) fun q hq=>ZcG (fun hqs=>go _ ?_) (fun hqs=>go _ ?_)
 ·unfold toP2; rw [hq]; dsimp only; rw [if_neg (by rw [hqs]; decide)]
 ·unfold toP2; rw [hq]; dsimp only; rw [if_pos hqs]
theorem Exact_e {l:List Element}{ps:List Piece}{m:List Moment}{n:Int}(hml:m.length ≤ 1000000000):Zcj l ps m n = some (exE l ps m n):=by
 refine Ok.eq (?_:Ok _ _)
 have eqE:decide ((1:Int) ≤ (m.length:Int)∧(m.length:Int) ≤ (ps.length:Int) + 1) = decide (1 ≤ m.length∧m.length ≤ ps.length + 1):=decide_eq_decide.2 (by omega)
 unfold Zcj exE
 refine ZaN Zk8 ?_
 rw [eqE]
 refine Zat (fun h=>?_) (fun h=>?_)
 ·by_cases hb:bE l ps (decide (1 ≤ m.length∧m.length ≤ ps.length + 1)) n ≠ 0
  ·rw [if_pos hb,if_pos hb] at *; exact Zan rfl
  ·rw [if_neg hb] at h; exact absurd rfl h
 have hb:¬ bE l ps (decide (1 ≤ m.length∧m.length ≤ ps.length + 1)) n ≠ 0:=fun hb=>by rw [if_pos hb] at h; exact h hb
 rw [if_neg hb,if_neg hb]
 obtain ⟨hc,hok⟩:=Zk9 (Decidable.not_not.1 hb)
 have hpp:=of_decide_eq_true hok
 have hl:=hc.p.len
 have hbl:=Ziw (ps:=ps) (n:=n)
 dsimp only
 refine Zbi (fun (z:List Span×Int)=>0 ≤ z.2∧z.2 ≤ ps.length - 1∧z.1.length = z.2.toNat∧z.1 ++ rows (exF l ps m n) (ps.length - 1 - z.2.toNat) z.2.toNat = rows (exF l ps m n) (ps.length - 1) 0) (fun z=>((ps.length:Int) - z.2).toNat) ⟨Int.le_refl 0,by dsimp only; omega,rfl,rfl⟩ (by simp only [ZaY]; omega) ?_
 rintro ⟨out,i⟩ next ⟨i0,i1,ol,hf⟩ hn
 dsimp only at i0 i1 ol hf ⊢
 refine Zat (fun hi=>?_) (fun hi=>Zan ?_)
 rotate_left
 ·rw [show ps.length - 1 - i.toNat = 0 from by omega] at hf
  simp only [rows,List.append_nil] at hf
  rw [hf]
 have hg:=Zht (ps:=ps) (n:=n) (i:=i.toNat) (by omega)
 have hcr:=hc.c i.toNat (by omega)
 refine Za1 i0 hg (Zat (fun hs=>Zan ?_) (fun hs=>?_))
 ·have:exF l ps m n i.toNat = none:=by unfold exF; rw [List.getElem?_eq_none (by omega)]
  rw [ZeO this,List.append_nil] at hf
  rw [hf]
 refine ZaN (span_m hc i0 (by omega)) (Za5 i0 (by omega) fun x hx=>?_)
 rw [Zaz (n:=clr ps i.toNat n + 1) (by omega),Zaz (n:=i + 1) (by omega)]
 have ei:(i + 1).toNat = i.toNat + 1:=by omega
 have go:∀ t,t = toM m (clr ps i.toNat n + 1)→Ok (ck (decide (out.length + ([Span.mk (elOf ps i.toNat) (sdOf l ps i.toNat) x.Time t]:List Span).length ≤ 1000000000)) <| vl (out ++ ([Span.mk (elOf ps i.toNat) (sdOf l ps i.toNat) x.Time t]:List Span)) fun y=>next (y,i + 1)) (fun v=>v = (rows (exF l ps m n) (ps.length - 1) 0,0)):=fun t ht=>by
  refine Zbu (by simp only [List.length_cons,List.length_nil]; omega) (Za8 fun y hy=>?_)
  have hsf:exF l ps m n i.toNat = some (Span.mk (elOf ps i.toNat) (sdOf l ps i.toNat) x.Time t):=by
   unfold exF; rw [hx,ht]
  rw [show ps.length - 1 - i.toNat = (ps.length - 1 - (i.toNat + 1)) + 1 from by omega,ZdX hsf] at hf
  refine hn _ ⟨by dsimp only; omega,by dsimp only; omega,by dsimp only; rw [hy]; simp; omega,?_⟩ (by dsimp only; omega)
  dsimp only
  rw [hy,ei,List.append_assoc]
  exact hf
 refine Zat (fun h1=>Za5 (by omega) h1 fun q hq=>go _ ?_) (fun h1=>go _ ?_)
 ·unfold toM; rw [hq]
 ·unfold toM; rw [List.getElem?_eq_none (by omega)]
theorem ZkI {l:List Element}{ps:List Piece}{m:List Moment}{n:Int}(hml:m.length ≤ 1000000000):Zd1 l ps m n = some (exE l ps m n):=by
 refine Ok.eq (?_:Ok _ _)
 unfold Zd1
 refine Zby (fun _=>bE l ps (decide (1 ≤ m.length∧m.length ≤ ps.length + 1)) n = 0) (fun _ hb=>?_) (fun k hk=>?_)
 rotate_left
 ·refine Zat (fun h1=>ZaN Zhd ?_) (fun h1=>ZaN Zhd ?_)
  ·have eqE:bE l ps (decide ((m.length:Int) ≤ w64 ((ps.length:Int) + 1))) n = bE l ps (decide (1 ≤ m.length∧m.length ≤ ps.length + 1)) n:=by
    by_cases hv:vE ps ≠ 0
    ·unfold bE; rw [if_pos hv,if_pos hv]
    ·have:=(Zg3 (Decidable.not_not.1 hv)).len
     rw [Zaz (by omega)]
     congr 1
     exact decide_eq_decide.2 (by omega)
   rw [eqE]
   refine Zat (fun h=>Zan ?_) (fun h=>hk _ (Decidable.not_not.1 h))
   unfold exE; rw [if_pos h]
  ·have eqE:decide (1 ≤ m.length∧m.length ≤ ps.length + 1) = false:=decide_eq_false (by omega)
   refine Zat (fun h=>Zan ?_) (fun h=>hk _ ?_)
   ·unfold exE; rw [eqE,if_pos h]
   ·rw [eqE]; exact Decidable.not_not.1 h
 unfold exE
 rw [if_neg (fun h=>h hb)]
 obtain ⟨hc,hok⟩:=Zk9 hb
 have hpp:=of_decide_eq_true hok
 have hl:=hc.p.len
 refine Zbi (fun (z:List Span×Int)=>0 ≤ z.2∧z.2 ≤ ps.length - 1∧z.1.length = z.2.toNat∧z.1 ++ rows (exF l ps m n) (ps.length - 1 - z.2.toNat) z.2.toNat = rows (exF l ps m n) (ps.length - 1) 0) (fun z=>((ps.length:Int) - z.2).toNat) ⟨Int.le_refl 0,by dsimp only; omega,rfl,rfl⟩ (by simp only [ZaY]; omega) ?_
 rintro ⟨out,i⟩ next ⟨i0,i1,ol,hf⟩ hn
 dsimp only at i0 i1 ol hf ⊢
 rw [Zaz (n:=i + 1) (by omega)]
 have ez:((i.toNat:Nat):Int) = i:=by omega
 refine Zat (fun hi=>Zat (fun hs=>Za5 i0 (by omega) fun pc hpc=>?_) (fun hs=>Zan ?_)) (fun hi=>Zan ?_)
 rotate_left
 ·have:exF l ps m n i.toNat = none:=by unfold exF; rw [List.getElem?_eq_none (by omega)]
  rw [ZeO this,List.append_nil] at hf
  rw [hf]
 ·rw [show ps.length - 1 - i.toNat = 0 from by omega] at hf
  simp only [rows,List.append_nil] at hf
  rw [hf]
 have hcr:=hc.c i.toNat (by omega)
 have epc:pc.Element = elOf ps i.toNat:=by unfold elOf; rw [hpc]
 refine ZaN (ZjN hc i0 (by omega)) (Za5 i0 hs fun x hx=>(ZaN (Zhe (by omega)) ?_))
 have ecl:clr ps i n = clr ps (i.toNat:Int) n:=by rw [ez]
 rw [Zi3 hc.p (by omega) (by have:=hc.nb; omega),epc,ecl]
 rw [Zaz (n:=clr ps i.toNat n + 1) (by omega)]
 have ei:(i + 1).toNat = i.toNat + 1:=by omega
 have go:∀ t,t = toM m (clr ps i.toNat n + 1)→Ok (ck (decide (out.length + ([Span.mk (elOf ps i.toNat) (sdOf l ps i.toNat) x.Time t]:List Span).length ≤ 1000000000)) <| vl (out ++ ([Span.mk (elOf ps i.toNat) (sdOf l ps i.toNat) x.Time t]:List Span)) fun y=>next (y,i + 1)) (fun v=>v = (rows (exF l ps m n) (ps.length - 1) 0,0)):=fun t ht=>by
  refine Zbu (by simp only [List.length_cons,List.length_nil]; omega) (Za8 fun y hy=>?_)
  have hsf:exF l ps m n i.toNat = some (Span.mk (elOf ps i.toNat) (sdOf l ps i.toNat) x.Time t):=by
   unfold exF; rw [hx,ht]
  rw [show ps.length - 1 - i.toNat = (ps.length - 1 - (i.toNat + 1)) + 1 from by omega,ZdX hsf] at hf
  refine hn _ ⟨by dsimp only; omega,by dsimp only; omega,by dsimp only; rw [hy]; simp; omega,?_⟩ (by dsimp only; omega)
  dsimp only
  rw [hy,ei,List.append_assoc]
  exact hf
 refine Zat (fun h1=>Za5 (by omega) h1 fun q hq=>go _ ?_) (fun h1=>go _ ?_)
 ·unfold toM; rw [hq]
 ·unfold toM; rw [List.getElem?_eq_none (by omega)]
end Go.Hy
namespace Go.Hy
set_option linter.unusedVariables false
set_option linter.unusedSimpArgs false
set_option maxHeartbeats 2000000
set_option maxRecDepth 10000
open Go.Hy.Iv
def clsP (cl:List Interval) (ps:List Piece):List Interval:=ps.map fun p=>(cl[p.Element.toNat]?).getD ⟨0,0⟩
def resP (xs:List Int) (ps:List Piece):List Int:=ps.map fun p=>(xs[p.Element.toNat]?).getD 0
def selP (xs:List Int) (ps:List Piece):List Int:=(ps.filter fun p=>decide (0 < p.Power)).map fun p=>(xs[p.Element.toNat]?).getD 0
section
variable {ps:List Piece}{p:Piece}{z:Int}
theorem Zkk {cl:List Interval}{x:Interval}(hz:0 ≤ z) (hp:ps[z.toNat]? = some p) (hx:cl[p.Element.toNat]? = some x):clsP cl (ps.take (z + 1).toNat) = clsP cl (ps.take z.toNat) ++ [x]:=by
 have e:(z + 1).toNat = z.toNat + 1:=by omega
 unfold clsP
 rw [e,Zcy hp,List.map_append,List.map_cons,List.map_nil,hx]; rfl
theorem ZhJ {xs:List Int}{x:Int}(hz:0 ≤ z) (hp:ps[z.toNat]? = some p) (hx:xs[p.Element.toNat]? = some x):resP xs (ps.take (z + 1).toNat) = resP xs (ps.take z.toNat) ++ [x]:=by
 have e:(z + 1).toNat = z.toNat + 1:=by omega
 unfold resP
 rw [e,Zcy hp,List.map_append,List.map_cons,List.map_nil,hx]; rfl
theorem ZfH {xs:List Int}{x:Int}(hz:0 ≤ z) (hp:ps[z.toNat]? = some p) (hpw:0 < p.Power) (hx:xs[p.Element.toNat]? = some x):selP xs (ps.take (z + 1).toNat) = selP xs (ps.take z.toNat) ++ [x]:=by
 have e:(z + 1).toNat = z.toNat + 1:=by omega
 unfold selP
 rw [e,Zcy hp,List.filter_append,List.map_append,List.filter_cons,if_pos (decide_eq_true hpw),List.filter_nil,List.map_cons,List.map_nil,hx]; rfl
theorem ZfI {xs:List Int}(hz:0 ≤ z) (hp:ps[z.toNat]? = some p) (hpw:¬ 0 < p.Power):selP xs (ps.take (z + 1).toNat) = selP xs (ps.take z.toNat):=by
 have e:(z + 1).toNat = z.toNat + 1:=by omega
 unfold selP
 rw [e,Zcy hp,List.filter_append,List.map_append,List.filter_cons,if_neg (by simp [hpw]),List.filter_nil,List.map_nil,List.append_nil]
theorem ZeL {α:Type}{l:List α}(hz:¬ z < (l.length:Int)):l.take z.toNat = l:=List.take_of_length_le (by omega)
theorem Zg9 {xs:List Int}:(selP xs ps).length ≤ ps.length:=by
 unfold selP
 rw [List.length_map]; exact List.length_filter_le _ _
theorem Zhc {xs:List Int}:(resP xs ps).length = ps.length:=by unfold resP; rw [List.length_map]
theorem Zk3 {cl:List Interval}:(clsP cl ps).length = ps.length:=by unfold clsP; rw [List.length_map]
end
def cpth (l:List Element) (c:Rolling):List Piece:=setL (pth l c.Track) c.Length
def mot (cl:List Interval) (tg:List Int) (sp v:Int) (ps:List Piece):Motion:=⟨⟨v,v + sp⟩,clsP cl ps,sp,selP tg ps⟩
structure PlCut (l:List Element) (cl:List Interval) (tg:List Int) (sp:Int) (c:Rolling) (ss:List Span):Prop where
 trk:IsTr l c.Track
 len:1 ≤ c.Length∧c.Length ≤ sh l
 rl:c.Resist.length = l.length
 tl:c.Targets.length = l.length
 r:∀ (j:Nat) w i,c.Resist[j]? = some w→cl[j]? = some i→i.Lo ≤ w∧w ≤ i.Hi
 t:∀ (j:Nat) w u,c.Targets[j]? = some w→tg[j]? = some u→(0 ≤ u→u - sp ≤ w∧w ≤ u + sp)∧(u < 0→w = u)
 sl:ss.length ≤ 128
 sv:Zdi ss = some true
 m:∃ v p,(v = 1200∨v = 1500∨v = 3000)∧(v ≤ c.Speed∧c.Speed ≤ v + sp)∧spE l (cpth l c) (psOut (cpth l c) (mot cl tg sp v (cpth l c))).1 c.Length = (ss,0)∧
  (psOut (cpth l c) (mot cl tg sp v (cpth l c))).1[(psOut (cpth l c) (mot cl tg sp v (cpth l c))).1.length - 1]? = some p∧p.Slow = false∧p.Stops = false∧p.Time.Hi ≤ 10000000
theorem PlCut.rel {l:List Element}{cl:List Interval}{tg:List Int}{sp:Int}{c:Rolling}{ss:List Span}(h:PlCut l cl tg sp c ss) (r:Int):PlCut l cl tg sp ⟨r,c.Length,c.Track,c.Speed,c.Resist,c.Targets⟩ ss:=⟨h.trk,h.len,h.rl,h.tl,h.r,h.t,h.sl,h.sv,h.m⟩
structure Clss (l:List Element) (cl:List Interval) (tg:List Int) (sp:Int):Prop where
 cn:cl.length = l.length
 tn:tg.length = l.length
 c:∃ lo wd,(lo = 0∨lo = 10∨lo = 20)∧(wd = 0∨wd = 5∨wd = 30)∧∀ (j:Nat) i x,cl[j]? = some i→l[j]? = some x→i = ⟨lo + x.Curve,lo + x.Curve + wd⟩
 t:∀ u∈tg,u = -1∨u = 1500∨u = 3000∨u = 6000
 s:sp = 0∨sp = 20
structure PlanOk (p:YardgenPush) (n:Int):Prop where
 md:Made p.Scene.Elements 4
 th:0 ≤ p.Scene.Throw∧p.Scene.Throw ≤ 2500
 sl:p.Scene.Start.length ≤ p.Scene.Elements.length
 st:∀ (i:Nat) t,p.Scene.Start[i]? = some t→(Kd p.Scene.Elements t.Element 3∧Lies t.Side)∧∀ (j:Nat) u,j < i→p.Scene.Start[j]? = some u→u.Element ≠ t.Element
 cm:p.Scene.Commands.length ≤ 1024
 ct:(p.Scene.Cuts.length:Int) ≤ n
 sn:p.Spans.length = p.Scene.Cuts.length
 c:∃ cl tg sp,Clss p.Scene.Elements cl tg sp∧∀ (i:Nat) c ss,p.Scene.Cuts[i]? = some c→p.Spans[i]? = some ss→PlCut p.Scene.Elements cl tg sp c ss
 ok:p.OK = true→∃ rel,ZcC p.Spans p.Scene.Throw = some (rel,0)∧rel.length = p.Scene.Cuts.length∧p.Releases.length = rel.length∧(∀ (i:Nat) c r,p.Scene.Cuts[i]? = some c→rel[i]? = some r→p.Releases[i]? = some (w64 (r + p.Scene.Throw))∧c.Release = w64 (r + p.Scene.Throw))∧
  ZcB p.Spans p.Releases p.Scene.Throw p.Scene.Start = some (p.Scene.Commands,0)
theorem Made.last {l:List Element}{n:Nat}(h:Made l n):∃ x,l[l.length - 1]? = some x∧x.Kind = 4:=by
 have hn:=h.u.ne
 obtain ⟨x,hx⟩:∃ x,l[l.length - 1]? = some x:=⟨_,List.getElem?_eq_getElem (by omega)⟩
 refine ⟨x,hx,?_⟩
 by_cases hk:x.Kind = 4
 ·exact hk
 ·exfalso
  have key:∀ sd:Int,0 ≤ sd∧sd ≤ 2→(x.Kind = 3↔sd ≠ 0)→False:=fun sd hs hd=>by
   rcases h.u.cl ⟨((l.length - 1:Nat):Int),sd⟩ ⟨by dsimp only; omega,hs,x,by dsimp only; rw [Int.toNat_natCast]; exact hx,hk,hd⟩ with hm | ⟨j,a,hj,ha,hp,_⟩
   ·simp at hm
   ·have:=Zen (h.u.ft j) ha (by omega)
    have hjl:=ZbQ ha
    dsimp only at hp
    omega
  by_cases h3:x.Kind = 3
  ·exact key 1 (by omega) ⟨fun _=>by omega,fun _=>h3⟩
  ·exact key 0 (by omega) ⟨fun h=>absurd h h3,fun h=>absurd rfl h⟩
theorem cpth_ap {l:List Element}(h:VL l){t n:Int}(ht:IsTr l t) (hn:1 ≤ n∧n ≤ sh l):ptE l t = (pth l t,0)∧apE (pth l t) n = (setL (pth l t) n,0)∧PsOk (setL (pth l t) n)∧∀ p∈setL (pth l t) n,1 ≤ p.Element∧p.Element < l.length:=by
 have hl0:lE l = 0:=by
  have h1:=h.len
  unfold lE
  rw [if_neg (by omega),if_neg (by omega),if_neg (by
   have:∀ k,fE l k = 0:=fun k=>by
    induction k with
    | zero=>rfl
    | succ k ih=>unfold fE; rw [if_neg (by omega)]; exact h.ft k
   rw [this]; simp),if_neg (fun hh=>hh h.kid),if_neg (by have:=h.trk; omega)]
 obtain ⟨g1,g2,g3⟩:=pth_ok h ht
 have hs:=ZfG h
 obtain ⟨t0,x,hx,hk⟩:=ht
 have hpl:=g1.len
 have hle:=sh_le hx hk
 have hpc:(pcOf l t).Length = x.Length:=by unfold pcOf; rw [hx]
 refine ⟨?_,?_,setL_ok g1 (by omega),fun p hp=>?_⟩
 ·unfold ptE
  rw [if_neg (by rw [hl0]; simp),if_pos ⟨t0,x,hx,hk⟩]
 ·unfold apE
  rw [Zh7 g1,if_neg (by simp),if_neg (by omega),g3]
  dsimp only
  rw [if_neg (by omega)]
 ·obtain ⟨i,hi⟩:=List.getElem?_of_mem hp
  obtain ⟨q1,q2,q3⟩:=ZiD (n:=n) g3 (by omega)
  by_cases e:i = (pth l t).length - 1
  ·subst e
   rw [q2] at hi
   cases hi
   have:=g2 _ (ZbH g3)
   exact ⟨this.1,this.2.1⟩
  ·rw [q3 i e] at hi
   have:=g2 p (ZbH hi)
   exact ⟨this.1,this.2.1⟩
end Go.Hy
namespace Go.Hy
set_option linter.unusedVariables false
set_option linter.unusedSimpArgs false
set_option maxHeartbeats 2000000
set_option maxRecDepth 10000
structure ScB (s:Scene):Prop where
 nm:Nms s.Elements
 st:s.Start.length ≤ 9223372036854775807
theorem lE_len {l:List Element}(h:lE l = 0):l.length ≤ 128:=(ZhV h).len.2
theorem ZkE {s:Scene}(hb:ScB s):Ok (ZcI s) (VSp s):=by
 unfold ZcI
 refine ZaN (ZfM hb.nm) (Zat (fun h=>Zan (.inl ⟨h,rfl⟩)) fun h0=>?_)
 have h0:lE s.Elements = 0:=by omega
 have hlen:=lE_len h0
 refine Zat (fun h=>Zan (.inr (.inl ⟨h0,.inl (by omega),rfl⟩))) fun h1=>Zat (fun h=>Zan (.inr (.inl ⟨h0,.inr (by omega),rfl⟩))) fun h2=>?_
 have hL:¬ Long s:=by rintro (h | h) <;> omega
 refine ZaN Zia ?_
 refine Zby (fun b=>b = true↔(0 ≤ s.Throw∧s.Throw ≤ 1000000000)∧∀ (i:Nat) t,s.Start[i]? = some t→StOk' s i t) (fun b hb1=>?_) (fun k' hk'=>?_)
 ·refine Zby (fun b2=>b2 = true↔b = true∧∀ (i:Nat) x,s.Commands[i]? = some x→CmOk s i x) (fun b2 hb2=>?_) (fun k' hk'=>?_)
  ·refine Zbi (fun z=>0 ≤ z.2∧z.2 ≤ (s.Cuts.length:Int)∧(z.1 = true↔b2 = true∧Upto (CtOk s) s.Cuts z.2)) (fun z=>((s.Cuts.length:Int) - z.2).toNat) ⟨Int.le_refl 0,by dsimp only; omega,fun h=>⟨h,Upto.zero⟩,fun h=>h.1⟩ (by rw [ZaY]; dsimp only; omega) fun z k ⟨hz,hzl,he⟩ hk=>?_
   refine Zat (fun h=>?_) (fun h=>ZcG (fun hf=>Zan (.inr (.inr (.inr ⟨h0,hL,fun sv=>?_,rfl⟩)))) (fun ht=>Zan (.inr (.inr (.inl ⟨h0,hL,?_,rfl⟩)))))
   ·rw [Zaz (n:=z.2 + 1) (by omega)]
    obtain ⟨c,hc⟩:∃ c,s.Cuts[z.2.toNat]? = some c:=⟨_,List.getElem?_eq_getElem (by omega:z.2.toNat < s.Cuts.length)⟩
    have no:¬ (b2 = true∧Upto (CtOk s) s.Cuts (z.2 + 1))→Ok (k (false,z.2 + 1)) (VSp s):=fun hn=>hk _ ⟨by dsimp only; omega,by dsimp only; omega,fun h=>by simp at h,fun h=>absurd h hn⟩ (by dsimp only; omega)
    refine ok_b (fun hz1=>?_) (fun hz1=>no fun hh=>?_)
    ·obtain ⟨hbt,hu⟩:=he.1 hz1
     refine Za1 hz hc (Zbq (rcut_ok (by omega)) fun q hq=>ok_b (fun hqt=>Zat (fun hz0=>?_) fun hz0=>Za1 hz hc ?_) (fun hqf=>no fun hh=>?_))
     ·refine hk _ ⟨by dsimp only; omega,by dsimp only; omega,fun _=>⟨hbt,hu.step hz hc ⟨hq.1 hqt,fun d h1 _=>by omega⟩⟩,fun _=>rfl⟩ (by dsimp only; omega)
     ·rw [Zaz (n:=z.2 - 1) (by omega)]
      refine Za5 (by omega) (by omega) fun d hd=>?_
      have e1:(z.2 - 1).toNat = z.2.toNat - 1:=by omega
      rw [e1] at hd
      refine hk _ ⟨by dsimp only; omega,by dsimp only; omega,fun h=>⟨hbt,hu.step hz hc ⟨hq.1 hqt,fun d' _ hd'=>?_⟩⟩,fun hh=>?_⟩ (by dsimp only; omega)
      ·rw [hd] at hd'; cases hd'; exact of_decide_eq_true h
      ·exact decide_eq_true (((Upto.iff hz hc).1 hh.2).2.2 d (by omega) hd)
     ·have:=hq.2 ((Upto.iff hz hc).1 hh.2).2.1
      rw [hqf] at this; simp at this
    ·have:=he.2 ⟨hh.1,((Upto.iff hz hc).1 hh.2).1⟩
     rw [hz1] at this; simp at this
   ·have:=he.2 ⟨hb2.2 ⟨hb1.2 ⟨sv.th,sv.st⟩,sv.cm⟩,fun i a _ ha=>sv.ct i a ha⟩
    rw [hf] at this; simp at this
   ·obtain ⟨g1,g2⟩:=he.1 ht
    obtain ⟨g3,g4⟩:=hb2.1 g1
    obtain ⟨g5,g6⟩:=hb1.1 g3
    exact ⟨g5,g6,g4,g2.all h⟩
  ·refine Zbi (fun z=>0 ≤ z.2∧z.2 ≤ (s.Commands.length:Int)∧(z.1 = true↔b = true∧Upto (CmOk s) s.Commands z.2)) (fun z=>((s.Commands.length:Int) - z.2).toNat) ⟨Int.le_refl 0,by dsimp only; omega,fun h=>⟨h,Upto.zero⟩,fun h=>h.1⟩ (by rw [ZaY]; dsimp only; omega) fun z k ⟨hz,hzl,he⟩ hk=>?_
   refine Zat (fun h=>Za5 hz h fun x hx=>?_) (fun h=>hk' _ ⟨fun hh=>⟨(he.1 hh).1,(he.1 hh).2.all h⟩,fun hh=>he.2 ⟨hh.1,fun i a _ ha=>hh.2 i a ha⟩⟩)
   rw [Zaz (n:=z.2 + 1) (by omega)]
   have no:¬ (z.1 = true∧CmOk s z.2.toNat x)→Ok (k (false,z.2 + 1)) (VSp s):=fun hn=>hk _ ⟨by dsimp only; omega,by dsimp only; omega,fun h=>by simp at h,fun hh=>absurd ⟨he.2 ⟨hh.1,((Upto.iff hz hx).1 hh.2).1⟩,((Upto.iff hz hx).1 hh.2).2⟩ hn⟩ (by dsimp only; omega)
   refine ok_b (fun hz1=>ZaN Zia (Zat (fun ht=>Zbq ZgG fun q hq=>ok_b (fun hqt=>Zat (fun hc=>hk _ ⟨by dsimp only; omega,by dsimp only; omega,fun hd=>⟨(he.1 hz1).1,(he.1 hz1).2.step hz hx ⟨ht,hq.1 hqt,hc,of_decide_eq_true hd⟩⟩,fun hh=>decide_eq_true ((Upto.iff hz hx).1 hh.2).2.2.2.2⟩ (by dsimp only; omega)) (fun hc=>no fun hh=>hc hh.2.2.2.1)) (fun hqf=>no fun hh=>?_)) (fun ht=>no fun hh=>ht hh.2.1))) (fun hz1=>no fun hh=>by rw [hz1] at hh; simp at hh)
   have:=hq.2 hh.2.2.1
   rw [hqf] at this; simp at this
 ·refine Zbi (fun z=>0 ≤ z.2∧z.2 ≤ (s.Start.length:Int)∧(z.1 = true↔(0 ≤ s.Throw∧s.Throw ≤ 1000000000)∧Upto (StOk' s) s.Start z.2)) (fun z=>((s.Start.length:Int) - z.2).toNat) ⟨Int.le_refl 0,by dsimp only; omega,fun h=>⟨of_decide_eq_true h,Upto.zero⟩,fun h=>decide_eq_true h.1⟩ (by have:=hb.st; rw [ZaY]; dsimp only; omega) fun z k ⟨hz,hzl,he⟩ hk=>?_
  have hbs:=hb.st
  refine Zat (fun h=>?_) (fun h=>hk' _ ⟨fun hh=>⟨(he.1 hh).1,(he.1 hh).2.all h⟩,fun hh=>he.2 ⟨hh.1,fun i a _ ha=>hh.2 i a ha⟩⟩)
  obtain ⟨t,ht⟩:∃ t,s.Start[z.2.toNat]? = some t:=⟨_,List.getElem?_eq_getElem (by omega:z.2.toNat < s.Start.length)⟩
  refine Zby (fun b=>b = true↔z.1 = true∧Kd s.Elements t.Element 3∧Lies t.Side) (fun b hb3=>?_) (fun k3 hk3=>?_)
  ·refine Zbi (fun y=>0 ≤ y.2∧y.2 ≤ z.2∧(y.1 = true↔b = true∧∀ (j:Nat) u,(j:Int) < y.2→s.Start[j]? = some u→u.Element ≠ t.Element)) (fun y=>(z.2 - y.2).toNat) ⟨Int.le_refl 0,hz,fun h=>⟨h,fun j u hj _=>by dsimp only at hj; omega⟩,fun h=>h.1⟩ (by rw [ZaY]; dsimp only; omega) fun y k2 ⟨hy,hyl,hye⟩ hk2=>?_
   refine Zat (fun h2=>?_) (fun h2=>?_)
   ·rw [Zaz (n:=y.2 + 1) (by omega)]
    refine ok_b (fun hy1=>Za5 hy (by omega) fun u hu=>Za1 hz ht (hk2 _ ⟨by dsimp only; omega,by dsimp only; omega,fun hd=>⟨(hye.1 hy1).1,fun j v hj hv=>?_⟩,fun hh=>decide_eq_true (hh.2 y.2.toNat u (by dsimp only; omega) hu)⟩ (by dsimp only; omega))) (fun hy0=>hk2 _ ⟨by dsimp only; omega,by dsimp only; omega,fun h=>by simp at h,fun hh=>?_⟩ (by dsimp only; omega))
    ·dsimp only at hj
     by_cases hjy:(j:Int) < y.2
     ·exact (hye.1 hy1).2 j v hjy hv
     ·have e:j = y.2.toNat:=by omega
      subst e
      rw [hu] at hv; cases hv; exact of_decide_eq_true hd
    ·have:=hye.2 ⟨hh.1,fun j v hj hv=>hh.2 j v (by dsimp only; omega) hv⟩
     rw [hy0] at this; simp at this
   ·rw [Zaz (n:=z.2 + 1) (by omega)]
    refine hk _ ⟨by dsimp only; omega,by dsimp only; omega,fun h=>?_,fun hh=>?_⟩ (by dsimp only; omega)
    ·obtain ⟨g1,g2⟩:=hye.1 h
     obtain ⟨g3,g4⟩:=hb3.1 g1
     obtain ⟨g5,g6⟩:=he.1 g3
     exact ⟨g5,g6.step hz ht ⟨g4,fun j u hj hu=>g2 j u (by omega) hu⟩⟩
    ·have g:=(Upto.iff hz ht).1 hh.2
     exact hye.2 ⟨hb3.2 ⟨he.2 ⟨hh.1,g.1⟩,g.2.1⟩,fun j u hj hu=>g.2.2 j u (by omega) hu⟩
  ·refine ok_b (fun hz1=>Za1 hz ht (Za1 hz ht (Zbq ZgG fun q hq=>hk3 _ ⟨fun h=>⟨hz1,hq.1 h⟩,fun h=>hq.2 h.2⟩))) (fun hz1=>hk3 _ ⟨fun h=>by simp at h,fun h=>by rw [hz1] at h; simp at h⟩)
theorem hin_e {n lo hi:Int}:ZcS n lo hi = some (decide (lo ≤ n∧n ≤ hi)):=by
 refine Ok.eq (?_:Ok _ _)
 unfold ZcS
 exact Zat (fun h=>Zan (by simp [h])) (fun h=>Zan (by simp [h]))
theorem Zho {l:List Element}{i k:Int}(hl:l.length ≤ 1000000000):Ok (Zdq l i k) fun b=>b = true↔Kd l i k:=by
 unfold Zdq
 rw [Zaz (by omega)]
 refine ZaN hin_e (Zat (fun h=>Za5 h.1 (by omega) fun x hx=>Zan ⟨fun hd=>⟨h.1,x,hx,of_decide_eq_true hd⟩,?_⟩) (fun h=>Zan ⟨fun h=>by simp at h,fun hk=>?_⟩))
 ·rintro ⟨_,y,hy,hk⟩
  rw [hx] at hy; cases hy; exact decide_eq_true hk
 ·obtain ⟨g1,y,hy,_⟩:=hk
  have:=ZbQ hy
  exact absurd ⟨g1,by omega⟩ h
theorem ZiV {s:Int}:Ok (ZdD s) fun b=>b = true↔Lies s:=by
 unfold ZdD
 exact Zat (fun h=>Zan ⟨fun _=>.inl h,fun _=>rfl⟩) (fun h=>Zan ⟨fun hd=>.inr (of_decide_eq_true hd),fun hh=>decide_eq_true (hh.resolve_left h)⟩)
theorem Zfm {β:Type}{Q:β→Prop}{n lo hi:Int}{A B:Option β}(hA:¬ (lo ≤ n∧n ≤ hi)→Ok A Q) (hB:lo ≤ n∧n ≤ hi→Ok B Q):Ok (bd (ZcS n lo hi) fun v=>cond (!v) A B) Q:=ZdU hin_e hA hB
theorem Ziq {l:List Element}{c:Rolling}(hl:l.length ≤ 1000000000):Ok (Zc8 l c (sh l)) fun b=>b = true↔RlOk l c:=by
 unfold Zc8
 have no:¬ RlOk l c→Ok (some false) fun b=>b = true↔RlOk l c:=fun hn=>Zan ⟨fun h=>by simp at h,fun h=>absurd h hn⟩
 refine Zfm (fun h=>no fun hh=>h hh.rel) fun h1=>Zfm (fun h=>no fun hh=>h hh.len) fun h2=>Zbq (Zho hl) fun q hq=>ZcG (fun h=>no fun hh=>?_) fun h3=>Zfm (fun h=>no fun hh=>h hh.sp) fun h4=>Zat (fun h=>no fun hh=>h (by rw [hh.rl])) fun h5=>Zat (fun h=>no fun hh=>h (by rw [hh.tl])) fun h6=>?_
 ·have:=hq.2 hh.trk
  rw [h] at this; simp at this
 ·refine Zbi (fun z=>0 ≤ z∧z ≤ (l.length:Int)∧RT c.Resist c.Targets z) (fun z=>((l.length:Int) - z).toNat) ⟨Int.le_refl 0,by omega,Upto.zero,Upto.zero⟩ (by rw [ZaY]; omega) fun z k ⟨hz,hzl,hr,ht⟩ hk=>?_
  refine Zat (fun h=>Za5 hz (by omega) fun a ha=>Zfm (fun hn=>no fun hh=>?_) fun hw=>Za5 hz (by omega) fun t htt=>Zfm (fun hn=>no fun hh=>?_) fun hu=>?_) (fun h=>Zan ⟨fun _=>?_,fun _=>rfl⟩)
  ·have:=List.all_eq_true.1 hh.r a (List.mem_of_getElem? ha)
   unfold wB at this
   exact hn (of_decide_eq_true this)
  ·have:=List.all_eq_true.1 hh.t t (List.mem_of_getElem? htt)
   unfold tB at this
   exact hn (of_decide_eq_true this)
  ·rw [Zaz (by omega)]
   exact hk _ ⟨by omega,by omega,hr.step hz ha (by unfold wB; exact decide_eq_true hw),ht.step hz htt (by unfold tB; exact decide_eq_true hu)⟩ (by omega)
  ·exact ⟨h1,h2,hq.1 h3,h4,by omega,by omega,Zer.2 fun i a _ ha=>hr i a (by have:=ZbQ ha; omega) ha,Zer.2 fun i a _ ha=>ht i a (by have:=ZbQ ha; omega) ha⟩
theorem ZkZ {s:Scene}(hb:ScB s):Ok (Zb5 s) (VSp s):=by
 unfold Zb5
 refine ZaN (Valid_e hb.nm) (Zat (fun h=>Zan (.inl ⟨h,rfl⟩)) fun h0=>?_)
 have h0:lE s.Elements = 0:=by omega
 have hlen:=lE_len h0
 refine Zat (fun h=>Zan (.inr (.inl ⟨h0,.inl (by omega),rfl⟩))) fun h1=>Zat (fun h=>Zan (.inr (.inl ⟨h0,.inr (by omega),rfl⟩))) fun h2=>?_
 have hL:¬ Long s:=by rintro (h | h) <;> omega
 have no:¬ SVt s→Ok (some (1:Int)) (VSp s):=fun hn=>Zan (.inr (.inr (.inr ⟨h0,hL,hn,rfl⟩)))
 refine Zfm (fun h=>no fun sv=>h sv.th) fun hth=>?_
 refine Zby (fun _=>∀ (i:Nat) t,s.Start[i]? = some t→StOk' s i t) (fun _ hst=>?_) (fun k' hk'=>?_)
 ·refine Zby (fun _=>∀ (i:Nat) x,s.Commands[i]? = some x→CmOk s i x) (fun _ hcm=>?_) (fun k' hk'=>?_)
  ·refine ZaN (Zip (by omega)) ?_
   refine Zbi (fun z=>0 ≤ z∧z ≤ (s.Cuts.length:Int)∧Upto (CtOk s) s.Cuts z) (fun z=>((s.Cuts.length:Int) - z).toNat) ⟨Int.le_refl 0,by omega,Upto.zero⟩ (by rw [ZaY]; omega) fun z k ⟨hz,hzl,hu⟩ hk=>?_
   refine Zat (fun h=>Za5 hz h fun c hc=>Zbq (Ziq (by omega)) fun q hq=>ZcG (fun hf=>no fun sv=>?_) fun ht=>?_) (fun h=>Zan (.inr (.inr (.inl ⟨h0,hL,⟨hth,hst,hcm,hu.all h⟩,rfl⟩))))
   ·have:=hq.2 (sv.ct _ c hc).1
    rw [hf] at this; simp at this
   ·rw [Zaz (n:=z + 1) (by omega)]
    refine Zat (fun hz0=>?_) (fun hz0=>hk _ ⟨by omega,by omega,hu.step hz hc ⟨hq.1 ht,fun d h1 _=>by omega⟩⟩ (by omega))
    rw [Zaz (n:=z - 1) (by omega)]
    refine Za5 (by omega) (by omega) fun d hd=>?_
    have e1:(z - 1).toNat = z.toNat - 1:=by omega
    rw [e1] at hd
    refine Zat (fun hlt=>no fun sv=>?_) (fun hlt=>hk _ ⟨by omega,by omega,hu.step hz hc ⟨hq.1 ht,fun d' _ hd'=>?_⟩⟩ (by omega))
    ·have:=(sv.ct _ c hc).2 d (by omega) hd
     omega
    ·rw [hd] at hd'; cases hd'; omega
  ·refine Zbi (fun z=>0 ≤ z∧z ≤ (s.Commands.length:Int)∧Upto (CmOk s) s.Commands z) (fun z=>((s.Commands.length:Int) - z).toNat) ⟨Int.le_refl 0,by omega,Upto.zero⟩ (by rw [ZaY]; omega) fun z k ⟨hz,hzl,hu⟩ hk=>?_
   refine Zat (fun h=>Za5 hz h fun x hx=>Zfm (fun hn=>no fun sv=>hn (sv.cm _ x hx).1) fun ht=>Zbq (Zho (by omega)) fun q hq=>ZcG (fun hf=>no fun sv=>?_) fun hqt=>Zbq ZiV fun r hr=>ZcG (fun hf=>no fun sv=>?_) fun hrt=>Za8 fun y hy=>Zfm (fun hn=>no fun sv=>hn ?_) fun hc=>?_) (fun h=>hk' _ (hu.all h))
   ·have:=hq.2 (sv.cm _ x hx).2.1.1
    rw [hf] at this; simp at this
   ·have:=hr.2 (sv.cm _ x hx).2.1.2
    rw [hf] at this; simp at this
   ·have:=(sv.cm _ x hx).2.2
    rw [hy,Zaz (by omega)]; omega
   ·rw [hy,Zaz (by omega)] at hc
    rw [Zaz (n:=z + 1) (by omega)]
    exact hk _ ⟨by omega,by omega,hu.step hz hx ⟨ht,⟨hq.1 hqt,hr.1 hrt⟩,by omega,by omega⟩⟩ (by omega)
 ·have hbs:=hb.st
  refine Zbi (fun z=>0 ≤ z.2∧z.2 ≤ (s.Start.length:Int)∧Upto (StOk' s) s.Start z.2∧∀ e,inS e z.1 = true↔∃ (j:Nat) (u:Throw),(j:Int) < z.2∧s.Start[j]? = some u∧u.Element = e) (fun z=>((s.Start.length:Int) - z.2).toNat) ⟨Int.le_refl 0,by dsimp only; omega,Upto.zero,fun e=>⟨fun h=>by simp [inS] at h,fun ⟨j,u,hj,_⟩=>by dsimp only at hj; omega⟩⟩ (by rw [ZaY]; dsimp only; omega) fun z k ⟨hz,hzl,hu,hs⟩ hk=>?_
  refine Zat (fun h=>Za5 hz h fun t ht=>Zbq (Zho (by omega)) fun q hq=>ZcG (fun hf=>no fun sv=>?_) fun hqt=>ok_b (fun hin=>no fun sv=>?_) fun hin=>Zbq ZiV fun r hr=>ZcG (fun hf=>no fun sv=>?_) fun hrt=>Zj4 hin (Za8 fun y hy=>?_)) (fun h=>hk' _ (hu.all h))
  ·have:=hq.2 (sv.st _ t ht).1.1
   rw [hf] at this; simp at this
  ·obtain ⟨j,u,hj,hju,he⟩:=(hs _).1 hin
   exact (sv.st _ t ht).2 j u (by omega) hju he
  ·have:=hr.2 (sv.st _ t ht).1.2
   rw [hf] at this; simp at this
  ·rw [Zaz (n:=z.2 + 1) (by omega)]
   have fresh:∀ (j:Nat) u,j < z.2.toNat→s.Start[j]? = some u→u.Element ≠ t.Element:=fun j u hj hju he=>by
    have:=(hs t.Element).2 ⟨j,u,by omega,hju,he⟩
    rw [hin] at this; simp at this
   refine hk _ ⟨by dsimp only; omega,by dsimp only; omega,hu.step hz ht ⟨⟨hq.1 hqt,hr.1 hrt⟩,fresh⟩,fun e=>?_⟩ (by dsimp only; omega)
   dsimp only
   rw [hy]
   have hh:inS e (z.1 ++ [t.Element]) = true↔inS e z.1 = true∨t.Element = e:=by simp [inS]
   rw [hh,hs]
   constructor
   ·rintro (⟨j,u,hj,hju,he⟩ | he)
    ·exact ⟨j,u,by omega,hju,he⟩
    ·exact ⟨z.2.toNat,t,by omega,ht,he⟩
   ·rintro ⟨j,u,hj,hju,he⟩
    by_cases hjz:(j:Int) < z.2
    ·exact .inl ⟨j,u,hjz,hju,he⟩
    ·have e2:j = z.2.toNat:=by omega
     subst e2
     rw [ht] at hju; cases hju
     exact .inr he
theorem Zi8 {s:Scene}(hb:ScB s):∃ e,ZcI s = some e∧Zb5 s = some e∧VSp s e:=by
 obtain ⟨e,h1,h2⟩:=ZkE hb
 obtain ⟨f,h3,h4⟩:=ZkZ hb
 have:=h2.uniq h4
 subst this
 exact ⟨e,h1,h3,h2⟩
theorem VSp.sv {s:Scene}(h:VSp s 0):lE s.Elements = 0∧¬ Long s∧SVt s:=by
 rcases h with ⟨h1,h2⟩ | ⟨h1,h2,h3⟩ | ⟨h1,h2,h3,h4⟩ | ⟨h1,h2,h3,h4⟩
 ·exact absurd h2.symm h1
 ·omega
 ·exact ⟨h1,h2,h3⟩
 ·omega
end Go.Hy
namespace Go.Hy
set_option linter.unusedVariables false
set_option linter.unusedSimpArgs false
set_option maxHeartbeats 2000000
set_option maxRecDepth 10000
open Go.Hy.Iv
theorem Point_m {ps:List Piece}{r:Run}(hp:PsOk ps) (hr:RunOk ps r):ZcZ ps r = some (ptAll ps r,ptStop ps r,0):=by
 refine Ok.eq (?_:Ok _ _)
 have hl:=hp.len
 have hnr:=Zf2 ps
 obtain ⟨h1,h2,h3,h4,h5⟩:=hr
 unfold ZcZ
 refine ZaN (Zkm hp) (Zdl (by decide) (Zdl (by omega) (ZaN (ZfK (by omega)) (Zdl (by omega) ?_))))
 refine Zby (fun _=>True) (fun _ _=>?_) (fun k hk=>?_)
 rotate_left
 ·refine Zbi (fun (z:Int)=>0 ≤ z) (fun z=>((r.Resist.length:Int) - z).toNat) (Int.le_refl 0) (by simp only [ZaY]; omega) ?_
  intro z next z0 hn
  refine Zat (fun h=>Za5 z0 h fun a ha=>?_) (fun _=>hk _ trivial)
  refine ZdU (in_m _ _ _) (fun h=>absurd (h4 a (Zfc ha)) h) fun _=>?_
  rw [Zaz (by omega)]
  exact hn _ (by omega) (by omega)
 refine ZdU (in_m _ _ _) (fun h=>absurd h3 h) fun _=>?_
 refine ZaN (ZjA (by omega) h5) ?_
 have hq:=Zg8 (v:=r.Speed) (by omega)
 have hq2:r.Speed * r.Speed ≤ 400000000:=ZdI (b:=20000) h3.1 h3.2
 rw [Zaz (n:=r.Speed * r.Speed) (by omega)]
 refine Zbi (fun (z:Int×Int×List Moment×Int×Int)=>∃ x,MomOk x z.2.2.2.2.toNat∧z.1 = x.Time∧z.2.1 = x.Energy∧0 ≤ z.2.2.2.1∧0 ≤ z.2.2.2.2∧z.2.2.2.2 ≤ ps.length∧z.2.2.1.length = z.2.2.2.2.toNat + 1∧
   z.2.2.2.1.toNat + nret (ps.drop z.2.2.2.2.toNat) = r.Targets.length∧z.2.2.1 ++ ptRun (ps.drop z.2.2.2.2.toNat) (r.Resist.drop z.2.2.2.2.toNat) (r.Targets.drop z.2.2.2.1.toNat) x = ptAll ps r)
  (fun z=>((ps.length:Int) - z.2.2.2.2).toNat) ?_ ?_ ?_
 ·exact ⟨pt0 r,⟨by dsimp only [pt0]; omega,by dsimp only [pt0]; omega,by dsimp only [pt0]; omega,by dsimp only [pt0]; omega⟩,rfl,rfl,by dsimp only; omega,by dsimp only; omega,by dsimp only; omega,rfl,by dsimp only; simp [h2],rfl⟩
 ·simp only [ZaY]; omega
 rintro ⟨t,e,out,k,i⟩ next ⟨x,hx,e1,e2,k0,i0,i1,ol,kn,hf⟩ hn
 dsimp only at hx e1 e2 k0 i0 i1 ol kn hf ⊢
 subst e1 e2
 have hlen:(ptAll ps r).length = 1 + (ptRun ps r.Resist r.Targets (pt0 r)).length:=by simp [ptAll]; omega
 refine Zat (fun hi=>?_) (fun hi=>Zan ?_)
 rotate_left
 ·have:ps.drop i.toNat = []:=List.drop_eq_nil_of_le (by omega)
  rw [this] at hf
  simp only [ptRun,List.append_nil] at hf
  rw [hf] at ol ⊢
  unfold ptStop
  rw [if_pos (by omega)]
 refine Za5 i0 hi fun p hpi=>?_
 have hpo:=hp.ok p (Zfc hpi)
 obtain ⟨m0,m1,m2,m3⟩:=hx
 have stop:∀ w,r.Resist[i.toNat]? = some w→ptStep p w (tgOf p (r.Targets.drop k.toNat)) x = none→(out,i,(0:Int)) = (ptAll ps r,ptStop ps r,0):=fun w hw hs=>by
  rw [ZbS hpi,ZbS hw,Zde (by simpa using hs),List.append_nil] at hf
  rw [hf] at ol ⊢
  unfold ptStop
  rw [if_neg (by omega)]
  simp only [Prod.mk.injEq,true_and,and_true]
  omega
 have go:∀ w y k',r.Resist[i.toNat]? = some w→Wr w→ptStep p w (tgOf p (r.Targets.drop k.toNat)) x = some y→(0 < p.Power→k' = k + 1)→(¬ 0 < p.Power→k' = k)→
   Ok (ck (decide (out.length + ([(Moment.mk y.Time y.Energy)]:List Moment).length ≤ 1000000000)) <| vl (out ++ ([(Moment.mk y.Time y.Energy)]:List Moment)) fun o=>next (y.Time,y.Energy,o,k',w64 (i + 1))) (fun v=>v = (ptAll ps r,ptStop ps r,0)):=by
  intro w y k' hw hwr hs hk1 hk2
  have hy:=Zf0 (i:=i.toNat) hpo hwr ⟨m0,m1,m2,m3⟩ hs
  have ei:(i + 1).toNat = i.toNat + 1:=by omega
  refine Zbu (by simp; omega) (Za8 fun o ho=>?_)
  subst ho
  rw [Zaz (by omega)]
  rw [ZbS hpi,ZbS hw,Zdd (by simpa using hs)] at hf
  rw [ZbS hpi] at kn
  simp only [nret] at kn
  refine hn _ ⟨y,by dsimp only; rw [ei]; exact hy,rfl,rfl,?_,by dsimp only; omega,by dsimp only; omega,by simp; omega,?_,?_⟩ (by dsimp only; omega)
  ·dsimp only; by_cases h:0 < p.Power
   ·have:=hk1 h; omega
   ·have:=hk2 h; omega
  ·dsimp only
   rw [ei]
   by_cases h:0 < p.Power
   ·rw [if_pos h] at kn; have:=hk1 h; omega
   ·rw [if_neg h] at kn; have:=hk2 h; omega
  ·dsimp only
   rw [ei,← hf,List.append_assoc]
   congr 1
   simp only [List.singleton_append,List.cons.injEq,true_and,List.tail_cons,tsOf]
   by_cases h:0 < p.Power
   ·rw [if_pos h,hk1 h,List.tail_drop]
    congr 3
    omega
   ·rw [if_neg h,hk2 h]
 refine ZaN (ZjE m0 (by omega)) ?_
 have hiw:i.toNat < r.Resist.length:=by omega
 refine Za5 i0 (by omega) fun w hw=>?_
 have hwr:=h4 w (Zfc hw)
 have hg:=Zjq hpo hwr
 have b0:=Zfo m0 (by omega)
 refine ZaN (gain_m hpo hwr) ?_
 dsimp only
 rw [Zaz (n:=x.Energy + gd p w) (by omega)]
 refine Zat (fun hs=>Zan (stop w hw (by unfold ptStep; rw [if_pos hs]))) (fun hs=>?_)
 have b1:=Zfo (n:=x.Energy + gd p w) (by omega) (by omega)
 refine ZaN (ZjE (by omega) (by omega)) ?_
 dsimp only
 rw [Zaz (n:=isq x.Energy + isq (x.Energy + gd p w)) (by omega)]
 refine Zat (fun hz=>Zan (stop w hw (by unfold ptStep; rw [if_neg hs,if_pos hz]))) (fun hz=>?_)
 have hpl:=hpo.l
 have hpw:=hpo.p
 have hu:=Zjw (x:=2000 * p.Length) (d:=isq x.Energy + isq (x.Energy + gd p w)) (by omega) (by omega)
 rw [Zaz (n:=2000 * p.Length) (by omega),Zaz (n:=2000 * p.Length + isq x.Energy) (by omega)]
 refine Za8 fun x25 hx25=>?_
 have e25:x25 + isq (x.Energy + gd p w) - 1 = 2000 * p.Length + (isq x.Energy + isq (x.Energy + gd p w)) - 1:=by omega
 rw [Zaz (n:=x25 + isq (x.Energy + gd p w)) (by omega),Zaz (n:=x25 + isq (x.Energy + gd p w) - 1) (by omega),e25]
 refine Zbu hz ?_
 rw [Int.tdiv_eq_ediv_of_nonneg (by omega),← up_eq (by omega) (by omega),Zaz (n:=up (2000 * p.Length) (isq x.Energy + isq (x.Energy + gd p w))) (by omega)]
 refine Za8 fun x27 hx27=>?_
 rw [Zaz (n:=x.Time + x27) (by omega),Int.min_comm,hx27]
 refine Za8 fun x28 hx28=>?_
 have st:∀ E,E = bk p (tgOf p (r.Targets.drop k.toNat)) (x.Energy + gd p w)→ptStep p w (tgOf p (r.Targets.drop k.toNat)) x = some ⟨x28,E⟩:=fun E hE=>by
  unfold ptStep; rw [if_neg hs,if_neg hz,hx28,hE]
 rw [ZbS hpi] at kn
 simp only [nret] at kn
 refine Zat (fun hpp=>?_) (fun hpp=>?_)
 ·rw [if_pos hpp] at kn
  refine Za5 k0 (by omega) fun tg htg=>?_
  have htt:=h5 tg (Zfc htg)
  have etg:tgOf p (r.Targets.drop k.toNat) = tg:=by unfold tgOf; rw [if_pos hpp,ZbS htg]; rfl
  rw [Zaz (n:=k + 1) (by omega)]
  refine Zat (fun ht=>?_) (fun ht=>?_)
  ·have hsq:=Zg8 (v:=tg) (by omega)
   rw [Zaz (n:=tg * tg) (by omega),Zaz (by omega)]
   refine Za8 fun x31 hx31=>Za8 fun x32 hx32=>?_
   exact go w ⟨x28,max x31 x32⟩ (k + 1) hw hwr (st _ (by rw [etg]; unfold bk; rw [if_pos ⟨hpp,ht⟩,hx31,hx32])) (fun _=>rfl) (fun h=>absurd hpp h)
  ·exact go w ⟨x28,x.Energy + gd p w⟩ (k + 1) hw hwr (st _ (by rw [etg]; unfold bk; rw [if_neg (by omega)])) (fun _=>rfl) (fun h=>absurd hpp h)
 ·exact go w ⟨x28,x.Energy + gd p w⟩ k hw hwr (st _ (by unfold bk; rw [if_neg (by omega)])) (fun h=>absurd h hpp) (fun _=>rfl)
end Go.Hy
namespace Go.Hy
set_option linter.unusedVariables false
set_option linter.unusedSimpArgs false
set_option maxHeartbeats 2000000
set_option maxRecDepth 10000
open Go.Hy.Iv
abbrev CP (i s:Int) (x:Element):Prop:=x.Kind ≠ 0∧x.Parent = i∧x.Side = s
def chN (l:List Element) (i s:Int):Nat→Nat→Int
 | 0,_=>-1
 | k + 1,j=>match l[j]? with
  | none=>-1
  | some x=>if CP i s x then (j:Int) else chN l i s k (j + 1)
def chF (l:List Element) (i s:Int):Int:=chN l i s l.length 0
theorem Zkl {l:List Element}{i s:Int}(hl:l.length ≤ 1000000000):Zdf l i s = some (chF l i s):=by
 refine Ok.eq (?_:Ok _ _)
 unfold Zdf
 refine Zbi (fun z=>0 ≤ z∧z ≤ (l.length:Int)∧chN l i s (l.length - z.toNat) z.toNat = chF l i s) (fun z=>((l.length:Int) - z).toNat) ⟨Int.le_refl 0,by omega,rfl⟩ (by rw [ZaY]; omega) fun z k ⟨hz,hzl,he⟩ hk=>?_
 refine Zat (fun h=>Za5 hz h fun x hx=>?_) (fun h=>Zan ?_)
 ·have e:l.length - z.toNat = (l.length - (z + 1).toNat) + 1:=by omega
  have e2:(z + 1).toNat = z.toNat + 1:=by omega
  rw [e,chN,hx] at he
  dsimp only at he
  rw [Zaz (by omega)]
  have no:¬ CP i s x→Ok (k (z + 1)) (· = chF l i s):=fun hn=>hk _ ⟨by omega,by omega,by rw [if_neg hn,← e2] at he; exact he⟩ (by omega)
  refine Zat (fun h1=>Zat (fun h2=>Zat (fun h3=>Zan ?_) (fun h3=>no fun hh=>h3 hh.2.2)) (fun h2=>no fun hh=>h2 hh.2.1)) (fun h1=>no fun hh=>h1 hh.1)
  rw [if_pos ⟨h1,h2,h3⟩] at he
  omega
 ·have e:l.length - z.toNat = 0:=by omega
  rw [e,chN] at he
  exact he
theorem ZgX {l:List Element}{i s:Int}:∀ (k j:Nat),l.length ≤ k + j→(∃ (m:Nat) (x:Element),chN l i s k j = m∧j ≤ m∧l[m]? = some x∧CP i s x)∨(chN l i s k j = -1∧∀ (m:Nat) x,j ≤ m→l[m]? = some x→¬ CP i s x)
 | 0,j=>fun h=>.inr ⟨rfl,fun m x hm hx=>by have:=ZbQ hx; omega⟩
 | k + 1,j=>fun h=>by
  rw [chN]
  cases hx:l[j]? with
  | none=>exact .inr ⟨rfl,fun m y hm hy=>by have:=ZbQ hy; rw [List.getElem?_eq_none_iff] at hx; omega⟩
  | some x=>
   dsimp only
   split
   ·rename_i hc
    exact .inl ⟨j,x,rfl,Nat.le_refl _,hx,hc⟩
   ·rename_i hc
    rcases ZgX (l:=l) (i:=i) (s:=s) k (j + 1) (by omega) with ⟨m,y,h1,h2,h3,h4⟩ | ⟨h1,h2⟩
    ·exact .inl ⟨m,y,h1,by omega,h3,h4⟩
    ·refine .inr ⟨h1,fun m y hm hy=>?_⟩
     by_cases e:m = j
     ·subst e; rw [hx] at hy; cases hy; exact hc
     ·exact h2 m y (by omega) hy
theorem Zim {l:List Element}{i:Int}:∀ k,1 ≤ kds l i k→∃ (j:Nat) (y:Element),j < k∧1 ≤ j∧l[j]? = some y∧y.Parent = i
 | 0=>fun h=>by simp [kds] at h
 | k + 1=>fun h=>by
  rw [kds] at h
  by_cases hk:1 ≤ kds l i k
  ·obtain ⟨j,y,h1,h2⟩:=Zim k hk
   exact ⟨j,y,by omega,h2⟩
  ·split at h
   ·rename_i hc
    obtain ⟨h1,h2⟩:=hc
    cases hx:l[k]? with
    | none=>rw [hx] at h2; simp at h2
    | some x=>rw [hx] at h2; exact ⟨k,x,by omega,h1,hx,by simpa using h2⟩
   ·omega
theorem Zj7 {l:List Element}{i:Int}:∀ k,2 ≤ kds l i k→∃ (j m:Nat) (y z:Element),j < m∧m < k∧1 ≤ j∧l[j]? = some y∧y.Parent = i∧l[m]? = some z∧z.Parent = i
 | 0=>fun h=>by simp [kds] at h
 | k + 1=>fun h=>by
  rw [kds] at h
  by_cases hk:2 ≤ kds l i k
  ·obtain ⟨j,m,y,z,h1,h2,h3⟩:=Zj7 k hk
   exact ⟨j,m,y,z,h1,by omega,h3⟩
  ·split at h
   ·rename_i hc
    obtain ⟨h1,h2⟩:=hc
    obtain ⟨j,y,g1,g2,g3,g4⟩:=Zim (l:=l) (i:=i) k (by omega)
    cases hx:l[k]? with
    | none=>rw [hx] at h2; simp at h2
    | some x=>rw [hx] at h2; exact ⟨j,k,y,x,g1,by omega,g2,g3,g4,hx,by simpa using h2⟩
   ·omega
theorem Zeq {l:List Element}(h:VL l){i:Nat}{x:Element}(hx:l[i]? = some x) (h4:x.Kind ≠ 4){s:Int}(h3:x.Kind = 3→Lies s) (h0:x.Kind ≠ 3→s = 0):∃ (j:Nat) (y:Element),chF l i s = j∧i < j∧l[j]? = some y∧y.Kind ≠ 0:=by
 have hi:=ZbQ hx
 have kid:=h.kid i hi x hx
 -- a child's place
 have place:∀ (j:Nat) y,1 ≤ j→l[j]? = some y→y.Parent = i→(¬ (x.Kind = 3↔y.Side = 0))∧PlFree l j y∧y.Kind ≠ 0∧(0 ≤ y.Side∧y.Side ≤ 2):=fun j y hj hy hp=>by
  have ft:=h.ft j
  have el:=(h.el hy).2 (by omega)
  have eb:=el.1
  unfold elB at eb
  rw [decide_eq_true_iff] at eb
  unfold ftE at ft
  rw [hy] at ft
  dsimp only at ft
  split at ft
  ·omega
  ·split at ft
   ·omega
   ·split at ft
    ·omega
    ·split at ft
     ·omega
     ·have hx':l[y.Parent.toNat]? = some x:=by rw [hp,Int.toNat_natCast]; exact hx
      rw [hx'] at ft
      dsimp only at ft
      split at ft
      ·omega
      ·rename_i g1
       split at ft
       ·omega
       ·rename_i g2
        exact ⟨fun hh=>g1 (.inr hh),Decidable.not_not.1 g2,el.2.1,eb.2.2.2.2.1⟩
 have ex:∃ (j:Nat) (y:Element),1 ≤ j∧l[j]? = some y∧y.Parent = i∧y.Side = s:=by
  by_cases hk:x.Kind = 3
  ·have hs:=h3 hk
   unfold wantK at kid
   rw [if_pos hk] at kid
   obtain ⟨j,m,y,z,h1,h2,h5,hy,hpy,hz,hpz⟩:=Zj7 _ kid
   have py:=place j y h5 hy hpy
   have pz:=place m z (by omega) hz hpz
   have n1:y.Side ≠ 0:=fun e=>py.1 ⟨fun _=>e,fun _=>hk⟩
   have n2:z.Side ≠ 0:=fun e=>pz.1 ⟨fun _=>e,fun _=>hk⟩
   have n3:y.Side ≠ z.Side:=fun e=>pz.2.1 j h1 h5 (by rw [hy,Option.map_some,hpy,hpz,e])
   have r1:=py.2.2.2
   have r2:=pz.2.2.2
   by_cases e:y.Side = s
   ·exact ⟨j,y,h5,hy,hpy,e⟩
   ·exact ⟨m,z,by omega,hz,hpz,by rcases hs with hs | hs <;> omega⟩
  ·have hs:=h0 hk
   unfold wantK at kid
   rw [if_neg hk,if_neg h4] at kid
   obtain ⟨j,y,h1,h2,hy,hp⟩:=Zim _ kid
   have py:=place j y h2 hy hp
   refine ⟨j,y,h2,hy,hp,?_⟩
   by_cases e:y.Side = 0
   ·rw [e,hs]
   ·exact absurd ⟨fun h=>absurd h hk,fun h=>absurd h e⟩ py.1
 obtain ⟨j,y,hj,hy,hp,hs⟩:=ex
 have py:=place j y hj hy hp
 rcases ZgX (l:=l) (i:=(i:Int)) (s:=s) l.length 0 (by omega) with ⟨m,z,e,_,hz,hc⟩ | ⟨_,hn⟩
 ·have:=h.par hz
  exact ⟨m,z,e,by have:=hc.2.1; omega,hz,hc.1⟩
 ·exact absurd ⟨py.2.2.1,hp,hs⟩ (hn j y (by omega) hy)
end Go.Hy
namespace Go.Hy
set_option linter.unusedVariables false
set_option linter.unusedSimpArgs false
set_option maxHeartbeats 2000000
set_option maxRecDepth 10000
open Go.Hy.Iv
def rnOf (c:Rolling) (ps:List Piece):Run:=⟨c.Speed,resP c.Resist ps,selP c.Targets ps⟩
theorem ZhA {xs:List Int}:∀ {ps:List Piece},(selP xs ps).length = nret ps
 | []=>rfl
 | p :: ps=>by
  have ih:=ZhA (xs:=xs) (ps:=ps)
  unfold selP at ih ⊢
  unfold nret
  rw [List.filter_cons]
  by_cases hp:0 < p.Power
  ·rw [if_pos (decide_eq_true hp),if_pos hp,List.map_cons,List.length_cons,ih]; omega
  ·rw [if_neg (by simp [hp]),if_neg hp,ih]; omega
theorem ZiW {f:Int→Bool}{xs:List Int}(h:xs.all f = true) (h0:f 0 = true) (e:Nat):f ((xs[e]?).getD 0) = true:=by
 cases hx:xs[e]? with
 | none=>exact h0
 | some x=>exact List.all_eq_true.1 h x (ZbH hx)
theorem rn_ok {l:List Element}{c:Rolling}(hc:RlOk l c){ps:List Piece}:RunOk ps (rnOf c ps):=by
 refine rE_ok ⟨Zhc,ZhA⟩ ⟨?_,hc.sp,?_⟩
 ·show (resP c.Resist ps).all wB = true
  unfold resP
  rw [List.all_map,List.all_eq_true]
  exact fun p _=>ZiW hc.r (by decide) _
 ·show (selP c.Targets ps).all tB = true
  unfold selP
  rw [List.all_map,List.all_eq_true]
  exact fun p _=>ZiW hc.t (by decide) _
abbrev InL (l:List Element) (ps:List Piece):Prop:=∀ p∈ps,0 ≤ p.Element∧p.Element < l.length
theorem run_e {l:List Element}{c:Rolling}(hc:RlOk l c){ps:List Piece}(hp:PsOk ps) (hi:InL l ps):Zel ps c = some (ptAll ps (rnOf c ps),ptStop ps (rnOf c ps)):=by
 refine Ok.eq (?_:Ok _ _)
 have hl:=hp.len
 have h1:=hc.rl
 have h2:=hc.tl
 unfold Zel
 refine Zby (fun z=>z.1 = resP c.Resist ps∧z.2 = selP c.Targets ps) (fun z ⟨hz1,hz2⟩=>?_) (fun k hk=>?_)
 ·rw [hz1,hz2]
  refine ZaN (Point_m hp (rn_ok hc)) (Zan rfl)
 ·refine Zbi (fun z=>0 ≤ z.2.2∧z.2.2 ≤ (ps.length:Int)∧z.1 = resP c.Resist (ps.take z.2.2.toNat)∧z.2.1 = selP c.Targets (ps.take z.2.2.toNat)) (fun z=>((ps.length:Int) - z.2.2).toNat) ⟨Int.le_refl 0,by dsimp only; omega,by simp [resP],by simp [selP]⟩ (by rw [ZaY]; dsimp only; omega) fun z k2 ⟨z0,z1,zr,zt⟩ hk2=>?_
  refine Zat (fun h=>Za5 z0 h fun p hpp=>?_) (fun h=>hk _ ⟨by dsimp only; rw [zr,ZeL h],by dsimp only; rw [zt,ZeL h]⟩)
  have hpe:=hi p (ZbH hpp)
  have l1:z.1.length ≤ ps.length:=by rw [zr,Zhc,List.length_take]; omega
  have l2:z.2.1.length ≤ ps.length:=by rw [zt]; exact Nat.le_trans Zg9 (by rw [List.length_take]; omega)
  refine Za5 hpe.1 (by omega) fun r hr=>Zbu (by simp only [List.length_singleton]; omega) (Za8 fun y1 hy1=>?_)
  have s1:=ZhJ z0 hpp hr
  rw [Zaz (n:=z.2.2 + 1) (by omega)]
  refine Zat (fun hpw=>Za5 hpe.1 (by omega) fun u hu=>Zbu (by simp only [List.length_singleton]; omega) (Za8 fun y2 hy2=>?_)) (fun hpw=>?_)
  ·exact hk2 _ ⟨by dsimp only; omega,by dsimp only; omega,by dsimp only; rw [hy1,s1,zr],by dsimp only; rw [hy2,ZfH z0 hpp hpw hu,zt]⟩ (by dsimp only; omega)
  ·exact hk2 _ ⟨by dsimp only; omega,by dsimp only; omega,by dsimp only; rw [hy1,s1,zr],by dsimp only; rw [ZfI z0 hpp hpw,zt]⟩ (by dsimp only; omega)
def entF (c:Rolling) (ps:List Piece):Int×Bool:=
 if ps.length = 0 then (c.Release,true) else if 0 ≤ ptStop ps (rnOf c ps) then (0,false) else
 match (ptAll ps (rnOf c ps))[(ptAll ps (rnOf c ps)).length - 1]? with
 | none=>(0,false)
 | some m=>(w64 (c.Release + m.Time),true)
theorem Zeh {ps:List Piece}{r:Run}:1 ≤ (ptAll ps r).length∧(ptAll ps r).length ≤ ps.length + 1:=by
 unfold ptAll
 have:=ZkL (ps:=ps) (ws:=r.Resist) (ts:=r.Targets) (x:=pt0 r)
 rw [List.length_cons]; omega
theorem entry_e {l:List Element}{c:Rolling}(hc:RlOk l c){ps:List Piece}(hp:ps.length = 0∨PsOk ps) (hi:InL l ps):ZdE ps c = some (entF c ps):=by
 refine Ok.eq (?_:Ok _ _)
 unfold ZdE entF
 refine Zat (fun h=>Zan (by rw [if_pos (by omega)])) (fun h=>?_)
 rw [if_neg (by omega)]
 have hp:=hp.resolve_left (by omega)
 have hl:=hp.len
 have hm:=Zeh (ps:=ps) (r:=rnOf c ps)
 refine ZaN (run_e hc hp hi) (Zat (fun h=>Zan (by rw [if_pos h])) (fun h=>?_))
 rw [if_neg h]
 dsimp only
 rw [Zaz (n:=((ptAll ps (rnOf c ps)).length:Int) - 1) (by omega)]
 refine Za5 (by omega) (by omega) fun m hmm=>Zan ?_
 have e:((((ptAll ps (rnOf c ps)).length:Nat):Int) - 1).toNat = (ptAll ps (rnOf c ps)).length - 1:=by omega
 rw [e] at hmm
 rw [hmm]
def ov (a b:Span):Bool:=decide (a.Element = b.Element) && (decide (a.From < b.To) && decide (b.From < a.To))
theorem Zh0 {a b:Span}:ZcF a b = some (decide (a.From < b.To) && decide (b.From < a.To)):=by
 refine Ok.eq (?_:Ok _ _)
 unfold ZcF
 exact Zat (fun h=>Zan (by simp [h])) (fun h=>Zan (by simp [h]))
def meN (x:Span):List Ride→Nat→Int
 | [],_=>-1
 | r :: rs,j=>if r.Spans.any (ov x) then (j:Int) else meN x rs (j + 1)
theorem Zi5 {α:Type}{f:α→Bool}{l:List α}(h:Scan (fun a=>!f a) l l.length):l.any f = false:=by
 have:=h.2
 rw [Int.toNat_natCast,List.take_length] at this
 rw [List.any_eq_false]
 intro a ha hf
 have:=List.all_eq_true.1 this a ha
 rw [hf] at this; simp at this
theorem meets_e {p:HumpPush}{x:Span}(hl:p.frides.length ≤ 1000000000) (hs:∀ r∈p.frides,r.Spans.length ≤ 1000000000):Zcn p x = some (meN x p.frides 0):=by
 refine Ok.eq (?_:Ok _ _)
 unfold Zcn
 refine Zbi (fun z=>0 ≤ z∧z ≤ (p.frides.length:Int)∧meN x (p.frides.drop z.toNat) z.toNat = meN x p.frides 0) (fun z=>((p.frides.length:Int) - z).toNat) ⟨Int.le_refl 0,by omega,rfl⟩ (by rw [ZaY]; omega) fun z k ⟨z0,z1,ze⟩ hk=>?_
 refine Zat (fun h=>Za5 z0 h fun r hr=>?_) (fun h=>Zan ?_)
 ·have hrl:=hs r (ZbH hr)
  rw [ZbS hr,meN] at ze
  refine Zbi (fun y=>0 ≤ y∧y ≤ (r.Spans.length:Int)∧Scan (fun a=>!ov x a) r.Spans y) (fun y=>((r.Spans.length:Int) - y).toNat) ⟨Int.le_refl 0,by omega,Scan.zero⟩ (by rw [ZaY]; omega) fun y k2 ⟨y0,y1,ys⟩ hk2=>?_
  refine Zat (fun h2=>Za5 y0 h2 fun b hb=>?_) (fun h2=>?_)
  ·rw [Zaz (n:=y + 1) (by omega)]
   have go:ov x b = false→Ok (k2 (y + 1)) (· = meN x p.frides 0):=fun hov=>hk2 _ ⟨by omega,by omega,ys.step hb (by rw [hov]; rfl)⟩ (by omega)
   refine Zat (fun he=>ZaN Zh0 (ok_b (fun ht=>Zan ?_) (fun hf=>go ?_))) (fun he=>go ?_)
   ·rw [if_pos (List.any_eq_true.2 ⟨b,ZbH hb,by unfold ov; rw [decide_eq_true he,ht]; rfl⟩)] at ze
    omega
   ·unfold ov; rw [hf]; simp
   ·unfold ov; rw [decide_eq_false he]; rfl
  ·rw [Zaz (n:=z + 1) (by omega)]
   have e:(r.Spans.length:Int) = y:=by omega
   rw [if_neg (by rw [Zi5 (e ▸ ys)]; simp)] at ze
   have e2:(z + 1).toNat = z.toNat + 1:=by omega
   exact hk _ ⟨by omega,by omega,by rw [e2]; exact ze⟩ (by omega)
 ·rw [List.drop_eq_nil_of_le (by omega),meN] at ze
  exact ze
def movF (th:Int) (done:List (Int×List Command)) (x:Command):Bool:=(listOf x.Element done).any (fun d=>decide (x.Time < w64 (d.Time + th))) && decide (0 < th)
theorem ZkR {p:HumpPush}{x:Command}(hl:(listOf x.Element p.fdone).length ≤ 1000000000):Zcd p x = some (movF p.fs.Throw p.fdone x):=by
 refine Ok.eq (?_:Ok _ _)
 unfold Zcd movF
 refine Za8 fun n hn=>?_
 subst hn
 refine Zbi (fun y=>0 ≤ y∧y ≤ ((listOf x.Element p.fdone).length:Int)∧Scan (fun d=>!decide (x.Time < w64 (d.Time + p.fs.Throw))) (listOf x.Element p.fdone) y) (fun y=>(((listOf x.Element p.fdone).length:Int) - y).toNat) ⟨Int.le_refl 0,by omega,Scan.zero⟩ (by rw [ZaY]; omega) fun y k2 ⟨y0,y1,ys⟩ hk2=>?_
 refine Zat (fun h2=>Za5 y0 h2 fun b hb=>Zat (fun hlt=>Zan ?_) (fun hge=>?_)) (fun h2=>Zan ?_)
 ·rw [List.any_eq_true.2 ⟨b,ZbH hb,decide_eq_true hlt⟩]; rfl
 ·rw [Zaz (n:=y + 1) (by omega)]
  exact hk2 _ ⟨by omega,by omega,ys.step hb (by rw [decide_eq_false hge]; rfl)⟩ (by omega)
 ·have e:((listOf x.Element p.fdone).length:Int) = y:=by omega
  rw [Zi5 (e ▸ ys)]; rfl
def sideF (th:Int) (start:List (Int×Int)) (done:List (Int×List Command)) (i t:Int):Int×Bool:=
 match (listOf i done).reverse.find? (fun c=>decide (c.Time ≤ t)) with
 | some c=>(c.Side,decide (t < w64 (c.Time + th)))
 | none=>if (mfind keyP i start).isSome then (intOf i start,false) else (1,false)
theorem side_e {p:HumpPush}{i t:Int}(hl:(listOf i p.fdone).length ≤ 1000000000):Zcx p i t = some (sideF p.fs.Throw p.fstart p.fdone i t):=by
 refine Ok.eq (?_:Ok _ _)
 unfold Zcx
 refine Zby (fun _=>(listOf i p.fdone).reverse.find? (fun c=>decide (c.Time ≤ t)) = none) (fun _ hn=>?_) (fun k hk=>?_)
 ·unfold sideF
  rw [hn]
  dsimp only
  refine ok_b (fun hb=>Zan (by rw [if_pos hb])) (fun hb=>Zan (by rw [if_neg (by rw [hb]; simp)]))
 ·refine Za8 fun n hn=>?_
  subst hn
  rw [Zaz (n:=((listOf i p.fdone).length:Int) - 1) (by omega)]
  refine Zbi (fun z=>-1 ≤ z∧z < ((listOf i p.fdone).length:Int)∧((listOf i p.fdone).take (z + 1).toNat).reverse.find? (fun c=>decide (c.Time ≤ t)) = (listOf i p.fdone).reverse.find? (fun c=>decide (c.Time ≤ t))) (fun z=>(z + 1).toNat) ⟨by omega,by omega,by rw [List.take_of_length_le (by omega)]⟩ (by rw [ZaY]; omega) fun z k2 ⟨z0,z1,ze⟩ hk2=>?_
  refine Zat (fun h=>Za5 h z1 fun c hc=>?_) (fun h=>hk _ ?_)
  ·have e:(z + 1).toNat = z.toNat + 1:=by omega
   rw [e,Zcy hc,List.reverse_append,List.reverse_singleton,List.singleton_append,List.find?_cons] at ze
   refine Zat (fun ht=>Za1 h hc (Za1 h hc (Zan ?_))) (fun ht=>?_)
   ·rw [decide_eq_true ht] at ze
    dsimp only at ze
    unfold sideF
    rw [← ze]
   ·rw [decide_eq_false ht] at ze
    dsimp only at ze
    rw [Zaz (n:=z - 1) (by omega)]
    refine hk2 _ ⟨by omega,by omega,?_⟩ (by omega)
    have e2:z - 1 + 1 = z:=by omega
    rw [e2]; exact ze
  ·have e:(z + 1).toNat = 0:=by omega
   rw [e,List.take_zero,List.reverse_nil,List.find?_nil] at ze
   exact ze.symm
end Go.Hy
namespace Go.Hy
set_option linter.unusedVariables false
set_option linter.unusedSimpArgs false
set_option maxHeartbeats 2000000
set_option maxRecDepth 10000
open Go.Hy.Iv
abbrev Done:=List (Int×List Command)
def pcX (i:Int) (x:Element) (len:Int):Piece:=⟨i,len,x.Grade,x.Curve,x.Power⟩
def swF (s:Scene) (start:List (Int×Int)) (done:Done) (k:Int) (c:Rolling) (ps:List Piece) (i:Int) (x:Element) (inc:List Incident):List Incident×Int:=
 if x.Kind = 3 then
  if (entF c ps).2 = true then
   (if (sideF s.Throw start done i (entF c ps).1).2 = true then inc ++ [⟨2,k,-1,i,(entF c ps).1⟩] else inc,(sideF s.Throw start done i (entF c ps).1).1)
  else (inc,1)
 else (inc,0)
def pathF (s:Scene) (start:List (Int×Int)) (done:Done) (k:Int) (c:Rolling):Nat→List Incident→List Piece→Int→List Incident×List Piece
 | 0,inc,ps,_=>(inc,ps)
 | n + 1,inc,ps,i=>if i < 1 then (inc,ps) else match s.Elements[i.toNat]? with
  | none=>(inc,ps)
  | some x=>if x.Kind = 4 then (inc,ps ++ [pcX i x c.Length]) else
   pathF s start done k c n (swF s start done k c ps i x inc).1 (ps ++ [pcX i x x.Length]) (chF s.Elements i (swF s start done k c ps i x inc).2)
theorem ch_up {l:List Element}(h:VL l){i s:Int}:chF l i s < 1∨i < chF l i s:=by
 rcases ZgX (l:=l) (i:=i) (s:=s) l.length 0 (by omega) with ⟨m,z,e,_,hz,hc⟩ | ⟨e,_⟩
 ·have:=h.par hz
  refine .inr ?_
  unfold chF
  rw [e,← hc.2.1]; omega
 ·exact .inl (by unfold chF; omega)
theorem ZgP {s:Scene}(h:VL s.Elements){start:List (Int×Int)}{done:Done}{k:Int}{c:Rolling}:∀ (n m:Nat) (inc:List Incident) (ps:List Piece) (i:Int),(i < 1∨s.Elements.length ≤ n + i.toNat)→(i < 1∨s.Elements.length ≤ m + i.toNat)→pathF s start done k c n inc ps i = pathF s start done k c m inc ps i:=by
 intro n
 induction n with
 | zero=>
  intro m inc ps i h1 h2
  cases m with
  | zero=>rfl
  | succ m=>
   rw [pathF,pathF]
   by_cases hi:i < 1
   ·rw [if_pos hi]
   ·rw [if_neg hi,List.getElem?_eq_none (by omega)]
 | succ n ih=>
  intro m inc ps i h1 h2
  cases m with
  | zero=>
   rw [pathF,pathF]
   by_cases hi:i < 1
   ·rw [if_pos hi]
   ·rw [if_neg hi,List.getElem?_eq_none (by omega)]
  | succ m=>
   rw [pathF,pathF]
   by_cases hi:i < 1
   ·rw [if_pos hi,if_pos hi]
   ·rw [if_neg hi,if_neg hi]
    cases hx:s.Elements[i.toNat]? with
    | none=>rfl
    | some x=>
     dsimp only
     split
     ·rfl
     ·have:=ch_up h (i:=i) (s:=(swF s start done k c ps i x inc).2)
      exact ih m _ _ _ (by omega) (by omega)
def shiftF (c:Rolling) (y:Span):Span:=⟨y.Element,y.Side,w64 (y.From + c.Release),if y.To = 1000000000 then 2000000000 else w64 (y.To + c.Release)⟩
def rideF (l:List Element) (c:Rolling) (ps:List Piece):Ride:=
 ⟨if ptStop ps (rnOf c ps) < 0∨ptStop ps (rnOf c ps) = (ps.length:Int) - 1 then ((ps[ps.length - 1]?).map (·.Element)).getD (-1) else -1,(exE l ps (ptAll ps (rnOf c ps)) c.Length).1.map (shiftF c)⟩
def metF (k:Int) (sp:List Span):List Ride→Nat→List Incident
 | [],_=>[]
 | r :: rs,j=>(match sp.find? (fun x=>r.Spans.any (ov x)) with
  | none=>[]
  | some x=>[⟨3,k,j,x.Element,x.From⟩]) ++ metF k sp rs (j + 1)
def cmdF (th k:Int) (rides:List Ride) (st:Done×List Incident) (x:Command):Done×List Incident:=
 if x.Cut = k then
  if 0 ≤ meN ⟨x.Element,0,x.Time,w64 (x.Time + th)⟩ rides 0∨movF th st.1 x = true then (st.1,st.2 ++ [⟨1,x.Cut,meN ⟨x.Element,0,x.Time,w64 (x.Time + th)⟩ rides 0,x.Element,x.Time⟩])
  else (mput (fun p=>p.1) (x.Element,listOf x.Element st.1 ++ [x]) st.1,st.2)
 else st
def startF (s:Scene):List (Int×Int):=s.Start.foldl (fun m t=>mput keyP (t.Element,t.Side) m) []
structure PSt where
 done:Done
 rides:List Ride
 inc:List Incident
def stepF (s:Scene) (st:PSt) (k:Int) (c:Rolling):PSt:=
 let a:=s.Commands.foldl (cmdF s.Throw k st.rides) (st.done,st.inc)
 let b:=pathF s (startF s) a.1 k c s.Elements.length a.2 [] (chF s.Elements 0 0)
 let r:=rideF s.Elements c b.2
 ⟨a.1,st.rides ++ [r],(b.1 ++ metF k r.Spans st.rides 0) ++ (if r.Track ≠ c.Track then [⟨4,k,-1,-1,0⟩] else [])⟩
def runN (s:Scene):Nat→PSt
 | 0=>⟨[],[],[]⟩
 | n + 1=>match s.Cuts[n]? with
  | none=>runN s n
  | some c=>stepF s (runN s n) n c
theorem Zfd {e:Int}{l:List Command}:∀ {m:Done},listOf e (mput (fun p=>p.1) (e,l) m) = l∧∀ d,d ≠ e→listOf d (mput (fun p=>p.1) (e,l) m) = listOf d m
 | []=>by
  refine ⟨?_,fun d hd=>?_⟩
  ·unfold listOf mput mfind; simp
  ·unfold listOf mput mfind mfind; simp [Ne.symm hd]
 | b :: m=>by
  obtain ⟨ih1,ih2⟩:=Zfd (e:=e) (l:=l) (m:=m)
  unfold mput
  by_cases hb:b.1 = e
  ·rw [if_pos hb]
   refine ⟨?_,fun d hd=>?_⟩
   ·unfold listOf mfind; simp
   ·unfold listOf
    rw [mfind,mfind,if_neg (Ne.symm hd),if_neg (by rw [hb]; exact Ne.symm hd)]
  ·rw [if_neg hb]
   refine ⟨?_,fun d hd=>?_⟩
   ·unfold listOf at ih1 ⊢
    rw [mfind,if_neg hb]; exact ih1
   ·have:=ih2 d hd
    unfold listOf at this ⊢
    rw [mfind,mfind]
    split
    ·rfl
    ·exact this
theorem Zgd {e v:Int}:∀ {m:List (Int×Int)},(intOf e (mput keyP (e,v) m) = v∧(mfind keyP e (mput keyP (e,v) m)).isSome = true)∧∀ d,d ≠ e→intOf d (mput keyP (e,v) m) = intOf d m∧(mfind keyP d (mput keyP (e,v) m)).isSome = (mfind keyP d m).isSome
 | []=>by
  refine ⟨?_,fun d hd=>?_⟩
  ·unfold intOf mput mfind keyP; simp
  ·unfold intOf mput mfind mfind keyP; simp [Ne.symm hd]
 | b :: m=>by
  obtain ⟨⟨ih1,ih3⟩,ih2⟩:=Zgd (e:=e) (v:=v) (m:=m)
  unfold mput
  by_cases hb:keyP b = keyP (e,v)
  ·rw [if_pos hb]
   have hb:keyP b = e:=hb
   refine ⟨?_,fun d hd=>?_⟩
   ·unfold intOf mfind; simp [keyP]
   ·unfold intOf
    rw [mfind,mfind,if_neg (by unfold keyP; exact Ne.symm hd),if_neg (by rw [hb]; exact Ne.symm hd)]
    exact ⟨rfl,rfl⟩
  ·rw [if_neg hb]
   have hb:¬ keyP b = e:=hb
   refine ⟨?_,fun d hd=>?_⟩
   ·unfold intOf at ih1 ⊢
    rw [mfind,if_neg hb]; exact ⟨ih1,ih3⟩
   ·have:=ih2 d hd
    unfold intOf at this ⊢
    rw [mfind,mfind]
    split
    ·exact ⟨rfl,rfl⟩
    ·exact this
end Go.Hy
namespace Go.Hy
set_option linter.unusedVariables false
set_option linter.unusedSimpArgs false
set_option maxHeartbeats 2000000
set_option maxRecDepth 10000
open Go.Hy.Iv
structure SV (s:Scene):Prop where
 l0:lE s.Elements = 0
 cm:s.Commands.length ≤ 1024
 ct:s.Cuts.length ≤ 96
 sl:s.Start.length ≤ 9223372036854775807
 v:SVt s
theorem Zfj {α β:Type}{f:β→α→β}{b:β}{l:List α}{z:Int}{a:α}(hz:0 ≤ z) (ha:l[z.toNat]? = some a):(l.take (z + 1).toNat).foldl f b = f ((l.take z.toNat).foldl f b) a:=by
 have e:(z + 1).toNat = z.toNat + 1:=by omega
 rw [e,Zcy ha,List.foldl_append]; rfl
theorem ZjD {f:Nat→Option Span}:∀ {k i:Nat},(rows f k i).length ≤ k
 | 0,i=>by simp [rows]
 | k + 1,i=>by
  rw [rows]
  cases f i with
  | none=>simp
  | some s=>dsimp only; rw [List.length_cons]; have:=ZjD (f:=f) (k:=k) (i:=i + 1); omega
theorem Zkg {l:List Element}{ps:List Piece}{m:List Moment}{n:Int}:(exE l ps m n).1.length ≤ ps.length:=by
 unfold exE
 split
 ·simp
 ·have:=ZjD (f:=exF l ps m n) (k:=ps.length - 1) (i:=0)
  dsimp only; omega
theorem Zit {α:Type}{f:α→Bool}{l:List α}{z:Int}{a:α}(hs:Scan (fun x=>!f x) l z) (ha:l[z.toNat]? = some a) (hf:f a = true):l.find? f = some a:=by
 have e:l = l.take z.toNat ++ a :: l.drop (z.toNat + 1):=by rw [← ZbS ha,List.take_append_drop]
 rw [e,List.find?_append,List.find?_eq_none.2 (fun x hx hfx=>by
  have:=List.all_eq_true.1 hs.2 x hx
  rw [hfx] at this; simp at this),Option.none_or,List.find?_cons,hf]
theorem Zis {α:Type}{f:α→Bool}{l:List α}{z:Int}(hs:Scan (fun x=>!f x) l z) (hz:¬ z < (l.length:Int)):l.find? f = none:=by
 rw [List.find?_eq_none]
 intro x hx hfx
 have:=List.all_eq_true.1 (hs.done hz) x hx
 rw [hfx] at this; simp at this
theorem ZhR {l:List Element}(h:VL l){i:Int}{x:Element}(hi:1 ≤ i) (hx:l[i.toNat]? = some x){len:Int}(hl:1 ≤ len∧len ≤ 1000000):PieceOk (pcX i x len):=by
 have el:=(h.el hx).2 (by omega)
 have eb:=el.1
 unfold elB at eb
 rw [decide_eq_true_iff] at eb
 have hlt:=ZbQ hx
 have hv:=h.len
 obtain ⟨_,_,g3,g4,_,g6,g7⟩:=eb
 refine ⟨⟨by show 0 ≤ i; omega,by show i ≤ 127; omega⟩,hl,g3,g4,?_⟩
 show 0 ≤ x.Power∧x.Power ≤ 1000000000
 by_cases hk:x.Kind = 2
 ·have:=g6 hk; omega
 ·have:=g7 hk; omega
theorem PsOk.snoc {ps:List Piece}{p:Piece}(h:ps.length = 0∨PsOk ps) (hl:ps.length ≤ 127) (hp:PieceOk p):PsOk (ps ++ [p]):=by
 refine ⟨by simp; omega,fun q hq=>?_⟩
 rw [List.mem_append,List.mem_singleton] at hq
 rcases hq with hq | hq
 ·rcases h with h | h
  ·rw [List.length_eq_zero_iff] at h; rw [h] at hq; simp at hq
  ·exact h.ok q hq
 ·rw [hq]; exact hp
abbrev StL (m:List (Int×Int)):Prop:=∀ d,(mfind keyP d m).isSome = true→Lies (intOf d m)
theorem StL.put {m:List (Int×Int)}(h:StL m){e v:Int}(hv:Lies v):StL (mput keyP (e,v) m):=fun d hd=>by
 obtain ⟨⟨g1,_⟩,g2⟩:=Zgd (e:=e) (v:=v) (m:=m)
 by_cases hde:d = e
 ·rw [hde,g1]; exact hv
 ·rw [(g2 d hde).1]
  rw [(g2 d hde).2] at hd
  exact h d hd
structure DnOk (n:Nat) (d:Done):Prop where
 l:∀ e,(listOf e d).length ≤ n
 s:∀ e,∀ x∈listOf e d,Lies x.Side
theorem DnOk.put {n:Nat}{d:Done}(h:DnOk n d){x:Command}(hx:Lies x.Side):DnOk (n + 1) (mput (fun p=>p.1) (x.Element,listOf x.Element d ++ [x]) d):=by
 obtain ⟨g1,g2⟩:=Zfd (e:=x.Element) (l:=listOf x.Element d ++ [x]) (m:=d)
 refine ⟨fun e=>?_,fun e y hy=>?_⟩
 ·by_cases he:e = x.Element
  ·rw [he,g1,List.length_append,List.length_singleton]; have:=h.l x.Element; omega
  ·rw [g2 e he]; have:=h.l e; omega
 ·by_cases he:e = x.Element
  ·rw [he,g1,List.mem_append,List.mem_singleton] at hy
   rcases hy with hy | hy
   ·exact h.s _ y hy
   ·rw [hy]; exact hx
  ·rw [g2 e he] at hy; exact h.s e y hy
theorem DnOk.up {n m:Nat}{d:Done}(h:DnOk n d) (hm:n ≤ m):DnOk m d:=⟨fun e=>Nat.le_trans (h.l e) hm,h.s⟩
theorem Zea {th i t:Int}{start:List (Int×Int)}{d:Done}{n:Nat}(hs:StL start) (hd:DnOk n d):Lies (sideF th start d i t).1:=by
 unfold sideF
 cases hf:(listOf i d).reverse.find? (fun c=>decide (c.Time ≤ t)) with
 | some c=>
  have:=List.mem_of_find?_eq_some hf
  rw [List.mem_reverse] at this
  exact hd.s i c this
 | none=>
  dsimp only
  split
  ·rename_i h; exact hs i h
  ·exact .inl rfl
structure RInv (s:Scene) (n:Nat) (st:PSt):Prop where
 rl:st.rides.length = n
 sp:∀ r∈st.rides,r.Spans.length ≤ 128
 il:st.inc.length ≤ 2000 * n
 dn:DnOk (1024 * n) st.done
abbrev RQ (s:Scene) (v:List Ride×List Incident×Int):Prop:=v = ((runN s s.Cuts.length).rides,(runN s s.Cuts.length).inc,0)∧RInv s s.Cuts.length (runN s s.Cuts.length)
theorem Zg0 {s:Scene}(h:SV s) (hv:Zb5 s = some 0):Ok (ZcW s) (RQ s):=by
 have vl:=ZhV h.l0
 have hlen:=vl.len
 have hcm:=h.cm
 have hct:=h.ct
 have hsl:=h.sl
 have hsh:=ZfG vl
 have hth:=h.v.th
 unfold ZcW
 refine ZaN hv (Zdl (by simp) ?_)
 refine Zby (fun z=>z = startF s∧StL z) (fun z8 ⟨e8,s8⟩=>?_) (fun k10 hk10=>?_)
 ·subst e8
  refine Zby (fun z=>z = ((runN s s.Cuts.length).done,(runN s s.Cuts.length).rides,(runN s s.Cuts.length).inc)∧RInv s s.Cuts.length (runN s s.Cuts.length)) (fun z13 ⟨e13,ri⟩=>Zan ⟨by rw [e13],ri⟩) (fun k15 hk15=>?_)
  refine Zbi (fun z=>0 ≤ z.2.2.2∧z.2.2.2 ≤ (s.Cuts.length:Int)∧runN s z.2.2.2.toNat = ⟨z.1,z.2.1,z.2.2.1⟩∧RInv s z.2.2.2.toNat ⟨z.1,z.2.1,z.2.2.1⟩) (fun z=>((s.Cuts.length:Int) - z.2.2.2).toNat) ⟨Int.le_refl 0,by dsimp only; omega,rfl,rfl,fun r hr=>by simp at hr,by simp,fun e=>by simp [listOf,mfind],fun e x hx=>by simp [listOf,mfind] at hx⟩ (by rw [ZaY]; dsimp only; omega) fun z19 k21 ⟨z0,z1,zr,zi⟩ hk21=>?_
  obtain ⟨zdone,zrides,zinc,zk⟩:=z19
  dsimp only at z0 z1 zr zi hk21 ⊢
  have irl:=zi.rl
  have isp:=zi.sp
  have iil:=zi.il
  have idn:=zi.dn
  dsimp only at irl isp iil idn
  refine Zat (fun hlt=>Za5 z0 hlt fun c hc=>?_) (fun hge=>hk15 _ ?_)
  ·have hrl:=(h.v.ct _ c hc).1
   have hcl:=hrl.len
   refine Zby (fun w=>w = s.Commands.foldl (cmdF s.Throw zk zrides) (zdone,zinc)∧w.2.length ≤ zinc.length + 1024∧DnOk (1024 * zk.toNat + 1024) w.1) (fun w ⟨ew,wl,wd⟩=>?_) (fun k34 hk34=>?_)
   ·obtain ⟨wdone,winc⟩:=w
    dsimp only at wl wd ew ⊢
    have hdl:∀ e,(listOf e wdone).length ≤ 1000000000:=fun e=>by have:=wd.l e; omega
    refine Za1 z0 hc (Za1 z0 hc (ZaN (Zkl (by omega)) ?_))
    have hroot:∃ x,s.Elements[0]? = some x:=⟨_,List.getElem?_eq_getElem (by omega)⟩
    obtain ⟨x0,hx0⟩:=hroot
    have k0:=((vl.el hx0).1 rfl).1
    obtain ⟨j0,y0,hj0,hj1,hy0,_⟩:=Zeq vl hx0 (by omega) (s:=0) (fun h=>by omega) (fun _=>rfl)
    have hj0':chF s.Elements 0 0 = j0:=hj0
    have hj2:=ZbQ hy0
    generalize hP:pathF s (startF s) wdone zk c s.Elements.length winc [] (chF s.Elements 0 0) = P0
    refine Zbi (fun z=>1 ≤ z.2.2∧z.2.2 < (s.Elements.length:Int)∧(z.2.1.length:Int) < z.2.2∧(z.2.1.length = 0∨PsOk z.2.1)∧InL s.Elements z.2.1∧z.1.length ≤ winc.length + z.2.1.length∧pathF s (startF s) wdone zk c s.Elements.length z.1 z.2.1 z.2.2 = P0) (fun z=>((s.Elements.length:Int) - z.2.2).toNat)
     ⟨by dsimp only; omega,by dsimp only; omega,by dsimp only [List.length_nil]; omega,.inl rfl,fun p hp=>by simp at hp,by simp,hP⟩ (by rw [ZaY]; dsimp only; omega) fun z52 k54 ⟨i0,i1,pl,pok,pin,pil,pP⟩ hk54=>?_
    obtain ⟨inc,ps,i⟩:=z52
    dsimp only at i0 i1 pl pok pin pil pP hk54 ⊢
    refine Za5 (by omega) i1 fun x hx=>?_
    have hpl:ps.length ≤ 126:=by omega
    obtain ⟨fu,hfu⟩:∃ fu,s.Elements.length = fu + 1:=⟨s.Elements.length - 1,by omega⟩
    have pP':=pP
    rw [hfu,pathF,if_neg (by omega),hx] at pP'
    dsimp only at pP'
    have el:=(vl.el hx).2 (by omega)
    refine Zby (fun q=>q = swF s (startF s) wdone zk c ps i x inc∧x.Kind ≠ 4∧q.1.length ≤ inc.length + 1∧(x.Kind = 3→Lies q.2)∧(x.Kind ≠ 3→q.2 = 0)) (fun q ⟨eq,hk4,ql,q3,q0⟩=>?_) (fun k65 hk65=>?_)
    ·have eb:=el.1
     unfold elB at eb
     rw [decide_eq_true_iff] at eb
     refine Zbu (by simp only [List.length_singleton]; omega) (Za8 fun y hy=>ZaN (Zkl (by omega)) ?_)
     have hxi:s.Elements[i.toNat]? = some x:=hx
     obtain ⟨j,yy,hj,hij,hyy,_⟩:=Zeq vl hxi hk4 (s:=q.2) q3 q0
     have ei:((i.toNat:Nat):Int) = i:=by omega
     rw [ei] at hj
     have hjl:=ZbQ hyy
     rw [if_neg hk4,← eq] at pP'
     have hlen2:y.length = ps.length + 1:=by rw [hy]; simp
     refine hk54 _ ⟨by dsimp only; omega,by dsimp only; omega,by dsimp only; omega,.inr ?_,?_,by dsimp only; omega,?_⟩ (by dsimp only; omega)
     ·dsimp only; rw [hy]; exact PsOk.snoc pok (by omega) (ZhR vl i0 hx eb.2.1)
     ·dsimp only
      rw [hy]
      intro p hp
      rw [List.mem_append,List.mem_singleton] at hp
      rcases hp with hp | hp
      ·exact pin p hp
      ·rw [hp]; exact ⟨by dsimp only; omega,i1⟩
     ·dsimp only
      rw [hy,← pP']
      exact ZgP vl _ _ _ _ _ (by omega) (by omega)
    ·refine Zat (fun hk4=>?_) (fun hk4=>Zat (fun hk3=>?_) (fun hk3=>hk65 _ ⟨?_,hk4,by dsimp only; omega,fun h=>absurd h hk3,fun _=>rfl⟩))
     ·rw [if_pos hk4] at pP'
      refine Zbu (by simp only [List.length_singleton]; omega) (Za8 fun qs hqs=>?_)
      have eqs:qs = ps ++ [pcX i x c.Length]:=hqs
      have hok:PsOk qs:=by rw [eqs]; exact PsOk.snoc pok (by omega) (ZhR vl i0 hx (by omega))
      have hin:InL s.Elements qs:=by
       rw [eqs]
       intro p hp
       rw [List.mem_append,List.mem_singleton] at hp
       rcases hp with hp | hp
       ·exact pin p hp
       ·rw [hp]; exact ⟨by show 0 ≤ i; omega,i1⟩
      rw [← eqs] at pP'
      have hql:=hok.len
      refine ZaN (run_e hrl hok hin) ?_
      have hstep:runN s (zk + 1).toNat = stepF s ⟨zdone,zrides,zinc⟩ zk c:=by
       have e1:(zk + 1).toNat = zk.toNat + 1:=by omega
       rw [e1,runN,hc]
       dsimp only
       rw [zr]
       have e2:((zk.toNat:Nat):Int) = zk:=by omega
       rw [e2]
      have hstep2:stepF s ⟨zdone,zrides,zinc⟩ zk c = ⟨wdone,zrides ++ [rideF s.Elements c qs],(inc ++ metF zk (rideF s.Elements c qs).Spans zrides 0) ++ (if (rideF s.Elements c qs).Track ≠ c.Track then [⟨4,zk,-1,-1,0⟩] else [])⟩:=by
       unfold stepF
       dsimp only
       rw [← ew]
       dsimp only
       rw [hP,← pP']
      refine Zby (fun t=>t = (rideF s.Elements c qs).Track) (fun t ht=>?_) (fun k81 hk81=>?_)
      ·have hml:=Zeh (ps:=qs) (r:=rnOf c qs)
       refine ZaN (Exact_e (by dsimp only; omega)) ?_
       dsimp only
       have hel:=Zkg (l:=s.Elements) (ps:=qs) (m:=ptAll qs (rnOf c qs)) (n:=c.Length)
       have hsp:(rideF s.Elements c qs).Spans = (exE s.Elements qs (ptAll qs (rnOf c qs)) c.Length).1.map (shiftF c):=rfl
       generalize (exE s.Elements qs (ptAll qs (rnOf c qs)) c.Length).1 = sp0 at *
       refine Zbi (fun z=>0 ≤ z.2∧z.2 ≤ (sp0.length:Int)∧z.1.length = sp0.length∧∀ (j:Nat) y,sp0[j]? = some y→z.1[j]? = some (if (j:Int) < z.2 then shiftF c y else y)) (fun z=>((sp0.length:Int) - z.2).toNat) ⟨Int.le_refl 0,by dsimp only; omega,rfl,fun j y hy=>by rw [if_neg (by dsimp only; omega)]; exact hy⟩ (by rw [ZaY]; dsimp only; omega) fun z87 k89 ⟨a0,a1,al,ag⟩ hk89=>?_
       obtain ⟨sp,a⟩:=z87
       dsimp only at a0 a1 al ag hk89 ⊢
       refine Zat (fun hal=>?_) (fun hage=>?_)
       ·obtain ⟨y,hy⟩:∃ y,sp0[a.toNat]? = some y:=⟨_,List.getElem?_eq_getElem (by omega)⟩
        have hsy:=ag _ y hy
        rw [if_neg (by omega)] at hsy
        rw [Zaz (n:=a + 1) (by omega)]
        refine Za1 a0 hsy (Za8 fun u hu=>?_)
        have hul:u.length = sp0.length:=by rw [hu,List.length_set]; exact al
        have hus:u[a.toNat]? = some ⟨y.Element,y.Side,w64 (y.From + c.Release),y.To⟩:=by rw [hu,List.getElem?_set_self (by omega)]
        have nx:∀ v:List Span,v = u.set a.toNat (shiftF c y)→Ok (k89 (v,a + 1)) (RQ s):=fun v hv=>hk89 _ ⟨by dsimp only; omega,by dsimp only; omega,by dsimp only; rw [hv,List.length_set]; exact hul,fun j yy hyy=>by
         dsimp only
         by_cases hj:j = a.toNat
         ·subst hj
          rw [hy] at hyy; cases hyy
          rw [hv,List.getElem?_set_self (by omega),if_pos (by omega)]
         ·rw [hv,List.getElem?_set_ne (by omega),hu,List.getElem?_set_ne (by omega),ag j yy hyy]
          by_cases hja:(j:Int) < a
          ·rw [if_pos hja,if_pos (by omega)]
          ·rw [if_neg hja,if_neg (by omega)]⟩ (by dsimp only; omega)
        refine Za1 a0 hus (Zat (fun hto=>Za1 a0 hus (Za8 fun v hv=>nx v ?_)) (fun hto=>Za1 a0 hus (Za1 a0 hus (Za8 fun v hv=>nx v ?_))))
        ·rw [hv]; unfold shiftF; rw [if_pos hto]
        ·rw [hv]; unfold shiftF; rw [if_neg hto]
       ·have esp:sp = (rideF s.Elements c qs).Spans:=by
         rw [hsp]
         refine List.ext_getElem? fun j=>?_
         rw [List.getElem?_map]
         cases hj:sp0[j]? with
         | none=>rw [Option.map_none,List.getElem?_eq_none_iff]; rw [List.getElem?_eq_none_iff] at hj; omega
         | some y=>
          have:=ag j y hj
          rw [if_pos (by have:=ZbQ hj; omega)] at this
          rw [this]; rfl
        have hspl:sp.length ≤ 128:=by omega
        refine Zbi (fun z=>0 ≤ z.2∧z.2 ≤ (zrides.length:Int)∧z.1.length ≤ inc.length + z.2.toNat∧z.1 ++ metF zk sp (zrides.drop z.2.toNat) z.2.toNat = inc ++ metF zk sp zrides 0) (fun z=>((zrides.length:Int) - z.2).toNat) ⟨Int.le_refl 0,by dsimp only; omega,by dsimp only; omega,rfl⟩ (by rw [ZaY]; dsimp only; omega) fun z109 k111 ⟨b0,b1,bl,be⟩ hk111=>?_
        obtain ⟨bi,b⟩:=z109
        dsimp only at b0 b1 bl be hk111 ⊢
        refine Zat (fun hbl=>Za5 b0 hbl fun r hr=>?_) (fun hbge=>?_)
        ·rw [Zaz (n:=b + 1) (by omega)]
         have hrs:=isp r (ZbH hr)
         rw [ZbS hr,metF] at be
         have eb1:(b + 1).toNat = b.toNat + 1:=by omega
         refine Zbi (fun z=>0 ≤ z∧z ≤ (sp.length:Int)∧Scan (fun x=>!(r.Spans.any (ov x))) sp z) (fun z=>((sp.length:Int) - z).toNat) ⟨Int.le_refl 0,by omega,Scan.zero⟩ (by rw [ZaY]; omega) fun d k123 ⟨d0,d1,ds⟩ hk123=>?_
         refine Zat (fun hdl=>Za5 d0 hdl fun xs hxs=>?_) (fun hdge=>?_)
         ·refine Zbi (fun z=>0 ≤ z∧z ≤ (r.Spans.length:Int)∧Scan (fun y=>!(ov xs y)) r.Spans z) (fun z=>((r.Spans.length:Int) - z).toNat) ⟨Int.le_refl 0,by omega,Scan.zero⟩ (by rw [ZaY]; omega) fun e k133 ⟨e0,e1,es⟩ hk133=>?_
          refine Zat (fun hel=>Za5 e0 hel fun ys hys=>?_) (fun hege=>?_)
          ·refine Zby (fun t=>t = ov xs ys) (fun t ht=>?_) (fun k143 hk143=>?_)
           ·refine ok_b (fun htt=>?_) (fun htf=>?_)
            ·have hany:r.Spans.any (ov xs) = true:=List.any_eq_true.2 ⟨ys,ZbH hys,by rw [← ht]; exact htt⟩
             rw [Zit ds hxs hany] at be
             dsimp only at be
             have eb2:((b.toNat:Nat):Int) = b:=by omega
             rw [eb2] at be
             refine Zbu (by simp only [List.length_singleton]; omega) (Za8 fun v hv=>hk111 _ ⟨by dsimp only; omega,by dsimp only; omega,by dsimp only; rw [hv,List.length_append,List.length_singleton]; omega,?_⟩ (by dsimp only; omega))
             dsimp only
             rw [hv,eb1,← be,List.append_assoc]
            ·rw [Zaz (n:=e + 1) (by omega)]
             exact hk133 _ ⟨by omega,by omega,es.step hys (by rw [← ht,htf]; rfl)⟩ (by omega)
           ·refine Zat (fun hee=>ZaN Zh0 (hk143 _ ?_)) (fun hee=>hk143 _ ?_)
            ·unfold ov; rw [decide_eq_true hee,Bool.true_and]
            ·unfold ov; rw [decide_eq_false hee,Bool.false_and]
          ·rw [Zaz (n:=d + 1) (by omega)]
           refine hk123 _ ⟨by omega,by omega,ds.step hxs ?_⟩ (by omega)
           have ee:(r.Spans.length:Int) = e:=by omega
           rw [Zi5 (ee ▸ es)]; rfl
         ·rw [Zis ds hdge] at be
          refine hk111 _ ⟨by dsimp only; omega,by dsimp only; omega,by dsimp only; omega,?_⟩ (by dsimp only; omega)
          dsimp only
          rw [eb1,← be]; rfl
        ·rw [List.drop_eq_nil_of_le (by omega),metF,List.append_nil,esp] at be
         refine Zby (fun t=>t = (inc ++ metF zk (rideF s.Elements c qs).Spans zrides 0) ++ (if (rideF s.Elements c qs).Track ≠ c.Track then [⟨4,zk,-1,-1,0⟩] else [])∧t.length ≤ bi.length + 1) (fun t' ⟨ht1,ht2⟩=>?_) (fun k153 hk153=>?_)
         ·refine Zbu (by simp only [List.length_singleton]; omega) (Za8 fun v hv=>?_)
          have ev:v = zrides ++ [rideF s.Elements c qs]:=by
           rw [hv,ht,esp]
          rw [Zaz (n:=zk + 1) (by omega)]
          refine hk21 _ ⟨by dsimp only; omega,by dsimp only; omega,?_,?_,?_,?_,?_⟩ (by dsimp only; omega)
          ·dsimp only
           rw [hstep,hstep2,ev,ht1]
          ·dsimp only; rw [ev,List.length_append,List.length_singleton]; omega
          ·dsimp only
           rw [ev]
           intro r hr
           rw [List.mem_append,List.mem_singleton] at hr
           rcases hr with hr | hr
           ·exact isp r hr
           ·rw [hr,← esp]; exact hspl
          ·dsimp only; omega
          ·dsimp only; exact wd.up (by omega)
         ·refine Zat (fun hne=>Zbu (by simp only [List.length_singleton]; omega) (Za8 fun v hv=>hk153 _ ⟨?_,by rw [hv,List.length_append,List.length_singleton]; omega⟩)) (fun heq=>hk153 _ ⟨?_,by omega⟩)
          ·rw [hv,be,if_pos (by rw [← ht]; exact hne)]
          ·rw [be,if_neg (by rw [← ht]; exact heq),List.append_nil]
      ·rw [Zaz (n:=(qs.length:Int) - 1) (by omega)]
       refine Zby (fun t=>t = decide (ptStop qs (rnOf c qs) < 0∨ptStop qs (rnOf c qs) = (qs.length:Int) - 1)) (fun t ht=>ok_b (fun hb=>?_) (fun hb=>?_)) (fun k169 hk169=>?_)
       ·rw [hb] at ht
        refine Za5 (by omega) (by omega) fun p hp=>hk81 _ ?_
        have e9:((qs.length:Int) - 1).toNat = qs.length - 1:=by omega
        rw [e9] at hp
        unfold rideF
        dsimp only
        rw [if_pos (of_decide_eq_true ht.symm),hp]; rfl
       ·rw [hb] at ht
        refine hk81 _ ?_
        unfold rideF
        dsimp only
        rw [if_neg (of_decide_eq_false ht.symm)]
       ·exact Zat (fun hs=>hk169 _ (by simp [hs])) (fun hs=>hk169 _ (by simp [hs]))
     ·refine ZaN (entry_e hrl pok pin) (ok_b (fun he=>ZaN (side_e (hdl i)) (ok_b (fun hm=>Zbu (by simp only [List.length_singleton]; omega) (Za8 fun v hv=>hk65 _ ⟨?_,hk4,?_,?_,fun h=>absurd hk3 h⟩)) (fun hm=>hk65 _ ⟨?_,hk4,?_,?_,fun h=>absurd hk3 h⟩))) (fun he=>hk65 _ ⟨?_,hk4,by dsimp only; omega,fun _=>.inl rfl,fun h=>absurd hk3 h⟩))
      ·unfold swF
       rw [if_pos hk3,if_pos he,if_pos hm,hv]
      ·dsimp only; rw [hv,List.length_append,List.length_singleton]; omega
      ·exact fun _=>Zea s8 wd
      ·unfold swF
       rw [if_pos hk3,if_pos he,if_neg (by dsimp only at hm; rw [hm]; simp)]
      ·dsimp only; omega
      ·exact fun _=>Zea s8 wd
      ·unfold swF
       rw [if_pos hk3,if_neg (by rw [he]; simp)]
     ·unfold swF
      rw [if_neg hk3]
   ·refine Zbi (fun z=>0 ≤ z.2.2∧z.2.2 ≤ (s.Commands.length:Int)∧(z.1,z.2.1) = (s.Commands.take z.2.2.toNat).foldl (cmdF s.Throw zk zrides) (zdone,zinc)∧z.2.1.length ≤ zinc.length + z.2.2.toNat∧DnOk (1024 * zk.toNat + z.2.2.toNat) z.1) (fun z=>((s.Commands.length:Int) - z.2.2).toNat) ⟨Int.le_refl 0,by dsimp only; omega,rfl,by dsimp only; omega,idn⟩ (by rw [ZaY]; dsimp only; omega) fun z k182 ⟨a0,a1,ae,ail,adn⟩ hk182=>?_
    obtain ⟨adone,ainc,a⟩:=z
    dsimp only at a0 a1 ae ail adn hk182 ⊢
    refine Zat (fun hal=>Za5 a0 hal fun x hx=>?_) (fun hage=>hk34 _ ⟨?_,by dsimp only; omega,adn.up (by omega)⟩)
    ·rw [Zaz (n:=a + 1) (by omega)]
     have st:=Zfj (f:=cmdF s.Throw zk zrides) (b:=(zdone,zinc)) a0 hx
     rw [← ae] at st
     have hxo:=h.v.cm _ x hx
     refine Zat (fun hck=>?_) (fun hck=>hk182 _ ⟨by dsimp only; omega,by dsimp only; omega,?_,by dsimp only; omega,adn.up (by dsimp only; omega)⟩ (by dsimp only; omega))
     ·refine ZaN (meets_e (by dsimp only; omega) (fun r hr=>by have:=isp r hr; omega)) ?_
      have hal2:=adn.l x.Element
      refine Zby (fun t=>t = decide (0 ≤ meN ⟨x.Element,0,x.Time,w64 (x.Time + s.Throw)⟩ zrides 0∨movF s.Throw adone x = true)) (fun t ht=>ok_b (fun hb=>Zbu (by simp only [List.length_singleton]; omega) (Za8 fun v hv=>hk182 _ ⟨by dsimp only; omega,by dsimp only; omega,?_,?_,adn.up (by dsimp only; omega)⟩ (by dsimp only; omega))) (fun hb=>Zbu (by simp only [List.length_singleton]; omega) (Za8 fun v hv=>hk182 _ ⟨by dsimp only; omega,by dsimp only; omega,?_,by dsimp only; omega,?_⟩ (by dsimp only; omega)))) (fun k194 hk194=>?_)
      ·rw [hb] at ht
       dsimp only
       rw [st]
       unfold cmdF
       rw [if_pos hck,if_pos (of_decide_eq_true ht.symm),hv]
      ·dsimp only; rw [hv,List.length_append,List.length_singleton]; omega
      ·rw [hb] at ht
       dsimp only
       rw [st]
       unfold cmdF
       rw [if_pos hck,if_neg (of_decide_eq_false ht.symm),hv]
      ·dsimp only
       rw [hv]
       exact (adn.put hxo.2.1.2).up (by omega)
      ·refine Zat (fun h0=>hk194 _ ?_) (fun h0=>ZaN (ZkR (by dsimp only; omega)) (hk194 _ ?_))
       ·exact (decide_eq_true (.inl h0)).symm
       ·show movF s.Throw adone x = _
        cases hm:movF s.Throw adone x with
        | true=>exact (decide_eq_true (.inr rfl)).symm
        | false=>exact (decide_eq_false (by rintro (h1 | h1); exact h0 h1; simp at h1)).symm
     ·dsimp only
      rw [st]
      unfold cmdF
      rw [if_neg hck]
    ·rw [List.take_of_length_le (by omega)] at ae
     exact ae
  ·have e:zk.toNat = s.Cuts.length:=by omega
   rw [e] at zr zi
   exact ⟨by rw [zr],by rw [zr]; exact zi⟩
 ·refine Zbi (fun z=>0 ≤ z.2∧z.2 ≤ (s.Start.length:Int)∧z.1 = (s.Start.take z.2.toNat).foldl (fun m t=>mput keyP (t.Element,t.Side) m) []∧StL z.1) (fun z=>((s.Start.length:Int) - z.2).toNat) ⟨Int.le_refl 0,by dsimp only; omega,rfl,fun d hd=>by simp [mfind] at hd⟩ (by rw [ZaY]; dsimp only; omega) fun z k ⟨z0,z1,ze,zs⟩ hk=>?_
  refine Zat (fun hlt=>Za5 z0 hlt fun t ht=>?_) (fun hge=>hk10 _ ⟨by unfold startF; rw [ze,List.take_of_length_le (by omega)],zs⟩)
  rw [Zaz (n:=z.2 + 1) (by omega)]
  have hto:=(h.v.st _ t ht).1
  exact hk _ ⟨by dsimp only; omega,by dsimp only; omega,by dsimp only; rw [Zfj z0 ht,← ze],zs.put hto.2⟩ (by dsimp only; omega)
theorem Run_e {s:Scene}(h:SV s) (hv:Zb5 s = some 0):ZcW s = some ((runN s s.Cuts.length).rides,(runN s s.Cuts.length).inc,0):=by
 obtain ⟨v,e,hv,_⟩:=Zg0 h hv
 rw [e,hv]
theorem ZjC {s:Scene}(h:SV s) (hv:Zb5 s = some 0):(∀ r∈(runN s s.Cuts.length).rides,r.Spans.length ≤ 128)∧(runN s s.Cuts.length).inc.length ≤ 1000000000:=by
 obtain ⟨v,e,_,ri⟩:=Zg0 h hv
 have:=ri.il
 have:=h.ct
 exact ⟨ri.sp,by omega⟩
end Go.Hy
namespace Go.Hy
set_option linter.unusedVariables false
set_option linter.unusedSimpArgs false
set_option maxHeartbeats 2000000
set_option maxRecDepth 10000
open Go.Hy.Iv
theorem Zda {α:Type}{l:List α}{x a:α}{i:Nat}(h:(l ++ [x])[i]? = some a):l[i]? = some a∨(i = l.length∧a = x):=Zd8 h
theorem spE_len {l:List Element}{ps:List Piece}{p:List Passage}{n:Int}(h:(spE l ps p n).2 = 0):p.length = ps.length + 1:=by
 unfold spE at h
 split at h
 ·rename_i h1; exact absurd h h1
 ·rename_i h1
  exact of_decide_eq_true (Zk9 (Decidable.not_not.1 h1)).2
structure I1 (l:List Element) (lo wd c:Int) (z:List Int×List Interval×List Int×Int×Int):Prop where
 z0:0 ≤ z.2.2.2.1
 z1:z.2.2.2.1 ≤ (l.length:Int)
 cl:(z.2.1.length:Int) = z.2.2.2.1
 tl:(z.2.2.1.length:Int) = z.2.2.2.1
 tk:(z.1.length:Int) ≤ z.2.2.2.1
 tr:∀ t∈z.1,IsTr l t
 al:∀ (j:Nat) x,(j:Int) < z.2.2.2.1→l[j]? = some x→x.Kind = 4→(j:Int)∈z.1
 cs:∀ (j:Nat) i x,z.2.1[j]? = some i→l[j]? = some x→i = ⟨lo + x.Curve,lo + x.Curve + wd⟩
 ts:∀ u∈z.2.2.1,u = -1∨u = 1500∨u = 3000∨u = 6000
 n0:c ≤ z.2.2.2.2
 n1:z.2.2.2.2 ≤ c + z.2.2.2.1
structure R1 (l:List Element) (lo wd c:Int) (z:List Int×List Interval×List Int×Int):Prop where
 cl:z.2.1.length = l.length
 tl:z.2.2.1.length = l.length
 tk:z.1.length ≤ l.length
 tr:∀ t∈z.1,IsTr l t
 ne:1 ≤ z.1.length
 cs:∀ (j:Nat) i x,z.2.1[j]? = some i→l[j]? = some x→i = ⟨lo + x.Curve,lo + x.Curve + wd⟩
 ts:∀ u∈z.2.2.1,u = -1∨u = 1500∨u = 3000∨u = 6000
 n0:c ≤ z.2.2.2
 n1:z.2.2.2 ≤ c + l.length
structure I2 (l:List Element) (cl:List Interval) (tg:List Int) (sp n c:Int) (z:List Rolling×List (List Span)×Int×Int):Prop where
 z0:0 ≤ z.2.2.1
 z1:z.2.2.1 ≤ n
 ct:(z.1.length:Int) ≤ n - z.2.2.1
 sn:z.2.1.length = z.1.length
 pl:∀ (i:Nat) c ss,z.1[i]? = some c→z.2.1[i]? = some ss→PlCut l cl tg sp c ss
 n0:c ≤ z.2.2.2
 n1:z.2.2.2 ≤ c + 100 * (n - z.2.2.1)
structure R2 (l:List Element) (cl:List Interval) (tg:List Int) (sp n c:Int) (z:List Rolling×List (List Span)×Int):Prop where
 ct:(z.1.length:Int) ≤ n
 sn:z.2.1.length = z.1.length
 pl:∀ (i:Nat) c ss,z.1[i]? = some c→z.2.1[i]? = some ss→PlCut l cl tg sp c ss
 n0:c ≤ z.2.2
 n1:z.2.2 ≤ c + 1000
structure I3 (l:List Element) (c:Int) (z:List Throw×Int×Int):Prop where
 z0:0 ≤ z.2.1
 z1:z.2.1 ≤ (l.length:Int)
 sl:(z.1.length:Int) ≤ z.2.1
 st:∀ (i:Nat) t,z.1[i]? = some t→(Kd l t.Element 3∧Lies t.Side)∧∀ (j:Nat) u,j < i→z.1[j]? = some u→u.Element ≠ t.Element
 lt:∀ t∈z.1,t.Element < z.2.1
 n0:c ≤ z.2.2
 n1:z.2.2 ≤ c + 2 * z.2.1
structure R3 (l:List Element) (c:Int) (z:List Throw×Int):Prop where
 sl:z.1.length ≤ l.length
 st:∀ (i:Nat) t,z.1[i]? = some t→(Kd l t.Element 3∧Lies t.Side)∧∀ (j:Nat) u,j < i→z.1[j]? = some u→u.Element ≠ t.Element
 n0:c ≤ z.2
 n1:z.2 ≤ c + 100
structure I4 (C0:List Rolling) (R0:List Int) (th:Int) (z:List Rolling×List Int×Int):Prop where
 z0:0 ≤ z.2.2
 z1:z.2.2 ≤ (R0.length:Int)
 rl:z.2.1.length = R0.length
 cl:z.1.length = C0.length
 r:∀ (j:Nat) r,R0[j]? = some r→z.2.1[j]? = some (if (j:Int) < z.2.2 then w64 (r + th) else r)
 c:∀ (j:Nat) c,z.1[j]? = some c→∃ d,C0[j]? = some d∧c = ⟨c.Release,d.Length,d.Track,d.Speed,d.Resist,d.Targets⟩∧((j:Int) < z.2.2→∀ r,R0[j]? = some r→c.Release = w64 (r + th))
structure I5 (cl:List Interval) (tg:List Int) (ps:List Piece) (z:List Interval×List Int×Int):Prop where
 z0:0 ≤ z.2.2
 z1:z.2.2 ≤ (ps.length:Int)
 c:z.1 = clsP cl (ps.take z.2.2.toNat)
 t:z.2.1 = selP tg (ps.take z.2.2.toNat)
structure I6 (l:List Element) (cl:List Interval) (tg:List Int) (sp c:Int) (z:List Int×List Int×Int×Int):Prop where
 z0:0 ≤ z.2.2.1
 z1:z.2.2.1 ≤ (l.length:Int)
 rl:(z.1.length:Int) = z.2.2.1
 tl:(z.2.1.length:Int) = z.2.2.1
 r:∀ (j:Nat) w i,z.1[j]? = some w→cl[j]? = some i→i.Lo ≤ w∧w ≤ i.Hi
 t:∀ (j:Nat) w u,z.2.1[j]? = some w→tg[j]? = some u→(0 ≤ u→u - sp ≤ w∧w ≤ u + sp)∧(u < 0→w = u)
 n0:c ≤ z.2.2.2
 n1:z.2.2.2 ≤ c + 2 * z.2.2.1
structure R6 (l:List Element) (cl:List Interval) (tg:List Int) (sp c:Int) (z:List Int×List Int×Int):Prop where
 rl:z.1.length = l.length
 tl:z.2.1.length = l.length
 r:∀ (j:Nat) w i,z.1[j]? = some w→cl[j]? = some i→i.Lo ≤ w∧w ≤ i.Hi
 t:∀ (j:Nat) w u,z.2.1[j]? = some w→tg[j]? = some u→(0 ≤ u→u - sp ≤ w∧w ≤ u + sp)∧(u < 0→w = u)
 n0:c ≤ z.2.2
 n1:z.2.2 ≤ c + 60
theorem crv {l:List Element}{n:Nat}(h:Made l n){i:Nat}{x:Element}(hx:l[i]? = some x):0 ≤ x.Curve∧x.Curve ≤ 150:=by
 have:=h.u.r x (ZbH hx); omega
theorem Plan_ok {k0:HumpgenMaker}{n:Int}(h:Mk k0 800000000000000) (hn:0 ≤ n∧n ≤ 8):Ok (ZcX k0 n) fun r=>PlanOk r.1 n∧k0.fn ≤ r.2∧r.2 ≤ k0.fn + 10000:=by
 have c0:=h.c0
 have c1:=h.c1
 have mk:∀ c',k0.fn ≤ c'→c' ≤ k0.fn + 100000→Mk (HumpgenMaker.mk k0.fl c') CM0:=fun c' h1 h2=>h.to h1 (by unfold CM0; omega)
 unfold ZcX
 refine Zbq (Zkn (h.up (by omega)) (by omega)) fun v2 ⟨md,hc2⟩=>?_
 have md:Made v2.1 4:=md
 have vl:=md.vl (by omega)
 have hlen:v2.1.length ≤ 28:=md.len
 have hne:=md.u.ne
 have hsh:=ZfG vl
 refine Zbq (ZbF (mk _ (by omega) (by omega)) (by decide)) fun v5 ⟨hv5,hc5⟩=>?_
 dsimp only at hc5
 refine Zbq (ZbF (mk _ (by omega) (by omega)) (by decide)) fun v9 ⟨hv9,hc9⟩=>?_
 dsimp only at hc9
 refine Zbq (ZbF (mk _ (by omega) (by omega)) (by decide)) fun v12 ⟨hv12,hc12⟩=>?_
 dsimp only at hc12
 simp only [List.mem_cons,List.not_mem_nil,or_false] at hv5 hv9 hv12
 refine Zby (R1 v2.1 v9.1 v12.1 v12.2) (fun z14 h14=>?_) (fun k16 hk16=>?_)
 ·have hn0:=h14.n0
  have hn1:=h14.n1
  refine Zbq (ZbF (mk _ (by omega) (by omega)) (by decide)) fun v19 ⟨hv19,hc19⟩=>?_
  dsimp only at hc19
  simp only [List.mem_cons,List.not_mem_nil,or_false] at hv19
  have hcls:Clss v2.1 z14.2.1 z14.2.2.1 v19.1:=⟨h14.cl,h14.tl,⟨v9.1,v12.1,hv9,hv12,h14.cs⟩,h14.ts,hv19⟩
  refine Zby (R2 v2.1 z14.2.1 z14.2.2.1 v19.1 n v19.2) (fun z21 h21=>?_) (fun k23 hk23=>?_)
  ·have hm0:=h21.n0
   have hm1:=h21.n1
   refine Zby (R3 v2.1 z21.2.2) (fun z26 h26=>?_) (fun k28 hk28=>?_)
   ·have hq0:=h26.n0
    have hq1:=h26.n1
    have hsl:=h26.sl
    have bd2:Bd2 z21.2.1:=fun ss hss=>by
     obtain ⟨i,hi⟩:=List.getElem?_of_mem hss
     have hil:=ZbQ hi
     have:=h21.sn
     have:=(h21.pl i _ ss (List.getElem?_eq_getElem (by omega:i < z21.1.length)) hi).sl
     omega
    obtain ⟨v31,e31,h31⟩:=ZhL (t:=v5.1) bd2
    refine ZaN e31 (Zat (fun hne=>Zan ⟨⟨md,by dsimp only; omega,hsl,h26.st,by simp,h21.ct,h21.sn,⟨_,_,_,hcls,h21.pl⟩,fun h=>by simp at h⟩,by dsimp only; omega,by dsimp only; omega⟩) fun heq=>?_)
    have heq:v31.2 = 0:=by omega
    obtain ⟨hrl,hr96⟩:=h31 heq
    have hsn:=h21.sn
    refine Zby (fun z=>I4 z21.1 v31.1 v5.1 (z.1,z.2,(v31.1.length:Int))) (fun z33 h33=>?_) (fun k35 hk35=>?_)
    ·have hrl3:=h33.rl
     have hcl3:=h33.cl
     dsimp only at hrl3 hcl3
     obtain ⟨v38,e38,h38⟩:=ZhN (t:=v5.1) (rs:=z33.2) (st:=z26.1) bd2 (by omega) (by omega)
     refine ZaN e38 (Zan ⟨⟨md,by dsimp only; omega,hsl,h26.st,h38,by dsimp only; rw [hcl3]; exact h21.ct,by dsimp only; rw [hcl3]; exact h21.sn,⟨_,_,_,hcls,?_⟩,?_⟩,by dsimp only; omega,by dsimp only; omega⟩)
     ·intro i c ss hc hss
      obtain ⟨d,hd,e,_⟩:=h33.c i c hc
      have:=(h21.pl i d ss hd hss).rel c.Release
      rw [← e] at this
      exact this
     ·intro hok
      have hz:v38.2 = 0:=of_decide_eq_true hok
      refine ⟨v31.1,?_,by dsimp only; omega,by dsimp only; omega,?_,?_⟩
      ·dsimp only; rw [e31,← heq]
      ·intro i c r hc hr
       have hil:=ZbQ hr
       obtain ⟨d,hd,e,hrr⟩:=h33.c i c hc
       have hri:=h33.r i r hr
       rw [if_pos (by dsimp only; omega)] at hri
       exact ⟨hri,hrr (by dsimp only; omega) r hr⟩
      ·dsimp only; rw [e38,← hz]
    ·refine Zbi (I4 z21.1 v31.1 v5.1) (fun z=>((v31.1.length:Int) - z.2.2).toNat) ⟨Int.le_refl 0,by dsimp only; omega,rfl,rfl,fun j r hr=>?_,fun j c hc=>⟨c,hc,rfl,fun hj=>by dsimp only at hj; omega⟩⟩ (by rw [ZaY]; dsimp only; omega) fun z k hz hk=>?_
     ·rw [if_neg (by dsimp only; omega)]; exact hr
     ·have z0:=hz.z0
      have z1:=hz.z1
      have zr:=hz.rl
      have zc:=hz.cl
      refine Zat (fun hlt=>?_) (fun hge=>hk35 _ ?_)
      ·obtain ⟨r,hr⟩:∃ r,v31.1[z.2.2.toNat]? = some r:=⟨_,List.getElem?_eq_getElem (by omega)⟩
       have hzr:=hz.r _ r hr
       rw [if_neg (by omega)] at hzr
       refine Za1 z0 hzr (Za1 z0 hzr (Za8 fun y hy=>?_))
       have hy1:y[z.2.2.toNat]? = some (w64 (r + v5.1)):=by rw [hy,List.getElem?_set_self (by omega)]
       refine Za1 z0 hy1 (Za5 z0 (by omega) fun c hc=>Za8 fun w hw=>?_)
       rw [Zaz (n:=z.2.2 + 1) (by omega)]
       refine hk _ ⟨by dsimp only; omega,by dsimp only; omega,by dsimp only; rw [hy,List.length_set]; omega,by dsimp only; rw [hw,List.length_set]; omega,fun j s hs=>?_,fun j d hd=>?_⟩ (by dsimp only; omega)
       ·dsimp only
        by_cases hj:j = z.2.2.toNat
        ·subst hj
         rw [hr] at hs; cases hs
         rw [if_pos (by omega)]; exact hy1
        ·rw [hy,List.getElem?_set_ne (by omega),hz.r j s hs]
         by_cases hjz:(j:Int) < z.2.2
         ·rw [if_pos hjz,if_pos (by omega)]
         ·rw [if_neg hjz,if_neg (by omega)]
       ·dsimp only at hd ⊢
        by_cases hj:j = z.2.2.toNat
        ·subst hj
         rw [hw,List.getElem?_set_self (by omega)] at hd
         cases hd
         obtain ⟨d0,hd0,e,_⟩:=hz.c _ c hc
         refine ⟨d0,hd0,?_,fun _ r' hr'=>?_⟩
         ·rw [e]
         ·rw [hr] at hr'; cases hr'; rfl
        ·rw [hw,List.getElem?_set_ne (by omega)] at hd
         obtain ⟨d0,hd0,e,hrr⟩:=hz.c j d hd
         exact ⟨d0,hd0,e,fun hj2=>hrr (by omega)⟩
      ·have e:z.2.2 = (v31.1.length:Int):=by omega
       rw [← e]; exact hz
   ·refine Zbi (I3 v2.1 z21.2.2) (fun z=>((v2.1.length:Int) - z.2.1).toNat) ⟨Int.le_refl 0,by dsimp only; omega,by simp,fun i t ht=>by simp at ht,fun t ht=>by simp at ht,Int.le_refl _,by dsimp only; omega⟩ (by rw [ZaY]; dsimp only; omega) fun z k hz hk=>?_
    have z0:=hz.z0
    have z1:=hz.z1
    have zs:=hz.sl
    have p0:=hz.n0
    have p1:=hz.n1
    refine Zat (fun hlt=>?_) (fun hge=>hk28 _ ⟨by dsimp only; omega,hz.st,p0,by dsimp only; omega⟩)
    obtain ⟨x,hx⟩:∃ x,v2.1[z.2.1.toNat]? = some x:=⟨_,List.getElem?_eq_getElem (by omega)⟩
    refine Zby (fun y=>(y.1 = true→x.Kind = 3)∧z.2.2 ≤ y.2∧y.2 ≤ z.2.2 + 1) (fun y ⟨hy1,hy2,hy3⟩=>?_) (fun k68 hk68=>?_)
    ·refine ok_b (fun hyt=>Zbq (ZbF (mk _ (by omega) (by omega)) (by decide)) fun v72 ⟨hv72,hc72⟩=>Zbu (by simp only [List.length_singleton]; omega) (Za8 fun w hw=>?_)) (fun hyf=>?_)
     ·dsimp only at hc72
      simp only [List.mem_cons,List.not_mem_nil,or_false] at hv72
      rw [Zaz (n:=z.2.1 + 1) (by omega)]
      refine hk _ ⟨by dsimp only; omega,by dsimp only; omega,by dsimp only; rw [hw]; simp only [List.length_append,List.length_singleton]; omega,fun i t ht=>?_,fun t ht=>?_,by dsimp only; omega,by dsimp only; omega⟩ (by dsimp only; omega)
      ·dsimp only at ht ⊢
       rw [hw] at ht ⊢
       rcases Zda ht with h1 | ⟨h1,h2⟩
       ·refine ⟨(hz.st i t h1).1,fun j u hj hu=>(hz.st i t h1).2 j u hj ?_⟩
        rcases Zda hu with h3 | ⟨h3,h4⟩
        ·exact h3
        ·have:=ZbQ h1; omega
       ·subst h2
        refine ⟨⟨⟨z0,x,hx,hy1 hyt⟩,hv72⟩,fun j u hj hu=>?_⟩
        rcases Zda hu with h3 | ⟨h3,h4⟩
        ·have:=hz.lt u (ZbH h3)
         dsimp only; omega
        ·omega
      ·dsimp only at ht ⊢
       rw [hw,List.mem_append,List.mem_singleton] at ht
       rcases ht with ht | ht
       ·have:=hz.lt t ht; omega
       ·subst ht; dsimp only; omega
     ·rw [Zaz (n:=z.2.1 + 1) (by omega)]
      exact hk _ ⟨by dsimp only; omega,by dsimp only; omega,by dsimp only; omega,hz.st,fun t ht=>by have:=hz.lt t ht; dsimp only; omega,by dsimp only; omega,by dsimp only; omega⟩ (by dsimp only; omega)
    ·refine Za1 z0 hx (Zat (fun h3=>Zbq (ZbT (mk _ (by omega) (by omega)) (by omega)) fun v79 ⟨hv79,hc79⟩=>hk68 _ ⟨fun _=>h3,?_,?_⟩) (fun _=>hk68 _ ⟨fun h=>by simp at h,by dsimp only; omega,by dsimp only; omega⟩))
     ·dsimp only at hc79 ⊢; omega
     ·dsimp only at hc79 ⊢; omega
  ·rw [Zaz (n:=n + 1) (by omega)]
   refine Zbq (ZbT (mk _ (by omega) (by omega)) (by omega)) fun v81 ⟨hv81,hc81⟩=>?_
   dsimp only at hc81
   refine Zbi (I2 v2.1 z14.2.1 z14.2.2.1 v19.1 v81.1 v81.2) (fun z=>z.2.2.1.toNat) ⟨hv81.1,Int.le_refl _,by simp,rfl,fun i c ss hc=>by simp at hc,Int.le_refl _,by dsimp only; omega⟩ (by rw [ZaY]; dsimp only; omega) fun z k hz hk=>?_
   have z0:=hz.z0
   have z1:=hz.z1
   have zc:=hz.ct
   have zs:=hz.sn
   have p0:=hz.n0
   have p1:=hz.n1
   refine Zat (fun hlt=>?_) (fun hge=>hk23 _ ⟨by dsimp only; omega,zs,hz.pl,by dsimp only; omega,by dsimp only; omega⟩)
   rw [Zaz (n:=z.2.2.1 - 1) (by omega)]
   refine Zbq (ZbF (mk _ (by omega) (by omega)) (by decide)) fun v90 ⟨hv90,hc90⟩=>?_
   dsimp only at hc90
   simp only [List.mem_cons,List.not_mem_nil,or_false] at hv90
   have tk1:=h14.ne
   have tk2:=h14.tk
   refine Zbq (ZbT (mk _ (by omega) (by omega)) (by omega)) fun v92 ⟨hv92,hc92⟩=>?_
   dsimp only at hc92
   refine Za5 hv92.1 hv92.2 fun t ht=>?_
   have itr:=h14.tr t (ZbH ht)
   refine ZaN (ZdJ (by omega)) ?_
   have hmin:1 ≤ min v90.1 (sh v2.1)∧min v90.1 (sh v2.1) ≤ sh v2.1:=by omega
   generalize min v90.1 (sh v2.1) = len at hmin
   obtain ⟨e1,e2,hps,hel⟩:=cpth_ap vl itr hmin
   have hpl:=hps.len
   refine ZaN (rPath_m md.u.nms) (ZaN (Zic (ps:=(ptE v2.1 t).1)) ?_)
   rw [e1]
   dsimp only
   rw [e2]
   dsimp only
   refine Zbq (ZbF (mk _ (by omega) (by omega)) (by decide)) fun v103 ⟨hv103,hc103⟩=>?_
   dsimp only at hc103
   simp only [List.mem_cons,List.not_mem_nil,or_false] at hv103
   have skip:Ok (k (z.1,z.2.1,z.2.2.1 - 1,v103.2)) fun r=>PlanOk r.1 n∧k0.fn ≤ r.2∧r.2 ≤ k0.fn + 10000:=hk _ ⟨by dsimp only; omega,by dsimp only; omega,by dsimp only; omega,zs,hz.pl,by dsimp only; omega,by dsimp only; omega⟩ (by dsimp only; omega)
   generalize hps':setL (pth v2.1 t) len = ps at *
   have hcl:=h14.cl
   have htl:=h14.tl
   refine Zby (fun y=>y.1 = clsP z14.2.1 ps∧y.2 = selP z14.2.2.1 ps) (fun y ⟨hy1,hy2⟩=>?_) (fun k108 hk108=>?_)
   ·rw [hy1,hy2,Zaz (n:=v103.1 + v19.1) (by omega)]
    refine ZaN rPass_e (ZaN (ZkF ZkO) ?_)
    refine Zat (fun _=>skip) fun hsp=>?_
    have hsp:(spE v2.1 ps (psOut ps ⟨⟨v103.1,v103.1 + v19.1⟩,clsP z14.2.1 ps,v19.1,selP z14.2.2.1 ps⟩).1 len).2 = 0:=by omega
    have hpn:=spE_len hsp
    refine Za8 fun i1 hi1=>?_
    rw [Zaz (by omega)] at hi1
    subst hi1
    refine Za5 (by omega) (by omega) fun q hq=>ok_b (fun _=>skip) fun hq1=>Za8 fun i2 hi2=>?_
    rw [Zaz (by omega)] at hi2
    subst hi2
    refine Za1 (by omega) hq (ok_b (fun _=>skip) fun hq2=>Za8 fun i3 hi3=>?_)
    rw [Zaz (by omega)] at hi3
    subst hi3
    refine Za1 (by omega) hq (Zat (fun _=>skip) fun hq3=>?_)
    obtain ⟨bv,ebv,hbv⟩:=ZfL (l:=(spE v2.1 ps (psOut ps ⟨⟨v103.1,v103.1 + v19.1⟩,clsP z14.2.1 ps,v19.1,selP z14.2.2.1 ps⟩).1 len).1)
    refine ZaN ebv (ZcG (fun _=>skip) fun hbt=>?_)
    refine Zbq (Ziy (mk _ (by omega) (by omega)) (by omega)) fun v125 ⟨hv125,hc125⟩=>?_
    dsimp only at hc125
    refine Zby (R6 v2.1 z14.2.1 z14.2.2.1 v19.1 v125.2) (fun w hw=>?_) (fun k129 hk129=>?_)
    ·have w0:=hw.n0
     have w1:=hw.n1
     refine Zbu (by simp only [List.length_singleton]; omega) (Za8 fun y1 hy1=>Zbu (by simp only [List.length_singleton]; omega) (Za8 fun y2 hy2=>?_))
     refine hk _ ⟨by dsimp only; omega,by dsimp only; omega,by dsimp only; rw [hy1]; simp only [List.length_append,List.length_singleton]; omega,by dsimp only; rw [hy1,hy2]; simp only [List.length_append,List.length_singleton]; omega,fun i c ss hc hss=>?_,by dsimp only; omega,by dsimp only; omega⟩ (by dsimp only; omega)
     dsimp only at hc hss
     rw [hy1] at hc
     rw [hy2] at hss
     have ih:=ZbQ hc
     rcases Zda hc with h1 | ⟨h1,h2⟩
     ·rcases Zda hss with h3 | ⟨h3,h4⟩
      ·exact hz.pl i c ss h1 h3
      ·have:=ZbQ h1; omega
     ·rcases Zda hss with h3 | ⟨h3,h4⟩
      ·have:=ZbQ h3; omega
      ·subst h2
       subst h4
       refine ⟨itr,hmin,hw.rl,hw.tl,hw.r,hw.t,hbv hbt,by rw [ebv,hbt],v103.1,q,hv103,hv125,?_,?_,hq1,hq2,by omega⟩
       ·show spE v2.1 (setL (pth v2.1 t) len) (psOut (setL (pth v2.1 t) len) (mot z14.2.1 z14.2.2.1 v19.1 v103.1 (setL (pth v2.1 t) len))).1 len = _
        rw [hps',← hsp]; rfl
       ·show (psOut (setL (pth v2.1 t) len) (mot z14.2.1 z14.2.2.1 v19.1 v103.1 (setL (pth v2.1 t) len))).1[(psOut (setL (pth v2.1 t) len) (mot z14.2.1 z14.2.2.1 v19.1 v103.1 (setL (pth v2.1 t) len))).1.length - 1]? = _
        rw [hps',← hq]
        congr 1
        show _ = (((psOut ps ⟨⟨v103.1,v103.1 + v19.1⟩,clsP z14.2.1 ps,v19.1,selP z14.2.2.1 ps⟩).1.length:Int) - 1).toNat
        unfold mot
        omega
    ·refine Zbi (I6 v2.1 z14.2.1 z14.2.2.1 v19.1 v125.2) (fun z=>((v2.1.length:Int) - z.2.2.1).toNat) ⟨Int.le_refl 0,by dsimp only; omega,rfl,rfl,fun j w i hw=>by simp at hw,fun j w u hw=>by simp at hw,Int.le_refl _,by dsimp only; omega⟩ (by rw [ZaY]; dsimp only; omega) fun w k454 hw hk454=>?_
     have w0:=hw.z0
     have w1:=hw.z1
     have wr:=hw.rl
     have wt:=hw.tl
     have u0:=hw.n0
     have u1:=hw.n1
     refine Zat (fun hlt2=>?_) (fun hge=>hk129 _ ⟨by dsimp only; omega,by dsimp only; omega,hw.r,hw.t,by dsimp only; omega,by dsimp only; omega⟩)
     obtain ⟨x,hx⟩:∃ x,v2.1[w.2.2.1.toNat]? = some x:=⟨_,List.getElem?_eq_getElem (by omega)⟩
     obtain ⟨ci,hci⟩:∃ x,z14.2.1[w.2.2.1.toNat]? = some x:=⟨_,List.getElem?_eq_getElem (by omega)⟩
     obtain ⟨u,hu⟩:∃ x,z14.2.2.1[w.2.2.1.toNat]? = some x:=⟨_,List.getElem?_eq_getElem (by omega)⟩
     have hcx:=h14.cs _ ci x hci hx
     have hux:=h14.ts u (ZbH hu)
     have hcv:=crv md hx
     refine Za1 w0 hci (Za1 w0 hci (Zbq (Ziy (mk _ (by omega) (by omega)) (by rw [hcx]; dsimp only; omega)) fun v462 ⟨hv462,hc462⟩=>Zbu (by simp only [List.length_singleton]; omega) (Za8 fun y3 hy3=>Za1 w0 hu ?_)))
     dsimp only at hc462
     refine Zby (fun y=>((0 ≤ u→u - v19.1 ≤ y.1∧y.1 ≤ u + v19.1)∧(u < 0→y.1 = u))∧v462.2 ≤ y.2∧y.2 ≤ v462.2 + 1) (fun y ⟨hyr,hy5,hy6⟩=>?_) (fun k471 hk471=>?_)
     ·refine Zbu (by simp only [List.length_singleton]; omega) (Za8 fun y4 hy4=>?_)
      rw [Zaz (n:=w.2.2.1 + 1) (by omega)]
      refine hk454 _ ⟨by dsimp only; omega,by dsimp only; omega,by dsimp only; rw [hy3]; simp only [List.length_append,List.length_singleton]; omega,by dsimp only; rw [hy4]; simp only [List.length_append,List.length_singleton]; omega,fun j a i ha hi=>?_,fun j a i ha hi=>?_,by dsimp only; omega,by dsimp only; omega⟩ (by dsimp only; omega)
      ·dsimp only at ha
       rw [hy3] at ha
       rcases Zda ha with h1 | ⟨h1,h2⟩
       ·exact hw.r j a i h1 hi
       ·have e:j = w.2.2.1.toNat:=by omega
        subst e
        rw [hci] at hi; cases hi
        rw [h2]; exact hv462
      ·dsimp only at ha
       rw [hy4] at ha
       rcases Zda ha with h1 | ⟨h1,h2⟩
       ·exact hw.t j a i h1 hi
       ·have e:j = w.2.2.1.toNat:=by omega
        subst e
        rw [hu] at hi; cases hi
        rw [h2]; exact hyr
     ·refine Zat (fun hu0=>?_) (fun hu0=>hk471 _ ⟨⟨fun h=>absurd h hu0,fun _=>rfl⟩,by dsimp only; omega,by dsimp only; omega⟩)
      rw [Zaz (n:=u - v19.1) (by omega),Zaz (n:=u + v19.1) (by omega)]
      refine Zbq (Ziy (mk _ (by omega) (by omega)) (by omega)) fun v477 ⟨hv477,hc477⟩=>hk471 _ ⟨⟨fun _=>hv477,fun h=>by omega⟩,?_,?_⟩
      ·dsimp only at hc477 ⊢; omega
      ·dsimp only at hc477 ⊢; omega
   ·refine Zbi (I5 z14.2.1 z14.2.2.1 ps) (fun z=>((ps.length:Int) - z.2.2).toNat) ⟨Int.le_refl 0,by dsimp only; omega,by simp [clsP],by simp [selP]⟩ (by rw [ZaY]; dsimp only; omega) fun w k481 hw hk481=>?_
    have w0:=hw.z0
    have w1:=hw.z1
    have wc:=hw.c
    have wt:=hw.t
    refine Zat (fun hlt2=>Za5 w0 hlt2 fun p hp=>?_) (fun hge=>hk108 _ ⟨by dsimp only; rw [wc,ZeL hge],by dsimp only; rw [wt,ZeL hge]⟩)
    have hpe:=hel p (ZbH hp)
    have l1:w.1.length ≤ ps.length:=by rw [wc,Zk3,List.length_take]; omega
    have l2:w.2.1.length ≤ ps.length:=by rw [wt]; exact Nat.le_trans Zg9 (by rw [List.length_take]; omega)
    refine Za5 (by omega) (by omega) fun ci hci=>Zbu (by simp only [List.length_singleton]; omega) (Za8 fun y1 hy1=>Za1 w0 hp ?_)
    have s1:=Zkk w0 hp hci
    rw [Zaz (n:=w.2.2 + 1) (by omega)]
    refine Zat (fun hpw=>Za1 w0 hp (Za5 (by omega) (by omega) fun u hu=>Zbu (by simp only [List.length_singleton]; omega) (Za8 fun y2 hy2=>?_))) (fun hpw=>?_)
    ·exact hk481 _ ⟨by dsimp only; omega,by dsimp only; omega,by dsimp only; rw [hy1,s1,wc],by dsimp only; rw [hy2,ZfH w0 hp hpw hu,wt]⟩ (by dsimp only; omega)
    ·exact hk481 _ ⟨by dsimp only; omega,by dsimp only; omega,by dsimp only; rw [hy1,s1,wc],by dsimp only; rw [ZfI w0 hp hpw,wt]⟩ (by dsimp only; omega)
 ·refine Zbi (I1 v2.1 v9.1 v12.1 v12.2) (fun z=>((v2.1.length:Int) - z.2.2.2.1).toNat) ⟨Int.le_refl 0,by dsimp only; omega,rfl,rfl,by simp,fun t ht=>by simp at ht,fun j x hj=>by dsimp only at hj; omega,fun j i x hi=>by simp at hi,fun u hu=>by simp at hu,Int.le_refl _,by dsimp only; omega⟩ (by rw [ZaY]; dsimp only; omega) fun z k hz hk=>?_
  have z0:=hz.z0
  have z1:=hz.z1
  have zc:=hz.cl
  have zt:=hz.tl
  have zk:=hz.tk
  have p0:=hz.n0
  have p1:=hz.n1
  refine Zat (fun hlt=>Za5 z0 hlt fun x hx=>Za1 z0 hx (Za8 fun x5 hx5=>Zbu (by simp only [List.length_singleton]; omega) (Za8 fun y1 hy1=>Zbq (ZbF (mk _ (by omega) (by omega)) (by decide)) fun v515 ⟨hv515,hc515⟩=>Zbu (by simp only [List.length_singleton]; omega) (Za8 fun y2 hy2=>Za1 z0 hx ?_)))) (fun hge=>?_)
  ·have hcv:=crv md hx
   dsimp only at hc515
   simp only [List.mem_cons,List.not_mem_nil,or_false] at hv515
   rw [Zaz (n:=v9.1 + x.Curve) (by omega)] at hy1 hx5
   rw [Zaz (by omega)] at hx5
   rw [Zaz (n:=z.2.2.2.1 + 1) (by omega)]
   have g:∀ tr:List Int,(tr.length:Int) ≤ z.2.2.2.1 + 1→(∀ t∈tr,IsTr v2.1 t)→(∀ (j:Nat) x,(j:Int) < z.2.2.2.1 + 1→v2.1[j]? = some x→x.Kind = 4→(j:Int)∈tr)→I1 v2.1 v9.1 v12.1 v12.2 (tr,y1,y2,z.2.2.2.1 + 1,v515.2):=fun tr g1 g2 g3=>
    ⟨by dsimp only; omega,by dsimp only; omega,by dsimp only; rw [hy1]; simp only [List.length_append,List.length_singleton]; omega,by dsimp only; rw [hy2]; simp only [List.length_append,List.length_singleton]; omega,g1,g2,g3,fun j i y hi hy=>by
     dsimp only at hi
     rw [hy1] at hi
     rcases Zda hi with h1 | ⟨h1,h2⟩
     ·exact hz.cs j i y h1 hy
     ·have e:j = z.2.2.2.1.toNat:=by omega
      subst e
      rw [hx] at hy; cases hy
      rw [h2,hx5],fun u hu=>by
     dsimp only at hu
     rw [hy2,List.mem_append,List.mem_singleton] at hu
     rcases hu with hu | hu
     ·exact hz.ts u hu
     ·rw [hu]; exact hv515,by dsimp only; omega,by dsimp only; omega⟩
   refine Zat (fun h4=>Zbu (by simp only [List.length_singleton]; omega) (Za8 fun y3 hy3=>hk _ (g _ ?_ ?_ ?_) (by dsimp only; omega))) (fun h4=>hk _ (g _ (by omega) hz.tr ?_) (by dsimp only; omega))
   ·rw [hy3]; simp only [List.length_append,List.length_singleton]; omega
   ·intro t ht
    rw [hy3,List.mem_append,List.mem_singleton] at ht
    rcases ht with ht | ht
    ·exact hz.tr t ht
    ·subst ht; exact ⟨z0,x,hx,h4⟩
   ·intro j y hj hy hk4
    rw [hy3,List.mem_append,List.mem_singleton]
    by_cases hjz:(j:Int) < z.2.2.2.1
    ·exact .inl (hz.al j y hjz hy hk4)
    ·exact .inr (by omega)
   ·intro j y hj hy hk4
    by_cases hjz:(j:Int) < z.2.2.2.1
    ·exact hz.al j y hjz hy hk4
    ·have e:j = z.2.2.2.1.toNat:=by omega
     subst e
     rw [hx] at hy; cases hy; exact absurd hk4 h4
  ·obtain ⟨x,hx,hk4⟩:=md.last
   have:=hz.al _ x (by omega) hx hk4
   exact hk16 _ ⟨by dsimp only; omega,by dsimp only; omega,by dsimp only; omega,hz.tr,List.length_pos_of_mem this,hz.cs,hz.ts,by dsimp only; omega,by dsimp only; omega⟩
end Go.Hy
namespace Go.Hy
set_option linter.unusedVariables false
set_option linter.unusedSimpArgs false
set_option maxHeartbeats 2000000
set_option maxRecDepth 10000
abbrev Fit (n:Nat) (l:List Rolling):Prop:=∀ c∈l,c.Resist.length = n∧c.Targets.length = n
theorem Fit.set {n:Nat}{l:List Rolling}(h:Fit n l){i:Nat}{c:Rolling}(hc:c.Resist.length = n∧c.Targets.length = n):Fit n (l.set i c):=fun d hd=>by
 rcases List.mem_or_eq_of_mem_set hd with h1 | h1
 ·exact h d h1
 ·rw [h1]; exact hc
structure DistOk (s r:Scene):Prop where
 el:r.Elements = s.Elements
 th:r.Throw = s.Throw
 st:r.Start = s.Start
 ct:r.Cuts.length = s.Cuts.length
 ft:Fit s.Elements.length r.Cuts
 cm:r.Commands.length ≤ 1024
structure DI (s:Scene) (c:Int) (n:Int) (z:List Command×List Rolling×Int×Int):Prop where
 cm:z.1.length ≤ 1024
 ct:z.2.1.length = s.Cuts.length
 ft:Fit s.Elements.length z.2.1
 z0:0 ≤ z.2.2.1
 z1:z.2.2.1 ≤ n
 n0:c ≤ z.2.2.2
 n1:z.2.2.2 ≤ c + 20 * (n - z.2.2.1)
theorem Zg1 {k0:HumpgenMaker}{s:Scene}{m:Nat}(h:Mk k0 900000000000000) (md:Made s.Elements m) (hm:m ≤ 12) (ft:Fit s.Elements.length s.Cuts) (hct:s.Cuts.length ≤ 1000000) (hcm:s.Commands.length ≤ 1024):Ok (Zb2 k0 s) fun r=>DistOk s r.1∧k0.fn ≤ r.2∧r.2 ≤ k0.fn + 100:=by
 have c0:=h.c0
 have c1:=h.c1
 have mk:∀ c',k0.fn ≤ c'→c' ≤ k0.fn + 100000→Mk (HumpgenMaker.mk k0.fl c') CM0:=fun c' h1 h2=>h.to h1 (by unfold CM0; omega)
 have vl:=md.vl hm
 have hlen:=vl.len
 have hsh:=ZfG vl
 unfold Zb2
 refine Zbu (by simp only [List.length_nil]; omega) (Za8 fun y5 hy5=>Zbu (by simp only [List.length_nil]; omega) (Za8 fun y10 hy10=>?_))
 rw [List.nil_append] at hy5 hy10
 subst hy5 hy10
 refine Zbq (ZbT (h.up (by unfold CM0; omega)) (by omega)) fun v12 ⟨hv12,hc12⟩=>?_
 rw [Zaz (n:=1 + v12.1) (by omega)]
 refine Zbi (DI s v12.2 (1 + v12.1)) (fun z=>z.2.2.1.toNat) ⟨hcm,rfl,ft,by dsimp only; omega,Int.le_refl _,Int.le_refl _,by dsimp only; omega⟩ (by rw [ZaY]; dsimp only; omega) fun z k hz hk=>?_
 have z0:=hz.z0
 have z1:=hz.z1
 have zc:=hz.ct
 have zm:=hz.cm
 have p0:=hz.n0
 have p1:=hz.n1
 have fin:∀ cm:List Command,cm.length ≤ 1024→∀ n2,v12.2 ≤ n2→n2 ≤ v12.2 + 80→Ok (some ((Scene.mk s.Elements s.Throw s.Start cm z.2.1),n2)) fun r=>DistOk s r.1∧k0.fn ≤ r.2∧r.2 ≤ k0.fn + 100:=fun cm hcm n2 h1 h2=>Zan ⟨⟨rfl,rfl,rfl,zc,hz.ft,hcm⟩,by dsimp only; omega,by dsimp only; omega⟩
 refine Zat (fun hlt=>?_) (fun hge=>fin _ zm _ p0 (by omega))
 rw [Zaz (n:=z.2.2.1 - 1) (by omega)]
 have go:∀ (cm:List Command) (ct:List Rolling) (n2:Int),cm.length ≤ 1024→ct.length = z.2.1.length→Fit s.Elements.length ct→z.2.2.2 ≤ n2→n2 ≤ z.2.2.2 + 20→Ok (k (cm,ct,z.2.2.1 - 1,n2)) fun r=>DistOk s r.1∧k0.fn ≤ r.2∧r.2 ≤ k0.fn + 100:=fun cm ct n2 h1 h2 h3 h4 h5=>hk _ ⟨h1,by dsimp only; omega,h3,by dsimp only; omega,by dsimp only; omega,by dsimp only; omega,by dsimp only; omega⟩ (by dsimp only; omega)
 refine Zby (fun y=>(y.1 = true→0 < (z.1.length:Int))∧z.2.2.2 ≤ y.2∧y.2 ≤ z.2.2.2 + 1) (fun y ⟨hy1,hy2,hy3⟩=>?_) (fun k22 hk22=>?_)
 ·refine ok_b (fun hyt=>?_) (fun hyf=>Zat (fun hct0=>fin _ zm _ (by omega) (by omega)) fun hct0=>?_)
  ·have hl1:=hy1 hyt
   refine Zbq (ZbT (mk _ (by omega) (by omega)) (by omega)) fun v25 ⟨hv25,hc25⟩=>?_
   dsimp only at hc25
   refine Zbq (ZbT (mk _ (by omega) (by omega)) (by omega)) fun v27 ⟨hv27,hc27⟩=>?_
   dsimp only at hc27
   rw [Zaz (n:=v25.1 + 1) (by omega)]
   refine Zat (fun _=>Zbu (by omega) (Zbu (by omega) (Zbu (by simp only [List.length_take,List.length_drop]; omega) (Za8 fun w hw=>go _ _ _ ?_ rfl hz.ft (by omega) (by omega))))) fun _=>?_
   ·rw [hw]; simp only [List.length_append,List.length_take,List.length_drop]; omega
   ·refine Zat (fun _=>Za5 hv25.1 hv25.2 fun a ha=>Zbq (ZbF (mk _ (by omega) (by omega)) (by decide)) fun v36 ⟨hv36,hc36⟩=>Za1 hv25.1 ha (Za8 fun w hw=>?_)) (fun _=>Za5 hv25.1 hv25.2 fun a ha=>Zbq (ZbF (mk _ (by omega) (by omega)) (by decide)) fun v36 ⟨hv36,hc36⟩=>Za1 hv25.1 ha (Za8 fun w hw=>?_))
    ·dsimp only at hc36
     exact go _ _ _ (by rw [hw,List.length_set]; exact zm) rfl hz.ft (by omega) (by omega)
    ·dsimp only at hc36
     exact go _ _ _ (by rw [hw,List.length_set]; exact zm) rfl hz.ft (by omega) (by omega)
  ·refine Zbq (ZbT (mk _ (by omega) (by omega)) (by omega)) fun v49 ⟨hv49,hc49⟩=>?_
   dsimp only at hc49
   refine Za5 hv49.1 hv49.2 fun c hc=>?_
   obtain ⟨f1,f2⟩:=hz.ft c (ZbH hc)
   refine Zbq (ZbT (mk _ (by omega) (by omega)) (by omega)) fun v55 ⟨hv55,hc55⟩=>?_
   dsimp only at hc55
   refine Zbu (by simp only [List.length_nil]; omega) (Za8 fun y1 hy1=>Zbu (by simp only [List.length_nil]; omega) (Za8 fun y2 hy2=>?_))
   rw [List.nil_append] at hy1 hy2
   subst hy1 hy2
   refine Zbq (ZbT (mk _ (by omega) (by omega)) (by omega)) fun v457 ⟨hv457,hc457⟩=>?_
   dsimp only at hc457
   refine Zat (fun _=>Zbq (ZbF (mk _ (by omega) (by omega)) (by decide)) fun v460 ⟨_,hc460⟩=>Za5 (by omega) (by omega) fun _ _=>Za8 fun y3 hy3=>Za8 fun y4 hy4=>?_) fun _=>Zat (fun _=>Zbq (ZbF (mk _ (by omega) (by omega)) (by decide)) fun v460 ⟨_,hc460⟩=>Za5 (by omega) (by omega) fun _ _=>Za8 fun y3 hy3=>Za8 fun y4 hy4=>?_) fun _=>Zat (fun _=>Zbq (ZbF (mk _ (by omega) (by omega)) (by decide)) fun v460 ⟨_,hc460⟩=>Za8 fun y4 hy4=>?_) fun _=>ZaN (ZdJ (by omega)) (Zbq (ZbT (mk _ (by omega) (by omega)) (by omega)) fun v491 ⟨hv491,hc491⟩=>Za8 fun y4 hy4=>?_)
   ·dsimp only at hc460
    exact go _ _ _ zm (by rw [hy4,List.length_set]) (by rw [hy4]; exact hz.ft.set ⟨by dsimp only; rw [hy3,List.length_set]; exact f1,f2⟩) (by omega) (by omega)
   ·dsimp only at hc460
    exact go _ _ _ zm (by rw [hy4,List.length_set]) (by rw [hy4]; exact hz.ft.set ⟨f1,by dsimp only; rw [hy3,List.length_set]; exact f2⟩) (by omega) (by omega)
   ·dsimp only at hc460
    exact go _ _ _ zm (by rw [hy4,List.length_set]) (by rw [hy4]; exact hz.ft.set ⟨f1,f2⟩) (by omega) (by omega)
   ·dsimp only at hc491
    exact go _ _ _ zm (by rw [hy4,List.length_set]) (by rw [hy4]; exact hz.ft.set ⟨f1,f2⟩) (by omega) (by omega)
 ·refine Zat (fun hl1=>Zbq (ZbT (mk _ (by omega) (by omega)) (by omega)) fun v499 ⟨hv499,hc499⟩=>hk22 _ ⟨fun _=>hl1,?_,?_⟩) (fun _=>hk22 _ ⟨fun h=>by simp at h,by dsimp only; omega,by dsimp only; omega⟩)
  ·dsimp only at hc499 ⊢; omega
  ·dsimp only at hc499 ⊢; omega
theorem PlanOk.fit {p:YardgenPush}{n:Int}(h:PlanOk p n):Fit p.Scene.Elements.length p.Scene.Cuts:=fun c hc=>by
 obtain ⟨cl,tg,sp,_,hh⟩:=h.c
 obtain ⟨i,hi⟩:=List.getElem?_of_mem hc
 have hil:=ZbQ hi
 have:=h.sn
 have g:=hh i c _ hi (List.getElem?_eq_getElem (by omega:i < p.Spans.length))
 exact ⟨g.rl,g.tl⟩
end Go.Hy
namespace Go.Hy
set_option linter.unusedVariables false
set_option linter.unusedSimpArgs false
set_option maxHeartbeats 2000000
set_option maxRecDepth 10000
open Go.Hy.Iv
theorem Zkj {th k:Int}{rides:List Ride}:∀ (l:List Command) (st:Done×List Incident),∃ pre,(l.foldl (cmdF th k rides) st).2 = st.2 ++ pre∧∀ i∈pre,i.Kind = 1∧i.Cut = k
 | [],st=>⟨[],by simp,fun i hi=>by simp at hi⟩
 | x :: l,st=>by
  rw [List.foldl_cons]
  obtain ⟨pre,h1,h2⟩:=Zkj (th:=th) (k:=k) (rides:=rides) l (cmdF th k rides st x)
  have:∃ p1,(cmdF th k rides st x).2 = st.2 ++ p1∧∀ i∈p1,i.Kind = 1∧i.Cut = k:=by
   unfold cmdF
   split
   ·rename_i hk
    split
    ·exact ⟨_,rfl,fun i hi=>by rw [List.mem_singleton] at hi; rw [hi]; exact ⟨rfl,hk⟩⟩
    ·exact ⟨[],by simp,fun i hi=>by simp at hi⟩
   ·exact ⟨[],by simp,fun i hi=>by simp at hi⟩
  obtain ⟨p1,g1,g2⟩:=this
  refine ⟨p1 ++ pre,by rw [h1,g1,List.append_assoc],fun i hi=>?_⟩
  rw [List.mem_append] at hi
  exact hi.elim (g2 i) (h2 i)
theorem ZiN {s:Scene}{start:List (Int×Int)}{done:Done}{k:Int}{c:Rolling}:∀ (n:Nat) (inc:List Incident) (ps:List Piece) (i:Int),∃ pre,(pathF s start done k c n inc ps i).1 = inc ++ pre∧∀ i∈pre,i.Kind = 2∧i.Cut = k
 | 0,inc,ps,i=>⟨[],by simp [pathF],fun i hi=>by simp at hi⟩
 | n + 1,inc,ps,i=>by
  rw [pathF]
  split
  ·exact ⟨[],by simp,fun i hi=>by simp at hi⟩
  ·split
   ·exact ⟨[],by simp,fun i hi=>by simp at hi⟩
   ·rename_i x _
    split
    ·exact ⟨[],by simp,fun i hi=>by simp at hi⟩
    ·obtain ⟨pre,h1,h2⟩:=ZiN (s:=s) (start:=start) (done:=done) (k:=k) (c:=c) n (swF s start done k c ps i x inc).1 (ps ++ [pcX i x x.Length]) (chF s.Elements i (swF s start done k c ps i x inc).2)
     have:∃ p1,(swF s start done k c ps i x inc).1 = inc ++ p1∧∀ i∈p1,i.Kind = 2∧i.Cut = k:=by
      unfold swF
      split
      ·split
       ·dsimp only
        split
        ·exact ⟨_,rfl,fun i hi=>by rw [List.mem_singleton] at hi; rw [hi]; exact ⟨rfl,rfl⟩⟩
        ·exact ⟨[],by simp,fun i hi=>by simp at hi⟩
       ·exact ⟨[],by simp,fun i hi=>by simp at hi⟩
      ·exact ⟨[],by simp,fun i hi=>by simp at hi⟩
     obtain ⟨p1,g1,g2⟩:=this
     refine ⟨p1 ++ pre,by rw [h1,g1,List.append_assoc],fun i hi=>?_⟩
     rw [List.mem_append] at hi
     exact hi.elim (g2 i) (h2 i)
theorem Zkt {s:Scene}{n:Nat}{c:Rolling}(hc:s.Cuts[n]? = some c):∃ (r:Ride) (pre:List Incident),(runN s (n + 1)).rides = (runN s n).rides ++ [r]∧
  (runN s (n + 1)).inc = (runN s n).inc ++ (pre ++ (metF n r.Spans (runN s n).rides 0 ++ (if r.Track ≠ c.Track then [⟨4,n,-1,-1,0⟩] else [])))∧∀ i∈pre,(i.Kind = 1∨i.Kind = 2)∧i.Cut = n:=by
 rw [runN,hc]
 dsimp only
 unfold stepF
 dsimp only
 obtain ⟨p1,h1,h2⟩:=Zkj (th:=s.Throw) (k:=(n:Int)) (rides:=(runN s n).rides) s.Commands ((runN s n).done,(runN s n).inc)
 generalize (s.Commands.foldl (cmdF s.Throw n (runN s n).rides) ((runN s n).done,(runN s n).inc)) = a at *
 obtain ⟨p2,g1,g2⟩:=ZiN (s:=s) (start:=startF s) (done:=a.1) (k:=(n:Int)) (c:=c) s.Elements.length a.2 [] (chF s.Elements 0 0)
 refine ⟨_,p1 ++ p2,rfl,?_,fun i hi=>?_⟩
 ·rw [g1,h1]
  dsimp only
  simp only [List.append_assoc]
 ·rw [List.mem_append] at hi
  rcases hi with hi | hi
  ·exact ⟨.inl (h2 i hi).1,(h2 i hi).2⟩
  ·exact ⟨.inr (g2 i hi).1,(g2 i hi).2⟩
theorem ZeP {s:Scene}:∀ {n:Nat},n ≤ s.Cuts.length→(runN s n).rides.length = n
 | 0=>fun _=>rfl
 | n + 1=>fun h=>by
  obtain ⟨r,pre,h1,_⟩:=Zkt (List.getElem?_eq_getElem (by omega:n < s.Cuts.length))
  rw [h1,List.length_append,ZeP (n:=n) (by omega),List.length_singleton]
end Go.Hy
namespace Go.Hy
set_option linter.unusedVariables false
set_option linter.unusedSimpArgs false
set_option maxHeartbeats 2000000
set_option maxRecDepth 10000
open Go.Hy.Iv
theorem Zk5 {ps:List Piece}{n:Int}{x:Piece}(hx:ps[ps.length - 1]? = some x) (hn:n ≤ x.Length) (hp:∀ p∈ps,1 ≤ p.Length):∀ (f:Nat) (j s:Int),0 ≤ j→j + 1 < ps.length→0 ≤ s→(ps.length:Int) + 1 ≤ f + j + 1→0 ≤ clN ps n f j s:=by
 intro f
 induction f with
 | zero=>intro j s h0 h1 h2 h3; omega
 | succ f ih=>
  intro j s h0 h1 h2 h3
  unfold clN
  by_cases h:n ≤ s
  ·rw [if_pos h]; exact h0
  ·rw [if_neg h]
   have hlt:(j + 1).toNat < ps.length:=by omega
   have hy:ps[(j + 1).toNat]? = some ps[(j + 1).toNat]:=List.getElem?_eq_getElem hlt
   generalize ps[(j + 1).toNat] = y at hy
   rw [hy]
   dsimp only
   have hyp:=hp y (ZbH hy)
   by_cases e:j + 2 < ps.length
   ·exact ih (j + 1) _ (by omega) (by omega) (by omega) (by omega)
   ·have:(j + 1).toNat = ps.length - 1:=by omega
    rw [this,hx] at hy
    cases hy
    obtain ⟨f,rfl⟩:∃ f',f = f' + 1:=⟨f - 1,by omega⟩
    unfold clN
    rw [if_pos (by omega)]
    omega
theorem Zk4 {ps:List Piece}{n:Int}{x:Piece}(h:PsOk ps) (hx:ps[ps.length - 1]? = some x) (hn:n ≤ x.Length){i:Nat}(hi:i + 1 < ps.length):0 ≤ clr ps i n:=
 Zk5 hx hn (fun p hp=>(h.ok p hp).l.1) _ _ _ (by omega) (by omega) (by omega) (by omega)
theorem Chk.mk' {l:List Element}{ps:List Piece}{n:Int}(hp:PsOk ps) (he:∀ p∈ps,0 ≤ p.Element∧p.Element < (l.length:Int)) (hn:1 ≤ n∧n ≤ 1000000){x:Piece}(hx:ps[ps.length - 1]? = some x) (hnx:n ≤ x.Length):bE l ps true n = 0:=by
 unfold bE
 have h1:ps.all (inB l) = true:=by
  rw [List.all_eq_true]; exact fun p hp=>decide_eq_true (he p hp).2
 have h2:(bhs ps n).all nnB = true:=by
  rw [List.all_eq_true]
  intro v hv
  unfold bhs at hv
  obtain ⟨i,hi,rfl⟩:=List.mem_map.1 hv
  exact decide_eq_true (Zk4 hp hx hnx (by have:=List.mem_range.1 hi; omega))
 rw [if_neg (by simp [Zh7 hp]),if_neg (by omega),if_pos ⟨rfl,h1⟩,if_pos h2]
theorem Zkv {f:Nat→Option Span}:∀ (k i j:Nat) (s:Span),(rows f k i)[j]? = some s→f (i + j) = some s∧j < k:=by
 intro k
 induction k with
 | zero=>intro i j s h; simp [rows] at h
 | succ k ih=>
  intro i j s h
  cases hf:f i with
  | none=>rw [ZeO hf] at h; simp at h
  | some t=>
   rw [ZdX hf] at h
   cases j with
   | zero=>simp only [List.getElem?_cons_zero,Option.some.injEq] at h; subst h; exact ⟨hf,by omega⟩
   | succ j=>
    have:=ih (i + 1) j s (by simpa using h)
    rw [show i + (j + 1) = i + 1 + j from by omega]
    exact ⟨this.1,by omega⟩
end Go.Hy
namespace Go.Hy
set_option linter.unusedVariables false
set_option linter.unusedSimpArgs false
set_option maxHeartbeats 2000000
set_option maxRecDepth 10000
open Go.Hy.Iv
abbrev prevE (ps:List Piece) (j:Nat):Int:=if j = 0 then 0 else elOf ps (j - 1)
theorem Ziv {ps:List Piece}{j:Nat}{p:Piece}(h:ps[j]? = some p):elOf ps j = p.Element:=by unfold elOf; rw [h]
theorem ZeX {ps:List Piece}{q:Piece}{j:Nat}(hj:j ≤ ps.length):prevE (ps ++ [q]) j = prevE ps j:=by
 unfold prevE
 split
 ·rfl
 ·unfold elOf; rw [List.getElem?_append_left (by omega)]
structure ChU (l:List Element) (ps:List Piece):Prop where
 e:∀ (j:Nat) p,ps[j]? = some p→1 ≤ p.Element∧∃ x:Element,l[p.Element.toNat]? = some x∧x.Parent = prevE ps j∧p = pcX p.Element x x.Length∧x.Kind ≠ 4
structure PathOk (l:List Element) (c:Rolling) (ps:List Piece):Prop where
 ok:PsOk ps
 il:InL l ps
 e:∀ (j:Nat) p,ps[j]? = some p→1 ≤ p.Element∧∃ x:Element,l[p.Element.toNat]? = some x∧x.Parent = prevE ps j∧p = pcX p.Element x (if j + 1 < ps.length then x.Length else c.Length)∧(x.Kind = 4↔j + 1 = ps.length)
theorem ChU.il {l:List Element}{ps:List Piece}(h:ChU l ps):InL l ps:=fun p hp=>by
 obtain ⟨j,hj⟩:=List.getElem?_of_mem hp
 obtain ⟨h1,x,hx,_⟩:=h.e j p hj
 have:=ZbQ hx
 exact ⟨by omega,by omega⟩
theorem ChU.snoc {l:List Element}{ps:List Piece}(h:ChU l ps){i:Int}{x:Element}(hi:1 ≤ i) (hx:l[i.toNat]? = some x) (hp:x.Parent = prevE ps ps.length) (hk:x.Kind ≠ 4):ChU l (ps ++ [pcX i x x.Length]):=by
 refine ⟨fun j p hj=>?_⟩
 rcases Zd8 hj with h1 | ⟨h1,h2⟩
 ·have hjl:=ZbQ h1
  obtain ⟨g1,y,g2,g3,g4⟩:=h.e j p h1
  exact ⟨g1,y,g2,by rw [g3,ZeX (by omega)],g4⟩
 ·subst h2
  exact ⟨hi,x,hx,by rw [hp,h1,ZeX (Nat.le_refl _)],rfl,hk⟩
theorem ZkQ {s:Scene}(vl:VL s.Elements){c:Rolling}(hc:RlOk s.Elements c){start:List (Int×Int)}(hs:StL start){done:Done}{m:Nat}(hd:DnOk m done){k:Int}:∀ (n:Nat) (inc:List Incident) (ps:List Piece) (i:Int) (x:Element),ChU s.Elements ps→1 ≤ i→s.Elements[i.toNat]? = some x→x.Parent = prevE ps ps.length→(ps.length:Int) < i→(ps.length = 0∨PsOk ps)→s.Elements.length ≤ n + i.toNat→PathOk s.Elements c (pathF s start done k c n inc ps i).2:=by
 intro n
 have hlen:=vl.len
 have hsh:=ZfG vl
 have hcl:=hc.len
 induction n with
 | zero=>intro inc ps i x _ _ hx _ _ _ hn; have:=ZbQ hx; omega
 | succ n ih=>
  intro inc ps i x hch hi hx hp hpl hpok hn
  have hxl:=ZbQ hx
  rw [pathF,if_neg (by omega),hx]
  dsimp only
  have el:=(vl.el hx).2 (by omega)
  have eb:=el.1
  unfold elB at eb
  rw [decide_eq_true_iff] at eb
  by_cases hk:x.Kind = 4
  ·rw [if_pos hk]
   dsimp only
   have hle:=sh_le hx hk
   refine ⟨PsOk.snoc hpok (by omega) (ZhR vl hi hx (by omega)),fun p hp2=>?_,fun j p hj=>?_⟩
   ·rw [List.mem_append,List.mem_singleton] at hp2
    rcases hp2 with hp2 | hp2
    ·exact hch.il p hp2
    ·rw [hp2]; exact ⟨by show 0 ≤ i; omega,by show i < _; omega⟩
   ·rcases Zd8 hj with h1 | ⟨h1,h2⟩
    ·have hjl:=ZbQ h1
     obtain ⟨g1,y,g2,g3,g4,g5⟩:=hch.e j p h1
     refine ⟨g1,y,g2,by rw [g3,ZeX (by omega)],?_,⟨fun h=>absurd h g5,fun h=>?_⟩⟩
     ·rw [if_pos (by rw [List.length_append,List.length_singleton]; omega)]; exact g4
     ·rw [List.length_append,List.length_singleton] at h; omega
    ·subst h2
     refine ⟨hi,x,hx,by rw [hp,h1,ZeX (Nat.le_refl _)],?_,⟨fun _=>by rw [h1,List.length_append,List.length_singleton],fun _=>hk⟩⟩
     rw [if_neg (by rw [h1,List.length_append,List.length_singleton]; omega)]; rfl
  ·rw [if_neg hk]
   have q3:x.Kind = 3→Lies (swF s start done k c ps i x inc).2:=fun h3=>by
    unfold swF
    rw [if_pos h3]
    split
    ·exact Zea hs hd
    ·exact .inl rfl
   have q0:x.Kind ≠ 3→(swF s start done k c ps i x inc).2 = 0:=fun h3=>by
    unfold swF
    rw [if_neg h3]
   obtain ⟨j,y,hj,hij,hy,_⟩:=Zeq vl hx hk q3 q0
   have ei:((i.toNat:Nat):Int) = i:=by omega
   rw [ei] at hj
   have hjl:=ZbQ hy
   have hpar:y.Parent = i:=by
    rcases ZgX (l:=s.Elements) (i:=i) (s:=(swF s start done k c ps i x inc).2) s.Elements.length 0 (by omega) with ⟨m,z,e,_,hz,hcp⟩ | ⟨e,_⟩
    ·unfold chF at hj
     have em:m = j:=by omega
     subst em
     rw [hy] at hz; cases hz; exact hcp.2.1
    ·unfold chF at hj; omega
   rw [hj]
   refine ih _ _ _ y (hch.snoc hi hx hp hk) (by omega) (by rw [Int.toNat_natCast]; exact hy) ?_ ?_ (.inr (PsOk.snoc hpok (by omega) (ZhR vl hi hx eb.2.1))) (by omega)
   ·rw [hpar,List.length_append,List.length_singleton]
    unfold prevE
    rw [if_neg (by omega),Nat.add_sub_cancel,Ziv ZeF]; rfl
   ·rw [List.length_append,List.length_singleton]; omega
theorem Zhz {s:Scene}(h:SVt s):StL (startF s):=by
 unfold startF
 have:∀ (l:List Throw) (m:List (Int×Int)),(∀ t∈l,Lies t.Side)→StL m→StL (l.foldl (fun m t=>mput keyP (t.Element,t.Side) m) m):=by
  intro l
  induction l with
  | nil=>intro m _ hm; exact hm
  | cons t l ih=>intro m ht hm; exact ih _ (fun u hu=>ht u (List.mem_cons_of_mem _ hu)) (hm.put (ht t List.mem_cons_self))
 refine this _ _ (fun t ht=>?_) (fun d hd=>by simp [mfind] at hd)
 obtain ⟨i,hi⟩:=List.getElem?_of_mem ht
 exact (h.st i t hi).1.2
theorem Zhr {th k:Int}{rides:List Ride}:∀ (l:List Command) (st:Done×List Incident) (n:Nat),(∀ x∈l,Lies x.Side)→DnOk n st.1→DnOk (n + l.length) (l.foldl (cmdF th k rides) st).1
 | [],st,n=>fun _ h=>h
 | x :: l,st,n=>fun hl h=>by
  rw [List.foldl_cons,List.length_cons]
  have:DnOk (n + 1) (cmdF th k rides st x).1:=by
   unfold cmdF
   split
   ·split
    ·exact h.up (by omega)
    ·exact h.put (hl x List.mem_cons_self)
   ·exact h.up (by omega)
  exact (Zhr l _ (n + 1) (fun y hy=>hl y (List.mem_cons_of_mem _ hy)) this).up (by omega)
theorem Zgh {s:Scene}(h:SVt s):∀ x∈s.Commands,Lies x.Side:=fun x hx=>by
 obtain ⟨i,hi⟩:=List.getElem?_of_mem hx
 exact (h.cm i x hi).2.1.2
theorem Zk2 {s:Scene}(h:SVt s):∀ n,∃ m,DnOk m (runN s n).done
 | 0=>⟨0,fun e=>by simp [runN,listOf,mfind],fun e x hx=>by simp [runN,listOf,mfind] at hx⟩
 | n + 1=>by
  rw [runN]
  cases hc:s.Cuts[n]? with
  | none=>exact Zk2 h n
  | some c=>
   obtain ⟨m,hm⟩:=Zk2 h n
   exact ⟨_,Zhr s.Commands ((runN s n).done,(runN s n).inc) m (Zgh h) hm⟩
def wayN (s:Scene) (n:Nat) (c:Rolling):List Piece:=
 (pathF s (startF s) (s.Commands.foldl (cmdF s.Throw n (runN s n).rides) ((runN s n).done,(runN s n).inc)).1 n c s.Elements.length (s.Commands.foldl (cmdF s.Throw n (runN s n).rides) ((runN s n).done,(runN s n).inc)).2 [] (chF s.Elements 0 0)).2
theorem Zjv {s:Scene}(h:SV s){n:Nat}{c:Rolling}(hc:s.Cuts[n]? = some c):PathOk s.Elements c (wayN s n c):=by
 have vl:=ZhV h.l0
 have hlen:=vl.len
 obtain ⟨m,hm⟩:=Zk2 h.v n
 obtain ⟨x0,hx0⟩:∃ x,s.Elements[0]? = some x:=⟨_,List.getElem?_eq_getElem (by omega)⟩
 have k0:=((vl.el hx0).1 rfl).1
 obtain ⟨j,y,hj,hij,hy,_⟩:=Zeq vl hx0 (by omega) (s:=0) (fun h=>by omega) (fun _=>rfl)
 have hj':chF s.Elements 0 0 = j:=hj
 have hpar:y.Parent = 0:=by
  rcases ZgX (l:=s.Elements) (i:=0) (s:=0) s.Elements.length 0 (by omega) with ⟨m,z,e,_,hz,hcp⟩ | ⟨e,_⟩
  ·unfold chF at hj'
   have em:m = j:=by omega
   subst em
   rw [hy] at hz; cases hz; exact hcp.2.1
  ·unfold chF at hj'; omega
 unfold wayN
 rw [hj']
 exact ZkQ vl (h.v.ct n c hc).1 (Zhz h.v) (Zhr s.Commands _ m (Zgh h.v) hm) _ _ _ _ y ⟨fun j p hp=>by simp at hp⟩ (by omega) (by rw [Int.toNat_natCast]; exact hy) (by rw [hpar]; rfl) (by simp; omega) (.inl rfl) (by omega)
theorem ZjJ {s:Scene}:∀ {n a:Nat}{r:Ride},n ≤ s.Cuts.length→(runN s n).rides[a]? = some r→∃ c,s.Cuts[a]? = some c∧r = rideF s.Elements c (wayN s a c)
 | 0,a,r=>fun _ h=>by simp [runN] at h
 | n + 1,a,r=>fun hn h=>by
  have hc:=List.getElem?_eq_getElem (by omega:n < s.Cuts.length)
  have hl:=ZeP (s:=s) (n:=n) (by omega)
  have e:(runN s (n + 1)).rides = (runN s n).rides ++ [rideF s.Elements s.Cuts[n] (wayN s n s.Cuts[n])]:=by
   rw [runN,hc]; rfl
  rw [e] at h
  rcases Zd8 h with h1 | ⟨h1,h2⟩
  ·exact ZjJ (by omega) h1
  ·rw [hl] at h1
   subst h1
   exact ⟨_,hc,h2⟩
theorem ZjX {p:Piece}{w tg:Int}{x y:Moment}{i:Nat}(hp:PieceOk p) (hw:Wr w) (hx:MomOk x i) (h:ptStep p w tg x = some y):x.Time ≤ y.Time:=by
 unfold ptStep at h
 split at h
 ·cases h
 split at h
 ·cases h
 rename_i h1 h2
 obtain ⟨e0,e1,t0,t1⟩:=hx
 have q1:=(ZbZ e0).1
 have q2:=(ZbZ (n:=x.Energy + gd p w) (by omega)).1
 have hu:=Zjw (x:=2000 * p.Length) (d:=isq x.Energy + isq (x.Energy + gd p w)) (by have:=hp.l; omega) (by omega)
 simp only [Option.some.injEq] at h
 subst h
 dsimp only; omega
theorem ZiL:∀ {ps:List Piece}{ws ts:List Int}{x:Moment}{i:Nat},(∀ p∈ps,PieceOk p)→(∀ w∈ws,Wr w)→MomOk x i→
  (∀ (j:Nat) m,(ptRun ps ws ts x)[j]? = some m→x.Time ≤ m.Time∧MomOk m (i + j + 1))∧∀ (j:Nat) m m',(ptRun ps ws ts x)[j]? = some m→(ptRun ps ws ts x)[j + 1]? = some m'→m.Time ≤ m'.Time
 | [],ws,ts,x,i=>fun _ _ _=>⟨fun j m h=>by simp [ptRun] at h,fun j m m' h=>by simp [ptRun] at h⟩
 | p :: ps,ws,ts,x,i=>fun hp hw hx=>by
  rw [ptRun]
  cases hst:ptStep p (ws.headD 0) (tgOf p ts) x with
  | none=>exact ⟨fun j m h=>by simp at h,fun j m m' h=>by simp at h⟩
  | some y=>
   have hw0:Wr (ws.headD 0):=by
    cases ws with
    | nil=>exact ⟨by decide,by decide⟩
    | cons w ws=>exact hw w List.mem_cons_self
   have hpp:=hp p List.mem_cons_self
   have hy:=Zf0 hpp hw0 hx hst
   have hle:=ZjX hpp hw0 hx hst
   obtain ⟨ih1,ih2⟩:=ZiL (ps:=ps) (ws:=ws.tail) (ts:=tsOf p ts) (x:=y) (i:=i + 1) (fun q hq=>hp q (List.mem_cons_of_mem _ hq)) (fun w hww=>hw w (List.mem_of_mem_tail hww)) hy
   dsimp only
   refine ⟨fun j m h=>?_,fun j m m' h h'=>?_⟩
   ·cases j with
    | zero=>rw [List.getElem?_cons_zero] at h; cases h; exact ⟨hle,hy⟩
    | succ j=>
     rw [List.getElem?_cons_succ] at h
     obtain ⟨g1,g2⟩:=ih1 j m h
     exact ⟨by omega,by rw [show i + (j + 1) + 1 = i + 1 + j + 1 from by omega]; exact g2⟩
   ·cases j with
    | zero=>
     rw [List.getElem?_cons_zero] at h; cases h
     rw [List.getElem?_cons_succ] at h'
     exact (ih1 0 m' h').1
    | succ j=>
     rw [List.getElem?_cons_succ] at h h'
     exact ih2 j m m' h h'
theorem ZkN {ps:List Piece}{r:Run}(hp:PsOk ps) (hr:RunOk ps r):(∀ (j:Nat) m,(ptAll ps r)[j]? = some m→0 ≤ m.Time∧m.Time ≤ 1000000000)∧∀ (j:Nat) m m',(ptAll ps r)[j]? = some m→(ptAll ps r)[j + 1]? = some m'→m.Time ≤ m'.Time:=by
 unfold ptAll
 have h0:=pt0_ok hr
 obtain ⟨h1,h2⟩:=ZiL (ps:=ps) (ws:=r.Resist) (ts:=r.Targets) hp.ok hr.w h0
 refine ⟨fun j m h=>?_,fun j m m' h h'=>?_⟩
 ·cases j with
  | zero=>rw [List.getElem?_cons_zero] at h; cases h; exact ⟨h0.t0,h0.t1⟩
  | succ j=>rw [List.getElem?_cons_succ] at h; have:=(h1 j m h).2; exact ⟨this.t0,this.t1⟩
 ·cases j with
  | zero=>
   rw [List.getElem?_cons_zero] at h; cases h
   rw [List.getElem?_cons_succ] at h'; exact (h1 0 m' h').1
  | succ j=>rw [List.getElem?_cons_succ] at h h'; exact h2 j m m' h h'
theorem exE_ok {l:List Element}{c:Rolling}{ps:List Piece}(hl:1 ≤ c.Length∧c.Length ≤ 1000000) (h:PathOk l c ps):exE l ps (ptAll ps (rnOf c ps)) c.Length = (rows (exF l ps (ptAll ps (rnOf c ps)) c.Length) (ps.length - 1) 0,0):=by
 have hm:=Zeh (ps:=ps) (r:=rnOf c ps)
 have hlen:=h.ok.len
 have hx:ps[ps.length - 1]? = some ps[ps.length - 1]:=List.getElem?_eq_getElem (by omega)
 obtain ⟨_,x,_,_,hp,_⟩:=h.e _ _ hx
 have hpl:(ps[ps.length - 1]).Length = c.Length:=by
  rw [hp,if_neg (by omega)]; rfl
 have hb:bE l ps (decide (1 ≤ (ptAll ps (rnOf c ps)).length∧(ptAll ps (rnOf c ps)).length ≤ ps.length + 1)) c.Length = 0:=by
  rw [decide_eq_true hm]
  exact Chk.mk' h.ok h.il hl hx (by omega)
 unfold exE
 rw [hb,if_neg (by simp)]
theorem ZhD {f:Nat→Option Span}:∀ (k i:Nat),(∀ j,i ≤ j→j < i + k→(f j).isSome = true)→(rows f k i).length = k
 | 0,i=>fun _=>by simp [rows]
 | k + 1,i=>fun h=>by
  obtain ⟨s,hs⟩:=Option.isSome_iff_exists.1 (h i (Nat.le_refl _) (by omega))
  rw [ZdX hs,List.length_cons,ZhD k (i + 1) (fun j h1 h2=>h j (by omega) (by omega))]
end Go.Hy
namespace Go.Hy
set_option linter.unusedVariables false
set_option linter.unusedSimpArgs false
set_option maxHeartbeats 2000000
set_option maxRecDepth 10000
def firstS (st:List Throw) (e:Int):Int:=match st.find? (fun t=>decide (t.Element = e)) with
 | some t=>t.Side
 | none=>1
theorem ZkH {l:List Throw}{e:Int}(hl:l.length ≤ 9223372036854775807):Zc0 l e = some (firstS l e):=by
 refine Ok.eq (?_:Ok _ _)
 unfold Zc0
 refine Zbi (fun z=>0 ≤ z∧z ≤ (l.length:Int)∧firstS (l.drop z.toNat) e = firstS l e) (fun z=>((l.length:Int) - z).toNat) ⟨Int.le_refl 0,by omega,rfl⟩ (by rw [ZaY]; omega) fun z k ⟨hz,hzl,he⟩ hk=>?_
 refine Zat (fun h=>Za5 hz h fun a ha=>?_) (fun h=>Zan ?_)
 ·have hk':=(List.getElem?_eq_some_iff.1 ha).1
  have ed:l.drop z.toNat = a :: l.drop (z.toNat + 1):=by rw [List.drop_eq_getElem_cons hk',(List.getElem?_eq_some_iff.1 ha).2]
  rw [ed] at he
  unfold firstS at he
  rw [List.find?_cons] at he
  refine Zat (fun h1=>Za1 hz ha (Zan ?_)) fun h1=>?_
  ·rw [decide_eq_true h1] at he
   unfold firstS
   rw [← he]
  ·rw [decide_eq_false h1] at he
   rw [Zaz (by omega)]
   refine hk _ ⟨by omega,by omega,?_⟩ (by omega)
   rw [show (z + 1).toNat = z.toNat + 1 from by omega]
   unfold firstS
   exact he
 ·rw [List.drop_eq_nil_of_le (by omega)] at he
  rw [← he]; rfl
end Go.Hy
namespace Go.Hy
set_option linter.unusedVariables false
set_option linter.unusedSimpArgs false
set_option maxHeartbeats 2000000
set_option maxRecDepth 10000
open Go.Hy.Iv
theorem ZkJ {l:List Element}{c:Rolling}(hc:RlOk l c){ps:List Piece}(hp:PsOk ps) (hi:InL l ps):ZfN c ps = some (rnOf c ps):=by
 refine Ok.eq (?_:Ok _ _)
 have hl:=hp.len
 have h1:=hc.rl
 have h2:=hc.tl
 unfold ZfN
 refine Zbi (fun z=>0 ≤ z.2.2∧z.2.2 ≤ (ps.length:Int)∧z.1 = resP c.Resist (ps.take z.2.2.toNat)∧z.2.1 = selP c.Targets (ps.take z.2.2.toNat)) (fun z=>((ps.length:Int) - z.2.2).toNat) ⟨Int.le_refl 0,by dsimp only; omega,by simp [resP],by simp [selP]⟩ (by rw [ZaY]; dsimp only; omega) fun z k2 ⟨z0,z1,zr,zt⟩ hk2=>?_
 refine Zat (fun h=>Za5 z0 h fun p hpp=>?_) (fun h=>Zan (by rw [zr,zt,ZeL h]; rfl))
 have hpe:=hi p (ZbH hpp)
 have l1:z.1.length ≤ ps.length:=by rw [zr,Zhc,List.length_take]; omega
 have l2:z.2.1.length ≤ ps.length:=by rw [zt]; exact Nat.le_trans Zg9 (by rw [List.length_take]; omega)
 refine Za5 hpe.1 (by omega) fun r hr=>Zbu (by simp only [List.length_singleton]; omega) (Za8 fun y1 hy1=>Za1 z0 hpp ?_)
 have s1:=ZhJ z0 hpp hr
 rw [Zaz (n:=z.2.2 + 1) (by omega)]
 refine Zat (fun hpw=>Za1 z0 hpp (Za5 hpe.1 (by omega) fun u hu=>Zbu (by simp only [List.length_singleton]; omega) (Za8 fun y2 hy2=>?_))) (fun hpw=>?_)
 ·exact hk2 _ ⟨by dsimp only; omega,by dsimp only; omega,by dsimp only; rw [hy1,s1,zr],by dsimp only; rw [hy2,ZfH z0 hpp hpw hu,zt]⟩ (by dsimp only; omega)
 ·exact hk2 _ ⟨by dsimp only; omega,by dsimp only; omega,by dsimp only; rw [hy1,s1,zr],by dsimp only; rw [ZfI z0 hpp hpw,zt]⟩ (by dsimp only; omega)
def findE (r:Ride) (e:Int):Option Span:=r.Spans.find? (fun y:Span=>decide (y.Element = e))
theorem ZhH {r:Ride} {e:Int} (hl:r.Spans.length ≤ 1000000000):Zec r e = some (match findE r e with | some y=>(y,true) | none=>(⟨0,0,0,0⟩,false)):=by
 refine Ok.eq (?_:Ok _ _)
 unfold Zec findE
 refine Zbi (fun z=>0 ≤ z∧z ≤ (r.Spans.length:Int)∧Scan (fun y:Span=>!decide (y.Element = e)) r.Spans z) (fun z=>((r.Spans.length:Int) - z).toNat) ⟨Int.le_refl 0,by omega,Scan.zero⟩ (by rw [ZaY]; omega) fun z k ⟨z0,z1,zs⟩ hk=>?_
 refine Zat (fun h=>Za5 z0 h fun y hy=>Zat (fun he=>Za1 z0 hy (Zan ?_)) (fun he=>?_)) (fun h=>Zan ?_)
 ·rw [Zit zs hy (decide_eq_true he)]
 ·rw [Zaz (by omega)]
  exact hk _ ⟨by omega,by omega,zs.step hy (by rw [decide_eq_false he]; rfl)⟩ (by omega)
 ·rw [Zis zs h]
theorem Zgk {a b:Span}:ZcT a b = some (decide (a.From < b.To) && decide (b.From < a.To)):=by
 refine Ok.eq (?_:Ok _ _)
 unfold ZcT
 exact Zat (fun h=>Zan (by simp [h])) (fun h=>Zan (by simp [h]))
abbrev Dif (r:Ride):Prop:=r.Spans.length ≤ 128∧∀ (i j:Nat) s t,r.Spans[i]? = some s→r.Spans[j]? = some t→s.Element = t.Element→i = j
theorem Zi6 {r:Ride} (h:Dif r) (x:Span):r.Spans.any (ov x) = match findE r x.Element with | some y=>decide (y.From < x.To) && decide (x.From < y.To) | none=>false:=by
 unfold findE
 cases hf:r.Spans.find? (fun y:Span=>decide (y.Element = x.Element)) with
 | none=>
  rw [List.find?_eq_none] at hf
  dsimp only
  rw [List.any_eq_false]
  intro y hy
  have:=hf y hy
  unfold ov
  rw [decide_eq_false (fun he:x.Element = y.Element=>this (decide_eq_true he.symm))]; simp
 | some y=>
  dsimp only
  have hy:=List.mem_of_find?_eq_some hf
  have he:=of_decide_eq_true (List.find?_some (p:=fun y:Span=>decide (y.Element = x.Element)) hf)
  obtain ⟨i,hi⟩:=List.getElem?_of_mem hy
  have hov:ov x y = (decide (y.From < x.To) && decide (x.From < y.To)):=by
   unfold ov
   rw [decide_eq_true he.symm,Bool.true_and,Bool.and_comm]
  rw [← hov]
  cases hxy:ov x y with
  | true=>exact List.any_eq_true.2 ⟨y,hy,hxy⟩
  | false=>
   rw [List.any_eq_false]
   intro u hu huo
   obtain ⟨j,hj⟩:=List.getElem?_of_mem hu
   have hue:x.Element = u.Element:=by
    unfold ov at huo
    rw [Bool.and_eq_true] at huo
    exact of_decide_eq_true huo.1
   have:=h.2 i j y u hi hj (by rw [he,hue])
   subst this
   rw [hi] at hj; cases hj
   rw [hxy] at huo; cases huo
theorem plc0 {l:List Element}(h:VL l){j:Nat}{y x:Element}(hj:1 ≤ j) (hy:l[j]? = some y) (hx:l[y.Parent.toNat]? = some x):(¬ (x.Kind = 3↔y.Side = 0))∧y.Kind ≠ 0∧x.Kind ≠ 4:=by
 have ft:=h.ft j
 have el:=(h.el hy).2 (by omega)
 unfold ftE at ft
 rw [hy] at ft
 dsimp only at ft
 split at ft
 ·omega
 ·split at ft
  ·omega
  ·split at ft
   ·omega
   ·split at ft
    ·omega
    ·rw [hx] at ft
     dsimp only at ft
     split at ft
     ·omega
     ·rename_i g1
      exact ⟨fun hh=>g1 (.inr hh),el.2.1,fun h4=>g1 (.inl h4)⟩
theorem Zk7 {l:List Element}(vl:VL l){i s:Int}(hi:0 ≤ i):∀ (k j:Nat),l.length ≤ k + j→∀ (m:Nat),j ≤ m→(m:Int) ≤ i + 1→m ≤ l.length→chN l i s (l.length - j) j = chN l i s (l.length - m) m:=by
 intro k j _ m hjm hm hml
 induction m with
 | zero=>
  have:j = 0:=by omega
  rw [this]
 | succ m ih=>
  by_cases he:j = m + 1
  ·rw [he]
  ·rw [ih (by omega) (by omega) (by omega)]
   have hx:=List.getElem?_eq_getElem (by omega:m < l.length)
   have e:l.length - m = (l.length - (m + 1)) + 1:=by omega
   rw [e,chN,hx]
   dsimp only
   rw [if_neg]
   rintro ⟨h1,h2,h3⟩
   have:=vl.par hx
   omega
theorem ZgH {l:List Element}(vl:VL l){i s:Int}(hi:0 ≤ i){x:Element}(hx:l[i.toNat]? = some x) (h0:x.Kind ≠ 3→s = 0):Zdw l i s = some (chF l i s):=by
 have hlen:=vl.len
 have hil:=ZbQ hx
 refine Ok.eq (?_:Ok _ _)
 unfold Zdw
 rw [Zaz (n:=i + 1) (by omega)]
 have h00:=Zk7 (s:=s) vl hi l.length 0 (by omega) (i.toNat + 1) (by omega) (by omega) (by omega)
 refine Zbi (fun z=>i + 1 ≤ z∧z ≤ (l.length:Int)∧chN l i s (l.length - z.toNat) z.toNat = chF l i s) (fun z=>((l.length:Int) - z).toNat) ⟨Int.le_refl _,by omega,by
   have e:(i + 1).toNat = i.toNat + 1:=by omega
   rw [e,← h00]; rfl⟩ (by rw [ZaY]; omega) fun z k ⟨hz,hzl,he⟩ hk=>?_
 refine Zat (fun h=>Za5 (by omega) h fun y hy=>?_) (fun h=>Zan ?_)
 ·have e:l.length - z.toNat = (l.length - (z + 1).toNat) + 1:=by omega
  have e2:(z + 1).toNat = z.toNat + 1:=by omega
  rw [e,chN,hy] at he
  dsimp only at he
  rw [Zaz (by omega)]
  have no:¬ CP i s y→Ok (k (z + 1)) (· = chF l i s):=fun hn=>hk _ ⟨by omega,by omega,by rw [if_neg hn,← e2] at he; exact he⟩ (by omega)
  have yes:CP i s y→Ok (some z) (· = chF l i s):=fun hc=>by
   rw [if_pos hc] at he
   exact Zan (by omega)
  refine Zat (fun h1=>Za1 hi hx ?_) (fun h1=>no fun hh=>h1 hh.2.1)
  have hx2:l[y.Parent.toNat]? = some x:=by rw [h1]; exact hx
  obtain ⟨p1,p2,_⟩:=plc0 vl (by omega) hy hx2
  refine Zat (fun h3=>yes ⟨p2,h1,?_⟩) (fun h3=>Za1 (by omega) hy (Zat (fun hs=>yes ⟨p2,h1,hs⟩) (fun hs=>no fun hh=>hs hh.2.2)))
  rw [h0 h3]
  by_cases hs:y.Side = 0
  ·exact hs
  ·exact absurd ⟨fun h=>absurd h h3,fun h=>absurd h hs⟩ p1
 ·have e:l.length - z.toNat = 0:=by omega
  rw [e,chN] at he
  exact he
theorem Zk6 {l:List Element}(vl:VL l){i s:Int}(hi:0 ≤ i){x:Element}(hx:l[i.toNat]? = some x) (h4:x.Kind = 4):chF l i s = -1:=by
 rcases ZgX (l:=l) (i:=i) (s:=s) l.length 0 (by omega) with ⟨m,z,e,_,hz,hc⟩ | ⟨e,_⟩
 ·have hp:=vl.par hz
  have hx2:l[z.Parent.toNat]? = some x:=by rw [hc.2.1]; exact hx
  obtain ⟨_,_,p3⟩:=plc0 vl (by have:=hc.2.1; omega) hz hx2
  exact absurd h4 p3
 ·exact e
theorem ZgB:∀ (l:List Throw) (m:List (Int×Int)) (e:Int),l.Pairwise (fun t u=>t.Element ≠ u.Element)→
  (if (mfind keyP e (l.foldl (fun m t=>mput keyP (t.Element,t.Side) m) m)).isSome then intOf e (l.foldl (fun m t=>mput keyP (t.Element,t.Side) m) m) else 1) = match l.find? (fun t=>decide (t.Element = e)) with
  | some t=>t.Side
  | none=>if (mfind keyP e m).isSome then intOf e m else 1
 | [],m,e=>fun _=>rfl
 | t :: l,m,e=>fun hp=>by
  rw [List.pairwise_cons] at hp
  rw [List.foldl_cons,ZgB l _ e hp.2,List.find?_cons]
  obtain ⟨⟨g1,g2⟩,g3⟩:=Zgd (e:=t.Element) (v:=t.Side) (m:=m)
  by_cases he:t.Element = e
  ·rw [decide_eq_true he]
   have hn:l.find? (fun t=>decide (t.Element = e)) = none:=by
    rw [List.find?_eq_none]
    intro u hu hue
    exact hp.1 u hu (by rw [he,of_decide_eq_true hue])
   rw [hn]
   dsimp only
   subst he
   rw [g2,if_pos rfl,g1]
  ·rw [decide_eq_false he]
   dsimp only
   rw [(g3 e (Ne.symm he)).1,(g3 e (Ne.symm he)).2]
theorem Zg7 {s:Scene}(h:SVt s) (e:Int):(if (mfind keyP e (startF s)).isSome then intOf e (startF s) else 1) = firstS s.Start e:=by
 unfold startF
 rw [ZgB _ _ _ (by
  rw [List.pairwise_iff_getElem]
  intro i j hi hj hij
  exact (h.st j _ (List.getElem?_eq_getElem hj)).2 i _ hij (List.getElem?_eq_getElem hi))]
 rfl
theorem ZiY {α:Type}{p:α→Bool}:∀ (l:List α),l.reverse.find? p = (l.filter p).getLast?
 | []=>rfl
 | a :: l=>by
  rw [List.reverse_cons,List.find?_append,ZiY l,List.filter_cons]
  cases hp:p a with
  | true=>
   rw [if_pos rfl,List.find?_cons,hp]
   cases hl:(l.filter p).getLast? with
   | none=>rw [List.getLast?_eq_none_iff] at hl; rw [hl]; rfl
   | some b=>
    rw [List.getLast?_cons,hl]; rfl
  | false=>
   rw [if_neg (by simp),List.find?_cons,hp,List.find?_nil,Option.or_none]
def lieF (th:Int) (st:List Throw) (F:List Command) (i t:Int):Int×Bool:=match (F.filter (fun c:Command=>decide (c.Element = i) && decide (c.Time ≤ t))).getLast? with
 | some c=>(c.Side,decide (t < w64 (c.Time + th)))
 | none=>(firstS st i,false)
theorem Zj6 {th i t:Int}{st:List Throw}{F:List Command}{c:Command}:lieF th st (F ++ [c]) i t = if c.Element = i∧c.Time ≤ t then (c.Side,decide (t < w64 (c.Time + th))) else lieF th st F i t:=by
 unfold lieF
 rw [List.filter_append,List.filter_cons]
 by_cases h:c.Element = i∧c.Time ≤ t
 ·rw [if_pos (by rw [decide_eq_true h.1,decide_eq_true h.2]; rfl),if_pos h,List.filter_nil,List.getLast?_append]; rfl
 ·rw [if_neg h,if_neg (by
   rw [Bool.and_eq_true]
   rintro ⟨h1,h2⟩
   exact h ⟨of_decide_eq_true h1,of_decide_eq_true h2⟩),List.filter_nil,List.append_nil]
theorem ZkS {p:Humpyardref30Push}{i t:Int}(hl:p.fdone.length ≤ 1000000000) (hs:p.fs.Start.length ≤ 9223372036854775807):ZcH p i t = some (lieF p.fs.Throw p.fs.Start p.fdone i t):=by
 refine Ok.eq (?_:Ok _ _)
 unfold ZcH
 refine ZaN (ZkH hs) ?_
 refine Zbi (fun z=>0 ≤ z.2.2∧z.2.2 ≤ (p.fdone.length:Int)∧(z.1,z.2.1) = lieF p.fs.Throw p.fs.Start (p.fdone.take z.2.2.toNat) i t) (fun z=>((p.fdone.length:Int) - z.2.2).toNat) ⟨Int.le_refl 0,by dsimp only; omega,rfl⟩ (by rw [ZaY]; dsimp only; omega) fun z k ⟨z0,z1,ze⟩ hk=>?_
 refine Zat (fun h=>?_) (fun h=>Zan (by rw [ze,List.take_of_length_le (by omega)]))
 obtain ⟨c,hc⟩:∃ c,p.fdone[z.2.2.toNat]? = some c:=⟨_,List.getElem?_eq_getElem (by omega)⟩
 have st:lieF p.fs.Throw p.fs.Start (p.fdone.take (z.2.2 + 1).toNat) i t = if c.Element = i∧c.Time ≤ t then (c.Side,decide (t < w64 (c.Time + p.fs.Throw))) else lieF p.fs.Throw p.fs.Start (p.fdone.take z.2.2.toNat) i t:=by
  rw [show (z.2.2 + 1).toNat = z.2.2.toNat + 1 from by omega,Zcy hc,Zj6]
 refine Zby (fun b=>b = decide (c.Element = i∧c.Time ≤ t)) (fun b hb=>?_) (fun k9 hk9=>?_)
 ·rw [Zaz (n:=z.2.2 + 1) (by omega)]
  refine ok_b (fun ht=>Za1 z0 hc (Za1 z0 hc (hk _ ⟨by dsimp only; omega,by dsimp only; omega,?_⟩ (by dsimp only; omega)))) (fun hf=>hk _ ⟨by dsimp only; omega,by dsimp only; omega,?_⟩ (by dsimp only; omega))
  ·rw [ht] at hb
   dsimp only
   rw [st,if_pos (of_decide_eq_true hb.symm)]
  ·rw [hf] at hb
   dsimp only
   rw [st,if_neg (of_decide_eq_false hb.symm)]; exact ze
 ·refine Za1 z0 hc (Zat (fun h1=>Za1 z0 hc (hk9 _ ?_)) (fun h1=>hk9 _ ?_))
  ·by_cases h2:c.Time ≤ t
   ·rw [decide_eq_true h2,decide_eq_true ⟨h1,h2⟩]
   ·rw [decide_eq_false h2,decide_eq_false (fun hh=>h2 hh.2)]
  ·rw [decide_eq_false (fun hh=>h1 hh.1)]
abbrev DoneEq (d:Done) (F:List Command):Prop:=∀ e,listOf e d = F.filter (fun c:Command=>decide (c.Element = e))
theorem ZkT {s:Scene}(h:SVt s){d:Done}{F:List Command}(hd:DoneEq d F){i t:Int}:lieF s.Throw s.Start F i t = sideF s.Throw (startF s) d i t:=by
 unfold lieF sideF
 rw [ZiY,hd i,List.filter_filter]
 have e:F.filter (fun c:Command=>decide (c.Element = i) && decide (c.Time ≤ t)) = F.filter (fun c:Command=>decide (c.Time ≤ t) && decide (c.Element = i)):=List.filter_congr fun c _=>Bool.and_comm _ _
 rw [e]
 cases hc:(F.filter (fun c:Command=>decide (c.Time ≤ t) && decide (c.Element = i))).getLast? with
 | some c=>rfl
 | none=>
  dsimp only
  have:=Zg7 h i
  by_cases h1:(mfind keyP i (startF s)).isSome = true
  ·rw [if_pos h1] at this ⊢; rw [this]
  ·rw [if_neg h1] at this ⊢; rw [← this]
end Go.Hy
namespace Go.Hy
set_option linter.unusedVariables false
set_option linter.unusedSimpArgs false
set_option maxHeartbeats 2000000
set_option maxRecDepth 10000
open Go.Hy.Iv
theorem ZiE:Zb3 = some true:=by kernel_rfl
theorem VSp.to {s:Scene}(hb:ScB s) (h:VSp s 0):SV s:=by
 obtain ⟨h1,h2,h3⟩:=h.sv
 refine ⟨h1,?_,?_,hb.st,h3⟩
 ·rcases Nat.lt_or_ge 1024 s.Commands.length with h | h
  ·exact absurd (.inl h) h2
  ·exact h
 ·rcases Nat.lt_or_ge 96 s.Cuts.length with h | h
  ·exact absurd (.inr h) h2
  ·exact h
end Go.Hy
namespace Go.Hy
set_option linter.unusedVariables false
set_option linter.unusedSimpArgs false
set_option maxHeartbeats 2000000
set_option maxRecDepth 10000
open Go.Hy.Iv
structure RideOk (l:List Element) (c:Rolling) (ps:List Piece) (r:Ride):Prop where
 p:PathOk l c ps
 g:∀ (x:Nat) y,r.Spans[x]? = some y→x + 1 < ps.length∧y.Element = elOf ps x∧y.Side = sdOf l ps x∧c.Release ≤ y.From
 m:∀ (x:Nat) y y',r.Spans[x]? = some y→r.Spans[x + 1]? = some y'→y.From ≤ y'.From
 t:r.Track < 0∨(r.Spans.length = ps.length - 1∧r.Track = elOf ps (ps.length - 1))
theorem ZkA {s:Scene}(h:SV s){n:Nat}{c:Rolling}(hc:s.Cuts[n]? = some c):RideOk s.Elements c (wayN s n c) (rideF s.Elements c (wayN s n c)):=by
 have hp:=Zjv h hc
 have hrl:=(h.v.ct n c hc).1
 have hsh:=ZfG (ZhV h.l0)
 have hcl:=hrl.len
 have hrel:=hrl.rel
 generalize wayN s n c = ps at *
 have hpl:=hp.ok.len
 have he:=exE_ok (l:=s.Elements) (c:=c) (by omega) hp
 obtain ⟨tm1,tm2⟩:=ZkN hp.ok (rn_ok hrl (ps:=ps))
 have hsp:(rideF s.Elements c ps).Spans = (rows (exF s.Elements ps (ptAll ps (rnOf c ps)) c.Length) (ps.length - 1) 0).map (shiftF c):=by
  unfold rideF
  dsimp only
  rw [he]
 have get:∀ (x:Nat) y,(rideF s.Elements c ps).Spans[x]? = some y→x + 1 < ps.length∧∃ m,(ptAll ps (rnOf c ps))[x]? = some m∧y = shiftF c ⟨elOf ps x,sdOf s.Elements ps x,m.Time,toM (ptAll ps (rnOf c ps)) (clr ps x c.Length + 1)⟩:=fun x y hy=>by
  rw [hsp,List.getElem?_map] at hy
  cases hr:(rows (exF s.Elements ps (ptAll ps (rnOf c ps)) c.Length) (ps.length - 1) 0)[x]? with
  | none=>rw [hr] at hy; simp at hy
  | some u=>
   rw [hr] at hy
   obtain ⟨g1,g2⟩:=Zkv _ _ _ _ hr
   rw [Nat.zero_add] at g1
   unfold exF at g1
   cases hm:(ptAll ps (rnOf c ps))[x]? with
   | none=>rw [hm] at g1; simp at g1
   | some m=>
    rw [hm] at g1
    simp only [Option.some.injEq] at g1
    rw [Option.map_some] at hy
    cases hy
    exact ⟨by omega,m,rfl,by rw [← g1]⟩
 refine ⟨hp,fun x y hy=>?_,fun x y y' hy hy'=>?_,?_⟩
 ·obtain ⟨g1,m,g2,g3⟩:=get x y hy
  have:=tm1 x m g2
  refine ⟨g1,by rw [g3]; rfl,by rw [g3]; rfl,?_⟩
  rw [g3]
  unfold shiftF
  dsimp only
  rw [Zaz (by omega)]; omega
 ·obtain ⟨g1,m,g2,g3⟩:=get x y hy
  obtain ⟨k1,m',k2,k3⟩:=get (x + 1) y' hy'
  have:=tm1 x m g2
  have:=tm1 (x + 1) m' k2
  have:=tm2 x m m' g2 k2
  rw [g3,k3]
  unfold shiftF
  dsimp only
  rw [Zaz (by omega),Zaz (by omega)]; omega
 ·have hx:ps[ps.length - 1]? = some ps[ps.length - 1]:=List.getElem?_eq_getElem (by omega)
  by_cases hst:ptStop ps (rnOf c ps) < 0∨ptStop ps (rnOf c ps) = (ps.length:Int) - 1
  ·refine .inr ⟨?_,?_⟩
   ·rw [hsp,List.length_map]
    refine ZhD _ _ fun j h1 h2=>?_
    have hml:ps.length ≤ (ptAll ps (rnOf c ps)).length:=by
     unfold ptAll
     rw [List.length_cons]
     unfold ptStop at hst
     split at hst
     ·rename_i e; omega
     ·omega
    unfold exF
    rw [List.getElem?_eq_getElem (by omega:j < (ptAll ps (rnOf c ps)).length)]
    rfl
   ·unfold rideF
    dsimp only
    rw [if_pos hst,hx,Ziv hx]; rfl
  ·refine .inl ?_
   unfold rideF
   dsimp only
   rw [if_neg hst]; decide
end Go.Hy
namespace Go.Hy
set_option linter.unusedVariables false
set_option linter.unusedSimpArgs false
set_option maxHeartbeats 2000000
set_option maxRecDepth 10000
open Go.Hy.Iv
theorem ZfF {α:Type}{l:List α}{k:Nat}{d:α}:(l.take (k + 1)).headD d = l.headD d:=by cases l <;> rfl
theorem Zhy {α:Type}{l:List α}{k:Nat}:(l.take (k + 1)).tail = l.tail.take k:=by cases l <;> simp
theorem tg_take {p:Piece}{q:List Piece}{ts:List Int}:tgOf p (ts.take (nret (p :: q))) = tgOf p ts∧tsOf p (ts.take (nret (p :: q))) = (tsOf p ts).take (nret q):=by
 unfold tgOf tsOf
 simp only [nret]
 by_cases h:0 < p.Power
 ·rw [if_pos h,if_pos h,if_pos h,if_pos h,if_pos h,Nat.add_comm 1]
  exact ⟨ZfF,Zhy⟩
 ·rw [if_neg h,if_neg h,if_neg h,if_neg h,if_neg h,Nat.zero_add]
  exact ⟨rfl,rfl⟩
theorem Zjj {ps:List Piece}:∀ {ws ts:List Int}{x:Moment}(k:Nat),ptRun (ps.take k) (ws.take k) (ts.take (nret (ps.take k))) x = (ptRun ps ws ts x).take k:=by
 induction ps with
 | nil=>intro ws ts x k; simp [ptRun]
 | cons p ps ih=>
  intro ws ts x k
  cases k with
  | zero=>simp [ptRun]
  | succ k=>
   rw [List.take_succ_cons]
   obtain ⟨h1,h2⟩:=tg_take (p:=p) (q:=ps.take k) (ts:=ts)
   cases hs:ptStep p (ws.headD 0) (tgOf p ts) x with
   | none=>rw [Zde hs,Zde (by rw [ZfF,h1]; exact hs)]; rfl
   | some y=>rw [Zdd hs,Zdd (y:=y) (by rw [ZfF,h1]; exact hs),Zhy,h2,ih k]; rfl
end Go.Hy
namespace Go.Hy
set_option linter.unusedVariables false
set_option linter.unusedSimpArgs false
set_option maxHeartbeats 2000000
set_option maxRecDepth 10000
open Go.Hy.Iv
theorem ZgC {xs:List Int}:∀ {ps:List Piece}{j:Nat},selP xs (ps.take j) = (selP xs ps).take (nret (ps.take j))
 | [],j=>by simp [selP]
 | p :: ps,0=>by simp [selP,nret]
 | p :: ps,j + 1=>by
  have ih:=ZgC (xs:=xs) (ps:=ps) (j:=j)
  rw [List.take_succ_cons]
  unfold selP at ih ⊢
  unfold nret
  rw [List.filter_cons,List.filter_cons]
  by_cases hp:0 < p.Power
  ·rw [if_pos (decide_eq_true hp),if_pos (decide_eq_true hp),if_pos hp,List.map_cons,List.map_cons,Nat.add_comm,List.take_succ_cons,ih]
  ·rw [if_neg (show ¬ decide (0 < p.Power) = true by simp [hp]),if_neg (show ¬ decide (0 < p.Power) = true by simp [hp]),if_neg hp,Nat.zero_add]; exact ih
theorem Zik {c:Rolling}{ps:List Piece}{j:Nat}:ptAll (ps.take j) (rnOf c (ps.take j)) = (ptAll ps (rnOf c ps)).take (j + 1):=by
 unfold ptAll
 rw [List.take_succ_cons]
 have e1:(rnOf c (ps.take j)).Resist = (rnOf c ps).Resist.take j:=by
  show resP c.Resist (ps.take j) = (resP c.Resist ps).take j
  unfold resP; rw [List.map_take]
 have e2:(rnOf c (ps.take j)).Targets = (rnOf c ps).Targets.take (nret (ps.take j)):=ZgC
 rw [e1,e2,Zjj]; rfl
theorem Ziu {l:List Element}(vl:VL l){c:Rolling}{ps:List Piece}(h:PathOk l c ps):∀ (k j:Nat),j < k→k < ps.length→elOf ps j < elOf ps k
 | 0,j=>fun hj _=>by omega
 | k + 1,j=>fun hj hk=>by
  have hp:=List.getElem?_eq_getElem hk
  obtain ⟨g1,x,g2,g3,_⟩:=h.e (k + 1) _ hp
  have hpar:=vl.par g2
  have e:prevE ps (k + 1) = elOf ps k:=by unfold prevE; rw [if_neg (by omega)]; rfl
  rw [Ziv hp]
  by_cases hjk:j = k
  ·subst hjk; omega
  ·have:=Ziu vl h k j (by omega) (by omega)
   omega
theorem Zkz {l:List Element}(vl:VL l){c:Rolling}{ps:List Piece}{r:Ride}(h:RideOk l c ps r):Dif r:=by
 have hpl:=h.p.ok.len
 refine ⟨?_,fun i j s t hi hj he=>?_⟩
 ·rcases Nat.lt_or_ge r.Spans.length 129 with h1 | h1
  ·omega
  ·have:=(h.g 128 _ (List.getElem?_eq_getElem (by omega))).1
   omega
 ·obtain ⟨a1,a2,_⟩:=h.g i s hi
  obtain ⟨b1,b2,_⟩:=h.g j t hj
  rw [a2,b2] at he
  rcases Nat.lt_trichotomy i j with h1 | h1 | h1
  ·have:=Ziu vl h.p j i h1 (by omega); omega
  ·exact h1
  ·have:=Ziu vl h.p i j h1 (by omega); omega
theorem ZhG {s:Scene}(h:SV s){n:Nat}(hn:n ≤ s.Cuts.length):∀ r∈(runN s n).rides,Dif r:=fun r hr=>by
 obtain ⟨a,ha⟩:=List.getElem?_of_mem hr
 obtain ⟨c,hc,e⟩:=ZjJ hn ha
 have:=ZkA h hc
 rw [← e] at this
 exact Zkz (ZhV h.l0) this
def mOf (c:Rolling) (ps:List Piece):List Moment:=if ps.length = 0 then [⟨0,w64 (c.Speed * c.Speed)⟩] else ptAll ps (rnOf c ps)
theorem Zil {c:Rolling}{ps:List Piece}:(mOf c ps).length = (ptAll ps (rnOf c ps)).length:=by
 unfold mOf
 split
 ·rename_i h
  rw [List.length_eq_zero_iff] at h
  subst h
  unfold ptAll; simp [ptRun]
 ·rfl
theorem Zk0 {c:Rolling}{ps:List Piece}(hr:0 ≤ c.Release∧c.Release ≤ 1000000000):((mOf c ps).length = ps.length + 1→∃ m,(mOf c ps)[ps.length]? = some m∧entF c ps = (w64 (c.Release + m.Time),true))∧((mOf c ps).length ≠ ps.length + 1→(entF c ps).2 = false):=by
 refine ⟨fun h=>?_,fun h=>?_⟩
 ·by_cases h0:ps.length = 0
  ·refine ⟨⟨0,w64 (c.Speed * c.Speed)⟩,?_,?_⟩
   ·unfold mOf; rw [if_pos h0,h0]; rfl
   ·unfold entF; rw [if_pos h0,Int.add_zero,Zaz (by omega)]
  ·have hl:=Zil (c:=c) (ps:=ps)
   have hst:ptStop ps (rnOf c ps) < 0:=(Ze9 (ps:=ps) (r:=rnOf c ps)).1.2 (by omega)
   obtain ⟨mm,hm⟩:∃ mm,(ptAll ps (rnOf c ps))[ps.length]? = some mm:=⟨_,List.getElem?_eq_getElem (by omega)⟩
   refine ⟨mm,?_,?_⟩
   ·unfold mOf; rw [if_neg h0]; exact hm
   ·unfold entF
    rw [if_neg h0,if_neg (by omega),show (ptAll ps (rnOf c ps)).length - 1 = ps.length from by omega,hm]
 ·have hl:=Zil (c:=c) (ps:=ps)
  have h0:ps.length ≠ 0:=fun h0=>h (by unfold mOf; rw [if_pos h0,h0]; rfl)
  have hst:¬ ptStop ps (rnOf c ps) < 0:=fun hs=>h (by have:=(Ze9 (ps:=ps) (r:=rnOf c ps)).1.1 hs; omega)
  unfold entF
  rw [if_neg h0,if_pos (by omega)]
structure Und30 (s:Scene) (st:List (Int×Int)) (d:Done) (k:Int) (c:Rolling) (L:Nat) (P0:List Incident×List Piece) (z:List Incident×Int×List Piece×List Moment×Int):Prop where
 i0:1 ≤ z.2.2.2.2
 i1:z.2.2.2.2 < (s.Elements.length:Int)
 pl:(z.2.2.1.length:Int) < z.2.2.2.2
 ok:z.2.2.1.length = 0∨PsOk z.2.2.1
 il:InL s.Elements z.2.2.1
 n:z.1.length ≤ L + z.2.2.1.length
 t:z.2.1 = -1
 m:z.2.2.2.1 = mOf c z.2.2.1
 p:pathF s st d k c s.Elements.length z.1 z.2.2.1 z.2.2.2.2 = P0
structure Fin30 (s:Scene) (c:Rolling) (L:Nat) (P0:List Incident×List Piece) (z:List Incident×Int×List Piece×List Moment×Int):Prop where
 i:z.2.2.2.2 = -1
 n:z.1.length ≤ L + 128
 p:(z.1,z.2.2.1) = P0
 m:z.2.2.2.1 = ptAll z.2.2.1 (rnOf c z.2.2.1)
 t:z.2.1 = (rideF s.Elements c z.2.2.1).Track
theorem rRun_e {s:Scene}(h:SV s) (hv:ZcI s = some 0):ZeB s = some ((runN s s.Cuts.length).rides,(runN s s.Cuts.length).inc,0):=by
 refine Ok.eq (?_:Ok _ _)
 have vl:=ZhV h.l0
 have hlen:=vl.len
 have hcm:=h.cm
 have hct:=h.ct
 have hsl:=h.sl
 have hsh:=ZfG vl
 have hth:=h.v.th
 have hstl:=Zhz h.v
 unfold ZeB
 refine ZaN hv (Zdl (by simp) ?_)
 refine Zby (fun z=>z.2 = ((runN s s.Cuts.length).rides,(runN s s.Cuts.length).inc)) (fun z5 e5=>Zan (by rw [e5])) (fun k7 hk7=>?_)
 refine Zbi (fun z=>0 ≤ z.2.2.2∧z.2.2.2 ≤ (s.Cuts.length:Int)∧(runN s z.2.2.2.toNat).rides = z.2.1∧(runN s z.2.2.2.toNat).inc = z.2.2.1∧DoneEq (runN s z.2.2.2.toNat).done z.1∧z.1.length ≤ 1024 * z.2.2.2.toNat∧z.2.2.1.length ≤ 2000 * z.2.2.2.toNat) (fun z=>((s.Cuts.length:Int) - z.2.2.2).toNat) ⟨Int.le_refl 0,by dsimp only; omega,rfl,rfl,fun e=>rfl,by simp,by simp⟩ (by rw [ZaY]; dsimp only; omega) fun z10 k12 ⟨z0,z1,zr,zi,zd,zf,zl⟩ hk12=>?_
 obtain ⟨F,rides,inc,k⟩:=z10
 dsimp only at z0 z1 zr zi zd zf zl hk12 ⊢
 have hrl:=ZeP (s:=s) (n:=k.toNat) (by omega)
 rw [zr] at hrl
 have hdif:=ZhG h (n:=k.toNat) (by omega)
 rw [zr] at hdif
 refine Zat (fun hlt=>?_) (fun hge=>hk7 _ (by rw [show s.Cuts.length = k.toNat from by omega,zr,zi]))
 have hc:=List.getElem?_eq_getElem (by omega:k.toNat < s.Cuts.length)
 generalize s.Cuts[k.toNat] = c at hc
 have hro:=(h.v.ct _ c hc).1
 have hcl:=hro.len
 have hrel:=hro.rel
 have ek:((k.toNat:Nat):Int) = k:=by omega
 refine Zbi (fun (z:List Command×List Incident×Int)=>0 ≤ z.2.2∧z.2.2 ≤ (s.Commands.length:Int)∧z.2.1 = ((s.Commands.take z.2.2.toNat).foldl (cmdF s.Throw k rides) ((runN s k.toNat).done,inc)).2∧DoneEq ((s.Commands.take z.2.2.toNat).foldl (cmdF s.Throw k rides) ((runN s k.toNat).done,inc)).1 z.1∧z.1.length ≤ F.length + z.2.2.toNat∧z.2.1.length ≤ inc.length + z.2.2.toNat) (fun z=>((s.Commands.length:Int) - z.2.2).toNat) ⟨Int.le_refl 0,by dsimp only; omega,rfl,zd,by dsimp only; omega,by dsimp only; omega⟩ (by rw [ZaY]; dsimp only; omega) fun z16 k18 ⟨a0,a1,ae,ad,af,al⟩ hk18=>?_
 obtain ⟨F1,inc1,a⟩:=z16
 dsimp only at a0 a1 ae ad af al hk18 ⊢
 refine Zat (fun hal=>Za5 a0 hal fun x hx=>?_) (fun hage=>?_)
 ·have st:=Zfj (f:=cmdF s.Throw k rides) (b:=((runN s k.toNat).done,inc)) a0 hx
  generalize hfo:(s.Commands.take a.toNat).foldl (cmdF s.Throw k rides) ((runN s k.toNat).done,inc) = fo at *
  obtain ⟨fd,fi⟩:=fo
  dsimp only at ae ad
  subst ae
  have hxo:=h.v.cm _ x hx
  rw [Zaz (n:=a + 1) (by omega)]
  refine Zat (fun hck=>Za1 a0 hx ?_) (fun hck=>hk18 _ ⟨by dsimp only; omega,by dsimp only; omega,?_,?_,by dsimp only; omega,by dsimp only; omega⟩ (by dsimp only; omega))
  ·have held:∀ (v:List Incident) (o:Int),(0 ≤ meN ⟨x.Element,0,x.Time,w64 (x.Time + s.Throw)⟩ rides 0∨movF s.Throw fd x = true)→meN ⟨x.Element,0,x.Time,w64 (x.Time + s.Throw)⟩ rides 0 = o→v = inc1 ++ [⟨1,x.Cut,o,x.Element,x.Time⟩]→Ok (k18 (F1,v,a + 1)) (· = ((runN s s.Cuts.length).rides,(runN s s.Cuts.length).inc,0)):=fun v o h1 h2 hvv=>by
    have e1:cmdF s.Throw k rides (fd,inc1) x = (fd,v):=by
     unfold cmdF
     rw [if_pos hck,if_pos h1,h2,hvv]
    refine hk18 _ ⟨by dsimp only; omega,by dsimp only; omega,?_,?_,by dsimp only; omega,by dsimp only; rw [hvv,List.length_append,List.length_singleton]; omega⟩ (by dsimp only; omega)
    ·dsimp only; rw [st,e1]
    ·dsimp only; rw [st,e1]; exact ad
   refine Zby (fun _=>meN ⟨x.Element,0,x.Time,w64 (x.Time + s.Throw)⟩ rides 0 = -1) (fun _ hno=>?_) (fun k29 hk29=>?_)
   ·refine Zby (fun _=>movF s.Throw fd x = false) (fun _ hnm=>Zbu (by simp only [List.length_singleton]; omega) (Za8 fun v hvv=>?_)) (fun k34 hk34=>?_)
    ·have e1:cmdF s.Throw k rides (fd,inc1) x = (mput (fun p=>p.1) (x.Element,listOf x.Element fd ++ [x]) fd,inc1):=by
      unfold cmdF
      rw [if_pos hck,if_neg (by rw [hno,hnm]; simp)]
     obtain ⟨g1,g2⟩:=Zfd (e:=x.Element) (l:=listOf x.Element fd ++ [x]) (m:=fd)
     refine hk18 _ ⟨by dsimp only; omega,by dsimp only; omega,?_,?_,by dsimp only; rw [hvv,List.length_append,List.length_singleton]; omega,by dsimp only; omega⟩ (by dsimp only; omega)
     ·dsimp only; rw [st,e1]
     ·dsimp only
      rw [st,e1]
      intro e
      dsimp only
      rw [hvv,List.filter_append,List.filter_cons]
      by_cases he:x.Element = e
      ·subst he
       rw [g1,ad x.Element,if_pos (decide_eq_true rfl),List.filter_nil]
      ·rw [g2 e (Ne.symm he),ad e,if_neg (by simp [he]),List.filter_nil,List.append_nil]
    ·have hmov:movF s.Throw fd x = (F1.any (fun d:Command=>decide (d.Element = x.Element) && decide (x.Time < w64 (d.Time + s.Throw))) && decide (0 < s.Throw)):=by
      unfold movF
      rw [ad x.Element,List.any_filter]
     refine Zbi (fun z=>0 ≤ z∧z ≤ (F1.length:Int)∧(0 < s.Throw→Scan (fun d:Command=>!(decide (d.Element = x.Element) && decide (x.Time < w64 (d.Time + s.Throw)))) F1 z)) (fun z=>((F1.length:Int) - z).toNat) ⟨Int.le_refl 0,by omega,fun _=>Scan.zero⟩ (by rw [ZaY]; omega) fun z k42 ⟨b0,b1,bs⟩ hk42=>?_
     refine Zat (fun hbl=>?_) (fun hbg=>hk34 _ ?_)
     ·obtain ⟨d,hd⟩:∃ d,F1[z.toNat]? = some d:=⟨_,List.getElem?_eq_getElem (by omega)⟩
      refine Zby (fun b=>b = (decide (0 < s.Throw) && (decide (d.Element = x.Element) && decide (x.Time < w64 (d.Time + s.Throw))))) (fun b hb=>ok_b (fun hbt=>Zbu (by simp only [List.length_singleton]; omega) (Za8 fun v hvv=>?_)) (fun hbf=>?_)) (fun k48 hk48=>?_)
      ·rw [hbt] at hb
       have hb2:=(Bool.and_eq_true _ _).mp hb.symm
       refine held v (-1) (.inr ?_) hno hvv
       rw [hmov,Bool.and_eq_true]
       exact ⟨List.any_eq_true.2 ⟨d,ZbH hd,hb2.2⟩,hb2.1⟩
      ·rw [Zaz (n:=z + 1) (by omega)]
       refine hk42 _ ⟨by omega,by omega,fun h0=>(bs h0).step hd ?_⟩ (by omega)
       rw [hbf,decide_eq_true h0,Bool.true_and] at hb
       rw [← hb]; rfl
      ·refine Zat (fun h0=>Za1 b0 hd (Zat (fun he=>Za1 b0 hd (hk48 _ ?_)) (fun he=>hk48 _ ?_))) (fun h0=>hk48 _ ?_)
       ·rw [decide_eq_true h0,decide_eq_true he]; simp
       ·rw [decide_eq_false he]; simp
       ·rw [decide_eq_false h0]; simp
     ·rw [hmov]
      by_cases h0:0 < s.Throw
      ·have ez:(F1.length:Int) = z:=by omega
       rw [Zi5 (ez ▸ bs h0)]; rfl
      ·rw [decide_eq_false h0]; simp
   ·refine Zbi (fun z=>0 ≤ z∧z ≤ (rides.length:Int)∧meN ⟨x.Element,0,x.Time,w64 (x.Time + s.Throw)⟩ (rides.drop z.toNat) z.toNat = meN ⟨x.Element,0,x.Time,w64 (x.Time + s.Throw)⟩ rides 0) (fun z=>((rides.length:Int) - z).toNat) ⟨Int.le_refl 0,by omega,rfl⟩ (by rw [ZaY]; omega) fun z k60 ⟨b0,b1,be⟩ hk60=>?_
    refine Zat (fun hbl=>Za5 b0 hbl fun r hr=>?_) (fun hbg=>hk29 _ ?_)
    ·have hrd:=hdif r (ZbH hr)
     have haf:=Zi6 hrd ⟨x.Element,0,x.Time,w64 (x.Time + s.Throw)⟩
     rw [ZbS hr,meN] at be
     refine ZaN (ZhH (by have:=hrd.1; omega)) ?_
     refine Zby (fun b=>b = r.Spans.any (ov ⟨x.Element,0,x.Time,w64 (x.Time + s.Throw)⟩)) (fun b hb=>ok_b (fun hbt=>Zbu (by simp only [List.length_singleton]; omega) (Za8 fun v hvv=>?_)) (fun hbf=>?_)) (fun k72 hk72=>?_)
     ·rw [← hb,if_pos hbt] at be
      exact held v z (.inl (by omega)) (by omega) hvv
     ·rw [← hb,if_neg (by rw [hbf]; simp)] at be
      rw [Zaz (n:=z + 1) (by omega)]
      exact hk60 _ ⟨by omega,by omega,by rw [show (z + 1).toNat = z.toNat + 1 from by omega]; exact be⟩ (by omega)
     ·dsimp only at haf
      cases hfe:findE r x.Element with
      | none=>rw [hfe] at haf; exact ok_b (fun h=>by cases h) (fun _=>hk72 _ haf.symm)
      | some y=>rw [hfe] at haf; exact ok_b (fun _=>ZaN Zgk (hk72 _ haf.symm)) (fun h=>by cases h)
    ·rw [List.drop_eq_nil_of_le (by omega),meN] at be
     exact be.symm
  ·dsimp only
   rw [st]; unfold cmdF; rw [if_neg hck]
  ·dsimp only
   rw [st]; unfold cmdF; rw [if_neg hck]; exact ad
 ·rw [List.take_of_length_le (by omega)] at ae ad
  obtain ⟨m0,hm0⟩:=Zk2 h.v k.toNat
  have hdn:=Zhr (th:=s.Throw) (k:=k) (rides:=rides) s.Commands ((runN s k.toNat).done,inc) m0 (Zgh h.v) hm0
  generalize hfo:s.Commands.foldl (cmdF s.Throw k rides) ((runN s k.toNat).done,inc) = fo at *
  obtain ⟨fd,fi⟩:=fo
  dsimp only at ae ad hdn
  subst ae
  refine Za1 z0 hc ?_
  obtain ⟨x0,hx0⟩:∃ x,s.Elements[0]? = some x:=⟨_,List.getElem?_eq_getElem (by omega)⟩
  have k0:=((vl.el hx0).1 rfl).1
  obtain ⟨j0,y0,hj0,hj1,hy0,_⟩:=Zeq vl hx0 (by omega) (s:=0) (fun h=>by omega) (fun _=>rfl)
  have hj0':chF s.Elements 0 0 = j0:=hj0
  have hj2:=ZbQ hy0
  generalize hP:pathF s (startF s) fd k c s.Elements.length inc1 [] (chF s.Elements 0 0) = P0
  have hstep:runN s (k + 1).toNat = ⟨fd,rides ++ [rideF s.Elements c P0.2],(P0.1 ++ metF k (rideF s.Elements c P0.2).Spans rides 0) ++ (if (rideF s.Elements c P0.2).Track ≠ c.Track then [⟨4,k,-1,-1,0⟩] else [])⟩:=by
   rw [show (k + 1).toNat = k.toNat + 1 from by omega,runN,hc]
   dsimp only
   unfold stepF
   dsimp only
   rw [ek,zr,zi,hfo]
   dsimp only
   rw [hP]
  refine Zby (fun z=>Fin30 s c inc1.length P0 (z.1,z.2.1,z.2.2.1,z.2.2.2,-1)) (fun z87 hz87=>?_) (fun k89 hk89=>?_)
  ·obtain ⟨inc2,tr,ps,m⟩:=z87
   have f1:=hz87.n
   have f2:=hz87.p
   have f3:=hz87.m
   have f4:=hz87.t
   dsimp only at f1 f2 f3 f4
   subst f2
   dsimp only at hstep
   have hml:=Zeh (ps:=ps) (r:=rnOf c ps)
   have hml2:ps.length ≤ 1000000:=by
    have hw:=Zjv h hc
    have ew:wayN s k.toNat c = ps:=by
     unfold wayN
     rw [ek,zr,zi,hfo]
     dsimp only
     rw [hP]
    rw [ew] at hw
    have:=hw.ok.len
    omega
   dsimp only
   refine ZaN (ZkI (by rw [f3]; omega)) ?_
   have hel:=Zkg (l:=s.Elements) (ps:=ps) (m:=ptAll ps (rnOf c ps)) (n:=c.Length)
   have hsp:(rideF s.Elements c ps).Spans = (exE s.Elements ps (ptAll ps (rnOf c ps)) c.Length).1.map (shiftF c):=rfl
   have hdr:Dif (rideF s.Elements c ps):=by
    refine ZhG h (n:=(k + 1).toNat) (by omega) _ ?_
    rw [hstep]
    exact List.mem_append_right _ (List.mem_singleton.2 rfl)
   rw [f3]
   generalize (exE s.Elements ps (ptAll ps (rnOf c ps)) c.Length).1 = sp0 at *
   refine Zby (fun z=>z = (rideF s.Elements c ps).Spans) (fun sp esp=>?_) (fun k96 hk96=>?_)
   ·have hspl:=hdr.1
    rw [← esp] at hspl
    refine Zby (fun z=>z = inc2 ++ metF k sp rides 0∧z.length ≤ inc2.length + rides.length) (fun inc3 ⟨e3,l3⟩=>?_) (fun k101 hk101=>?_)
    ·refine Zby (fun z=>z = inc3 ++ (if (rideF s.Elements c ps).Track ≠ c.Track then [⟨4,k,-1,-1,0⟩] else [])∧z.length ≤ inc3.length + 1) (fun inc4 ⟨e4,l4⟩=>?_) (fun k106 hk106=>?_)
     ·refine Zbu (by simp only [List.length_singleton]; omega) (Za8 fun v hvv=>?_)
      rw [Zaz (n:=k + 1) (by omega)]
      refine hk12 _ ⟨by dsimp only; omega,by dsimp only; omega,?_,?_,?_,by dsimp only; omega,by dsimp only; omega⟩ (by dsimp only; omega)
      ·dsimp only; rw [hstep,hvv,f4,esp]
      ·dsimp only; rw [hstep,e4,e3,esp]
      ·dsimp only; rw [hstep]; exact ad
     ·rw [f4]
      refine Zat (fun hne=>Zbu (by simp only [List.length_singleton]; omega) (Za8 fun v hvv=>hk106 _ ⟨?_,by rw [hvv,List.length_append,List.length_singleton]; omega⟩)) (fun heq=>hk106 _ ⟨?_,by omega⟩)
      ·rw [hvv,if_pos hne]
      ·rw [if_neg heq,List.append_nil]
    ·refine Zbi (fun z=>0 ≤ z.2∧z.2 ≤ (rides.length:Int)∧z.1.length ≤ inc2.length + z.2.toNat∧z.1 ++ metF k sp (rides.drop z.2.toNat) z.2.toNat = inc2 ++ metF k sp rides 0) (fun z=>((rides.length:Int) - z.2).toNat) ⟨Int.le_refl 0,by dsimp only; omega,by dsimp only; omega,rfl⟩ (by rw [ZaY]; dsimp only; omega) fun z119 k121 ⟨b0,b1,bl,be⟩ hk121=>?_
     obtain ⟨bi,b⟩:=z119
     dsimp only at b0 b1 bl be hk121 ⊢
     refine Zat (fun hbl=>?_) (fun hbge=>hk101 _ ⟨?_,by omega⟩)
     ·obtain ⟨r,hr⟩:∃ r,rides[b.toNat]? = some r:=⟨_,List.getElem?_eq_getElem (by omega)⟩
      rw [Zaz (n:=b + 1) (by omega)]
      have hrd:=hdif r (ZbH hr)
      rw [ZbS hr,metF] at be
      have eb1:(b + 1).toNat = b.toNat + 1:=by omega
      refine Zbi (fun z=>0 ≤ z∧z ≤ (sp.length:Int)∧Scan (fun x=>!(r.Spans.any (ov x))) sp z) (fun z=>((sp.length:Int) - z).toNat) ⟨Int.le_refl 0,by omega,Scan.zero⟩ (by rw [ZaY]; omega) fun d k127 ⟨d0,d1,ds⟩ hk127=>?_
      refine Zat (fun hdl=>Za1 b0 hr (Za5 d0 hdl fun xs hxs=>?_)) (fun hdge=>?_)
      ·have haf:=Zi6 hrd xs
       refine ZaN (ZhH (by have:=hrd.1; omega)) ?_
       refine Zby (fun t=>t = r.Spans.any (ov xs)) (fun t ht=>ok_b (fun htt=>Za1 d0 hxs (Za1 d0 hxs ?_)) (fun htf=>?_)) (fun k141 hk141=>?_)
       ·rw [htt] at ht
        rw [Zit ds hxs ht.symm] at be
        dsimp only at be
        rw [show ((b.toNat:Nat):Int) = b from by omega] at be
        refine Zbu (by simp only [List.length_singleton]; omega) (Za8 fun v hvv=>hk121 _ ⟨by dsimp only; omega,by dsimp only; omega,by dsimp only; rw [hvv,List.length_append,List.length_singleton]; omega,?_⟩ (by dsimp only; omega))
        dsimp only
        rw [hvv,eb1,← be,List.append_assoc]
       ·rw [Zaz (n:=d + 1) (by omega)]
        exact hk127 _ ⟨by omega,by omega,ds.step hxs (by rw [← ht,htf]; rfl)⟩ (by omega)
       ·cases hfe:findE r xs.Element with
        | none=>rw [hfe] at haf; exact ok_b (fun h=>by cases h) (fun _=>hk141 _ haf.symm)
        | some y=>rw [hfe] at haf; exact ok_b (fun _=>Za1 d0 hxs (ZaN Zgk (hk141 _ haf.symm))) (fun h=>by cases h)
      ·rw [Zis ds hdge] at be
       refine hk121 _ ⟨by dsimp only; omega,by dsimp only; omega,by dsimp only; omega,?_⟩ (by dsimp only; omega)
       dsimp only
       rw [eb1,← be]; rfl
     ·rw [List.drop_eq_nil_of_le (by omega),metF,List.append_nil] at be
      exact be
   ·refine Zbi (fun z=>0 ≤ z.2∧z.2 ≤ (sp0.length:Int)∧z.1.length = sp0.length∧∀ (j:Nat) y,sp0[j]? = some y→z.1[j]? = some (if (j:Int) < z.2 then shiftF c y else y)) (fun z=>((sp0.length:Int) - z.2).toNat) ⟨Int.le_refl 0,by dsimp only; omega,rfl,fun j y hy=>by rw [if_neg (by dsimp only; omega)]; exact hy⟩ (by rw [ZaY]; dsimp only; omega) fun z154 k156 ⟨a0,a1,al2,ag⟩ hk156=>?_
    obtain ⟨sp,a⟩:=z154
    dsimp only at a0 a1 al2 ag hk156 ⊢
    refine Zat (fun hal=>?_) (fun hage=>hk96 _ ?_)
    ·obtain ⟨y,hy⟩:∃ y,sp0[a.toNat]? = some y:=⟨_,List.getElem?_eq_getElem (by omega)⟩
     have hsy:=ag _ y hy
     rw [if_neg (by omega)] at hsy
     rw [Zaz (n:=a + 1) (by omega)]
     refine Za1 a0 hsy (Za1 a0 hsy (Za8 fun u hu=>?_))
     have hul:u.length = sp0.length:=by rw [hu,List.length_set]; exact al2
     have hus:u[a.toNat]? = some ⟨y.Element,y.Side,w64 (y.From + c.Release),y.To⟩:=by rw [hu,List.getElem?_set_self (by omega)]
     have nx:∀ v:List Span,v = u.set a.toNat (shiftF c y)→Ok (k156 (v,a + 1)) (· = ((runN s s.Cuts.length).rides,(runN s s.Cuts.length).inc,0)):=fun v hvv=>hk156 _ ⟨by dsimp only; omega,by dsimp only; omega,by dsimp only; rw [hvv,List.length_set]; exact hul,fun j yy hyy=>by
      dsimp only
      by_cases hj:j = a.toNat
      ·subst hj
       rw [hy] at hyy; cases hyy
       rw [hvv,List.getElem?_set_self (by omega),if_pos (by omega)]
      ·rw [hvv,List.getElem?_set_ne (by omega),hu,List.getElem?_set_ne (by omega),ag j yy hyy]
       by_cases hja:(j:Int) < a
       ·rw [if_pos hja,if_pos (by omega)]
       ·rw [if_neg hja,if_neg (by omega)]⟩ (by dsimp only; omega)
     refine Za1 a0 hus (Zat (fun hto=>Za1 a0 hus (Za8 fun v hvv=>nx v ?_)) (fun hto=>Za1 a0 hus (Za1 a0 hus (Za8 fun v hvv=>nx v ?_))))
     ·rw [hvv]; unfold shiftF; rw [if_pos hto]
     ·rw [hvv]; unfold shiftF; rw [if_neg hto]
    ·rw [hsp]
     refine List.ext_getElem? fun j=>?_
     rw [List.getElem?_map]
     cases hj:sp0[j]? with
     | none=>rw [Option.map_none,List.getElem?_eq_none_iff]; rw [List.getElem?_eq_none_iff] at hj; omega
     | some y=>
      have:=ag j y hj
      rw [if_pos (by have:=ZbQ hj; omega)] at this
      rw [this]; rfl
  ·refine ZaN (ZgH vl (Int.le_refl 0) hx0 (fun _=>rfl)) ?_
   refine Zbi (fun z=>Und30 s (startF s) fd k c inc1.length P0 z∨Fin30 s c inc1.length P0 z) (fun z=>((s.Elements.length:Int) - z.2.2.2.2).toNat * (if z.2.2.2.2 < 0 then 0 else 1)) (.inl ⟨by dsimp only; omega,by dsimp only; omega,by dsimp only [List.length_nil]; omega,.inl rfl,fun p hp=>by simp at hp,by simp,rfl,rfl,hP⟩) (by rw [ZaY,hj0']; dsimp only; rw [if_neg (by omega)]; omega) fun z178 k178 hz hk178=>?_
   obtain ⟨inc2,tr,ps,m,i⟩:=z178
   rcases hz with hz | hz
   ·obtain ⟨i0,i1,ipl,iok,iil,inn,it,im,ip⟩:=hz
    dsimp only at i0 i1 ipl iok iil inn it im ip hk178 ⊢
    rw [if_neg (by omega:¬ i < 0)] at hk178
    refine ZgQ (by omega) (Za5 (by omega) i1 fun x hx=>?_)
    have el:=(vl.el hx).2 (by omega)
    have eb:=el.1
    unfold elB at eb
    rw [decide_eq_true_iff] at eb
    obtain ⟨fu,hfu⟩:∃ fu,s.Elements.length = fu + 1:=⟨s.Elements.length - 1,by omega⟩
    have pP':=ip
    rw [hfu,pathF,if_neg (by omega),hx] at pP'
    dsimp only at pP'
    obtain ⟨en1,en2⟩:=Zk0 (c:=c) (ps:=ps) hrel
    have hmol:=Zil (c:=c) (ps:=ps)
    have hmal:=Zeh (ps:=ps) (r:=rnOf c ps)
    refine Zbu (by simp only [List.length_singleton]; omega) (Za8 fun y hy=>?_)
    have ey:y = ps ++ [pcX i x x.Length]:=hy
    have hyl:y.length = ps.length + 1:=by rw [ey]; simp
    refine Zby (fun z=>z.1 = (if x.Kind = 4∧m.length = ps.length + 1 then i else -1)∧z.2 = ps ++ [pcX i x (if x.Kind = 4 then c.Length else x.Length)]) (fun z188 ⟨e1,e2⟩=>?_) (fun k190 hk190=>?_)
    ·have hl188:z188.2.length = ps.length + 1:=by rw [e2]; simp
     have hlx:1 ≤ (if x.Kind = 4 then c.Length else x.Length)∧(if x.Kind = 4 then c.Length else x.Length) ≤ 1000000:=by
      split
      ·omega
      ·exact eb.2.1
     have hok2:PsOk z188.2:=by rw [e2]; exact PsOk.snoc iok (by omega) (ZhR vl i0 hx hlx)
     have hil2:InL s.Elements z188.2:=by
      rw [e2]
      intro p hp
      rw [List.mem_append,List.mem_singleton] at hp
      rcases hp with hp | hp
      ·exact iil p hp
      ·rw [hp]; exact ⟨by show 0 ≤ i; omega,i1⟩
     refine Zby (fun q=>q = swF s (startF s) fd k c ps i x inc2∧q.1.length ≤ inc2.length + 1) (fun q ⟨eq,ql⟩=>?_) (fun k195 hk195=>?_)
     ·have q0:x.Kind ≠ 3→q.2 = 0:=fun h3=>by rw [eq]; unfold swF; rw [if_neg h3]
      have q3:x.Kind = 3→Lies q.2:=fun h3=>by
       rw [eq]; unfold swF; rw [if_pos h3]
       split
       ·exact Zea hstl hdn
       ·exact .inl rfl
      refine ZaN (ZkJ hro hok2 hil2) (ZaN ZkG ?_)
      rw [ZkM hok2 (rn_ok hro)]
      refine ZaN (ZgH vl (by omega) hx q0) ?_
      dsimp only
      by_cases h4:x.Kind = 4
      ·have hch:=Zk6 vl (i:=i) (s:=q.2) (by omega) hx h4
       rw [if_pos h4] at pP' e2
       have hq1:q.1 = inc2:=by rw [eq]; unfold swF; rw [if_neg (by omega)]
       refine hk178 _ (.inr ⟨hch,by dsimp only; omega,by dsimp only; rw [hq1,e2]; exact pP',rfl,?_⟩) (by dsimp only; rw [hch]; simp; omega)
       dsimp only
       have htk:=Zik (c:=c) (ps:=z188.2) (j:=ps.length)
       rw [show z188.2.take ps.length = ps from by rw [e2]; exact List.take_left] at htk
       have hlt2:(ptAll ps (rnOf c ps)).length = min (ps.length + 1) (ptAll z188.2 (rnOf c z188.2)).length:=by rw [htk,List.length_take]
       have hpl2:=Zeh (ps:=z188.2) (r:=rnOf c z188.2)
       obtain ⟨s1,s2⟩:=Ze9 (ps:=z188.2) (r:=rnOf c z188.2)
       have hlast:z188.2[z188.2.length - 1]? = some (pcX i x c.Length):=by
        rw [hl188,Nat.add_sub_cancel,e2]; exact ZeF
       unfold rideF
       dsimp only
       rw [e1,hlast]
       by_cases hen:m.length = ps.length + 1
       ·rw [if_pos ⟨h4,hen⟩,if_pos]
        ·rfl
        ·rw [im] at hen
         rcases Int.lt_or_le (ptStop z188.2 (rnOf c z188.2)) 0 with h5 | h5
         ·exact .inl h5
         ·have:=s2 h5
          have h6:¬ ptStop z188.2 (rnOf c z188.2) < 0:=by omega
          have h7:¬ (ptAll z188.2 (rnOf c z188.2)).length = z188.2.length + 1:=fun h=>h6 (s1.2 h)
          exact .inr (by omega)
       ·rw [if_neg (fun h=>hen h.2),if_neg]
        rw [im] at hen
        rintro (h5 | h5)
        ·have:=s1.1 h5; omega
        ·have:=s2 (by omega); omega
      ·rw [if_neg h4] at pP' e2
       obtain ⟨j,yy,hj,hij,hyy,_⟩:=Zeq vl hx h4 (s:=q.2) q3 q0
       rw [show ((i.toNat:Nat):Int) = i from by omega] at hj
       have hjl:=ZbQ hyy
       have hij2:i < (j:Int):=by omega
       rw [← eq] at pP'
       rw [hj]
       refine hk178 _ (.inl ⟨by dsimp only; omega,by dsimp only; omega,by dsimp only; omega,.inr hok2,hil2,by dsimp only; omega,?_,?_,?_⟩) (by dsimp only; rw [if_neg (by omega)]; omega)
       ·dsimp only; rw [e1,if_neg (fun h=>h4 h.1)]
       ·dsimp only; unfold mOf; rw [if_neg (by omega)]
       ·dsimp only
        rw [e2,← pP',← hj]
        exact ZgP vl _ _ _ _ _ (by omega) (by omega)
     ·refine Zby (fun b=>b = decide (x.Kind = 3∧m.length = ps.length + 1)) (fun b hb=>ok_b (fun hbt=>?_) (fun hbf=>?_)) (fun k205 hk205=>?_)
      ·rw [hbt] at hb
       obtain ⟨h3,hml⟩:=of_decide_eq_true hb.symm
       rw [im] at hml
       obtain ⟨mm,hm1,hm2⟩:=en1 hml
       rw [← im] at hm1
       have hidx:w64 ((z188.2.length:Int) - 1) = (ps.length:Int):=by rw [Zaz (by omega)]; omega
       rw [hidx]
       refine Za8 fun u1 hu1=>?_
       subst hu1
       refine Za1 (by omega) (by rw [Int.toNat_natCast]; exact hm1) (ZaN (ZkS (by dsimp only; omega) hsl) ?_)
       dsimp only
       rw [ZkT h.v ad]
       refine ok_b (fun hmv=>Za8 fun u2 hu2=>?_) (fun hmv=>hk195 _ ⟨?_,by dsimp only; omega⟩)
       ·subst hu2
        refine Za1 (by omega) (by rw [Int.toNat_natCast]; exact hm1) (Zbu (by simp only [List.length_singleton]; omega) (Za8 fun v hvv=>hk195 _ ⟨?_,by dsimp only; rw [hvv,List.length_append,List.length_singleton]; omega⟩))
        unfold swF
        rw [if_pos h3,hm2]
        dsimp only
        rw [if_pos rfl,if_pos hmv,hvv]
       ·unfold swF
        rw [if_pos h3,hm2]
        dsimp only
        rw [if_pos rfl,if_neg (by rw [hmv]; simp)]
      ·rw [hbf] at hb
       have hn:=of_decide_eq_false hb.symm
       refine Zat (fun h3=>hk195 _ ⟨?_,by dsimp only; omega⟩) (fun h3=>hk195 _ ⟨?_,by dsimp only; omega⟩)
       ·have:=en2 (fun hh=>hn ⟨h3,by rw [im]; exact hh⟩)
        unfold swF
        rw [if_pos h3,this,if_neg (by simp)]
       ·unfold swF
        rw [if_neg h3]
      ·refine Zat (fun h3=>hk205 _ ?_) (fun h3=>hk205 _ ?_)
       ·by_cases hml:m.length = ps.length + 1
        ·rw [decide_eq_true (by omega),decide_eq_true ⟨h3,hml⟩]
        ·rw [decide_eq_false (by omega),decide_eq_false (fun hh=>hml hh.2)]
       ·rw [decide_eq_false (fun hh=>h3 hh.1)]
    ·have hyi:w64 ((y.length:Int) - 1) = (ps.length:Int):=by rw [Zaz (by omega)]; omega
     refine Zat (fun h4=>?_) (fun h4=>hk190 _ ⟨by rw [if_neg (fun hh=>h4 hh.1)]; exact it,by dsimp only; rw [if_neg h4]; exact ey⟩)
     rw [hyi]
     have hlast:y[((ps.length:Nat):Int).toNat]? = some (pcX i x x.Length):=by rw [Int.toNat_natCast,ey]; exact ZeF
     refine Za1 (by omega) hlast (Za8 fun u hu=>?_)
     have eu:u = ps ++ [pcX i x c.Length]:=by
      rw [hu,Int.toNat_natCast,ey,List.set_append_right _ _ (Nat.le_refl _),Nat.sub_self]; rfl
     refine Zat (fun hen=>hk190 _ ⟨?_,by dsimp only; rw [if_pos h4]; exact eu⟩) (fun hen=>hk190 _ ⟨?_,by dsimp only; rw [if_pos h4]; exact eu⟩)
     ·dsimp only; rw [if_pos ⟨h4,by omega⟩]
     ·dsimp only; rw [if_neg (fun hh=>hen (by omega))]; exact it
   ·have hi:=hz.i
    dsimp only at hi ⊢
    subst hi
    exact Zdl (by omega) (hk89 _ hz)
end Go.Hy
namespace Go.Hy
set_option linter.unusedVariables false
set_option linter.unusedSimpArgs false
set_option maxHeartbeats 2000000
set_option maxRecDepth 10000
open Go.Hy.Iv
theorem Zgv {l:List Span}(hl:l.length ≤ 1000000000):Zb0 l l = some true:=by
 refine Ok.eq (?_:Ok _ _)
 unfold Zb0
 refine Zdl (by simp) (Zbi (fun z=>0 ≤ z) (fun z=>((l.length:Int) - z).toNat) (Int.le_refl 0) (by rw [ZaY]; omega) fun z k z0 hk=>?_)
 refine Zat (fun h=>Za5 z0 h fun a ha=>Za1 z0 ha (Zdl (by simp) ?_)) (fun _=>Zan rfl)
 rw [Zaz (by omega)]; exact hk _ (by omega) (by omega)
theorem Zew {l:List Ride}(hl:l.length ≤ 1000000000) (hs:∀ r∈l,r.Spans.length ≤ 1000000000):Zb1 l l = some true:=by
 refine Ok.eq (?_:Ok _ _)
 unfold Zb1
 refine Zdl (by simp) (Zbi (fun z=>0 ≤ z) (fun z=>((l.length:Int) - z).toNat) (Int.le_refl 0) (by rw [ZaY]; omega) fun z k z0 hk=>?_)
 refine Zat (fun h=>Za5 z0 h fun a ha=>Za1 z0 ha (Zdl (by simp) (Za1 z0 ha (Za1 z0 ha (ZaN (Zgv (hs a (ZbH ha))) (ZcG (fun h=>by simp at h) fun _=>?_)))))) (fun _=>Zan rfl)
 rw [Zaz (by omega)]; exact hk _ (by omega) (by omega)
theorem Zds {l:List Incident}(hl:l.length ≤ 1000000000):ZbL l l = some true:=by
 refine Ok.eq (?_:Ok _ _)
 unfold ZbL
 refine Zdl (by simp) (Zbi (fun z=>0 ≤ z) (fun z=>((l.length:Int) - z).toNat) (Int.le_refl 0) (by rw [ZaY]; omega) fun z k z0 hk=>?_)
 refine Zat (fun h=>Za5 z0 h fun a ha=>Za1 z0 ha (Zdl (by simp) ?_)) (fun _=>Zan rfl)
 rw [Zaz (by omega)]; exact hk _ (by omega) (by omega)
theorem Run_bad {s:Scene}{e:Int}(h:Zb5 s = some e) (he:e ≠ 0):ZcW s = some (([]:List Ride),([]:List Incident),e):=by
 refine Ok.eq (?_:Ok _ _)
 unfold ZcW
 exact ZaN h (ZgQ he (Zan rfl))
end Go.Hy
namespace Go.Hy
set_option linter.unusedVariables false
set_option linter.unusedSimpArgs false
set_option maxHeartbeats 2000000
set_option maxRecDepth 10000
theorem nms_set {l:List Element}{i:Nat}{x:Element}(h:Nms l) (hx:x.Name.size ≤ 9223372036854775807):Nms (l.set i x):=fun y hy=>by
 rcases List.mem_or_eq_of_mem_set hy with hy | rfl
 ·exact h y hy
 ·exact hx
theorem Zla {k:HumpgenMaker}{l:List Element}(h:Mk k 900000000000000) (hn:Nms l) (hl:l.length ≤ 1000):Ok (ZbP k l) fun r=>Nms r.1∧r.1.length ≤ 1000∧k.fn ≤ r.2∧r.2 ≤ k.fn + 5:=by
 have c0:=h.c0
 have c1:=h.c1
 have mk:∀ c',k.fn ≤ c'→c' ≤ k.fn + 100000→Mk (HumpgenMaker.mk k.fl c') CM0:=fun c' h1 h2=>h.to h1 (by unfold CM0; omega)
 unfold ZbP
 refine Zbu (by simp; omega) (Za8 fun y hy=>?_)
 rw [List.nil_append] at hy
 subst hy
 refine Zat (fun _=>Zan ⟨hn,hl,by dsimp only; omega,by dsimp only; omega⟩) (fun hne=>?_)
 refine Zbq (ZbT (h.up (by decide)) (by omega)) fun v ⟨hv,ev⟩=>Za5 hv.1 (by omega) fun x hx=>?_
 refine Zbq (ZbT (mk v.2 (by omega) (by omega)) (by omega)) fun u ⟨hu,eu⟩=>?_
 dsimp only at eu
 have hxn:=hn x (ZbH hx)
 have fin:∀ (z:Element) (c':Int),z.Name.size ≤ 9223372036854775807→u.2 ≤ c'→c' ≤ u.2 + 1→Ok (vl (y.set (Int.toNat v.1) z) fun q=>some (q,c')) fun r=>Nms r.1∧r.1.length ≤ 1000∧k.fn ≤ r.2∧r.2 ≤ k.fn + 5:=fun z c' hz h1 h2=>Za8 fun q hq=>Zan ⟨by rw [hq]; exact nms_set hn hz,by rw [hq,List.length_set]; exact hl,by dsimp only; omega,by dsimp only; omega⟩
 have mu:=mk u.2 (by omega) (by omega)
 refine Zat (fun _=>Zbq (ZbF mu (by simp)) fun p ⟨_,ep⟩=>fin _ _ hxn (by dsimp only at ep; omega) (by dsimp only at ep; omega)) fun _=>?_
 refine Zat (fun _=>Zbq (ZbT mu (by omega)) fun p ⟨hp,ep⟩=>Za5 hp.1 (by simp only [List.length_cons,List.length_nil]; omega) fun s hs=>fin _ _ ?_ (by dsimp only at ep; omega) (by dsimp only at ep; omega)) fun _=>?_
 ·have:=ZbH hs
  simp only [List.mem_cons,List.not_mem_nil,or_false] at this
  dsimp only
  rcases this with rfl | rfl | rfl | rfl | rfl | rfl <;> decide
 refine Zat (fun _=>Zbq (ZbF mu (by simp)) fun p ⟨_,ep⟩=>fin _ _ hxn (by dsimp only at ep; omega) (by dsimp only at ep; omega)) fun _=>?_
 refine Zat (fun _=>Zbq (ZbF mu (by simp)) fun p ⟨_,ep⟩=>fin _ _ hxn (by dsimp only at ep; omega) (by dsimp only at ep; omega)) fun _=>?_
 refine Zat (fun _=>Zbq (ZbF mu (by simp)) fun p ⟨_,ep⟩=>fin _ _ hxn (by dsimp only at ep; omega) (by dsimp only at ep; omega)) fun _=>?_
 refine Zat (fun _=>Zbq (ZbF mu (by simp)) fun p ⟨_,ep⟩=>fin _ _ hxn (by dsimp only at ep; omega) (by dsimp only at ep; omega)) fun _=>?_
 refine Zat (fun _=>Zbq (ZbF mu (by simp)) fun p ⟨_,ep⟩=>fin _ _ hxn (by dsimp only at ep; omega) (by dsimp only at ep; omega)) fun _=>?_
 refine Zat (fun _=>Zbq (ZbF mu (by simp)) fun p ⟨_,ep⟩=>fin _ _ hxn (by dsimp only at ep; omega) (by dsimp only at ep; omega)) fun _=>?_
 have ht:Nms (y.take (Int.toNat v.1)):=fun z hz=>hn z (List.mem_of_mem_take hz)
 refine Zat (fun _=>?_) fun _=>?_
 ·rw [Zaz (by omega)]
  refine Zbu (by omega) (Zbu (by omega) (Zbu (by rw [List.length_take,List.length_drop]; omega) (Za8 fun q hq=>Zan ⟨?_,?_,by dsimp only; omega,by dsimp only; omega⟩)))
  ·rw [hq]
   exact fun z hz=>(List.mem_append.1 hz).elim (ht z) fun hz=>hn z (List.mem_of_mem_drop hz)
  ·rw [hq,List.length_append,List.length_take,List.length_drop]; omega
 ·exact Zat (fun _=>Zbu (by omega) (Zan ⟨ht,by dsimp only; rw [List.length_take]; omega,by dsimp only; omega,by dsimp only; omega⟩)) (fun _=>Zan ⟨hn,hl,by dsimp only; omega,by dsimp only; omega⟩)
end Go.Hy
namespace Go.Hy
set_option linter.unusedVariables false
set_option linter.unusedSimpArgs false
set_option maxHeartbeats 2000000
set_option maxRecDepth 10000
open Go.Hy.Iv
theorem Zjc {s:Scene}{e:Int}(h:ZcI s = some e) (he:e ≠ 0):ZeB s = some (([]:List Ride),([]:List Incident),e):=by
 refine Ok.eq (?_:Ok _ _)
 unfold ZeB
 exact ZaN h (ZgQ he (Zan rfl))
theorem Zi0 {s:Scene}(hb:ScB s):ZbA s = some true:=by
 refine Ok.eq (?_:Ok _ _)
 obtain ⟨e,e1,e2,e3⟩:=Zi8 hb
 unfold ZbA
 by_cases he:e = 0
 ·subst he
  have sv:=e3.to hb
  obtain ⟨hsp,hil⟩:=ZjC sv e2
  have hrl:=ZeP (s:=s) (Nat.le_refl _)
  have hct:=sv.ct
  refine ZaN (Run_e sv e2) (ZaN (rRun_e sv e1) ?_)
  dsimp only
  generalize (runN s s.Cuts.length).rides = rides at *
  generalize (runN s s.Cuts.length).inc = inc at *
  refine ZaN (Zew (by omega) (fun r hr=>by have:=hsp r hr; omega)) (ok_b (fun _=>?_) (fun h=>by cases h))
  refine ZaN (Zds hil) (ok_b (fun _=>?_) (fun h=>by cases h))
  refine ZgQ rfl (ZaN e2 (ZaN e1 (Zan (decide_eq_true rfl))))
 ·refine ZaN (Run_bad e2 he) (ZaN (Zjc e1 he) ?_)
  dsimp only
  refine ZaN (Zew (l:=([]:List Ride)) (by decide) (fun r hr=>by cases hr)) (ok_b (fun _=>?_) (fun h=>by cases h))
  refine ZaN (Zds (l:=([]:List Incident)) (by decide)) (ok_b (fun _=>?_) (fun h=>by cases h))
  refine ZgQ rfl (ZaN e2 (ZaN e1 (Zan (decide_eq_true rfl))))
theorem Zhh {s:Scene}(hb:ScB s){β:Type}{Q:β→Prop}{A B:Option β}(k:Ok B Q):Ok (bd (ZbA s) fun v=>cond (!v) A B) Q:=
 ZaN (Zi0 hb) (ZcG (fun h=>by cases h) fun _=>k)
theorem Zko {a0:List Int}{a1:Scene}(hl:a0.length ≤ 9223372036854775807) (hb1:ScB a1):ZcK a0 a1 = some true:=by
 refine Ok.eq (?_:Ok _ _)
 unfold ZcK
 refine ZaN (Zjp a0) ?_
 have h0:Mk (HumpgenMaker.mk a0 0) 700000000000000:=Mk0 hl (by omega)
 refine Zbq (Plan_ok (h0.up (by omega)) (by omega)) fun p ⟨hp,hp0,hp1⟩=>?_
 dsimp only at hp0 hp1
 have mk:∀ c',0 ≤ c'→c' ≤ 100000→Mk (HumpgenMaker.mk a0 c') CM0:=fun c' h1 h2=>h0.to h1 (by unfold CM0; omega)
 have mk2:∀ c',0 ≤ c'→c' ≤ 100000→Mk (HumpgenMaker.mk a0 c') 900000000000000:=fun c' h1 h2=>h0.to h1 (by omega)
 have hct:=hp.ct
 have hnm:=hp.md.u.nms
 have hsl:=hp.sl
 have hml:=hp.md.len
 have hne:=hp.md.u.ne
 have sb:∀ (t:Int) (cm:List Command) (ct:List Rolling),ScB (Scene.mk p.1.Scene.Elements t p.1.Scene.Start cm ct):=fun t cm ct=>⟨hnm,by show p.1.Scene.Start.length ≤ _; omega⟩
 have hps:ScB p.1.Scene:=sb p.1.Scene.Throw p.1.Scene.Commands p.1.Scene.Cuts
 refine ok_jp0 ?_
 have fin:Ok (cond (decide (40 < (a1.Elements.length:Int))) (bd (Zb3) fun v14=>some v14) (cond (decide (50 < (a1.Commands.length:Int))) (bd (Zb3) fun v15=>some v15) (cond (decide (10 < (a1.Cuts.length:Int))) (bd (Zb3) fun v16=>some v16) (bd (ZbA a1) fun v17=>cond v17 (bd (Zb3) fun v18=>some v18) (some false))))) (· = true):=by
  refine Zat (fun _=>ZaN ZiE (Zan rfl)) fun _=>Zat (fun _=>ZaN ZiE (Zan rfl)) fun _=>Zat (fun _=>ZaN ZiE (Zan rfl)) fun _=>ZaN (Zi0 hb1) (ok_b (fun _=>ZaN ZiE (Zan rfl)) fun h=>by cases h)
 refine Zhh hps ?_
 refine Zbq (Zg1 (m:=4) (mk2 _ (by omega) (by omega)) hp.md (by omega) hp.fit (by omega) hp.cm) fun d ⟨hd,hd0,hd1⟩=>?_
 dsimp only at hd0 hd1
 refine Zhh (sb _ _ _) ?_
 refine Zbq (Zg1 (m:=4) (mk2 _ (by omega) (by omega)) hp.md (by omega) hp.fit (by omega) hp.cm) fun w ⟨hw,hw0,hw1⟩=>?_
 dsimp only at hw0 hw1
 have hwc:=hw.ct
 have hwm:=hw.cm
 refine Zbq (ZbT (mk _ (by omega) (by omega)) (by omega)) fun v34 ⟨hv34,hc34⟩=>?_
 dsimp only at hc34
 refine Zat (fun _=>Zbq (ZbF (mk _ (by omega) (by omega)) (by decide)) fun v37 _=>Zhh (sb _ _ _) fin) fun _=>?_
 refine Zat (fun _=>Zbq (Zla (mk2 _ (by omega) (by omega)) hnm (by omega)) fun v40 ⟨hn40,_⟩=>Zhh ⟨hn40,by show p.1.Scene.Start.length ≤ _; omega⟩ fin) fun _=>?_
 refine Zat (fun _=>Za8 fun x43 h43=>?_) fun _=>?_
 ·refine Zbq (ZbT (mk _ (by omega) (by omega)) (by omega)) fun v44 ⟨hv44,hc44⟩=>?_
  dsimp only at hc44
  refine Zbq (ZbT (mk _ (by omega) (by omega)) (by omega)) fun v46 ⟨hv46,hc46⟩=>?_
  refine Zbu (by simp only [List.length_singleton]; omega) (Za8 fun y49 hy49=>Zhh (s:=⟨p.1.Scene.Elements,w.1.Throw,y49,w.1.Commands,w.1.Cuts⟩) ⟨hnm,?_⟩ fin)
  show y49.length ≤ _
  rw [hy49,List.length_append,List.length_singleton]; omega
 refine Zat (fun _=>Za8 fun x52 h52=>Za8 fun x53 h53=>?_) fun _=>?_
 ·rw [Zaz (by omega)] at h53
  refine Zbq (ZbF (mk _ (by omega) (by omega)) (by decide)) fun v55 ⟨_,hc55⟩=>?_
  dsimp only at hc55
  refine Zbq (ZbT (mk _ (by omega) (by omega)) (by omega)) fun v57 ⟨hv57,hc57⟩=>?_
  dsimp only at hc57
  refine Zbq (ZbT (mk _ (by omega) (by omega)) (by omega)) fun v59 ⟨hv59,hc59⟩=>?_
  dsimp only at hc59
  refine Zbq (ZbT (mk _ (by omega) (by omega)) (by omega)) fun v61 ⟨hv61,hc61⟩=>?_
  exact Zbu (by simp only [List.length_singleton]; omega) (Za8 fun y64 hy64=>Zhh (sb _ _ _) fin)
 refine Zat (fun _=>Zat (fun hcl=>?_) fun _=>Zhh (sb _ _ _) fin) fun _=>Zhh (sb _ _ _) fin
 refine Zbq (ZbT (mk _ (by omega) (by omega)) (by omega)) fun v67 ⟨hv67,hc67⟩=>?_
 dsimp only at hc67
 refine Za5 hv67.1 hv67.2 fun x69 hx69=>ZaN (ZdJ (by omega)) ?_
 refine Zbq (ZbF (mk _ (by omega) (by omega)) (by simp)) fun v313 ⟨_,hc313⟩=>?_
 dsimp only at hc313
 refine Zbq (ZbF (mk _ (by omega) (by omega)) (by simp)) fun v453 ⟨_,hc453⟩=>?_
 refine Za8 fun y1 hy1=>Za5 hv67.1 (by rw [hy1,List.length_set]; exact hv67.2) fun x5 _=>Za8 fun y2 hy2=>Zhh (sb _ _ _) fin
end Go.Hy
