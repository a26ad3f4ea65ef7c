/-
  Texts put together: Sto8, StBy, Sto9, Sto10, Sto11, Sto12, Sto13, Sto14, Sto15, Ref20j, Sr0, Sr1, Sr2, Sr3, Sr4, Sr5, Sr6, Sr7, Sr8, Sr9, Sr10, Sr11, Sr12, Sr13, Sr14, Act22, Sr15, Laws22, Aw22, Laws20, Laws20b, Laws22b, Sr16, Laws22c, Lay, By1, By2, By3.
-/
import Derived.Test.YtnaoiegcobineaaGreatDoorPt4
import Derived.Test.YtnaoiegcobineaaGreatDoorQRule22
import Derived.Test.YtnaoiegcobineaaGreatDoorQRule23
import Derived.Test.YtnaoiegcobineaaGreatDoorQRule21
import Derived.Test.YtnaoiegcobineaaGreatDoorQRule9
import Derived.Test.YtnaoiegcobineaaGreatDoorQRule12
set_option linter.unusedVariables false
namespace Go.Proofs.YtnaoiegcobineaaGreatDoor
open Go.RowKit
section
variable {F Fr:Nat→Prop} {w w':World} {S:Sto} {s:StM} {by':Int} {mo:Mo} {pd:Option (Nat × PlcM)}
theorem thL_inj {a b:Int} {q r:Plc} (h:Value.agg (thL a q).toArray=Value.agg (thL b r).toArray):q.pa=r.pa:=by
 injection h with h
 have h:=congrArg Array.toList h
 simp only [thL,plcL,List.toList_toArray,List.cons.injEq,Value.slice.injEq] at h
 exact h.2.2.2.2.1.1
theorem StoOk.loc {F0 Fr0:Nat→Prop} {w0:World} {s0:StM} {by0:Int} {mo0:Mo} (h0:StoOk F0 Fr0 w0 S s0 by0 mo0) (hm:∀ al,MapAt w0 S.tm al→MapAt w S.tm al) (h:StoOk F Fr w S s by' mo) {b t:Nat} (hb:w0.heap.size≤b) (hF:¬ F b) (hk:kd w b=some (some t)) (ht:t≠264∧t≠260∧t≠3) (hc:Chg (fun z=>z=b) w w'):StoOk F Fr w' S s by' mo:=by
 have hrm:=h0.room
 have hmf:=may_facts hrm.may
 have l1:=lt_of_heap h0.ar.obj
 have l2:=lt_of_heap h0.ar.cap
 have l3:=lt_of_heap h0.vw.obj
 have l4:=lt_of_heap hrm.obj
 have l5:S.R.sb<w0.heap.size:=by have:=World.block_lt_of_cell? w0 _ (hrm.sl 0 (by have:=hmf.n; have:=hrm.ok.n; omega)); exact this
 have l6:0<w0.heap.size:=by have:=World.block_lt_of_cell? w0 _ (hrm.tab 0 (by decide)); exact this
 have hrc:=h0.rc
 have far:∀ {a:Option Addr} {l:List Int},Far F0 w0 a l→0<l.length → ∀ off s,a≠some ⟨b,off,s⟩:=fun g hl off s e=>by have:=g.1.block hl e; omega
 refine h.other hc (fun z e=>e▸⟨hF,⟨by omega,by omega,by omega,by omega,by omega,by omega⟩,far h0.ca (by rw [hrc] at hmf; have:=hmf.n; omega),far h0.ka (by rw [hrc] at hmf; have:=hmf.keep; have:=hmf.n; omega),t,hk,ht⟩) ?_
 intro al hal k sz q hq
 obtain ⟨al0,a1,a2,a3,a4⟩:=h0.th
 have:=(hm al0 a1).uniq hal
 subst this
 by_cases hk:∀ (o:Nat) t,s0.th[o]? = some (some t)→(o:Int)≠k
 ·rw [a4 k hk] at hq; cases hq
 ·simp only [Classical.not_forall,Decidable.not_not] at hk
  obtain ⟨o,t,g1,g2⟩:=hk
  obtain ⟨q1,_,b2,_,_,b5⟩:=a3 o t g1
  rw [g2,hq] at b2
  have e:=thL_inj (Option.some.inj b2)
  rw [e]
  intro b' off s' e' hz
  have:=kd_lt (b5 b' off s' e')
  omega
theorem sto_charge (h:StoOk F Fr w S s by' mo) (n:Int):Does Tryz.prog 100 #[.pointer (some ⟨S.mb,0,none⟩),.int .i64 n] w (fun _ w'=>StoOk (fun z=>F z∨Fr z) Fr w' S (chgTot s n) by' mo∧Chg Fr w w'):=by
 have hm:=room_meter h.room n
 rw [h.rmo] at hm
 exact hm.mono fun _ w' ⟨a,b⟩=>⟨h.roomed a (fun z hz => .inl hz) b,b⟩
end
theorem layS_same (c:Conf) (s:StM) (o size:Int):(layS c s o size).th=s.th∧(layS c s o size).keep=s.keep∧(layS c s o size).bs=s.bs∧(layS c s o size).mv.length=s.mv.length:=by
 unfold layS
 split
 ·exact ⟨rfl,rfl,rfl,List.length_set⟩
 ·exact ⟨rfl,rfl,rfl,rfl⟩
set_option maxRecDepth 100000 in
theorem store_lay {F Fr:Nat→Prop} {w:World} {S:Sto} {s:StM} {by':Int} {mo:Mo} {pd pd2:Option (Nat × PlcM)} {o:Nat} {size:Int} (h:StoOk F Fr w S s by' mo) (hs:s.OkP S.c pd) (ho:o<s.th.length) (hf:stFits S.c s size=0) (hL:(stLay S.c s (o:Nat) size).OkP S.c pd2) (hby:0≤by'∧by'≤1152921504606846976) :
 Does Tryz.prog 84 #[stoV S,.int .i64 (o:Nat),.int .i64 size] w (fun _ w'=>StTo F w w' S (stLay S.c s (o:Nat) size) (by'+size)):=by
 obtain ⟨f1,f2,f3⟩:=OkP.few hs
 have hcl:=h.ca.1
 have hmf:=may_facts hs.may
 have hmay:=hs.may
 have hmost:=hmf.most
 have hncl:=hmf.n
 have hvc:=h.vc
 obtain ⟨hsz,hfit⟩:=fits_cases hf
 have hthL:(stLay S.c s (o:Nat) size).th[o]? = some (some ⟨size,layQ S.c s (o:Nat) size⟩):=by
  show (s.th.set (o:Int).toNat _)[o]? = _
  rw [Int.toNat_natCast,List.getElem?_set_self ho]
 obtain ⟨pv,ph,pf⟩:=place_holds hL hthL
 simp only at pv ph pf
 refine Does.enter Tryz.func84 rfl Tryz.ntmps84 rfl rfl ?_
 refine Goes.adv hTT 400 rfl ?_
 refine Goes.loadb hTT rfl h.obj rfl rfl ?_
 refine Goes.call rfl (class_Pick S.p.ca S.p.cc S.c.classes size w hcl (by omega)) ?_
 rintro _ w1 ⟨rfl,hw1⟩
 refine Goes.adv hTT 400 rfl ?_
 have h1:=h.grow hw1
 refine Goes.alloc hTT rfl ?_
 intro b w2 e2 hb2 hw2 hz2
 refine Goes.adv hTT 400 rfl ?_
 have h2:=h1.grow hw2
 have hbF:¬ F b:=fun hz=>by have:=h1.low b hz; omega
 have hw02:=hw1.trans hw2
 refine Goes.call rfl (store_moving h2 hs (pickM S.c.classes size)) ?_
 rintro _ _ ⟨rfl,rfl⟩
 refine Goes.adv hTT 400 rfl ?_
 by_cases hto:takesOver S.c s size=none
 ·have eS:layS S.c s (o:Nat) size={s with rm:=rmPlace S.c s.rm (o:Nat) size}:=by unfold layS; rw [hto]
  have eQ:layQ S.c s (o:Nat) size=rmPlaceQ S.c s.rm (o:Nat) size:=by unfold layQ; rw [hto]
  have hno:∀ {Q:Prop},Q→Q:=fun h=>h
  have hif:(stMv s (pickM S.c.classes size)).isSome=false∨((stMv s (pickM S.c.classes size)).isSome=true∧rmOpen s.rm (pickM S.c.classes size)≠0):=by
   unfold takesOver at hto
   cases hm:stMv s (pickM S.c.classes size) with
   |none=>exact .inl rfl
   |some m =>
    rw [hm] at hto
    simp only at hto
    refine .inr ⟨rfl,fun e => ?_⟩
    rw [if_pos e] at hto
    cases hto
  have hP:=room_Place h2.room (o:Nat) size
  rw [h.rc] at hP
  rcases hif with hif | ⟨hif,hop⟩
  ·rw [hif]
   refine Goes.no hTT rfl rfl rfl ?_
   refine Goes.loadb hTT rfl h2.obj rfl rfl ?_
   refine Goes.call rfl (hP) ?_
   rintro _ w3 ⟨q,rfl,hqq,⟨Fr',hr,hfr,hc3,hq3,hqFr,hqn⟩⟩
   refine Goes.adv hTT 400 rfl ?_
   have h3:=h2.roomed hr hfr hc3
   have hb3:=hc3.heap hb2 (fun hz=>hbF (h.f1 _ hz))
   have hs02:=hw02.size
   have hs01:=hw1.size
   have hs3:=hc3.size
   have hFt:∀ z,(F z∨Fr' z)→F z∨w.heap.size≤z:=fun z hz=>hz.elim .inl (fun hz=>(hfr z hz).imp (h.f1 z) (by omega))
   have hbFt:¬ (F b∨Fr' b):=fun hz=>hz.elim hbF (fun hz=>(hfr b hz).elim (fun hz=>hbF (h.f1 _ hz)) (by have:=lt_of_heap hb2; omega))
   have hqF:OutA (fun z=>F z∨Fr' z) q.pa:=fun b' off s' e hz=>hz.elim (fun hz=>by have:=h2.low b' hz; have:=hqn b' off s' e; omega) (hqFr b' off s' e)
   have hqA3:IntA w3 q.pa:=fun b' off s' e=>(hqn b' off s' e).2
   have hqb:OutA (fun z=>z=b) q.pa:=fun b' off s' e hz=>by have:=hqn b' off s' e; have:=lt_of_heap hb2; omega
   refine Goes.store hTT rfl hb3 rfl rfl ?_
   intro wt hbt hst hzt
   refine Goes.adv hTT 400 rfl ?_
   replace hbt:wt.heap[b]? = some (.cells (plcL q).toArray 106 (0,0)):=hbt
   have ht0:=StoOk.loc h (fun al hal=>(hal.chg hw02 id).chg hc3 h.nr.2.2.2.1) h3 (by omega) hbFt (kd_cells hb3) (by decide) hst
   have hq:PlcOk wt q:=⟨hq3.rd.far hqb hst,hq3.len⟩
   have hqA:IntA wt q.pa:=hqA3.chg hst hqb
   have hct:Chg F w wt:=(((hw02.mono fun _ _ h=>h.elim).trans (hc3.mono fun z _ hz=>h.f1 z hz)).since hst (fun z hz e=>by omega))
   have hqf:q.pages.length≤4096:=by
    have e:q.pages=(layQ S.c s (o:Nat) size).pages:=by rw [eQ,← hqq]; rfl
    rw [e]; exact pf
   rw [← eQ] at hqq
   rw [← eS] at ht0
   have ht:=ht0
   have hhb:=viewHolds_bound (c:=S.c) (q:=q) hmay hqf
   obtain ⟨hn,ehn⟩:=Int.eq_ofNat_of_zero_le hhb.1
   have hHo:∀ w',Chg None' wt w'→Does Tryz.prog 147 #[vwV S.v,.agg (plcL q).toArray] w' (Grow (.int .i64 ((hn:Nat):Int)) w'):=fun w' hw'=>by
    have:=view_Holds S.v q w' ((ht.grow hw').vw) (hq.grow hw') (by omega)
    rw [hvc,ehn] at this
    exact this
   have hqv:viewIs S.c q=true:=by rw [viewIs_plc,hqq]; exact pv
   obtain ⟨y1,y2,y3,y4⟩:=layS_same S.c s (o:Nat) size
   refine Goes.drawn (q:=11) None' hTT mixed (by kernel_rfl) rfl ?_
   intro hB
   refine Drawn.loadb hTT hB rfl ht.obj (by first | exact fun h=>h | (intro h; omega) | assumption) rfl rfl ?_
   refine Drawn.loads hTT hB rfl hbt (by first | exact fun h=>h | (intro h; omega) | assumption) rfl rfl ?_
   refine Drawn.loadb hTT hB rfl ht.obj (by first | exact fun h=>h | (intro h; omega) | assumption) rfl rfl ?_
   refine Drawn.loads hTT hB rfl hbt (by first | exact fun h=>h | (intro h; omega) | assumption) rfl rfl ?_
   refine Drawn.call hTT hB rfl (fun w' hw'=>(hHo w' hw')) rfl ?_
   refine Drawn.nil hB ?_
   intro wa hwa
   refine Goes.adv hTT 400 rfl ?_
   have ha:=ht.grow hwa
   have hba:=hwa.heap' hbt
   refine Goes.call rfl (sto_Zero ha hmay (by rw [y3]; exact hs.bl) q 0 hn (hq.grow hwa) hqF (check_of hqv (by omega) (by omega) (by omega)) hqf) ?_
   rintro _ wb ⟨rfl,hzb,hcb⟩
   refine Goes.adv hTT 400 rfl ?_
   have hbb:=hcb.heap hba hbFt
   have hqb:PlcOk wb q:=⟨((hq.grow hwa).rd).far hqF hcb,hq.len⟩
   refine Goes.drawn (q:=8) None' hTT mixed (by kernel_rfl) rfl ?_
   intro hB
   refine Drawn.loadb hTT hB rfl hzb.obj (by first | exact fun h=>h | (intro h; omega) | assumption) rfl rfl ?_
   refine Drawn.loads hTT hB rfl hbb (by first | exact fun h=>h | (intro h; omega) | assumption) rfl rfl ?_
   refine Drawn.build hTT hB rfl rfl ?_
   refine Drawn.nil hB ?_
   intro wc hwc
   refine Goes.adv hTT 400 rfl ?_
   have hzc:=hzb.grow hwc
   obtain ⟨al,hth⟩:=hzc.th
   refine Goes.mapset hTT rfl (hth.1) ?_
   intro wd hal hsd hzd
   refine Goes.adv hTT 400 rfl ?_
   have hac:=(hwa.size)
   have hbc:=hcb.size
   have hcc:=hwc.size
   have hTd:=hth.put (o:=o) (size:=size) (q:=q) (qm:=layQ S.c s (o:Nat) size) hqq (by show o<(layS S.c s (o:Nat) size).th.length; rw [y1]; exact ho) hal hsd hzc.f2.2.2.2.1 (hqb.grow hwc) hqF (((hqA.grow hwa).chg hcb hqF).grow hwc)
   have hze:=hzc.setTh hsd hTd
   refine Goes.loadb hTT rfl hze.obj rfl rfl ?_
   refine Goes.arith hTT rfl (w64 (by omega)) rfl ?_
   refine Goes.store hTT rfl hze.obj rfl rfl ?_
   intro wf hbf hsf hzf
   refine Goes.adv hTT 400 rfl ?_
   have hzf':=hze.setBy (by2:=by'+size) hsf hbf
   have hcf:Chg (fun z=>F z∨Fr' z) wt wf:=(((hwa.mono fun _ _ h=>h.elim).trans hcb).trans (hwc.mono fun _ _ h=>h.elim)).trans ((hsd.mono fun z _ e=>e▸hzc.f2.2.2.2.1).trans (hsf.mono fun z _ e=>e▸hze.f2.1))
   have eL:stLay S.c s (o:Nat) size={stPut S.c (layS S.c s (o:Nat) size) (plcP q) 0 (zeros hn) with th:=(layS S.c s (o:Nat) size).th.set o (some ⟨size,layQ S.c s (o:Nat) size⟩)}:=by
    unfold stLay
    rw [y1,hqq,Int.toNat_natCast,← hqq,← viewHolds_plc,ehn,Int.toNat_natCast]
   rw [eL]
   exact Goes.ret0 hTT rfl Tryz.func84 rfl (.trans hFt hct (.of hzf' hcf))
  ·rw [hif]
   refine Goes.yes hTT rfl rfl rfl ?_
   refine Goes.loadb hTT rfl h2.obj rfl rfl ?_
   refine Goes.call rfl (room_Open h2.room (pickM S.c.classes size)) ?_
   rintro _ _ ⟨rfl,rfl⟩
   refine Goes.adv hTT 400 rfl ?_
   refine Goes.no hTT rfl (by simpa using hop) rfl ?_
   refine Goes.loadb hTT rfl h2.obj rfl rfl ?_
   refine Goes.call rfl (hP) ?_
   rintro _ w3 ⟨q,rfl,hqq,⟨Fr',hr,hfr,hc3,hq3,hqFr,hqn⟩⟩
   refine Goes.adv hTT 400 rfl ?_
   have h3:=h2.roomed hr hfr hc3
   have hb3:=hc3.heap hb2 (fun hz=>hbF (h.f1 _ hz))
   have hs02:=hw02.size
   have hs01:=hw1.size
   have hs3:=hc3.size
   have hFt:∀ z,(F z∨Fr' z)→F z∨w.heap.size≤z:=fun z hz=>hz.elim .inl (fun hz=>(hfr z hz).imp (h.f1 z) (by omega))
   have hbFt:¬ (F b∨Fr' b):=fun hz=>hz.elim hbF (fun hz=>(hfr b hz).elim (fun hz=>hbF (h.f1 _ hz)) (by have:=lt_of_heap hb2; omega))
   have hqF:OutA (fun z=>F z∨Fr' z) q.pa:=fun b' off s' e hz=>hz.elim (fun hz=>by have:=h2.low b' hz; have:=hqn b' off s' e; omega) (hqFr b' off s' e)
   have hqA3:IntA w3 q.pa:=fun b' off s' e=>(hqn b' off s' e).2
   have hqb:OutA (fun z=>z=b) q.pa:=fun b' off s' e hz=>by have:=hqn b' off s' e; have:=lt_of_heap hb2; omega
   refine Goes.store hTT rfl hb3 rfl rfl ?_
   intro wt hbt hst hzt
   refine Goes.adv hTT 400 rfl ?_
   replace hbt:wt.heap[b]? = some (.cells (plcL q).toArray 106 (0,0)):=hbt
   have ht0:=StoOk.loc h (fun al hal=>(hal.chg hw02 id).chg hc3 h.nr.2.2.2.1) h3 (by omega) hbFt (kd_cells hb3) (by decide) hst
   have hq:PlcOk wt q:=⟨hq3.rd.far hqb hst,hq3.len⟩
   have hqA:IntA wt q.pa:=hqA3.chg hst hqb
   have hct:Chg F w wt:=(((hw02.mono fun _ _ h=>h.elim).trans (hc3.mono fun z _ hz=>h.f1 z hz)).since hst (fun z hz e=>by omega))
   have hqf:q.pages.length≤4096:=by
    have e:q.pages=(layQ S.c s (o:Nat) size).pages:=by rw [eQ,← hqq]; rfl
    rw [e]; exact pf
   rw [← eQ] at hqq
   rw [← eS] at ht0
   have ht:=ht0
   have hhb:=viewHolds_bound (c:=S.c) (q:=q) hmay hqf
   obtain ⟨hn,ehn⟩:=Int.eq_ofNat_of_zero_le hhb.1
   have hHo:∀ w',Chg None' wt w'→Does Tryz.prog 147 #[vwV S.v,.agg (plcL q).toArray] w' (Grow (.int .i64 ((hn:Nat):Int)) w'):=fun w' hw'=>by
    have:=view_Holds S.v q w' ((ht.grow hw').vw) (hq.grow hw') (by omega)
    rw [hvc,ehn] at this
    exact this
   have hqv:viewIs S.c q=true:=by rw [viewIs_plc,hqq]; exact pv
   obtain ⟨y1,y2,y3,y4⟩:=layS_same S.c s (o:Nat) size
   refine Goes.drawn (q:=11) None' hTT mixed (by kernel_rfl) rfl ?_
   intro hB
   refine Drawn.loadb hTT hB rfl ht.obj (by first | exact fun h=>h | (intro h; omega) | assumption) rfl rfl ?_
   refine Drawn.loads hTT hB rfl hbt (by first | exact fun h=>h | (intro h; omega) | assumption) rfl rfl ?_
   refine Drawn.loadb hTT hB rfl ht.obj (by first | exact fun h=>h | (intro h; omega) | assumption) rfl rfl ?_
   refine Drawn.loads hTT hB rfl hbt (by first | exact fun h=>h | (intro h; omega) | assumption) rfl rfl ?_
   refine Drawn.call hTT hB rfl (fun w' hw'=>(hHo w' hw')) rfl ?_
   refine Drawn.nil hB ?_
   intro wa hwa
   refine Goes.adv hTT 400 rfl ?_
   have ha:=ht.grow hwa
   have hba:=hwa.heap' hbt
   refine Goes.call rfl (sto_Zero ha hmay (by rw [y3]; exact hs.bl) q 0 hn (hq.grow hwa) hqF (check_of hqv (by omega) (by omega) (by omega)) hqf) ?_
   rintro _ wb ⟨rfl,hzb,hcb⟩
   refine Goes.adv hTT 400 rfl ?_
   have hbb:=hcb.heap hba hbFt
   have hqb:PlcOk wb q:=⟨((hq.grow hwa).rd).far hqF hcb,hq.len⟩
   refine Goes.drawn (q:=8) None' hTT mixed (by kernel_rfl) rfl ?_
   intro hB
   refine Drawn.loadb hTT hB rfl hzb.obj (by first | exact fun h=>h | (intro h; omega) | assumption) rfl rfl ?_
   refine Drawn.loads hTT hB rfl hbb (by first | exact fun h=>h | (intro h; omega) | assumption) rfl rfl ?_
   refine Drawn.build hTT hB rfl rfl ?_
   refine Drawn.nil hB ?_
   intro wc hwc
   refine Goes.adv hTT 400 rfl ?_
   have hzc:=hzb.grow hwc
   obtain ⟨al,hth⟩:=hzc.th
   refine Goes.mapset hTT rfl (hth.1) ?_
   intro wd hal hsd hzd
   refine Goes.adv hTT 400 rfl ?_
   have hac:=(hwa.size)
   have hbc:=hcb.size
   have hcc:=hwc.size
   have hTd:=hth.put (o:=o) (size:=size) (q:=q) (qm:=layQ S.c s (o:Nat) size) hqq (by show o<(layS S.c s (o:Nat) size).th.length; rw [y1]; exact ho) hal hsd hzc.f2.2.2.2.1 (hqb.grow hwc) hqF (((hqA.grow hwa).chg hcb hqF).grow hwc)
   have hze:=hzc.setTh hsd hTd
   refine Goes.loadb hTT rfl hze.obj rfl rfl ?_
   refine Goes.arith hTT rfl (w64 (by omega)) rfl ?_
   refine Goes.store hTT rfl hze.obj rfl rfl ?_
   intro wf hbf hsf hzf
   refine Goes.adv hTT 400 rfl ?_
   have hzf':=hze.setBy (by2:=by'+size) hsf hbf
   have hcf:Chg (fun z=>F z∨Fr' z) wt wf:=(((hwa.mono fun _ _ h=>h.elim).trans hcb).trans (hwc.mono fun _ _ h=>h.elim)).trans ((hsd.mono fun z _ e=>e▸hzc.f2.2.2.2.1).trans (hsf.mono fun z _ e=>e▸hze.f2.1))
   have eL:stLay S.c s (o:Nat) size={stPut S.c (layS S.c s (o:Nat) size) (plcP q) 0 (zeros hn) with th:=(layS S.c s (o:Nat) size).th.set o (some ⟨size,layQ S.c s (o:Nat) size⟩)}:=by
    unfold stLay
    rw [y1,hqq,Int.toNat_natCast,← hqq,← viewHolds_plc,ehn,Int.toNat_natCast]
   rw [eL]
   exact Goes.ret0 hTT rfl Tryz.func84 rfl (.trans hFt hct (.of hzf' hcf))
 ·obtain ⟨m,hto⟩:=Option.ne_none_iff_exists'.1 hto
  have eS:layS S.c s (o:Nat) size=chgTot {s with mv:=s.mv.set (pickM S.c.classes size).toNat none,rm:=rmOwn s.rm (pickM S.c.classes size) m.pt m.ta (o:Nat)} 3:=by unfold layS; rw [hto]
  have eQ:layQ S.c s (o:Nat) size=⟨pickM S.c.classes size,m.pt,m.ta,[]⟩:=by unfold layQ; rw [hto]
  obtain ⟨hm,hop⟩:stMv s (pickM S.c.classes size)=some m∧rmOpen s.rm (pickM S.c.classes size)=0:=by
   unfold takesOver at hto
   cases hm:stMv s (pickM S.c.classes size) with
   |none=>rw [hm] at hto; cases hto
   |some m' =>
    rw [hm] at hto
    simp only at hto
    split at hto
    ·rename_i ho; cases hto; exact ⟨rfl,ho⟩
    ·cases hto
  obtain ⟨k,ek,hk,hmk⟩:=mv_some hm
  obtain ⟨mb,hx⟩:=mv_find h2 hmk
  have hmol:k<mo.length:=by rw [h.mol]; exact hk
  rw [hm]
  refine Goes.yes hTT rfl rfl rfl ?_
  refine Goes.loadb hTT rfl h2.obj rfl rfl ?_
  refine Goes.call rfl (room_Open h2.room (pickM S.c.classes size)) ?_
  rintro _ _ ⟨rfl,rfl⟩
  refine Goes.adv hTT 400 rfl ?_
  refine Goes.yes hTT rfl (by rw [hop]; rfl) rfl ?_
  refine Goes.loadb hTT rfl h2.obj rfl rfl ?_
  rw [ek,Int.toNat_natCast] at eS
  rw [ek] at eQ
  rw [ek]
  refine Goes.index hTT rfl (j:=k*6) (by omega) (show (k:Int)<(s.mv.length:Nat) by omega) (by simp) rfl ?_
  refine Goes.loadC hTT ([.int .i64 m.pf,.int .i64 m.fa,.int .i64 m.pt,.int .i64 m.ta]) rfl (by first | rfl | (simp; done) | (simp [*]; done) | (simp; omega)) ((fun j v hv=>by have hj:j<4:=(List.getElem?_eq_some_iff.1 hv).1; show w2.cell? ⟨S.vb,0+k*6+2+j,none⟩=_; rw [Nat.add_assoc]; exact h2.mcell hx (i:=2+j) (by omega) (by rw [← hv]; show ([.pointer (some ⟨mb,0,none⟩),.int .i64 m.who,.int .i64 m.pf,.int .i64 m.fa,.int .i64 m.pt,.int .i64 m.ta]:List Value)[2+j]? = _; rw [Nat.add_comm]; rfl))) rfl ?_
  refine Goes.alloc hTT rfl ?_
  intro xb w3 e3 hxb3 hw3 hz3
  refine Goes.adv hTT 400 rfl ?_
  refine Goes.store hTT rfl hxb3 rfl rfl ?_
  intro w4 hxb4 hs4 hz4
  refine Goes.adv hTT 400 rfl ?_
  have hs01:=hw1.size
  have hs02:=hw02.size
  have hw24:Chg None' w2 w4:=hw3.since hs4 (fun z hz e=>by omega)
  have hw04:=hw02.trans hw24
  have h4:=h.grow hw04
  have hb4:=hw24.heap' hb2
  have hxF:¬ F xb:=fun hz=>by have:=h.low xb hz; omega
  refine Goes.loadb hTT rfl h4.obj rfl rfl ?_
  refine Goes.build hTT rfl rfl ?_
  refine Goes.index hTT rfl (j:=k*6) (by omega) (show (k:Int)<(s.mv.length:Nat) by omega) (by simp) rfl ?_
  refine Goes.store hTT rfl h4.mvs (mver_set (y:=none) hmol) rfl ?_
  intro w5 hb5' hs5 hz5
  refine Goes.adv hTT 400 rfl ?_
  have h5:=h4.setMv (x:=none) hs5 hb5' (fun _ _ e=>by cases e)
  have hxb5:=hs5.heap hxb4 (fun e=>hxF (e▸h.f2.2.2.2.2))
  have hb5:=hs5.heap hb4 (fun e=>hbF (e▸h.f2.2.2.2.2))
  refine Goes.drawn (q:=10) None' hTT mixed (by kernel_rfl) rfl ?_
  intro hB
  refine Drawn.loadb hTT hB rfl h5.obj (by first | exact fun h=>h | (intro h; omega) | assumption) rfl rfl ?_
  refine Drawn.loadb hTT hB rfl hxb5 (by first | exact fun h=>h | (intro h; omega) | assumption) rfl rfl ?_
  refine Drawn.loadb hTT hB rfl hxb5 (by first | exact fun h=>h | (intro h; omega) | assumption) rfl rfl ?_
  refine Drawn.nil hB ?_
  intro w6 hw6
  refine Goes.adv hTT 400 rfl ?_
  have h6:=h5.grow hw6
  refine Goes.call rfl (room_Own h6.room (k:Nat) m.pt m.ta (o:Nat)) ?_
  rintro _ w7 ⟨rfl,⟨Fr',hr,hfr,hc7⟩⟩
  refine Goes.adv hTT 400 rfl ?_
  have h7:=h6.roomed hr hfr hc7
  have hxb7:=hc7.heap (hw6.heap' hxb5) (fun hz=>hxF (h.f1 _ hz))
  have hb7:=hc7.heap (hw6.heap' hb5) (fun hz=>hbF (h.f1 _ hz))
  have l7:=lt_of_heap hb7
  have lx7:=lt_of_heap hxb7
  have sz6:w2.heap.size≤w6.heap.size:=by have:=hw24.size; have:=hw6.size; omega
  have hfF:∀ z,Fr' z→F z∨w.heap.size≤z:=fun z hz=>(hfr z hz).imp (h.f1 z) (by omega)
  have hbF7:¬ Fr' b:=fun hz=>(hfr b hz).elim (fun hz=>hbF (h.f1 _ hz)) (by have:=lt_of_heap hb2; omega)
  have hxF7:¬ Fr' xb:=fun hz=>(hfr xb hz).elim (fun hz=>hxF (h.f1 _ hz)) (by have:=lt_of_heap hxb5; have:=hw6.size; have:=lt_of_heap (hw6.heap' hxb5); omega)
  refine Goes.loadb hTT rfl h7.obj rfl rfl ?_
  refine Goes.call rfl (sto_charge h7 3) ?_
  rintro _ w8 ⟨h8,hc8⟩
  refine Goes.adv hTT 400 rfl ?_
  have hxb8:=hc8.heap hxb7 hxF7
  have hb8:=hc8.heap hb7 hbF7
  refine Goes.loadb hTT rfl hxb8 rfl rfl ?_
  refine Goes.loadb hTT rfl hxb8 rfl rfl ?_
  refine Goes.build hTT rfl rfl ?_
  refine Goes.store hTT rfl hb8 rfl rfl ?_
  intro wt hbt hst hzt
  refine Goes.adv hTT 400 rfl ?_
  obtain ⟨q,eq⟩:∃ q:Plc,q=⟨(k:Nat),m.pt,m.ta,none,0,[]⟩:=⟨_,rfl⟩
  have hqq:plcP q=layQ S.c s (o:Nat) size:=by rw [eQ,eq]; rfl
  have hq:PlcOk wt q:=eq▸plcOk_nil _ _ _
  have hqn:∀ b' off s',q.pa≠some ⟨b',off,s'⟩:=fun b' off s' e=>by rw [eq] at e; cases e
  have hqA:IntA wt q.pa:=fun b' off s' e=>absurd e (hqn b' off s')
  have hqF:OutA (fun z=>(F z∨Fr' z)∨Fr' z) q.pa:=fun b' off s' e=>absurd e (hqn b' off s')
  have hqf:q.pages.length≤4096:=by rw [eq]; simp
  replace hbt:wt.heap[b]? = some (.cells (plcL q).toArray 106 (0,0)):=by rw [eq]; exact hbt
  have hmap:∀ al,MapAt w S.tm al→MapAt w8 S.tm al:=fun al hal=>((((hal.chg hw04 id).chg hs5 (kd_ne h4.kds.2.2.2.1 h4.kds.2.2.2.2.1 (by simp))).chg hw6 id).chg hc7 h.nr.2.2.2.1).chg hc8 (h7.nr.2.2.2.1)
  have hbFt:¬ ((F b∨Fr' b)∨Fr' b):=fun hz=>hz.elim (fun hz=>hz.elim hbF hbF7) hbF7
  have hFt:∀ z,((F z∨Fr' z)∨Fr' z)→F z∨w.heap.size≤z:=fun z hz=>hz.elim (fun hz=>hz.elim .inl (hfF z)) (hfF z)
  have ht:=StoOk.loc h hmap h8 (by omega) hbFt (kd_cells hb8) (by decide) hst
  have hct6:Chg F w w6:=((hw04.mono fun _ _ h=>h.elim).trans (hs5.mono fun z _ e=>e▸h.f2.2.2.2.2)).trans (hw6.mono fun _ _ h=>h.elim)
  have hct:Chg F w wt:=((hct6.trans (hc7.mono fun z _ hz=>h.f1 z hz)).since hc8 (fun z hz hf=>(hfF z hf).elim id (by omega))).since hst (fun z hz e=>by omega)
  have eS2:layS S.c s (o:Nat) size=chgTot {keep:=s.keep,bs:=s.bs,rm:=rmOwn s.rm (k:Nat) m.pt m.ta (o:Nat),th:=s.th,mv:=s.mv.set k (Option.map (·.2) (none:Option (Nat × MvM)))} 3:=eS
  replace ht:StoOk (fun z=>(F z∨Fr' z)∨Fr' z) Fr' wt S (layS S.c s (o:Nat) size) by' (mo.set k none):=by rw [eS2]; exact ht
  have hhb:=viewHolds_bound (c:=S.c) (q:=q) hmay hqf
  obtain ⟨hn,ehn⟩:=Int.eq_ofNat_of_zero_le hhb.1
  have hHo:∀ w',Chg None' wt w'→Does Tryz.prog 147 #[vwV S.v,.agg (plcL q).toArray] w' (Grow (.int .i64 ((hn:Nat):Int)) w'):=fun w' hw'=>by
   have:=view_Holds S.v q w' ((ht.grow hw').vw) (hq.grow hw') (by omega)
   rw [hvc,ehn] at this
   exact this
  have hqv:viewIs S.c q=true:=by rw [viewIs_plc,hqq]; exact pv
  obtain ⟨y1,y2,y3,y4⟩:=layS_same S.c s (o:Nat) size
  refine Goes.drawn (q:=11) None' hTT mixed (by kernel_rfl) rfl ?_
  intro hB
  refine Drawn.loadb hTT hB rfl ht.obj (by first | exact fun h=>h | (intro h; omega) | assumption) rfl rfl ?_
  refine Drawn.loads hTT hB rfl hbt (by first | exact fun h=>h | (intro h; omega) | assumption) rfl rfl ?_
  refine Drawn.loadb hTT hB rfl ht.obj (by first | exact fun h=>h | (intro h; omega) | assumption) rfl rfl ?_
  refine Drawn.loads hTT hB rfl hbt (by first | exact fun h=>h | (intro h; omega) | assumption) rfl rfl ?_
  refine Drawn.call hTT hB rfl (fun w' hw'=>(hHo w' hw')) rfl ?_
  refine Drawn.nil hB ?_
  intro wa hwa
  refine Goes.adv hTT 400 rfl ?_
  have ha:=ht.grow hwa
  have hba:=hwa.heap' hbt
  refine Goes.call rfl (sto_Zero ha hmay (by rw [y3]; exact hs.bl) q 0 hn (hq.grow hwa) hqF (check_of hqv (by omega) (by omega) (by omega)) hqf) ?_
  rintro _ wb ⟨rfl,hzb,hcb⟩
  refine Goes.adv hTT 400 rfl ?_
  have hbb:=hcb.heap hba hbFt
  have hqb:PlcOk wb q:=⟨((hq.grow hwa).rd).far hqF hcb,hq.len⟩
  refine Goes.drawn (q:=8) None' hTT mixed (by kernel_rfl) rfl ?_
  intro hB
  refine Drawn.loadb hTT hB rfl hzb.obj (by first | exact fun h=>h | (intro h; omega) | assumption) rfl rfl ?_
  refine Drawn.loads hTT hB rfl hbb (by first | exact fun h=>h | (intro h; omega) | assumption) rfl rfl ?_
  refine Drawn.build hTT hB rfl rfl ?_
  refine Drawn.nil hB ?_
  intro wc hwc
  refine Goes.adv hTT 400 rfl ?_
  have hzc:=hzb.grow hwc
  obtain ⟨al,hth⟩:=hzc.th
  refine Goes.mapset hTT rfl (hth.1) ?_
  intro wd hal hsd hzd
  refine Goes.adv hTT 400 rfl ?_
  have hac:=(hwa.size)
  have hbc:=hcb.size
  have hcc:=hwc.size
  have hTd:=hth.put (o:=o) (size:=size) (q:=q) (qm:=layQ S.c s (o:Nat) size) hqq (by show o<(layS S.c s (o:Nat) size).th.length; rw [y1]; exact ho) hal hsd hzc.f2.2.2.2.1 (hqb.grow hwc) hqF (((hqA.grow hwa).chg hcb hqF).grow hwc)
  have hze:=hzc.setTh hsd hTd
  refine Goes.loadb hTT rfl hze.obj rfl rfl ?_
  refine Goes.arith hTT rfl (w64 (by omega)) rfl ?_
  refine Goes.store hTT rfl hze.obj rfl rfl ?_
  intro wf hbf hsf hzf
  refine Goes.adv hTT 400 rfl ?_
  have hzf':=hze.setBy (by2:=by'+size) hsf hbf
  have hcf:Chg (fun z=>(F z∨Fr' z)∨Fr' z) wt wf:=(((hwa.mono fun _ _ h=>h.elim).trans hcb).trans (hwc.mono fun _ _ h=>h.elim)).trans ((hsd.mono fun z _ e=>e▸hzc.f2.2.2.2.1).trans (hsf.mono fun z _ e=>e▸hze.f2.1))
  have eL:stLay S.c s (o:Nat) size={stPut S.c (layS S.c s (o:Nat) size) (plcP q) 0 (zeros hn) with th:=(layS S.c s (o:Nat) size).th.set o (some ⟨size,layQ S.c s (o:Nat) size⟩)}:=by
   unfold stLay
   rw [y1,hqq,Int.toNat_natCast,← hqq,← viewHolds_plc,ehn,Int.toNat_natCast]
  rw [eL]
  exact Goes.ret0 hTT rfl Tryz.func84 rfl (.trans hFt hct (.of hzf' hcf))
end Go.Proofs.YtnaoiegcobineaaGreatDoor
namespace Go.Proofs.YtnaoiegcobineaaGreatDoor
open Go.RowKit
def szT:Option ThM→Int
 |some t=>t.size
 |none=>0
theorem thSizes_sum:∀ l:List (Option ThM),(thSizes l).sum=(l.map szT).sum
 |[]=>rfl
 |none::l=>by
  have:=thSizes_sum l
  unfold thSizes at *
  simp [szT,this]
 |some t::l=>by
  have:=thSizes_sum l
  unfold thSizes at *
  simp [szT,this]
theorem stBytes_eq (s:StM):stBytes s=(s.th.map szT).sum:=thSizes_sum s.th
theorem sum_setI:∀ (l:List Int) (i:Nat) (v:Int) (hi:i<l.length),(l.set i v).sum=l.sum - l[i]+v
 |a::l,0,v,_=>by simp [List.set]; omega
 |a::l,i+1,v,h=>by
  have:=sum_setI l i v (by simpa using h)
  simp [List.set,this]; omega
theorem bytes_set {l:List (Option ThM)} {o:Nat} {x y:Option ThM} (h:l[o]? = some x):((l.set o y).map szT).sum=(l.map szT).sum - szT x+szT y:=by
 obtain ⟨hl,e⟩:=List.getElem?_eq_some_iff.1 h
 rw [List.map_set,sum_setI _ _ _ (by simpa using hl)]
 simp [e]
theorem sum_range {m:Int} (hm:0≤m):∀ l:List Int,(∀ x ∈ l,0≤x∧x≤m)→0≤l.sum∧l.sum≤l.length*m
 |[],_=>by simp
 |a::l,h=>by
  have h1:=sum_range hm l fun x hx=>h x (List.mem_cons_of_mem _ hx)
  have h2:=h a (List.mem_cons_self ..)
  simp only [List.sum_cons,List.length_cons,Int.natCast_add,Int.add_mul,Int.natCast_one,Int.one_mul]
  omega
section
variable {c:Conf} {s:StM} {pd:Option (Nat × PlcM)}
theorem stBytes_in (h:s.OkP c pd):0≤stBytes s∧stBytes s≤8589934592:=by
 have hm:=may_facts h.may
 have hsl:c.slots≤4096:=by
  have:=h.may
  unfold mayB at this
  simp only [Bool.and_eq_true,decide_eq_true_eq,withinM] at this
  omega
 have hmo:=hm.most
 have htl:=h.tl
 have:=sum_range (m:=2097152) (by omega) (s.th.map szT) fun x hx=>by
  obtain ⟨y,hy,rfl⟩:=List.mem_map.1 hx
  cases y with
  |none=>exact ⟨by decide,by decide⟩
  |some t =>
   obtain ⟨o,ho⟩:=List.mem_iff_getElem?.1 hy
   have:=h.size o t ho
   show 0≤t.size∧t.size≤2097152
   omega
 rw [List.length_map] at this
 rw [stBytes_eq]
 omega
theorem bytes_go (h:s.Ok c) (k:Nat) (n:Int):stBytes (stGo s k n)=stBytes s:=by
 unfold stGo
 cases hm:stMv s (k:Nat) with
 |none=>rfl
 |some m =>
  obtain ⟨j,ej,hj,hmk⟩:=mv_some hm
  obtain ⟨⟨o,t,e1,e2,e3⟩,_⟩:=h.mv j m hmk
  simp only
  split
  ·rfl
  ·rw [stBytes_eq,stBytes_eq]
   have hsz:stSize s m.who=t.size:=by rw [e1]; exact stSize_of e2
   show ((s.th.set m.who.toNat _).map szT).sum=_
   rw [show m.who.toNat=o by omega,bytes_set e2,hsz]
   show _ - t.size+t.size=_
   omega
theorem bytes_begin (c:Conf) (s:StM) (k:Nat):stBytes (stBegin c s k)=stBytes s:=by unfold stBytes; rw [(begin_th c s k).1]
theorem bytes_finish (h:s.Ok c) (κ:Int):stBytes (stFinish s κ)=stBytes s:=by
 unfold stFinish
 split
 ·rfl
 ·exact bytes_go h _ _
theorem bytes_clear {o:Nat} {q:PlcM} (h:s.OkP c (some (o,q))):stBytes (stClear c s q)=stBytes s:=by
 unfold stClear
 split
 ·rfl
 ·rw [bytes_go (StM.OkP.begin h.dropped _),bytes_begin]; rfl
theorem bytes_lay (o:Nat) (size:Int) {x:Option ThM} (h:s.th[o]? = some x):stBytes (stLay c s (o:Nat) size)=stBytes s - szT x+size:=by
 rw [stBytes_eq,stBytes_eq]
 show ((s.th.set (o:Int).toNat _).map szT).sum=_
 rw [Int.toNat_natCast,bytes_set h]
 rfl
theorem bytes_wrote (o:Int) (i n:Nat):stBytes (stWrote s o i n)=stBytes s:=by
 unfold stWrote
 split
 ·split
  ·rfl
  ·rfl
 ·rfl
end
end Go.Proofs.YtnaoiegcobineaaGreatDoor
namespace Go.Proofs.YtnaoiegcobineaaGreatDoor
open Go.RowKit
theorem store_wrote {F Fr:Nat→Prop} {w:World} {S:Sto} {s:StM} {by':Int} {mo:Mo} {pd:Option (Nat × PlcM)} (h:StoOk F Fr w S s by' mo) (hs:s.OkP S.c pd) (o:Int) (q:Plc) (i n:Nat) (hq:q.cls=(stQ s o).cls) (hi:∀ m,stMv s (stQ s o).cls=some m→i+n≤m.size):Does Tryz.prog 89 #[stoV S,.int .i64 o,.agg (plcL q).toArray,.int .i64 i,.int .i64 n] w (fun _ w'=>StTo F w w' S (stWrote s o i n) by'):=by
 obtain ⟨f1,f2,f3⟩:=OkP.few hs
 have noF:∀ {S:Nat→Prop} {w w':World},Chg None' w w'→Chg S w w':=fun h=>h.mono fun _ _ h=>h.elim
 refine Does.enter Tryz.func89 rfl Tryz.ntmps89 rfl rfl ?_
 refine Goes.adv hTT 400 rfl ?_
 refine Goes.alloc hTT rfl ?_
 intro b w1 e1 hb1 hw1 hz1
 refine Goes.adv hTT 400 rfl ?_
 replace hb1:w1.heap[b]? = some (.cells (plcL q).toArray 106 (0,0)):=hb1
 have h1:=h.grow hw1
 refine Goes.drawn (q:=15) None' hTT mixed (by kernel_rfl) rfl ?_
 intro hB
 refine Drawn.loadb hTT hB rfl hb1 (by first | exact fun h=>h | (intro h; omega) | assumption) rfl rfl ?_
 rw [hq]
 refine Drawn.call hTT hB rfl (fun w' hw'=>(store_moving (h1.grow hw') hs (stQ s o).cls).grow) rfl ?_
 cases hm:stMv s (stQ s o).cls with
 |none =>
  have e:stWrote s o i n=s:=by unfold stWrote; rw [hm]
  rw [e]
  refine Drawn.no hTT hB rfl rfl rfl ?_
  refine Drawn.nil hB ?_
  intro w2 hw2
  refine Goes.adv hTT 400 rfl ?_
  exact Goes.ret0 hTT rfl Tryz.func89 rfl (.of (h1.grow hw2) (noF (hw1.trans hw2)))
 |some m =>
  obtain ⟨k,ek,hk,hmk⟩:=mv_some hm
  obtain ⟨mb,hx⟩:=mv_find h1 hmk
  have hmi:=hi m hm
  rw [ek] at hq
  refine Drawn.yes hTT hB rfl rfl rfl ?_
  refine Drawn.loadb hTT hB rfl h1.obj (by first | exact fun h=>h | (intro h; omega) | assumption) rfl rfl ?_
  refine Drawn.loadb hTT hB rfl hb1 (by first | exact fun h=>h | (intro h; omega) | assumption) rfl rfl ?_
  rw [hq]
  refine Drawn.index hTT hB rfl (j:=k*6) (by omega) (show (k:Int)<(s.mv.length:Nat) by omega) (by simp) rfl ?_
  refine Drawn.load hTT hB rfl (h1.mcell hx (i:=1) (by decide) rfl) (by first | exact fun h=>h | (intro h; omega) | assumption) rfl ?_
  refine Drawn.nil hB ?_
  intro w2 hw2
  refine Goes.adv hTT 400 rfl ?_
  have h2:=h1.grow hw2
  have hb2:=hw2.heap' hb1
  by_cases ho:m.who=o
  ·have e:stWrote s o i n=chgTot {s with bs:=wroteB s.bs m.f m.t m.gone i n} (wroteK i n m.gone):=by unfold stWrote; rw [hm]; simp only; rw [if_pos ho]
   rw [e]
   refine Goes.yes hTT rfl (by rw [ho]; simp) rfl ?_
   refine Goes.drawn (q:=11) None' hTT mixed (by kernel_rfl) rfl ?_
   intro hB
   refine Drawn.loadb hTT hB rfl h2.obj (by first | exact fun h=>h | (intro h; omega) | assumption) rfl rfl ?_
   refine Drawn.loadb hTT hB rfl hb2 (by first | exact fun h=>h | (intro h; omega) | assumption) rfl rfl ?_
   rw [hq]
   refine Drawn.index hTT hB rfl (j:=k*6) (by omega) (show (k:Int)<(s.mv.length:Nat) by omega) (by simp) rfl ?_
   refine Drawn.load hTT hB rfl (h2.mcell hx (i:=0) (by decide) rfl) (by first | exact fun h=>h | (intro h; omega) | assumption) rfl ?_
   refine Drawn.nil hB ?_
   intro w3 hw3
   refine Goes.adv hTT 400 rfl ?_
   have h3:=h2.grow hw3
   refine Goes.call rfl (move_Wrote S.A (arV S s) (mvAt mb m) m.gone i n w3 (h3.mvOk hs hx) hmi) ?_
   rintro _ w4 ⟨rfl,hM,hc4⟩
   refine Goes.adv hTT 400 rfl ?_
   rw [wroteV_is h.amb] at hM
   obtain ⟨l1,l2,l3,_⟩:=mv_lies hs hmk
   have hl:(wroteB s.bs m.f m.t m.gone i n).length=s.bs.length:=by
    unfold wroteB
    split
    ·rfl
    ·unfold wroteK; exact cpB_length (by omega) (by omega)
   exact Goes.ret0 hTT rfl Tryz.func89 rfl (.of (h3.arena' hc4 hM.ar hl) ((noF ((hw1.trans hw2).trans hw3)).trans (hc4.mono fun z _ hz=>h.footF z hz)))
  ·have e:stWrote s o i n=s:=by unfold stWrote; rw [hm]; simp only; rw [if_neg ho]
   rw [e]
   refine Goes.no hTT rfl (by simpa using ho) rfl ?_
   exact Goes.ret0 hTT rfl Tryz.func89 rfl (.of h2 (noF (hw1.trans hw2)))
def StE (F:Nat→Prop) (w:World) (S:Sto) (s:StM) (e:Int) (v:Value) (w':World):Prop:=v = .int .i64 e∧StTo F w w' S s (stBytes s)
theorem store_Alloc {F Fr:Nat→Prop} {w:World} {S:Sto} {s:StM} {mo:Mo} (h:StoOk F Fr w S s (stBytes s) mo) (hs:s.Ok S.c) (o size:Int):Does Tryz.prog 38 #[stoV S,.int .i64 o,.int .i64 size] w (StE F w S (stAlloc S.c s o size) (stAllocE S.c s o size)):=by
 have noF:∀ {S:Nat→Prop} {w w':World},Chg None' w w'→Chg S w w':=fun h=>h.mono fun _ _ h=>h.elim
 have same:∀ {w'},Chg None' w w'→stAllocE S.c s o size≠0→StTo F w w' S (stAlloc S.c s o size) (stBytes (stAlloc S.c s o size)):=fun hc he=>by
  have e:stAlloc S.c s o size=s:=by unfold stAlloc; rw [if_neg he]
  rw [e]
  exact .of (h.grow hc) (noF hc)
 have hby:=stBytes_in hs
 refine Does.enter Tryz.func38 rfl Tryz.ntmps38 rfl rfl ?_
 refine Goes.adv hTT 400 rfl ?_
 refine Goes.call rfl (store_owned h (Chg.refl _ _) hs o) ?_
 rintro _ w1 ⟨⟨q,rfl,_⟩,hw1⟩
 refine Goes.adv hTT 400 rfl ?_
 refine Goes.alloc hTT rfl ?_
 intro b w2 e2 hb2 hw2 hz2
 refine Goes.adv hTT 400 rfl ?_
 refine Goes.store hTT rfl hb2 rfl rfl ?_
 intro w3 hb3 hs3 hz3
 refine Goes.adv hTT 400 rfl ?_
 have hw03:Chg None' w w3:=(hw1.trans hw2).since hs3 (fun z hz e=>by have:=hw1.size; omega)
 by_cases e1:ownedE s o=1
 ·have e:stAllocE S.c s o size=1:=by unfold stAllocE; rw [if_pos e1]
  rw [e1]
  refine Goes.yes hTT rfl rfl rfl ?_
  exact Goes.ret1 hTT rfl Tryz.func38 rfl rfl ⟨by rw [e]; rfl,same hw03 (by rw [e]; decide)⟩
 ·refine Goes.no hTT rfl (by simpa using e1) rfl ?_
  by_cases e0:ownedE s o=0
  ·have e:stAllocE S.c s o size=10:=by unfold stAllocE; rw [if_neg e1,if_pos e0]
   rw [e0]
   refine Goes.yes hTT rfl rfl rfl ?_
   exact Goes.ret1 hTT rfl Tryz.func38 rfl rfl ⟨by rw [e],same hw03 (by rw [e]; decide)⟩
  ·have e:stAllocE S.c s o size=stFits S.c s size:=by unfold stAllocE; rw [if_neg e1,if_neg e0]
   refine Goes.no hTT rfl (by simpa using e0) rfl ?_
   have h3:=h.grow hw03
   refine Goes.call rfl (store_Fits h3 hs size) ?_
   rintro _ w4 ⟨rfl,hw4⟩
   refine Goes.adv hTT 400 rfl ?_
   by_cases hf:stFits S.c s size=0
   ·rw [hf]
    refine Goes.no hTT rfl rfl rfl ?_
    obtain ⟨j,rfl,hj,hn⟩:=owned_9 e1 e0
    have eA:stAlloc S.c s (j:Nat) size=stLay S.c s (j:Nat) size:=by unfold stAlloc; rw [if_pos (by rw [e]; exact hf)]
    have hL:(stLay S.c s (j:Nat) size).OkP S.c none:=StM.OkP.lay hs hn hf (by rintro _ _ ⟨⟩)
    refine Goes.call rfl (store_lay (h3.grow hw4) hs hj hf hL (by omega)) ?_
    rintro _ w5 hst
    refine Goes.adv hTT 400 rfl ?_
    have eb:stBytes (stAlloc S.c s (j:Nat) size)=stBytes s+size:=by rw [eA,bytes_lay j size hn]; show _ - 0+_=_; omega
    exact Goes.ret1 hTT rfl Tryz.func38 rfl rfl ⟨by rw [e,hf],by rw [eb,eA]; exact .trans (fun _ h => .inl h) (noF (hw03.trans hw4)) hst⟩
   ·refine Goes.yes hTT rfl (by simpa using hf) rfl ?_
    exact Goes.ret1 hTT rfl Tryz.func38 rfl rfl ⟨by rw [e],same (hw03.trans hw4) (by rw [e]; exact hf)⟩
theorem store_Free {F Fr:Nat→Prop} {w:World} {S:Sto} {s:StM} {mo:Mo} (h:StoOk F Fr w S s (stBytes s) mo) (hs:s.Ok S.c) (o:Int):Does Tryz.prog 39 #[stoV S,.int .i64 o] w (StE F w S (stFree S.c s o) (ownedE s o)):=by
 have noF:∀ {S:Nat→Prop} {w w':World},Chg None' w w'→Chg S w w':=fun h=>h.mono fun _ _ h=>h.elim
 have hby:=stBytes_in hs
 refine Does.enter Tryz.func39 rfl Tryz.ntmps39 rfl rfl ?_
 refine Goes.adv hTT 400 rfl ?_
 refine Goes.call rfl (store_owned h (Chg.refl _ _) hs o) ?_
 rintro _ w1 ⟨⟨q,rfl,hq1,hq2,hq3,hq4⟩,hw1⟩
 refine Goes.adv hTT 400 rfl ?_
 have hs1:=hw1.size
 refine Goes.alloc hTT rfl ?_
 intro tb w2 e2 htb2 hw2 hz2
 refine Goes.adv hTT 400 rfl ?_
 refine Goes.store hTT rfl htb2 rfl rfl ?_
 intro w3 htb3 hs3 hz3
 refine Goes.adv hTT 400 rfl ?_
 have hw03:Chg None' w w3:=(hw1.trans hw2).since hs3 (fun z hz e=>by omega)
 have htF:¬ F tb:=fun hz=>by have:=h.low tb hz; omega
 by_cases e0:ownedE s o=0
 ·obtain ⟨j,t,rfl,ht⟩:=owned_0 e0
  have hsz:stSize s (j:Nat)=t.size:=stSize_of ht
  have hqc:q.cls=t.q.cls:=by have:=congrArg PlcM.cls hq1; rw [stQ_of ht] at this; exact this
  rw [hsz] at htb3
  have eF:stFree S.c s (j:Nat)=stClear S.c {stFinish s t.q.cls with th:=(stFinish s t.q.cls).th.set j none} (stQ (stFinish s t.q.cls) (j:Nat)):=by
   unfold stFree; rw [if_neg (fun h=>h e0),stQ_of ht,Int.toNat_natCast]
  obtain ⟨t',g1,g2,g3,g4,g5⟩:=fin_who hs ht
  have hfin:=(fin_facts hs t.q.cls).ok
  have hA:=hfin.away g1 g5
  rw [stQ_of g1] at eF
  have hbyF:stBytes (stFree S.c s (j:Nat))=stBytes s - t.size:=by
   rw [eF,bytes_clear hA,stBytes_eq]
   show (((stFinish s t.q.cls).th.set j none).map szT).sum=_
   rw [bytes_set g1,← stBytes_eq,bytes_finish hs]
   show _ - t'.size+0=_
   omega
  have hts:=hs.size j t ht
  have hmo:=(may_facts hs.may).most
  have hjl:=(List.getElem?_eq_some_iff.1 g1).1
  rw [e0]
  refine Goes.no hTT rfl rfl rfl ?_
  refine Goes.loadb hTT rfl htb3 rfl rfl ?_
  rw [hqc]
  refine Goes.call rfl (store_finish (h.grow hw03) hs t.q.cls) ?_
  rintro _ w4 ⟨F4,Fr4,mo4,h4,hF4,hc4⟩
  refine Goes.adv hTT 400 rfl ?_
  have htb4:=hc4.heap htb3 htF
  have htF4:¬ F4 tb:=fun hz=>(hF4 tb hz).elim htF (by have:=lt_of_heap htb3; omega)
  have hs4:=hc4.size
  have hs03:=hw03.size
  obtain ⟨al,hth⟩:=h4.th
  obtain ⟨q1,k1,k2,k3,k4,k5⟩:=hth.2.2.1 j t' g1
  refine Goes.loadb hTT rfl h4.obj rfl rfl ?_
  refine Goes.lookup hTT rfl (hth.1) ((show lookV al _ (j:Nat) false = .agg (thL t'.size q1).toArray from by unfold lookV; rw [k2]; rfl)) rfl ?_
  refine Goes.field hTT rfl (show Value.agg ((thL t'.size q1).toArray.extract 1 5) = .agg (plcL q1).toArray from rfl) rfl ?_
  refine Goes.alloc hTT rfl ?_
  intro pb w5 e5 hpb5 hw5 hz5
  refine Goes.adv hTT 400 rfl ?_
  refine Goes.store hTT rfl hpb5 rfl rfl ?_
  intro w6 hpb6 hs6 hz6
  refine Goes.adv hTT 400 rfl ?_
  replace hpb6:w6.heap[pb]? = some (.cells (plcL q1).toArray 106 (0,0)):=hpb6
  have hw46:Chg None' w4 w6:=hw5.since hs6 (fun z hz e=>by omega)
  have h6:=h4.grow hw46
  have htb6:=hw46.heap' htb4
  have hpF:¬ F4 pb:=fun hz=>by have:=h4.low pb hz; omega
  obtain ⟨al6,hth6⟩:=h6.th
  refine Goes.loadb hTT rfl h6.obj rfl rfl ?_
  refine Goes.mapdel hTT rfl (hth6.1) ?_
  intro w7 hal7 hs7 hz7
  refine Goes.adv hTT 400 rfl ?_
  have hT7:=hth6.del (o:=j) hal7 hs7 h6.f2.2.2.2.1
  have h7:=h6.setTh hs7 hT7
  have htb7:=hs7.heap htb6 (fun e=>htF4 (e▸h6.f2.2.2.2.1))
  have hpb7:=hs7.heap hpb6 (fun e=>hpF (e▸h6.f2.2.2.2.1))
  refine Goes.drawn (q:=6) None' hTT mixed (by kernel_rfl) rfl ?_
  intro hB
  refine Drawn.loadb hTT hB rfl h7.obj (by first | exact fun h=>h | (intro h; omega) | assumption) rfl rfl ?_
  refine Drawn.loadb hTT hB rfl htb7 (by first | exact fun h=>h | (intro h; omega) | assumption) rfl rfl ?_
  refine Drawn.nil hB ?_
  intro w8 hw8
  refine Goes.adv hTT 400 rfl ?_
  have h8:=h7.grow hw8
  have hpb8:=hw8.heap' hpb7
  refine Goes.arith hTT rfl (w64 (by omega)) rfl ?_
  refine Goes.store hTT rfl h8.obj rfl rfl ?_
  intro w9 ho9 hs9 hz9
  refine Goes.adv hTT 400 rfl ?_
  have h9:=h8.setBy (by2:=stBytes s - t.size) hs9 ho9
  have hpb9:=hs9.heap hpb8 (fun e=>hpF (e▸h8.f2.1))
  have hc69:Chg F4 w6 w9:=((hs7.mono fun z _ e=>e▸h6.f2.2.2.2.1).trans (noF hw8)).trans (hs9.mono fun z _ e=>e▸h8.f2.1)
  have hq9:PlcOk w9 q1:=⟨((k3.grow hw46).rd).far k4 hc69,k3.len⟩
  refine Goes.loads hTT rfl hpb9 rfl rfl ?_
  refine Goes.call rfl (store_clear h9 q1 (by rw [k1]; exact hA) hq9) ?_
  rintro _ w10 hst
  refine Goes.adv hTT 400 rfl ?_
  rw [k1] at hst
  have hc06:Chg F w w6:=((noF hw03).trans hc4).trans (noF hw46)
  have hc09:Chg F w w9:=hc06.since hc69 (fun z hz hf=>(hF4 z hf).elim id (by omega))
  exact Goes.ret1 hTT rfl Tryz.func39 rfl rfl ⟨rfl,by rw [hbyF,eF]; exact .trans (fun z hz=>(hF4 z hz).imp id (by omega)) hc09 hst⟩
 ·have e:stFree S.c s o=s:=by unfold stFree; rw [if_pos e0]
  refine Goes.yes hTT rfl (by simpa using e0) rfl ?_
  exact Goes.ret1 hTT rfl Tryz.func39 rfl rfl ⟨rfl,by rw [e]; exact .of (h.grow hw03) (noF hw03)⟩
end Go.Proofs.YtnaoiegcobineaaGreatDoor
namespace Go.Proofs.YtnaoiegcobineaaGreatDoor
open Go.RowKit
theorem within_facts {c:Conf} {s:StM} {pd:Option (Nat × PlcM)} (hs:s.OkP c pd) {o i n:Int} (h:withinE s o i n=0):∃ (j:Nat),∃ t,∃ i' n':Nat,o=j∧s.th[j]? = some (some t)∧i=i'∧n=n'∧(i'+n':Int)≤t.size∧checkM c t.q.plc i' n'=0∧t.q.pages.length≤4096:=by
 obtain ⟨j,t,e1,e2,e3,e4,e5⟩:=within_0 h
 obtain ⟨p1,p2,p3⟩:=place_holds hs e2
 obtain ⟨i',rfl⟩:=Int.eq_ofNat_of_zero_le e3
 obtain ⟨n',rfl⟩:=Int.eq_ofNat_of_zero_le e4
 exact ⟨j,t,i',n',e1,e2,rfl,rfl,e5,check_of p1 (by omega) (by omega) (by omega),p3⟩
theorem checkM_q {c:Conf} {q:Plc} {qm:PlcM} (e:plcP q=qm) {i n:Int} (h:checkM c qm.plc i n=0):checkM c q i n=0:=by rw [checkM_plc,e]; exact h
theorem Own.from' {base base' t size m:Nat} {w:World} {v:Value} {xs:List Value} (h:Own base t size w v m xs) (hb:base'≤base):Own base' t size w v m xs:=by
 obtain ⟨h1,h2⟩:=h
 refine ⟨h1,?_⟩
 rcases h2 with h2 | ⟨g,cap,cur,e,h3,r⟩
 ·exact .inl h2
 ·exact .inr ⟨g,cap,cur,e,by omega,r⟩
theorem store_Write {F Fr:Nat→Prop} {w:World} {S:Sto} {s:StM} {mo:Mo} (h:StoOk F Fr w S s (stBytes s) mo) (hs:s.Ok S.c) (o i:Int) (a:Option Addr) (cap:Nat) (l:List Int) (hi : -9223372036854775808≤i∧i≤9223372036854775807) (hr:Rd .u8 w a l) (hlc:l.length≤cap) (hl:l.length≤9223372036854775807) (hin:InB l) (hout:0<l.length→OutA F a) :
 Does Tryz.prog 41 #[stoV S,.int .i64 o,.int .i64 i,.slice a l.length cap] w (StE F w S (stWrite S.c s o i l) (withinE s o i l.length)):=by
 have noF:∀ {S:Nat→Prop} {w w':World},Chg None' w w'→Chg S w w':=fun h=>h.mono fun _ _ h=>h.elim
 refine Does.enter Tryz.func41 rfl Tryz.ntmps41 rfl rfl ?_
 refine Goes.adv hTT 400 rfl ?_
 refine Goes.call rfl (store_within h (Chg.refl _ _) hs o i l.length hi (by omega)) ?_
 rintro _ w1 ⟨⟨q,rfl,hq1,hq2,hq3,hq4⟩,hw1⟩
 refine Goes.adv hTT 400 rfl ?_
 have hs1:=hw1.size
 refine Goes.alloc hTT rfl ?_
 intro tb w2 e2 htb2 hw2 hz2
 refine Goes.adv hTT 400 rfl ?_
 refine Goes.store hTT rfl htb2 rfl rfl ?_
 intro w3 htb3 hs3 hz3
 refine Goes.adv hTT 400 rfl ?_
 have hw03:Chg None' w w3:=(hw1.trans hw2).since hs3 (fun z hz e=>by omega)
 have htF:¬ F tb:=fun hz=>by have:=h.low tb hz; omega
 have h3:=h.grow hw03
 by_cases e0:withinE s o i l.length=0
 ·obtain ⟨j,t,i',n',rfl,ht,rfl,hn,h5,hck,hpf⟩:=within_facts hs e0
  obtain rfl:l.length=n':=by omega
  have hQ:stQ s (j:Nat)=t.q:=stQ_of ht
  rw [hQ] at hq1
  have eW:stWrite S.c s (j:Nat) (i':Nat) l=stWrote (stPut S.c s t.q i' l) (j:Nat) i' l.length:=by unfold stWrite; rw [if_pos e0,hQ,Int.toNat_natCast]
  rw [e0]
  refine Goes.no hTT rfl rfl rfl ?_
  refine Goes.drawn (q:=8) None' hTT mixed (by kernel_rfl) rfl ?_
  intro hB
  refine Drawn.loadb hTT hB rfl h3.obj (by first | exact fun h=>h | (intro h; omega) | assumption) rfl rfl ?_
  refine Drawn.loads hTT hB rfl htb3 (by first | exact fun h=>h | (intro h; omega) | assumption) rfl rfl ?_
  refine Drawn.nil hB ?_
  intro w4 hw4
  refine Goes.adv hTT 400 rfl ?_
  have h4:=h3.grow hw4
  have hw04:=hw03.trans hw4
  refine Goes.call rfl (sto_Write h4 hs.may hs.bl q i' a cap l (hq2.grow hw04) hq3 (checkM_q hq1 hck) (by rw [show q.pages=t.q.pages from congrArg PlcM.pages hq1]; exact hpf) (hr.chg hw04) hlc hin hout) ?_
  rintro _ w5 ⟨rfl,hp5,hc5⟩
  refine Goes.adv hTT 400 rfl ?_
  rw [hq1] at hp5
  have htb5:=hc5.heap (hw4.heap' htb3) htF
  have hs5:=hs.put t.q i' hin
  have hQ5:stQ (stPut S.c s t.q i' l) (j:Nat)=t.q:=stQ_of (s:=stPut S.c s t.q i' l) ht
  refine Goes.loads hTT rfl htb5 rfl rfl ?_
  have hmi:∀ m,stMv (stPut S.c s t.q i' l) (stQ (stPut S.c s t.q i' l) (j:Nat)).cls=some m→i'+l.length≤m.size:=fun m hm=>by
   rw [hQ5] at hm
   obtain ⟨k,ek,_,hmk⟩:=mv_some hm
   have:=hold_small hs (k:=k) (m:=m) hmk ht ek
   omega
  refine Goes.call rfl (store_wrote hp5 hs5 (j:Nat) q i' l.length (by rw [hQ5,← hq1]; rfl) hmi) ?_
  rintro _ w6 hst
  refine Goes.adv hTT 400 rfl ?_
  exact Goes.ret1 hTT rfl Tryz.func41 rfl rfl ⟨rfl,by rw [eW,bytes_wrote]; exact .trans (fun _ h => .inl h) ((noF hw04).trans hc5) hst⟩
 ·have e:stWrite S.c s o i l=s:=by unfold stWrite; rw [if_neg e0]
  refine Goes.yes hTT rfl (by simpa using e0) rfl ?_
  exact Goes.ret1 hTT rfl Tryz.func41 rfl rfl ⟨rfl,by rw [e]; exact .of h3 (noF hw03)⟩
theorem store_Read {F Fr:Nat→Prop} {w:World} {S:Sto} {s:StM} {mo:Mo} (h:StoOk F Fr w S s (stBytes s) mo) (hs:s.Ok S.c) (o i n:Int) (hi : -9223372036854775808≤i∧i≤9223372036854775807) (hn : -9223372036854775808≤n∧n≤9223372036854775807) :
 Does Tryz.prog 26 #[stoV S,.int .i64 o,.int .i64 i,.int .i64 n] w (fun v w' => ∃ u,v = .tuple #[u,.int .i64 (withinE s o i n)]∧Own w.heap.size 5 1 w' u (stReadB S.c s o i n).length ((stReadB S.c s o i n).map (Value.int .u8))∧StTo F w w' S (stRead S.c s o i n) (stBytes (stRead S.c s o i n))):=by
 have noF:∀ {S:Nat→Prop} {w w':World},Chg None' w w'→Chg S w w':=fun h=>h.mono fun _ _ h=>h.elim
 refine Does.enter Tryz.func26 rfl Tryz.ntmps26 rfl rfl ?_
 refine Goes.adv hTT 400 rfl ?_
 refine Goes.call rfl (store_within h (Chg.refl _ _) hs o i n hi hn) ?_
 rintro _ w1 ⟨⟨q,rfl,hq1,hq2,hq3,hq4⟩,hw1⟩
 refine Goes.adv hTT 400 rfl ?_
 have hs1:=hw1.size
 refine Goes.alloc hTT rfl ?_
 intro tb w2 e2 htb2 hw2 hz2
 refine Goes.adv hTT 400 rfl ?_
 refine Goes.store hTT rfl htb2 rfl rfl ?_
 intro w3 htb3 hs3 hz3
 refine Goes.adv hTT 400 rfl ?_
 have hw03:Chg None' w w3:=(hw1.trans hw2).since hs3 (fun z hz e=>by omega)
 have htF:¬ F tb:=fun hz=>by have:=h.low tb hz; omega
 have h3:=h.grow hw03
 by_cases e0:withinE s o i n=0
 ·obtain ⟨j,t,i',n',rfl,ht,rfl,rfl,h5,hck,hpf⟩:=within_facts hs e0
  have hQ:stQ s (j:Nat)=t.q:=stQ_of ht
  rw [hQ] at hq1
  have eR:stRead S.c s (j:Nat) (i':Nat) (n':Nat)=chgTot s (chargeM S.c t.q.plc i' n'):=by unfold stRead; rw [if_pos e0,hQ,Int.toNat_natCast,Int.toNat_natCast]
  have eB:stReadB S.c s (j:Nat) (i':Nat) (n':Nat)=toldM S.c t.q.plc s.bs i' n':=by unfold stReadB; rw [if_pos e0,hQ,Int.toNat_natCast,Int.toNat_natCast]
  have hlen:(toldM S.c t.q.plc s.bs i' n').length=n':=by unfold toldM; rw [List.length_map,List.length_range]
  rw [e0]
  refine Goes.no hTT rfl rfl rfl ?_
  have hd:∀ w',Chg None' w3 w'→Does Tryz.prog 72 #[vwV S.v,.agg (plcL q).toArray,.int .i64 (i':Nat),.int .i64 (n':Nat)] w' (fun v w2=>Chg (foot S.A) w' w2 ∧ ∃ u1,v = .tuple #[u1,.int .i64 0]∧StoOk F Fr w2 S (chgTot s (chargeM S.c t.q.plc i' n')) (stBytes s) mo∧Own w.heap.size 5 1 w2 u1 n' ((toldM S.c t.q.plc s.bs i' n').map (Value.int .u8))):=fun w' hw'=>by
   have hh:=sto_Read (h3.grow hw') hs.may hs.bl q i' n' (hq2.grow (hw03.trans hw')) hq3 (checkM_q hq1 hck) (by rw [show q.pages=t.q.pages from congrArg PlcM.pages hq1]; exact hpf)
   rw [hq1] at hh
   exact hh.mono fun v w2 ⟨u1,e,a1,a2,a3⟩=>⟨a2,u1,e,a1,a3.from' (by have:=hw03.size; have:=hw'.size; omega)⟩
  have hnS:¬ foot S.A S.sb:=fun hz=>hz.elim (kd_ne h.kds.1 h.kds.2.2.1 (by decide)) (fun e=>by rw [h.amb] at e; exact kd_ne h.kds.1 h.kds.2.2.2.2.2 (by decide) (Option.some.inj e).symm)
  have hnT:¬ foot S.A tb:=fun hz=>htF (h.footF _ hz)
  refine Goes.drawn (q:=11) (foot S.A) hTT mixed (by kernel_rfl) rfl ?_
  intro hB
  refine Drawn.loadb hTT hB rfl h3.obj (by first | exact fun h=>h | (intro h; omega) | assumption) rfl rfl ?_
  refine Drawn.loads hTT hB rfl htb3 (by first | exact fun h=>h | (intro h; omega) | assumption) rfl rfl ?_
  refine Drawn.callQ hB rfl rfl (hd) ?_
  rintro _ w4 hc4 ⟨u1,rfl,h4,ho4⟩
  refine Drawn.adv hTT hB rfl ?_
  refine Drawn.nil hB ?_
  intro w5 hw5
  refine Goes.adv hTT 400 rfl ?_
  rw [eR,eB,hlen]
  exact Goes.ret2 hTT rfl Tryz.func26 rfl rfl rfl ⟨u1,rfl,ho4.chg hw5 (fun _ _=>id),.of (h4.grow hw5) (((noF hw03).trans (hc4.mono fun z _ hz=>h.footF z hz)).trans (noF hw5))⟩
 ·have e:stRead S.c s o i n=s:=by unfold stRead; rw [if_neg e0]
  have eB:stReadB S.c s o i n = []:=by unfold stReadB; rw [if_neg e0]
  rw [e,eB]
  refine Goes.yes hTT rfl (by simpa using e0) rfl ?_
  exact Goes.ret2 hTT rfl Tryz.func26 rfl rfl rfl ⟨_,rfl,⟨rfl,.inl ⟨rfl,rfl⟩⟩,.of h3 (noF hw03)⟩
end Go.Proofs.YtnaoiegcobineaaGreatDoor
namespace Go.Proofs.YtnaoiegcobineaaGreatDoor
open Go.RowKit
theorem wrote_th (s:StM) (o:Int) (i n:Nat):(stWrote s o i n).th=s.th:=by
 unfold stWrote
 split
 ·split <;> rfl
 ·rfl
theorem wrote_set {s:StM} {o:Nat} {t:ThM} (size:Int) (i n:Nat) (ht:s.th[o]? = some (some t)):stWrote (stSetTh s (o:Nat) ⟨size,t.q⟩) (o:Nat) i n=stSetTh (stWrote s (o:Nat) i n) (o:Nat) ⟨size,t.q⟩:=by
 have hol:=(List.getElem?_eq_some_iff.1 ht).1
 have e1:stQ (stSetTh s (o:Nat) ⟨size,t.q⟩) (o:Nat)=t.q:=by
  refine stQ_of (t:=⟨size,t.q⟩) ?_
  show (s.th.set (o:Int).toNat _)[o]? = _
  rw [Int.toNat_natCast,List.getElem?_set_self hol]
 unfold stWrote
 rw [e1,stQ_of ht]
 have e2:stMv (stSetTh s (o:Nat) ⟨size,t.q⟩) t.q.cls=stMv s t.q.cls:=rfl
 rw [e2]
 split
 ·split <;> rfl
 ·rfl
set_option maxRecDepth 100000 in
theorem store_Resize {F Fr:Nat→Prop} {w:World} {S:Sto} {s:StM} {mo:Mo} (h:StoOk F Fr w S s (stBytes s) mo) (hs:s.Ok S.c) (o size:Int):Does Tryz.prog 40 #[stoV S,.int .i64 o,.int .i64 size] w (StE F w S (stResize S.c s o size) (stResizeE S.c s o size)):=by
 have noF:∀ {S:Nat→Prop} {w w':World},Chg None' w w'→Chg S w w':=fun h=>h.mono fun _ _ h=>h.elim
 have same:∀ {w'},Chg None' w w'→stResizeE S.c s o size≠0→StTo F w w' S (stResize S.c s o size) (stBytes (stResize S.c s o size)):=fun hc he=>by
  have e:stResize S.c s o size=s:=by unfold stResize; rw [if_pos he]
  rw [e]
  exact .of (h.grow hc) (noF hc)
 have hby:=stBytes_in hs
 have hmo:=(may_facts hs.may).most
 refine Does.enter Tryz.func40 rfl Tryz.ntmps40 rfl rfl ?_
 refine Goes.adv hTT 400 rfl ?_
 refine Goes.call rfl (store_owned h (Chg.refl _ _) hs o) ?_
 rintro _ w1 ⟨⟨q,rfl,hq1,hq2,hq3,hq4⟩,hw1⟩
 refine Goes.adv hTT 400 rfl ?_
 have hs1:=hw1.size
 refine Goes.alloc hTT rfl ?_
 intro tb w2 e2 htb2 hw2 hz2
 refine Goes.adv hTT 400 rfl ?_
 refine Goes.store hTT rfl htb2 rfl rfl ?_
 intro w3 htb3 hs3 hz3
 refine Goes.adv hTT 400 rfl ?_
 have hw03:Chg None' w w3:=(hw1.trans hw2).since hs3 (fun z hz e=>by omega)
 have htF:¬ F tb:=fun hz=>by have:=h.low tb hz; omega
 have h3:=h.grow hw03
 by_cases e0:ownedE s o=0
 ·obtain ⟨j,t,rfl,ht⟩:=owned_0 e0
  have hsz:stSize s (j:Nat)=t.size:=stSize_of ht
  have hQ:stQ s (j:Nat)=t.q:=stQ_of ht
  have hts:=hs.size j t ht
  have hjl:=(List.getElem?_eq_some_iff.1 ht).1
  rw [hsz] at htb3
  rw [hQ] at hq1
  rw [e0]
  refine Goes.no hTT rfl rfl rfl ?_
  by_cases g1:size<1∨S.c.most<size
  ·have e:stResizeE S.c s (j:Nat) size=3:=by unfold stResizeE; rw [if_neg (fun h=>h e0),if_pos g1]
   by_cases g2:size<1
   ·refine Goes.yes hTT rfl (decide_eq_true g2) rfl ?_
    exact Goes.ret1 hTT rfl Tryz.func40 rfl rfl ⟨by rw [e],same hw03 (by rw [e]; decide)⟩
   ·refine Goes.no hTT rfl (decide_eq_false g2) rfl ?_
    refine Goes.loadb hTT rfl h3.obj rfl rfl ?_
    refine Goes.yes hTT rfl (decide_eq_true (by omega)) rfl ?_
    exact Goes.ret1 hTT rfl Tryz.func40 rfl rfl ⟨by rw [e],same hw03 (by rw [e]; decide)⟩
  ·refine Goes.no hTT rfl (decide_eq_false (by omega)) rfl ?_
   refine Goes.loadb hTT rfl h3.obj rfl rfl ?_
   refine Goes.no hTT rfl (decide_eq_false (by omega)) rfl ?_
   refine Goes.loadb hTT rfl htb3 rfl rfl ?_
   refine Goes.call rfl (store_stays h3 t.size size (by omega) (by omega)) ?_
   rintro _ w4 ⟨rfl,hw4⟩
   refine Goes.adv hTT 400 rfl ?_
   have hw04:=hw03.trans hw4
   have h4:=h.grow hw04
   have htb4:=hw4.heap' htb3
   cases hst:staysB S.c t.size size with
   |true =>
    have e:stResizeE S.c s (j:Nat) size=0:=by unfold stResizeE; rw [if_neg (fun h=>h e0),if_neg g1,hsz,if_pos hst]
    rw [e]
    refine Goes.yes hTT rfl rfl rfl ?_
    refine Goes.loadb hTT rfl htb4 rfl rfl ?_
    by_cases hlt:size<t.size
    ·obtain ⟨i',rfl⟩:=Int.eq_ofNat_of_zero_le (show 0≤size by omega)
     obtain ⟨n',hn'⟩:=Int.eq_ofNat_of_zero_le (show 0≤t.size - (i':Int) by omega)
     obtain ⟨pv,ph,pf⟩:=place_holds hs ht
     have hpq:q.pages=t.q.pages:=congrArg PlcM.pages hq1
     refine Goes.yes hTT rfl (decide_eq_true hlt) rfl ?_
     refine Goes.drawn (q:=11) None' hTT mixed (by kernel_rfl) rfl ?_
     intro hB
     refine Drawn.loadb hTT hB rfl h4.obj (by first | exact fun h=>h | (intro h; omega) | assumption) rfl rfl ?_
     refine Drawn.loads hTT hB rfl htb4 (by first | exact fun h=>h | (intro h; omega) | assumption) rfl rfl ?_
     refine Drawn.loadb hTT hB rfl htb4 (by first | exact fun h=>h | (intro h; omega) | assumption) rfl rfl ?_
     refine Drawn.arith hTT hB rfl (w64 (by omega)) rfl ?_
     rw [hn']
     refine Drawn.nil hB ?_
     intro w5 hw5
     refine Goes.adv hTT 400 rfl ?_
     have hw05:=hw04.trans hw5
     refine Goes.call rfl (sto_Zero (h4.grow hw5) hs.may hs.bl q i' n' (hq2.grow hw05) hq3 (checkM_q hq1 (check_of pv (by omega) (by omega) (by omega))) (by rw [hpq]; exact pf)) ?_
     rintro _ w6 ⟨rfl,hz6,hc6⟩
     refine Goes.adv hTT 400 rfl ?_
     rw [hq1] at hz6
     have htb6:=hc6.heap (hw5.heap' htb4) htF
     have hsP:=hs.put t.q i' (zeros_in n')
     have hQP:stQ (stPut S.c s t.q i' (zeros n')) (j:Nat)=t.q:=stQ_of (s:=stPut S.c s t.q i' (zeros n')) ht
     have hmi:∀ m,stMv (stPut S.c s t.q i' (zeros n')) (stQ (stPut S.c s t.q i' (zeros n')) (j:Nat)).cls=some m→i'+n'≤m.size:=fun m hm=>by
      rw [hQP] at hm
      obtain ⟨k,ek,_,hmk⟩:=mv_some hm
      have:=hold_small hs (k:=k) (m:=m) hmk ht ek
      omega
     refine Goes.loads hTT rfl htb6 rfl rfl ?_
     refine Goes.loadb hTT rfl htb6 rfl rfl ?_
     refine Goes.arith hTT rfl (w64 (by omega)) rfl ?_
     rw [hn']
     refine Goes.call rfl (store_wrote hz6 hsP (j:Nat) q i' n' (by rw [hQP,← hq1]; rfl) hmi) ?_
     rintro _ wx ⟨Fx,Frx,mox,hx,hF7,hc7⟩
     refine Goes.adv hTT 400 rfl ?_
     obtain ⟨sx,esx⟩:∃ sx,sx=stWrote (stPut S.c s t.q i' (zeros n')) (j:Nat) i' n':=⟨_,rfl⟩
     rw [← esx] at hx
     have hthx:sx.th=s.th:=by rw [esx,wrote_th]; rfl
     have eR:stResize S.c s (j:Nat) (i':Nat)={sx with th:=sx.th.set j (some ⟨(i':Nat),t.q⟩)}:=by
      unfold stResize
      rw [if_neg (fun h=>h e),hsz,if_pos hst,if_pos hlt,hQ,Int.toNat_natCast,hn',Int.toNat_natCast,wrote_set (s:=stPut S.c s t.q i' (zeros n')) _ _ _ ht,← esx]
      unfold stSetTh
      rw [Int.toNat_natCast]
     have hbyR:stBytes (stResize S.c s (j:Nat) (i':Nat))=stBytes s+((i':Int) - t.size):=by
      rw [eR,stBytes_eq]
      show ((sx.th.set j _).map szT).sum=_
      rw [hthx,bytes_set ht,← stBytes_eq]
      show _ - t.size+(i':Int)=_
      omega
     have hc06:Chg F w w6:=(noF hw05).trans hc6
     have hFx:∀ z,Fx z→F z∨w.heap.size≤z:=fun z hz=>(hF7 z hz).imp id (by have:=hc06.size; omega)
     have hcx:Chg F w wx:=hc06.trans hc7
     have htbx:=hc7.heap htb6 htF
     have htFx:¬ Fx tb:=fun hz=>(hF7 tb hz).elim htF (by have:=lt_of_heap htb6; omega)
     have hqx:PlcOk wx q:=⟨hq2.rd.far hq3 hcx,hq2.len⟩
     have hqFx:OutA Fx q.pa:=fun b' off s' e hz=>(hFx b' hz).elim (hq3 b' off s' e) (by have:=kd_lt (hq4 b' off s' e); omega)
     have hqAx:IntA wx q.pa:=hq4.chg hcx hq3
     refine Goes.drawn (q:=9) None' hTT mixed (by kernel_rfl) rfl ?_
     intro hB
     refine Drawn.loadb hTT hB rfl hx.obj (by first | exact fun h=>h | (intro h; omega) | assumption) rfl rfl ?_
     refine Drawn.loads hTT hB rfl htbx (by first | exact fun h=>h | (intro h; omega) | assumption) rfl rfl ?_
     refine Drawn.build hTT hB rfl rfl ?_
     refine Drawn.nil hB ?_
     intro wy hwy
     refine Goes.adv hTT 400 rfl ?_
     have hy:=hx.grow hwy
     have htby:=hwy.heap' htbx
     obtain ⟨al,hth⟩:=hy.th
     refine Goes.mapset hTT rfl (hth.1) ?_
     intro wz hal hsz' hzz
     refine Goes.adv hTT 400 rfl ?_
     have hTz:=hth.put (o:=j) (size:=((i':Nat):Int)) (q:=q) (qm:=t.q) hq1 (by rw [hthx]; exact hjl) hal hsz' hy.f2.2.2.2.1 (hqx.grow hwy) hqFx (hqAx.grow hwy)
     have hz:=hy.setTh hsz' hTz
     have htbz:=hsz'.heap htby (fun e=>htFx (e▸hy.f2.2.2.2.1))
     refine Goes.drawn (q:=8) None' hTT mixed (by kernel_rfl) rfl ?_
     intro hB
     refine Drawn.loadb hTT hB rfl hz.obj (by first | exact fun h=>h | (intro h; omega) | assumption) rfl rfl ?_
     refine Drawn.loadb hTT hB rfl htbz (by first | exact fun h=>h | (intro h; omega) | assumption) rfl rfl ?_
     refine Drawn.arith hTT hB rfl (w64 (by omega)) rfl ?_
     refine Drawn.nil hB ?_
     intro wu hwu
     refine Goes.adv hTT 400 rfl ?_
     refine Goes.arith hTT rfl (w64 (by omega)) rfl ?_
     refine Goes.store hTT rfl ((hz.grow hwu).obj) rfl rfl ?_
     intro wv hov hsv hzv
     refine Goes.adv hTT 400 rfl ?_
     have hv:=(hz.grow hwu).setBy (by2:=stBytes s+(((i':Nat):Int) - t.size)) hsv hov
     have hcxv:Chg Fx wx wv:=(((noF hwy).trans (hsz'.mono fun z _ e=>e▸hy.f2.2.2.2.1)).trans (noF hwu)).trans (hsv.mono fun z _ e=>e▸hz.f2.1)
     exact Goes.ret1 hTT rfl Tryz.func40 rfl rfl ⟨rfl,by rw [hbyR,eR]; exact .trans hFx hcx (.of hv hcxv)⟩
    ·have eR:stResize S.c s (j:Nat) size={s with th:=s.th.set j (some ⟨size,t.q⟩)}:=by
      unfold stResize
      rw [if_neg (fun h=>h e),hsz,if_pos hst,if_neg hlt,hQ]
      unfold stSetTh
      rw [Int.toNat_natCast]
     have hbyR:stBytes (stResize S.c s (j:Nat) size)=stBytes s+(size - t.size):=by
      rw [eR,stBytes_eq]
      show ((s.th.set j _).map szT).sum=_
      rw [bytes_set ht,← stBytes_eq]
      show _ - t.size+size=_
      omega
     refine Goes.no hTT rfl (decide_eq_false hlt) rfl ?_
     obtain ⟨wx,ewx⟩:∃ wx,wx=w4:=⟨_,rfl⟩
     obtain ⟨Fx,eFx⟩:∃ Fx,Fx=F:=⟨_,rfl⟩
     rw [← ewx]
     have hx:StoOk Fx Fr wx S s (stBytes s) mo:=by rw [eFx,ewx]; exact h4
     have htbx:=htb4
     rw [← ewx] at htbx
     have htFx:¬ Fx tb:=by rw [eFx]; exact htF
     have hFx:∀ z,Fx z→F z∨w.heap.size≤z:=fun z hz => .inl (by rw [← eFx]; exact hz)
     have hcx:Chg F w wx:=by rw [ewx]; exact noF hw04
     have hthx:s.th=s.th:=rfl
     have hqx:PlcOk wx q:=⟨hq2.rd.far hq3 hcx,hq2.len⟩
     have hqFx:OutA Fx q.pa:=fun b' off s' e hz=>(hFx b' hz).elim (hq3 b' off s' e) (by have:=kd_lt (hq4 b' off s' e); omega)
     have hqAx:IntA wx q.pa:=hq4.chg hcx hq3
     refine Goes.drawn (q:=9) None' hTT mixed (by kernel_rfl) rfl ?_
     intro hB
     refine Drawn.loadb hTT hB rfl hx.obj (by first | exact fun h=>h | (intro h; omega) | assumption) rfl rfl ?_
     refine Drawn.loads hTT hB rfl htbx (by first | exact fun h=>h | (intro h; omega) | assumption) rfl rfl ?_
     refine Drawn.build hTT hB rfl rfl ?_
     refine Drawn.nil hB ?_
     intro wy hwy
     refine Goes.adv hTT 400 rfl ?_
     have hy:=hx.grow hwy
     have htby:=hwy.heap' htbx
     obtain ⟨al,hth⟩:=hy.th
     refine Goes.mapset hTT rfl (hth.1) ?_
     intro wz hal hsz' hzz
     refine Goes.adv hTT 400 rfl ?_
     have hTz:=hth.put (o:=j) (size:=size) (q:=q) (qm:=t.q) hq1 (by rw [hthx]; exact hjl) hal hsz' hy.f2.2.2.2.1 (hqx.grow hwy) hqFx (hqAx.grow hwy)
     have hz:=hy.setTh hsz' hTz
     have htbz:=hsz'.heap htby (fun e=>htFx (e▸hy.f2.2.2.2.1))
     refine Goes.drawn (q:=8) None' hTT mixed (by kernel_rfl) rfl ?_
     intro hB
     refine Drawn.loadb hTT hB rfl hz.obj (by first | exact fun h=>h | (intro h; omega) | assumption) rfl rfl ?_
     refine Drawn.loadb hTT hB rfl htbz (by first | exact fun h=>h | (intro h; omega) | assumption) rfl rfl ?_
     refine Drawn.arith hTT hB rfl (w64 (by omega)) rfl ?_
     refine Drawn.nil hB ?_
     intro wu hwu
     refine Goes.adv hTT 400 rfl ?_
     refine Goes.arith hTT rfl (w64 (by omega)) rfl ?_
     refine Goes.store hTT rfl ((hz.grow hwu).obj) rfl rfl ?_
     intro wv hov hsv hzv
     refine Goes.adv hTT 400 rfl ?_
     have hv:=(hz.grow hwu).setBy (by2:=stBytes s+(size - t.size)) hsv hov
     have hcxv:Chg Fx wx wv:=(((noF hwy).trans (hsz'.mono fun z _ e=>e▸hy.f2.2.2.2.1)).trans (noF hwu)).trans (hsv.mono fun z _ e=>e▸hz.f2.1)
     exact Goes.ret1 hTT rfl Tryz.func40 rfl rfl ⟨rfl,by rw [hbyR,eR]; exact .trans hFx hcx (.of hv hcxv)⟩
   |false =>
    have e:stResizeE S.c s (j:Nat) size=stFits S.c s size:=by unfold stResizeE; rw [if_neg (fun h=>h e0),if_neg g1,hsz,if_neg (by rw [hst]; decide)]
    refine Goes.no hTT rfl rfl rfl ?_
    refine Goes.call rfl (store_Fits h4 hs size) ?_
    rintro _ w5 ⟨rfl,hw5⟩
    refine Goes.adv hTT 400 rfl ?_
    have hw05:=hw04.trans hw5
    have htb5:=hw5.heap' htb4
    by_cases hf:stFits S.c s size=0
    ·rw [hf]
     refine Goes.no hTT rfl rfl rfl ?_
     obtain ⟨t',M⟩:=move_facts22 hs ht hst hf
     have hqc:q.cls=t.q.cls:=congrArg PlcM.cls hq1
     refine Goes.loadb hTT rfl htb5 rfl rfl ?_
     rw [hqc]
     refine Goes.call rfl (store_finish (h.grow hw05) hs t.q.cls) ?_
     rintro _ w6 ⟨F6,Fr6,mo6,h6,hF6,hc6⟩
     refine Goes.adv hTT 400 rfl ?_
     have htb6:=hc6.heap htb5 htF
     have htF6:¬ F6 tb:=fun hz=>(hF6 tb hz).elim htF (by have:=lt_of_heap htb5; omega)
     have z05:=hw05.size
     have z56:=hc6.size
     have hc06:Chg F w w6:=(noF hw05).trans hc6
     obtain ⟨s1,es1⟩:∃ s1,s1=stFinish s t.q.cls:=⟨_,rfl⟩
     obtain ⟨M1,M2,M3,M4,M5,M6,M7,M8⟩:=M
     have hb1:=bytes_finish hs t.q.cls
     have eR:stResize S.c s (j:Nat) size=stMoveTo S.c s (j:Nat) size:=by unfold stResize; rw [if_neg (fun h=>h (e.trans hf)),hsz,if_neg (by rw [hst]; decide)]
     have eM:stMoveTo S.c s (j:Nat) size=stClear S.c (stPut S.c (stLay S.c (chgTot s1 (chargeM S.c t'.q.plc 0 (min t.size size).toNat)) (j:Nat) size) (stQ (stLay S.c (chgTot s1 (chargeM S.c t'.q.plc 0 (min t.size size).toNat)) (j:Nat) size) (j:Nat)) 0 (toldM S.c t'.q.plc s1.bs 0 (min t.size size).toNat)) t'.q:=by
      unfold stMoveTo
      simp only
      rw [stQ_of ht,stSize_of ht,← es1,stQ_of (es1▸M2)]
     rw [← es1] at h6 M1 M2 M6 M7 M8 hb1
     obtain ⟨m,em⟩:=Int.eq_ofNat_of_zero_le (show 0≤min t.size size by omega)
     rw [em,Int.toNat_natCast] at eM M8
     have hm0:0<m:=by omega
     obtain ⟨al,hth⟩:=h6.th
     obtain ⟨q1,k1,k2,k3,k4,k5⟩:=hth.2.2.1 j t' M2
     obtain ⟨pv,ph,pf⟩:=place_holds M1 M2
     have hjl1:=(List.getElem?_eq_some_iff.1 M2).1
     refine Goes.loadb hTT rfl h6.obj rfl rfl ?_
     refine Goes.lookup hTT rfl (hth.1) ((show lookV al _ (j:Nat) false = .agg (thL t'.size q1).toArray from by unfold lookV; rw [k2]; rfl)) rfl ?_
     refine Goes.field hTT rfl (show Value.agg ((thL t'.size q1).toArray.extract 1 5) = .agg (plcL q1).toArray from rfl) rfl ?_
     refine Goes.alloc hTT rfl ?_
     intro pb w7 e7 hpb7 hw7 hz7
     refine Goes.adv hTT 400 rfl ?_
     refine Goes.store hTT rfl hpb7 rfl rfl ?_
     intro w8 hpb8 hs8 hz8
     refine Goes.adv hTT 400 rfl ?_
     replace hpb8:w8.heap[pb]? = some (.cells (plcL q1).toArray 106 (0,0)):=hpb8
     have hw68:Chg None' w6 w8:=hw7.since hs8 (fun z hz e=>by omega)
     have h8:=h6.grow hw68
     have htb8:=hw68.heap' htb6
     have hpF:¬ F6 pb:=fun hz=>by have:=h6.low pb hz; omega
     have hd:∀ w',Chg None' w8 w'→Does Tryz.prog 72 #[vwV S.v,.agg (plcL q1).toArray,.int .i64 0,.int .i64 (m:Nat)] w' (fun v w2=>Chg (foot S.A) w' w2 ∧ ∃ u1,v = .tuple #[u1,.int .i64 0]∧StoOk F6 Fr6 w2 S (chgTot s1 (chargeM S.c t'.q.plc 0 m)) (stBytes s) mo6∧Own w8.heap.size 5 1 w2 u1 m ((toldM S.c t'.q.plc s1.bs 0 m).map (Value.int .u8))):=fun w' hw'=>by
      have hh:=sto_Read (h8.grow hw') M1.may M1.bl q1 0 m (k3.grow (hw68.trans hw')) k4 (checkM_q k1 (check_of pv (by omega) (by omega) (by omega))) (by rw [show q1.pages=t'.q.pages from congrArg PlcM.pages k1]; exact pf)
      rw [k1] at hh
      exact hh.mono fun v w2 ⟨u1,e,a1,a2,a3⟩=>⟨a2,u1,e,a1,a3.from' hw'.size⟩
     have hnS:¬ foot S.A S.sb:=fun hz=>hz.elim (kd_ne h.kds.1 h.kds.2.2.1 (by decide)) (fun e=>by rw [h.amb] at e; exact kd_ne h.kds.1 h.kds.2.2.2.2.2 (by decide) (Option.some.inj e).symm)
     have hnT:¬ foot S.A tb:=fun hz=>htF (h.footF _ hz)
     have hnP:¬ foot S.A pb:=fun hz=>hpF (h6.footF _ hz)
     have emin:(if size<t.size then size else t.size)=(m:Int):=by rw [← em]; split <;> omega
     refine Goes.drawn (q:=14) (foot S.A) hTT mixed (by kernel_rfl) rfl ?_
     intro hB
     refine Drawn.loadb hTT hB rfl h8.obj (by first | exact fun h=>h | (intro h; omega) | assumption) rfl rfl ?_
     refine Drawn.loads hTT hB rfl hpb8 (by first | exact fun h=>h | (intro h; omega) | assumption) rfl rfl ?_
     refine Drawn.loadb hTT hB rfl htb8 (by first | exact fun h=>h | (intro h; omega) | assumption) rfl rfl ?_
     rw [emin]
     refine Drawn.callQ hB rfl rfl (hd) ?_
     rintro _ w9 hc9 ⟨u1,rfl,h9,ho9⟩
     refine Drawn.adv hTT hB rfl ?_
     refine Drawn.nil hB ?_
     intro w10 hw10
     refine Goes.adv hTT 400 rfl ?_
     have z68:=hw68.size
     have z9:=hc9.size
     have z10:=hw10.size
     have h10:=h9.grow hw10
     have htb9:=hc9.heap htb8 hnT
     have hpb9:=hc9.heap hpb8 hnP
     obtain ⟨g,cap,cur,rfl,hgb,hg9,hcap,hcm,htake⟩:=ho9.form hm0
     rw [Nat.mul_one] at htake
     have hlg9:=lt_of_heap hg9
     have hlen:(toldM S.c t'.q.plc s1.bs 0 m).length=m:=by unfold toldM; rw [List.length_map,List.length_range]
     have hg10:=hw10.heap' hg9
     have hgF:¬ F6 g:=fun hz=>by have:=h8.low g hz; omega
     have htb10:=hw10.heap' htb9
     have hpb10:=hw10.heap' hpb9
     refine Goes.drawn (q:=6) None' hTT mixed (by kernel_rfl) rfl ?_
     intro hB
     refine Drawn.loadb hTT hB rfl h10.obj (by first | exact fun h=>h | (intro h; omega) | assumption) rfl rfl ?_
     refine Drawn.loadb hTT hB rfl htb10 (by first | exact fun h=>h | (intro h; omega) | assumption) rfl rfl ?_
     refine Drawn.nil hB ?_
     intro w11 hw11
     refine Goes.adv hTT 400 rfl ?_
     have h11:=h10.grow hw11
     have htb11:=hw11.heap' htb10
     have hpb11:=hw11.heap' hpb10
     have hg11:=hw11.heap' hg10
     have hA0:=stBytes_in M6
     have eA0:stBytes {s1 with th:=s1.th.set j none}=stBytes s - t.size:=by
      rw [stBytes_eq]
      show ((s1.th.set j none).map szT).sum=_
      rw [bytes_set M2,← stBytes_eq,hb1]
      show _ - t'.size+0=_
      omega
     rw [eA0] at hA0
     refine Goes.arith hTT rfl (w64 (by omega)) rfl ?_
     refine Goes.store hTT rfl h11.obj rfl rfl ?_
     intro w12 ho12 hs12 hz12
     refine Goes.adv hTT 400 rfl ?_
     have h12:=h11.setBy (by2:=stBytes s - t.size) hs12 ho12
     have htb12:=hs12.heap htb11 (fun e=>htF6 (e▸h11.f2.1))
     have hpb12:=hs12.heap hpb11 (fun e=>hpF (e▸h11.f2.1))
     have hg12:=hs12.heap hg11 (fun e=>hgF (e▸h11.f2.1))
     have hc812:Chg F6 w8 w12:=(((hc9.mono fun z _ hz=>h6.footF z hz).trans (noF hw10)).trans (noF hw11)).trans (hs12.mono fun z _ e=>e▸h11.f2.1)
     have hc012:Chg F w w12:=((hc06.trans (noF hw68)).since hc812 (fun z hz hf=>(hF6 z hf).elim id (by omega)))
     obtain ⟨sc,esc⟩:∃ sc,sc=chgTot s1 (chargeM S.c t'.q.plc 0 m):=⟨_,rfl⟩
     have hsc:sc.OkP S.c none:=esc▸StM.OkP.tot M1 _
     have hth1:sc.th=s1.th:=by rw [esc]; rfl
     rw [← esc] at h12 M8 eM
     have hfc:stFits S.c sc size=0:=by rw [esc]; exact M7
     refine Goes.call rfl (store_lay h12 hsc (by rw [hth1]; exact hjl1) hfc M8 (by omega)) ?_
     rintro _ w13 ⟨F13,Fr13,mo13,h13,hF13,hc13⟩
     refine Goes.adv hTT 400 rfl ?_
     have z812:=hc812.size
     have z13:=hc13.size
     have hpF13:¬ F13 pb:=fun hz=>(hF13 pb hz).elim hpF (by have:=lt_of_heap hpb12; omega)
     have hgF13:¬ F13 g:=fun hz=>(hF13 g hz).elim hgF (by have:=lt_of_heap hg12; omega)
     have hpb13:=hc13.heap hpb12 hpF
     have hg13:=hc13.heap hg12 hgF
     obtain ⟨s2,es2⟩:∃ s2,s2=stLay S.c sc (j:Nat) size:=⟨_,rfl⟩
     have hth2:s2.th[j]? = some (some ⟨size,layQ S.c sc (j:Nat) size⟩):=by
      rw [es2]
      show (sc.th.set (j:Int).toNat _)[j]? = _
      rw [Int.toNat_natCast,List.getElem?_set_self (by rw [hth1]; exact hjl1)]
     have hby2:stBytes s2=stBytes s - t.size+size:=by
      rw [es2,bytes_lay j size (x:=some t') (by rw [hth1]; exact M2)]
      have:stBytes sc=stBytes s:=by rw [esc,← hb1]; rfl
      rw [this]
      show _ - t'.size+size=_
      omega
     rw [← es2] at h13 M8 eM
     obtain ⟨pv2,ph2,pf2⟩:=place_holds M8 hth2
     simp only at pv2 ph2 pf2
     obtain ⟨al13,hth13⟩:=h13.th
     obtain ⟨q2,j1,j2,j3,j4,j5⟩:=hth13.2.2.1 j _ hth2
     simp only at j1 j2
     refine Goes.drawn (q:=12) None' hTT mixed (by kernel_rfl) rfl ?_
     intro hB
     refine Drawn.loadb hTT hB rfl h13.obj (by first | exact fun h=>h | (intro h; omega) | assumption) rfl rfl ?_
     refine Drawn.loadb hTT hB rfl h13.obj (by first | exact fun h=>h | (intro h; omega) | assumption) rfl rfl ?_
     refine Drawn.lookup hTT hB rfl (hth13.1) (by first | (intro b h; cases h; assumption) | (intro b h hs; cases h; omega)) ((show lookV al13 _ (j:Nat) false = .agg (thL size q2).toArray from by unfold lookV; rw [j2]; rfl)) rfl ?_
     refine Drawn.field hTT hB rfl (show Value.agg ((thL size q2).toArray.extract 1 5) = .agg (plcL q2).toArray from rfl) rfl ?_
     refine Drawn.nil hB ?_
     intro w14 hw14
     refine Goes.adv hTT 400 rfl ?_
     have h14:=h13.grow hw14
     have hg14:=hw14.heap' hg13
     have hpb14:=hw14.heap' hpb13
     have hR14:Rd .u8 w14 (some ⟨g,0,none⟩) (toldM S.c t'.q.plc s1.bs 0 m):=Rd.of_take hg14 (by rw [hlen]; exact htake)
     have hWr:=sto_Write h14 M8.may M8.bl q2 0 (some ⟨g,0,none⟩) cap (toldM S.c t'.q.plc s1.bs 0 m) (j3.grow hw14) j4 (checkM_q j1 (by rw [hlen]; exact check_of pv2 (by omega) (by omega) (by omega))) (by rw [show q2.pages=(layQ S.c sc (j:Nat) size).pages from congrArg PlcM.pages j1]; exact pf2) hR14 (by rw [hlen]; exact hcap) (toldM_in M1.bi 0 m) (fun _ b' off s' e=>by cases e; exact hgF13)
     rw [hlen] at hWr
     refine Goes.call rfl (hWr) ?_
     rintro _ w15 ⟨rfl,h15,hc15⟩
     refine Goes.adv hTT 400 rfl ?_
     rw [j1] at h15
     have hpb15:=hc15.heap hpb14 hpF13
     have hqF13:OutA F13 q1.pa:=fun b' off s' e hz=>(hF13 b' hz).elim (k4 b' off s' e) (by have:=kd_lt (k5 b' off s' e); omega)
     have hq13:PlcOk w13 q1:=⟨((k3.grow hw68).rd).far k4 (hc812.trans hc13),k3.len⟩
     have hq15:PlcOk w15 q1:=⟨((hq13.grow hw14).rd).far hqF13 hc15,hq13.len⟩
     refine Goes.loads hTT rfl hpb15 rfl rfl ?_
     have hQ2:stQ s2 (j:Nat)=layQ S.c sc (j:Nat) size:=stQ_of hth2
     have hP15:=M8.put (layQ S.c sc (j:Nat) size) 0 (toldM_in (c:=S.c) (q:=t'.q.plc) M1.bi 0 m)
     refine Goes.call rfl (store_clear h15 q1 (by rw [k1]; exact hP15) hq15) ?_
     rintro _ w16 hst16
     refine Goes.adv hTT 400 rfl ?_
     rw [k1] at hst16
     rw [hQ2] at eM
     have hbyR:stBytes (stResize S.c s (j:Nat) size)=stBytes s - t.size+size:=by
      rw [eR,eM,bytes_clear hP15,← hby2]; rfl
     have hFF:∀ z,F13 z→F z∨w.heap.size≤z:=fun z hz=>(hF13 z hz).elim (fun hz=>(hF6 z hz).imp id (by omega)) (by have:=hc012.size; omega)
     have hc013:Chg F w w13:=hc012.since hc13 (fun z hz hf=>(hF6 z hf).elim id (by omega))
     have hc015:Chg F w w15:=(hc013.trans (noF hw14)).since hc15 (fun z hz hf=>(hFF z hf).elim id (by omega))
     exact Goes.ret1 hTT rfl Tryz.func40 rfl rfl ⟨by rw [e,hf],by rw [hbyR,eR,eM]; exact .trans hFF hc015 hst16⟩
    ·refine Goes.yes hTT rfl (by simpa using hf) rfl ?_
     exact Goes.ret1 hTT rfl Tryz.func40 rfl rfl ⟨by rw [e],same hw05 (by rw [e]; exact hf)⟩
 ·have e:stResizeE S.c s o size=ownedE s o:=by unfold stResizeE; rw [if_pos e0]
  refine Goes.yes hTT rfl (by simpa using e0) rfl ?_
  exact Goes.ret1 hTT rfl Tryz.func40 rfl rfl ⟨by rw [e]; rfl,same hw03 (by rw [e]; exact e0)⟩
end Go.Proofs.YtnaoiegcobineaaGreatDoor
namespace Go.Proofs.YtnaoiegcobineaaGreatDoor
open Go.RowKit
theorem setV_ints {k:Nat} {l:List Int} {r:List Value} {x:Int} (hk:k<l.length):setV (l.map (Value.int .i64)++r) (0+k) [.int .i64 x]=some ((l.set k x).map (Value.int .i64)++r):=by
 have:=fl_set (cells:=fun n:Int => [Value.int .i64 n]) (sz:=1) (fun _=>rfl) (xs:=l) (k:=k) (y:=x) (rest:=r) hk
 have e:∀ l:List Int,fl (fun n:Int => [Value.int .i64 n]) l=l.map (Value.int .i64):=fun l=>by unfold fl; induction l with | nil=>rfl | cons a l ih=>simp [List.flatMap_cons,ih]
 rw [e,e,Nat.mul_one] at this
 exact this
theorem store_Set {F Fr:Nat→Prop} {w:World} {S:Sto} {s:StM} {mo:Mo} (h:StoOk F Fr w S s (stBytes s) mo) (hs:s.Ok S.c) (k keep:Int):Does Tryz.prog 42 #[stoV S,.int .i64 k,.int .i64 keep] w (StE F w S (stSet s k keep) (stSetE s k keep)):=by
 obtain ⟨f1,f2,f3⟩:=OkP.few hs
 have same:stSetE s k keep=1→StE F w S (stSet s k keep) (stSetE s k keep) (.int .i64 1) w:=fun he=>by
  have e:stSet s k keep=s:=by unfold stSet; rw [if_neg (by rw [he]; decide)]
  rw [e,he]
  exact ⟨rfl,.of h (Chg.refl _ _)⟩
 refine Does.enter Tryz.func42 rfl Tryz.ntmps42 rfl rfl ?_
 refine Goes.adv hTT 400 rfl ?_
 refine Goes.call rfl (store_there h hs k) ?_
 rintro _ _ ⟨rfl,rfl⟩
 refine Goes.adv hTT 400 rfl ?_
 cases ht:thereK s k with
 |false =>
  have e:stSetE s k keep=1:=by
   unfold stSetE
   rw [if_pos]
   unfold thereK at ht
   simp only [Bool.and_eq_false_iff,decide_eq_false_iff_not] at ht
   omega
  refine Goes.yes hTT rfl rfl rfl ?_
  exact Goes.ret1 hTT rfl Tryz.func42 rfl rfl (same e)
 |true =>
  obtain ⟨j,rfl,hj⟩:=there_yes ht
  refine Goes.no hTT rfl rfl rfl ?_
  refine Goes.fork hTT rfl rfl rfl (fun g1 => ?_) (fun g1 => ?_)
  ·have e:stSetE s (j:Nat) keep=1:=by unfold stSetE; rw [if_pos]; have:=of_decide_eq_true g1; omega
   exact Goes.ret1 hTT rfl Tryz.func42 rfl rfl (same e)
  ·have g1':=of_decide_eq_false g1
   refine Goes.fork hTT rfl rfl rfl (fun g2 => ?_) (fun g2 => ?_)
   ·have e:stSetE s (j:Nat) keep=1:=by unfold stSetE; rw [if_pos]; have:=of_decide_eq_true g2; omega
    exact Goes.ret1 hTT rfl Tryz.func42 rfl rfl (same e)
   ·have g2':=of_decide_eq_false g2
    have e:stSetE s (j:Nat) keep=0:=by unfold stSetE; rw [if_neg]; omega
    have eS:stSet s (j:Nat) keep={s with keep:=s.keep.set j keep}:=by unfold stSet; rw [if_pos e,Int.toNat_natCast]
    have hjk:j<s.keep.length:=by omega
    refine Goes.loadb hTT rfl h.obj rfl rfl ?_
    refine Goes.index hTT rfl (j:=j) (by omega) (by omega) (by first | rfl | omega | (simp; done) | (simp; omega)) rfl ?_
    refine Goes.store hTT rfl h.kee (setV_ints (x:=keep) hjk) rfl ?_
    intro w1 hb1 hs1 hz1
    refine Goes.adv hTT 400 rfl ?_
    have h1:=h.setKeep (l:=s.keep.set j keep) (by rw [List.length_set]) hs1 hb1
    exact Goes.ret1 hTT rfl Tryz.func42 rfl rfl ⟨by rw [e],by rw [eS]; exact .of h1 (hs1.mono fun z _ e=>e▸h.f2.2.1)⟩
theorem tick_stop {c:Conf} {x:StM × Int} (h:x.2<1) (k:Nat):tickK c x k=x:=by unfold tickK; rw [if_pos h]
theorem tick_rest {c:Conf} {s:StM} {k:Nat} (h:(tickTo c s k).2<1):∀ d,tickTo c s (k+d)=tickTo c s k
 |0=>rfl
 |d+1=>by rw [← Nat.add_assoc,tickTo_succ,tick_rest h d,tick_stop h]
theorem step_in {c:Conf} (h:mayB c=true):1≤c.step∧c.step≤65536:=by
 unfold mayB at h
 simp only [Bool.and_eq_true,decide_eq_true_eq,withinM] at h
 omega
theorem bytes_tickTo {c:Conf} {s:StM} (h:s.Ok c):∀ n,stBytes (tickTo c s n).1=stBytes s∧(tickTo c s n).1.mv.length=s.mv.length∧0≤(tickTo c s n).2∧(tickTo c s n).2≤65536
 |0=>by
  have:=step_in h.may
  exact ⟨rfl,rfl,by show 0≤c.step; omega,by show c.step≤_; omega⟩
 |n+1=>by
  obtain ⟨i1,i2,i3,i4⟩:=bytes_tickTo h n
  rw [tickTo_succ]
  unfold tickK
  split
  ·exact ⟨i1,i2,i3,i4⟩
  ·split
   ·exact ⟨(bytes_begin c _ n).trans i1,(begin_th c _ n).2.2.2.trans i2,i3,i4⟩
   ·refine ⟨(bytes_go (StM.OkP.begin (StM.OkP.tickTo h n) n) n _).trans ((bytes_begin c _ n).trans i1),((go_keep _ n _).2.2.1).trans ((begin_th c _ n).2.2.2.trans i2),?_⟩
    rename_i m hm
    have:(goN m (tickTo c s n).2:Int)≤(tickTo c s n).2:=by unfold goN stepK; omega
    simp only
    omega
theorem store_Tick {F Fr:Nat→Prop} {w:World} {S:Sto} {s:StM} {mo:Mo} (h:StoOk F Fr w S s (stBytes s) mo) (hs:s.Ok S.c):Does Tryz.prog 37 #[stoV S] w (StE F w S (stTick S.c s) 0):=by
 obtain ⟨f1,f2,f3⟩:=OkP.few hs
 have fin:∀ {k w'},StTo F w w' S (tickTo S.c s k).1 (stBytes s)→tickTo S.c s s.mv.length=tickTo S.c s k→StE F w S (stTick S.c s) 0 (.int .i64 0) w':=fun {k w'} ht he=>by
  unfold stTick
  rw [he]
  exact ⟨rfl,by rw [(bytes_tickTo hs k).1]; exact ht⟩
 refine Does.enter Tryz.func37 rfl Tryz.ntmps37 rfl rfl ?_
 refine Goes.adv hTT 400 rfl ?_
 refine Goes.loadb hTT rfl h.obj rfl rfl ?_
 refine Goes.loop (α:=Nat) (fun k => [(0,false,stoV S),(3,false,.int .i64 (tickTo S.c s k).2),(4,false,.func (.func 82) #[stoV S] #[]),(5,false,.int .i64 k)])
  (fun k w'=>StTo F w w' S (tickTo S.c s k).1 (stBytes s)∧k≤s.mv.length) (fun k=>s.mv.length - k) 0 ⟨rfl,rfl,rfl,rfl,trivial⟩ ⟨.of h (Chg.refl _ _),by omega⟩ ?_
 rintro k w5 ⟨⟨F5,Fr5,mo5,h5,hF5,hc5⟩,hk⟩ ih
 obtain ⟨b1,b2,b3,b4⟩:=bytes_tickTo hs k
 have hs5:=StM.OkP.tickTo hs k
 have tsucc:=tickTo_succ S.c s k
 obtain ⟨x,ex⟩:∃ x,x=tickTo S.c s k:=⟨_,rfl⟩
 rw [← ex] at h5 b1 b2 b3 b4 hs5 tsucc ⊢
 have fin5:tickTo S.c s s.mv.length=tickTo S.c s k→StE F w S (stTick S.c s) 0 (.int .i64 0) w5:=fun he=>fin ⟨F5,Fr5,mo5,by rw [← ex]; exact h5,hF5,hc5⟩ he
 refine Goes.adv hTT 400 rfl ?_
 refine Goes.loadb hTT rfl h5.obj rfl rfl ?_
 by_cases hlt:k<s.mv.length
 ·refine Goes.yes hTT rfl (decide_eq_true (by omega)) rfl ?_
  by_cases hl:0<x.2
  ·refine Goes.yes hTT rfl (decide_eq_true hl) rfl ?_
   refine Goes.call rfl (store_begin h5 hs5 k (by omega)) ?_
   rintro _ w6 ⟨F6,Fr6,mo6,h6,hF6,hc6⟩
   refine Goes.adv hTT 400 rfl ?_
   have z5:=hc5.size
   have hF06:∀ z,F6 z→F z∨w.heap.size≤z:=fun z hz=>(hF6 z hz).elim (hF5 z) (by omega)
   have hc06:Chg F w w6:=hc5.since hc6 (fun z hz hf=>(hF5 z hf).elim id (by omega))
   have hs6:=StM.OkP.begin hs5 k
   refine Goes.call rfl (store_moving h6 hs6 (k:Nat)) ?_
   rintro _ _ ⟨rfl,rfl⟩
   refine Goes.adv hTT 400 rfl ?_
   cases hm:stMv (stBegin S.c x.1 k) (k:Nat) with
   |none =>
    have et:tickTo S.c s (k+1)=(stBegin S.c x.1 k,x.2):=by rw [tsucc]; unfold tickK; rw [if_neg (by omega),hm]
    refine Goes.no hTT rfl rfl rfl ?_
    refine Goes.arith hTT rfl (w64 (by omega)) rfl ?_
    refine ih (k+1) _ _ ⟨⟨F6,Fr6,mo6,?_,hF06,hc06⟩,hlt⟩ (by omega) ?_
    ·rw [et]; exact h6
    ·rw [et]; exact ⟨rfl,rfl,rfl,rfl,trivial⟩
   |some m =>
    obtain ⟨k',ek',hk',hmk⟩:=mv_some hm
    obtain rfl:k=k':=by omega
    have et:tickTo S.c s (k+1)=(stGo (stBegin S.c x.1 k) k x.2,x.2 - goN m x.2):=by rw [tsucc]; unfold tickK; rw [if_neg (by omega),hm]
    have hgn:(goN m x.2:Int)≤x.2:=by unfold goN stepK; omega
    refine Goes.yes hTT rfl rfl rfl ?_
    refine Goes.call rfl (store_proceed h6 hs6 hmk x.2) ?_
    rintro _ w7 ⟨rfl,hst⟩
    refine Goes.adv hTT 400 rfl ?_
    refine Goes.arith hTT rfl (w64 (by omega)) rfl ?_
    refine Goes.arith hTT rfl (w64 (by omega)) rfl ?_
    refine ih (k+1) _ _ ⟨?_,hlt⟩ (by omega) ?_
    ·rw [et]; exact .trans hF06 hc06 hst
    ·rw [et]; exact ⟨rfl,rfl,rfl,rfl,trivial⟩
  ·refine Goes.no hTT rfl (decide_eq_false hl) rfl ?_
   have he:=fin5 (by obtain ⟨d,hd⟩:=Nat.exists_eq_add_of_le hk; rw [hd]; exact tick_rest (by rw [← ex]; omega) d)
   exact Goes.ret1 hTT rfl Tryz.func37 rfl rfl he
 ·refine Goes.no hTT rfl (decide_eq_false (by omega)) rfl ?_
  have he:=fin5 (by rw [show s.mv.length=k by omega])
  exact Goes.ret1 hTT rfl Tryz.func37 rfl rfl he
end Go.Proofs.YtnaoiegcobineaaGreatDoor
namespace Go.Proofs.YtnaoiegcobineaaGreatDoor
open Go.RowKit
def Rm.relap (R:Rm) (l:Int):Rm:={R with lap:=l}
def Sto.relap (S:Sto) (l:Int):Sto:={S with R:=S.R.relap l}
theorem RmSt.relap {F:Nat→Prop} {w w':World} {R:Rm} {M:RmM} (h:RmSt F w R M) {b:Nat} (hb:R.mo=some b) {t l:Int} (hm:MeterAt w' b t l) (hc:Chg (fun z=>z=b) w w'):RmSt F w' (R.relap l) {M with tot:=t}:=by
 obtain ⟨hF,hm0⟩:=h.met b hb
 have kb:=kd_meter hm0
 have hS:∀ z,z=b→F z:=fun z e=>e▸hF
 have kp:=h.pool.kds
 have ne1:R.P.pb≠b:=kd_ne kp.1 kb (by decide)
 have ne2:R.P.ab≠b:=kd_ne kp.2 kb (by decide)
 have ne3:R.lm≠b:=kd_ne (kd_lg h.lg) kb (by simp)
 have ht:0≠b:=fun e=>h.tf (e▸hF)
 refine ⟨{h.ok with tot:=by have:=hm.2; show 0≤t∧t≤4611686018427387904; omega},hc.heap h.obj (fun e=>h.rf (hS _ e)),h.cls.chg hc hS,h.kee.chg hc hS,h.may,fun b' hb' => ?_,fun k hk=>hc.cell (h.sl k hk) (fun e=>h.sf (hS _ e)),h.pool.chg hc ne1 ne2,h.pf,?_,h.lg.chg hc (fun z _ h => .inl (hS z h)) ne3,h.lf,h.rf,h.sf,fun z hz=>by have:=h.low z hz; have:=hc.size; omega,h.tab.chg hc ht,h.tf,fun z hz=>⟨by have:=(h.xl z hz).1; have:=hc.size; omega,(h.xl z hz).2⟩⟩
 ·replace hb':R.mo=some b':=hb'
  rw [hb] at hb'; cases hb'; exact ⟨hF,hm⟩
 ·obtain ⟨G,a,d⟩:=h.sh
  refine ⟨G,fun k x hx => ?_,d⟩
  obtain ⟨h1,h2,h3⟩:=a k x hx
  have ap:=h2.at'.apart kb (by decide)
  exact ⟨h1,⟨h2.ok,h2.pos,h2.of,h2.at'.chg hc (fun z e=>e▸ap.1) (fun z e=>e▸ap.2) ht,h2.pool.chg hc (by rw [h1]; exact ne1) (by rw [h1]; exact ne2)⟩,h3⟩
theorem StoOk.relap {F Fr:Nat→Prop} {w w':World} {S:Sto} {s:StM} {by':Int} {mo:Mo} (h:StoOk F Fr w S s by' mo) {l:Int} (hm:MeterAt w' S.mb s.rm.tot l) (hc:Chg (fun z=>z=S.mb) w w'):StoOk F Fr w' (S.relap l) s by' mo:=by
 obtain ⟨k1,k2,k3,k4,k5,k6⟩:=h.kds
 obtain ⟨n1,n2,n3,n4,n5,n6⟩:=h.nF
 have hF:∀ z,z=S.mb→F z:=fun z e=>e▸h.mb.1
 have hca:=h.ca.chg hc hF
 have hka:=h.ka.chg hc hF
 exact {h with
  obj:=hc.heap h.obj (kd_ne k1 k6 (by decide)),kee:=hc.heap h.kee (kd_ne k2 k6 (by decide)),room:=h.room.relap h.rmo hm hc,
  ar:=⟨hc.heap h.ar.obj (fun e=>n1 (hF _ e)),hc.heap h.ar.dat (kd_ne k3 k6 (by decide)),hc.heap h.ar.cap (fun e=>n2 (hF _ e)),fun b hb=>by
   replace hb:S.A.mb=some b:=hb
   rw [h.amb] at hb; cases hb; exact hm,h.ar.len,h.ar.rng⟩,
  vw:=⟨hc.heap h.vw.obj (fun e=>n3 (hF _ e)),by
   show ConfOk w' S.v.c S.v.p
   have:=h.vw.conf
   rw [h.vc,h.vp] at this ⊢
   exact ⟨hca.1,hka.1,this.lc,this.lk,this.size⟩,h.vw.may⟩,
  th:=h.th.far hc hF (kd_ne k4 k6 (by simp)),mvs:=hc.heap h.mvs (kd_ne k5 k6 (by decide)),mob:=h.objAt hc (fun k b m hm=>kd_ne (h.kdm hm) k6 (by decide)),ca:=hca,ka:=hka,
  low:=fun z hz=>by have:=h.low z hz; have:=hc.size; omega}
theorem store_Steps1 {F Fr:Nat→Prop} {w:World} {S:Sto} {s:StM} {by':Int} {mo:Mo} (h:StoOk F Fr w S s by' mo) (b:Nat) (hb:sptrBox w b (stoV S)):Does Tryz.prog 56 [.pointer (some ⟨b,0,none⟩)].toArray w (fun v w' => ∃ n:Int,v = .int .i64 n∧n=s.rm.tot - S.R.lap∧StoOk F Fr w' (S.relap s.rm.tot) s by' mo∧Chg F w w'):=by
 refine Does.enter Tryz.func56 rfl Tryz.ntmps56 rfl rfl ?_
 refine Goes.adv hTT 400 rfl ?_
 refine Goes.load hTT rfl (cell_nth (off:=0) hb rfl) rfl ?_
 refine Goes.loadb hTT rfl h.obj rfl rfl ?_
 refine Goes.call rfl (meter_Lap S.mb s.rm.tot S.R.lap w h.mb.2.2) ?_
 rintro _ w1 ⟨rfl,hm,hc⟩
 refine Goes.adv hTT 400 rfl ?_
 exact Goes.ret1 hTT rfl Tryz.func56 rfl rfl ⟨_,rfl,rfl,h.relap hm hc,hc.mono fun z _ e=>e▸h.mb.1⟩
theorem store_Steps {F Fr:Nat→Prop} {w:World} {S:Sto} {s:StM} {by':Int} {mo:Mo} (h:StoOk F Fr w S s by' mo):Does Tryz.prog 15 #[stoV S] w (fun v w'=>v = .int .i64 (s.rm.tot - S.R.lap)∧StoOk F Fr w' (S.relap s.rm.tot) s by' mo∧Chg F w w'):=by
 refine Does.enter Tryz.func15 rfl Tryz.ntmps15 rfl rfl ?_
 refine Goes.adv hTT 400 rfl ?_
 refine Goes.alloc hTT rfl ?_
 intro b w1 e1 hb hw1 hz1
 refine Goes.adv hTT 400 rfl ?_
 refine Goes.load hTT rfl (cell_nth (off:=0) hb rfl) rfl ?_
 refine Goes.call rfl (store_ask (S:=S) 56 [.pointer (some ⟨b,0,none⟩)] w1 _ (store_Steps1 (h.grow hw1) b hb)) ?_
 rintro _ w2 ⟨n,rfl,rfl,h2,hc2⟩
 refine Goes.adv hTT 400 rfl ?_
 exact Goes.ret1 hTT rfl Tryz.func15 rfl rfl ⟨rfl,h2,(hw1.mono fun _ _ h=>h.elim).trans hc2⟩
end Go.Proofs.YtnaoiegcobineaaGreatDoor
namespace Go.Proofs.YtnaoiegcobineaaGreatDoor
open Go.RowKit
theorem clone_ints (a:Option Addr) (cap:Nat) (x:List Int) (w:World) (hr:Rd .i64 w a x) (hl:x.length≤1048576) (hn:∃ a1,a=some a1):Does Tryz.prog 45 #[.slice a x.length cap] w
 (fun v w' => ∃ g c r,v = .slice (some ⟨g,0,none⟩) x.length c∧w.heap.size≤g∧w'.heap[g]? = some (.cells (x.map (Value.int .i64)++r).toArray 3 (0,0))∧x.length≤c∧Chg None' w w'):=by
 have hml:maxLen=9223372036854775807:=rfl
 obtain ⟨a1,rfl⟩:=hn
 refine Does.enter Tryz.func45 rfl Tryz.ntmps45 rfl rfl ?_
 refine Goes.adv hTT 400 rfl ?_
 refine Goes.no hTT rfl rfl rfl ?_
 refine Goes.buildSlice hTT rfl ?_
 intro b w1 e1 hb hw1 hz1
 refine Goes.adv hTT 400 rfl ?_
 subst e1
 have ho:Own w.heap.size 3 1 w1 (.slice (some ⟨w.heap.size,0,none⟩) 0 0) 0 []:=Own.empty (Nat.le_refl _) hb
 refine Goes.append (base:=w.heap.size) (xs := []) (news:=x.map (Value.int .i64)) hTT rfl ho (by omega) (by simp) (hr.chg hw1).cells plain_ints ⟨by omega,by show (0+x.length)*8≤_; omega⟩ ?_
 intro v w2 ho2 hs2 hv2
 refine Goes.adv hTT 400 rfl ?_
 rw [Nat.zero_add,List.nil_append] at ho2
 have hc:=ho.since hw1 (Nat.le_refl _) hs2
 rcases ho2.2 with ⟨e,_⟩ | ⟨g,c,cur,rfl,h2,h3,h4,h5,_,h6⟩
 ·have:=(hv2.1.1 e).1; cases this
 ·have hcur:cur=(x.map (Value.int .i64)++cur.toList.drop x.length).toArray:=by
   rw [Nat.mul_one] at h6
   rw [← h6,List.take_append_drop]
  exact Goes.ret1 hTT rfl Tryz.func45 rfl rfl ⟨g,c,cur.toList.drop x.length,rfl,h2,by rw [← hcur]; exact h3,h4,hc⟩
theorem zero_movers:∀ n,zeroRow [.pointer none,.int .i64 0,.int .i64 0,.int .i64 0,.int .i64 0,.int .i64 0] n=fl mverL (List.replicate n none)
 |0=>rfl
 |n+1=>by rw [zeroRow,zero_movers n,List.replicate_succ]; rfl
structure NewB (c:Conf) (w:World) (g cap:Nat) (r:List Value) (mb tm vb:Nat):Prop where
 g:w.heap[g]? = some (.cells (c.keep.map (Value.int .i64)++r).toArray 3 (0,0))
 gc:c.keep.length≤cap
 m:MeterAt w mb 0 0
 t:MapAt w tm []
 v:w.heap[vb]? = some (.cells (fl mverL (List.replicate c.classes.length none)).toArray 117 (0,0))
theorem NewB.grow {c:Conf} {w w':World} {g cap:Nat} {r:List Value} {mb tm vb:Nat} (h:NewB c w g cap r mb tm vb) (hc:Chg None' w w'):NewB c w' g cap r mb tm vb:=⟨hc.heap' h.g,h.gc,h.m.chg hc,h.t.chg hc id,hc.heap' h.v⟩
def newL (c:Conf) (p:ConfAt) (g cap mb tm vb:Nat) (a r v:Value):List Value:=confL c p ++ [.slice (some ⟨g,0,none⟩) c.keep.length cap,.pointer (some ⟨mb,0,none⟩),a,r,v,.map (some tm),.slice (some ⟨vb,0,none⟩) c.classes.length c.classes.length,.int .i64 0]
theorem NewB.note {c:Conf} {w w':World} {g cap:Nat} {r:List Value} {mb tm vb xb:Nat} (h:NewB c w g cap r mb tm vb) (hc:Chg (fun z=>z=xb) w w') (h1:g≠xb) (h2:mb≠xb) (h3:tm≠xb) (h4:vb≠xb):NewB c w' g cap r mb tm vb :=
 ⟨hc.heap h.g h1,h.gc,⟨hc.heap h.m.1 h2,h.m.2⟩,h.t.chg hc h3,hc.heap h.v h4⟩
theorem RmSt.apart {F:Nat→Prop} {w w':World} {R:Rm} {M:RmM} (h:RmSt F w R M) {w0:World} (hcf:ConfOk w0 R.c R.p) (ht:TabAt w0) {xb t:Nat} {l:List Value} {n:Int} {fz:Nat × Nat} (hx:w.heap[xb]? = some (.cells (.int .i64 n::l).toArray t fz)) (h0:w0.heap.size≤xb) (hF:¬ F xb) (htk:t≠264∧t≠260∧t≠3∧t≠152) (hc:Chg (fun z=>z=xb) w w'):RmSt F w' R M:=by
 have hm:=may_facts h.may
 have hk:=kd_cells hx
 refine h.other hc fun z e=>e▸⟨hF,kd_ne (kd_cells h.obj) hk (fun e=>htk.2.2.2 (Option.some.inj (Option.some.inj e)).symm),fun e => ?_,fun e => ?_,fun off s e => ?_,fun off s e => ?_,?_,?_,fun e => ?_⟩
 ·have h1:=h.sl 0 (by have:=hm.n; have:=h.ok.n; omega)
  rw [e,cell_of hx] at h1
  cases h1
 ·have:=World.block_lt_of_cell? w0 _ (ht 0 (by decide))
  simp only at this
  omega
 ·have:=hcf.classes.block (by have:=hm.n; omega) e
  omega
 ·have:=hcf.keep.block (by have:=hm.keep; have:=hm.n; omega) e
  omega
 ·rw [hk]; exact fun e=>htk.1 (Option.some.inj (Option.some.inj e))
 ·rw [hk]; exact fun e=>htk.2.1 (Option.some.inj (Option.some.inj e))
 ·rw [hk] at e; exact absurd (Option.some.inj (Option.some.inj e)) htk.2.2.1
theorem sto_new {c:Conf} {p:ConfAt} {w w7 w':World} {g cap mb tm vb xb vw:Nat} {r:List Value} {A:Ar} {R:Rm} {Fr:Nat→Prop} (hc:ConfOk w c p) (ht:TabAt w) (hcw:Chg None' w w') (hm:mayB c=true)
 (hx:w'.heap[xb]? = some (.cells (newL c p g cap mb tm vb (.pointer (some ⟨A.ab,0,none⟩)) (rmV R) (.pointer (some ⟨vw,0,none⟩))).toArray 88 (0,0))) (hN:NewB c w' g cap r mb tm vb)
 (hA:ArOk w' A ⟨zeros (c.pages*c.size).toNat,0,0⟩) (hAm:A.mb=some mb) (hR:RmSt Fr w' R (newRm c 0)) (hRc:R.c=c) (hRp:R.p=p) (hRm:R.mo=some mb) (hRl:R.lap=0) (hRX:R.X=fun z=>z=g)
 (hV:VwOk w' ⟨vw,c,p,A.ab,some mb⟩) (hFr:∀ z,Fr z→w7.heap.size≤z∨z=mb) (hFv:¬ Fr vw) (h7:w.heap.size≤w7.heap.size)
 (l1:w.heap.size≤g∧g<w7.heap.size) (l2:w.heap.size≤mb) (l3:w.heap.size≤tm∧tm<w7.heap.size) (l4:w.heap.size≤vb∧vb<w7.heap.size) (l5:w.heap.size≤xb∧xb<w7.heap.size) (l6:w.heap.size≤A.db∧A.db<w7.heap.size) (l7:A.ab<w7.heap.size∧A.mc<w7.heap.size) :
 ∃ F Fr S mo,stoV S = .pointer (some ⟨xb,0,none⟩)∧StoOk F Fr w' S (newSt c) 0 mo∧(S.c=c∧S.p=p)∧S.R.lap=0 ∧ ∀ z,F z→w.heap.size≤z:=by
 have hmf:=may_facts hm
 have kx:=kd_cells hx
 have kg:=kd_cells hN.g
 have km:=kd_meter hN.m
 have kt:=kd_map hN.t
 have kv:=kd_cells hN.v
 have kd':=kd_cells hA.dat
 have ka:=kd_cells hA.obj
 have kc:=kd_cells hA.cap
 have kw:=kd_cells hV.obj
 have kr:=kd_cells hR.obj
 have hz:(zeros (c.size*c.pages).toNat)=zeros (c.pages*c.size).toNat:=by rw [Int.mul_comm]
 have nfr:∀ {z:Nat},z<w7.heap.size→z≠mb → ¬ Fr z:=fun h1 h2 h=>(hFr _ h).elim (by omega) h2
 have hFw:∀ z,(Fr z∨z=xb∨z=g∨z=A.db∨z=tm∨z=vb)→w.heap.size≤z:=fun z hz=>by
  rcases hz with hz | rfl | rfl | rfl | rfl | rfl
  ·rcases hFr z hz with h | h <;> omega
  all_goals omega
 have hs1:w'.cell? ⟨R.sb,0,none⟩=some (sfV (R.S 0)):=hR.sl 0 (by have:=hmf.n; have:=hR.ok.n; rw [hRc] at this; omega)
 have nsb:∀ {b t:Nat} {v:Value} {l:List Value} {fz:Nat × Nat},w'.heap[b]? = some (.cells (v::l).toArray t fz)→v≠sfV (R.S 0)→R.sb≠b:=fun hb hv e=>by
  rw [e,cell_of hb] at hs1
  exact hv (Option.some.inj hs1)
 have hkn:=hmf.keep
 have hcn:=hmf.n
 have sbt:R.sb≠tm:=fun e=>by
  obtain ⟨es,clock,hes,_⟩:=hN.t
  rw [e] at hs1
  unfold World.cell? at hs1
  simp [hes] at hs1
 have sbg:R.sb≠g:=by
  obtain ⟨k0,kl,ek⟩:∃ k0 kl,c.keep=k0::kl:=by cases hk:c.keep with | nil=>rw [hk] at hkn; simp at hkn; omega | cons a b=>exact ⟨a,b,rfl⟩
  have:=hN.g
  rw [ek] at this
  exact nsb this (fun e=>by cases e)
 have sbv:R.sb≠vb:=by
  obtain ⟨n,en⟩:∃ n,c.classes.length=n+1:=⟨c.classes.length - 1,by omega⟩
  have:=hN.v
  rw [en,List.replicate_succ] at this
  replace this:w'.heap[vb]? = some (.cells (Value.pointer none::([.int .i64 0,.int .i64 0,.int .i64 0,.int .i64 0,.int .i64 0]++fl mverL (List.replicate n none))).toArray 117 (0,0)):=this
  exact nsb this (fun e=>by cases e)
 have sbd:R.sb≠A.db:=by
  obtain ⟨n,en⟩:∃ n,(c.pages*c.size).toNat=n+1:=⟨(c.pages*c.size).toNat - 1,by
   have h1:1*64≤c.pages*c.size:=Int.mul_le_mul (by have:=hmf.pages; omega) (by have:=hmf.size; omega) (by omega) (by have:=hmf.pages; omega)
   omega⟩
  have:=hA.dat
  simp only [en,zeros,List.replicate_succ] at this
  exact nsb this (fun e=>by cases e)
 have sbx:R.sb≠xb:=nsb hx (fun e=>by cases e)
 have tl:0<w.heap.size:=by have:=World.block_lt_of_cell? w _ (ht 0 (by decide)); exact this
 have far:∀ {a:Option Addr} {l:List Int},Rd .i64 w a l→Far (fun z=>Fr z∨z=xb∨z=g∨z=A.db∨z=tm∨z=vb) w' a l:=fun hr=>⟨hr.chg hcw,fun hl b off s e hz=>by have:=hr.block hl e; have:=hFw b hz; omega⟩
 have nF:∀ {b:Nat},¬ Fr b→b≠xb→b≠g→b≠A.db→b≠tm→b≠vb → ¬ (Fr b∨b=xb∨b=g∨b=A.db∨b=tm∨b=vb):=fun h0 h1 h2 h3 h4 h5 hz=>by
  rcases hz with hz | hz | hz | hz | hz | hz
  ·exact h0 hz
  ·exact h1 hz
  ·exact h2 hz
  ·exact h3 hz
  ·exact h4 hz
  ·exact h5 hz
 have hno:∀ (k b:Nat) m,(List.replicate c.classes.length (none:Option (Nat × MvM)))[k]?≠some (some (b,m)):=fun k b m e=>by
  have:=List.mem_of_getElem? e
  rw [List.mem_replicate] at this
  cases this.2
 refine ⟨fun z=>Fr z∨z=xb∨z=g∨z=A.db∨z=tm∨z=vb,Fr,⟨xb,c,p,g,cap,r,mb,A,R,⟨vw,c,p,A.ab,some mb⟩,tm,vb,c.classes.length⟩,List.replicate c.classes.length none,rfl,?_,⟨rfl,rfl⟩,hRl,hFw⟩
 exact {
  obj:=by
   show w'.heap[xb]? = some (.cells (stoL _ c.keep.length (List.replicate c.classes.length (none:Option MvM)).length 0).toArray _ _)
   rw [List.length_replicate]; exact hx
  kee:=hN.g,kcap:=hN.gc,room:=hR,
  ar:=by
   show ArOk w' A ⟨zeros (c.size*c.pages).toNat,0,R.lap⟩
   rw [hz,hRl]; exact hA
  vw:=hV,
  th:=⟨[],hN.t,List.nodup_nil,(fun o t h=>by
   have:=List.mem_of_getElem? h
   simp only [newSt,List.mem_replicate] at this
   cases this.2),fun k _=>rfl⟩
  mvs:=hN.v,mvc:=by show (List.replicate _ _).length≤_; rw [List.length_replicate]; exact Nat.le_refl _
  mom:=by unfold moMv newSt; rw [List.map_replicate]; rfl
  mob:=fun k b m h=>absurd h (hno k b m),mdj:=fun j k b m m' h _=>absurd h (hno j b m)
  rc:=hRc,rp:=hRp,rmo:=hRm,rX:=hRX,amb:=hAm,vc:=rfl,vp:=rfl,vab:=rfl,vmb:=rfl
  f1:=fun z hz => .inl hz,f2:=⟨.inr (.inl rfl),.inr (.inr (.inl rfl)),.inr (.inr (.inr (.inl rfl))),.inr (.inr (.inr (.inr (.inl rfl)))),.inr (.inr (.inr (.inr (.inr rfl))))⟩
  nr:=⟨nfr l5.2 (kd_ne kx km (by decide)),nfr l1.2 (kd_ne kg km (by decide)),nfr l6.2 (kd_ne kd' km (by decide)),nfr l3.2 (kd_ne kt km (by simp)),nfr l4.2 (kd_ne kv km (by decide))⟩
  nF:=⟨nF (nfr l7.1 (kd_ne ka km (by decide))) (kd_ne ka kx (by decide)) (kd_ne ka kg (by decide)) (kd_ne ka kd' (by decide)) (kd_ne ka kt (by simp)) (kd_ne ka kv (by decide)),
   nF (nfr l7.2 (kd_ne kc km (by decide))) (kd_ne kc kx (by decide)) (kd_ne kc kg (by decide)) (kd_ne kc kd' (by decide)) (kd_ne kc kt (by simp)) (kd_ne kc kv (by decide)),
   nF hFv (kd_ne kw kx (by decide)) (kd_ne kw kg (by decide)) (kd_ne kw kd' (by decide)) (kd_ne kw kt (by simp)) (kd_ne kw kv (by decide)),
   nF hR.rf (kd_ne kr kx (by decide)) (kd_ne kr kg (by decide)) (kd_ne kr kd' (by decide)) (kd_ne kr kt (by simp)) (kd_ne kr kv (by decide)),
   nF hR.sf sbx sbg sbd sbt sbv,fun hz=>by have:=hFw _ hz; omega⟩
  ca:=far hc.classes,ka:=far hc.keep
  low:=fun z hz=>by
   rcases hz with hz | rfl | rfl | rfl | rfl | rfl
   ·exact hR.low z hz
   ·exact lt_of_heap hx
   ·exact lt_of_heap hN.g
   ·exact lt_of_heap hA.dat
   ·exact kd_lt kt
   ·exact lt_of_heap hN.v}
set_option maxHeartbeats 2000000 in
set_option maxRecDepth 100000 in
theorem store_New (c:Conf) (p:ConfAt) (w:World) (hc:ConfOk w c p) (ht:TabAt w) (hm:mayB c=true):Does Tryz.prog 11 #[.agg (confL c p).toArray] w (fun v w' => ∃ F Fr S mo,v = .tuple #[stoV S,.int .i64 0]∧StoOk F Fr w' S (newSt c) 0 mo∧(S.c=c∧S.p=p)∧S.R.lap=0∧(∀ z,F z→w.heap.size≤z)∧Chg None' w w'):=by
 have hmf:=may_facts hm
 have hkn:=hmf.keep
 have hcn:=hmf.n
 have hmay:arMay c.pages c.size=true:=by
  have:=hmf.size; have:=hmf.pages
  refine arMay_iff.2 ⟨by omega,by omega,by omega,by omega,?_⟩
  have h8:=hm
  unfold mayB at h8
  simp only [Bool.and_eq_true] at h8
  exact (sizedM_iff.1 h8.1.1.1.1.1.1.1).2.2
 refine Does.enter Tryz.func11 rfl Tryz.ntmps11 rfl rfl ?_
 refine Goes.adv hTT 400 rfl ?_
 refine Goes.alloc hTT rfl ?_
 intro b w1 e1 hb hw1 hz1
 refine Goes.adv hTT 400 rfl ?_
 replace hb:w1.heap[b]? = some (.cells (confL c p).toArray 24 (0,0)):=hb
 refine Goes.loads hTT rfl hb rfl rfl ?_
 refine Goes.call rfl (conf_May c p w1 (hc.chg hw1)) ?_
 rintro _ w2 ⟨rfl,hw2⟩
 refine Goes.adv hTT 400 rfl ?_
 have em:mayM c=0:=by unfold mayM; rw [if_pos hm]
 rw [em]
 refine Goes.no hTT rfl rfl rfl ?_
 have hb2:=hw2.heap' hb
 have hw02:=hw1.trans hw2
 obtain ⟨kb0,koff,eka,_⟩:=hc.keep 0 (by omega)
 have hC:∀ w',Chg None' w2 w'→Does Tryz.prog 45 #[.slice p.ka c.keep.length p.kc] w' (fun v w3=>Chg None' w2 w3∧Chg None' w' w3 ∧ ∃ g cap r,v = .slice (some ⟨g,0,none⟩) c.keep.length cap∧w2.heap.size≤g∧w3.heap[g]? = some (.cells (c.keep.map (Value.int .i64)++r).toArray 3 (0,0))∧c.keep.length≤cap):=fun w' hw' =>
  (clone_ints p.ka p.kc c.keep w' (hc.keep.chg (hw02.trans hw')) (by omega) ⟨_,eka⟩).mono fun v w3 ⟨g,cp,r,a1,a2,a3,a4,a5⟩=>⟨hw'.trans a5,a5,g,cp,r,a1,by have:=hw'.size; omega,a3,a4⟩
 have hM:∀ w',Chg None' w2 w'→Does Tryz.prog 46 #[] w' (fun v w3=>Chg None' w2 w3∧Chg None' w' w3 ∧ ∃ mb,v = .pointer (some ⟨mb,0,none⟩)∧w2.heap.size≤mb∧MeterAt w3 mb 0 0):=fun w' hw' =>
  (meter_New w').mono fun v w3 ⟨a1,a2,a3,a4⟩=>⟨hw'.trans a3,a3,w'.heap.size,a1,hw'.size,a2⟩
 refine Goes.drawn (q:=10) None' hTT mixed (by kernel_rfl) rfl ?_
 intro hB
 refine Drawn.loads hTT hB rfl hb2 (by first | exact fun h=>h | (intro h; omega) | assumption) rfl rfl ?_
 refine Drawn.loadb hTT hB rfl hb2 (by first | exact fun h=>h | (intro h; omega) | assumption) rfl rfl ?_
 refine Drawn.loadb hTT hB rfl hb2 (by first | exact fun h=>h | (intro h; omega) | assumption) rfl rfl ?_
 refine Drawn.turn3 hB rfl ?_ ?_ ?_
 all_goals
  intro wa k1
  first
  |have hcq:=hC _ k1
   refine Turn.call rfl hcq.fn (fun _=>hcq) ?_
   rintro _ wb q0 ⟨q1,g,cap,r,rfl,hgl,hgb,hgc⟩
   refine Drawn.adv hTT hB rfl ?_
  |have htl0:=(k1).size
   refine Turn.mkmap hTT hB rfl (fun _=>rfl) ?_
   intro tm wb etm htm q1 hzk
   have htl:w2.heap.size≤tm:=by omega
  |have hvl0:=(k1).size
   refine Turn.make hTT hB rfl rfl rfl (Nat.le_refl _) (show 48*c.classes.length≤140737488355328 by omega) (by omega) (fun _=>rfl) ?_
   intro vb wb evb hvb q1 hzv
   replace hvb:(wb).heap[vb]? = some (.cells (zeroRow [.pointer none,.int .i64 0,.int .i64 0,.int .i64 0,.int .i64 0,.int .i64 0] c.classes.length).toArray 117 (0,0)):=hvb
   rw [zero_movers] at hvb
   have hvl:w2.heap.size≤vb:=by omega
 all_goals first | refine Drawn.turn3 hB rfl ?_ ?_ ?_ | refine Drawn.turn2 hB rfl ?_ ?_
 all_goals
  intro wc a2
  have k2:=(k1.trans q1).trans a2
  first
  |have hcq:=hC _ k2
   refine Turn.call rfl hcq.fn (fun _=>hcq) ?_
   rintro _ wd q0 ⟨q2,g,cap,r,rfl,hgl,hgb,hgc⟩
   refine Drawn.adv hTT hB rfl ?_
  |have hmq:=hM _ k2
   refine Turn.call rfl hmq.fn (fun _=>hmq) ?_
   rintro _ wd q0 ⟨q2,mb,rfl,hml,hmm⟩
   refine Drawn.adv hTT hB rfl ?_
  |have htl0:=(k2).size
   refine Turn.mkmap hTT hB rfl (fun _=>rfl) ?_
   intro tm wd etm htm q2 hzk
   have htl:w2.heap.size≤tm:=by omega
  |have hvl0:=(k2).size
   refine Turn.make hTT hB rfl rfl rfl (Nat.le_refl _) (show 48*c.classes.length≤140737488355328 by omega) (by omega) (fun _=>rfl) ?_
   intro vb wd evb hvb q2 hzv
   replace hvb:(wd).heap[vb]? = some (.cells (zeroRow [.pointer none,.int .i64 0,.int .i64 0,.int .i64 0,.int .i64 0,.int .i64 0] c.classes.length).toArray 117 (0,0)):=hvb
   rw [zero_movers] at hvb
   have hvl:w2.heap.size≤vb:=by omega
 all_goals first | refine Drawn.turn2 hB rfl ?_ ?_ | refine Drawn.turn1 hB rfl ?_
 all_goals
  intro we a3
  have k3:=(k2.trans q2).trans a3
  first
  |have hcq:=hC _ k3
   refine Turn.call rfl hcq.fn (fun _=>hcq) ?_
   rintro _ wf q0 ⟨q3,g,cap,r,rfl,hgl,hgb,hgc⟩
   refine Drawn.adv hTT hB rfl ?_
  |have hmq:=hM _ k3
   refine Turn.call rfl hmq.fn (fun _=>hmq) ?_
   rintro _ wf q0 ⟨q3,mb,rfl,hml,hmm⟩
   refine Drawn.adv hTT hB rfl ?_
  |have htl0:=(k3).size
   refine Turn.mkmap hTT hB rfl (fun _=>rfl) ?_
   intro tm wf etm htm q3 hzk
   have htl:w2.heap.size≤tm:=by omega
  |have hvl0:=(k3).size
   refine Turn.make hTT hB rfl rfl rfl (Nat.le_refl _) (show 48*c.classes.length≤140737488355328 by omega) (by omega) (fun _=>rfl) ?_
   intro vb wf evb hvb q3 hzv
   replace hvb:(wf).heap[vb]? = some (.cells (zeroRow [.pointer none,.int .i64 0,.int .i64 0,.int .i64 0,.int .i64 0,.int .i64 0] c.classes.length).toArray 117 (0,0)):=hvb
   rw [zero_movers] at hvb
   have hvl:w2.heap.size≤vb:=by omega
 all_goals refine Drawn.turn1 hB rfl ?_
 all_goals
  intro wg a4
  have k4:=(k3.trans q3).trans a4
  first
  |have hmq:=hM _ k4
   refine Turn.call rfl hmq.fn (fun _=>hmq) ?_
   rintro _ wh q0 ⟨q4,mb,rfl,hml,hmm⟩
   refine Drawn.adv hTT hB rfl ?_
  |have htl0:=(k4).size
   refine Turn.mkmap hTT hB rfl (fun _=>rfl) ?_
   intro tm wh etm htm q4 hzk
   have htl:w2.heap.size≤tm:=by omega
  |have hvl0:=(k4).size
   refine Turn.make hTT hB rfl rfl rfl (Nat.le_refl _) (show 48*c.classes.length≤140737488355328 by omega) (by omega) (fun _=>rfl) ?_
   intro vb wh evb hvb q4 hzv
   replace hvb:(wh).heap[vb]? = some (.cells (zeroRow [.pointer none,.int .i64 0,.int .i64 0,.int .i64 0,.int .i64 0,.int .i64 0] c.classes.length).toArray 117 (0,0)):=hvb
   rw [zero_movers] at hvb
   have hvl:w2.heap.size≤vb:=by omega
 all_goals
  refine Drawn.nil hB ?_
  intro wz a5
  refine Goes.adv hTT 400 rfl ?_
  have c4:=a5
  have c3:=(a4.trans q4).trans c4
  have c2:=(a3.trans q3).trans c3
  have c1:=(a2.trans q2).trans c2
  have kz:=(k4.trans q4).trans a5
  have hN:NewB c wz g cap r mb tm vb:=⟨by first | exact c1.heap' hgb | exact c2.heap' hgb | exact c3.heap' hgb | exact c4.heap' hgb,hgc,by first | exact hmm.chg c1 | exact hmm.chg c2 | exact hmm.chg c3 | exact hmm.chg c4,by first | exact htm.chg c1 id | exact htm.chg c2 id | exact htm.chg c3 id | exact htm.chg c4 id,by first | exact c1.heap' hvb | exact c2.heap' hvb | exact c3.heap' hvb | exact c4.heap' hvb⟩
  refine Goes.build hTT rfl rfl ?_
  refine Goes.alloc hTT rfl ?_
  intro xb wy exb hxb hwy hzy
  refine Goes.adv hTT 400 rfl ?_
  replace hxb:wy.heap[xb]? = some (.cells (newL c p g cap mb tm vb (.pointer none) (.pointer none) (.pointer none)).toArray 88 (0,0)):=hxb
  have hNy:=hN.grow hwy
  have hby:=(kz.trans hwy).heap' hb2
  have hdA:∀ w',Chg None' wy w'→Does Tryz.prog 47 #[.int .i64 c.pages,.int .i64 c.size,.pointer (some ⟨mb,0,none⟩)] w' (fun v w3=>Chg (fun z=>z=xb) w' w3∧Chg None' wy w3 ∧ ∃ A:Ar,v = .tuple #[.pointer (some ⟨A.ab,0,none⟩),.int .i64 0]∧A.mb=some mb∧wy.heap.size≤A.ab∧wy.heap.size≤A.db∧wy.heap.size≤A.mc∧ArOk w3 A ⟨zeros (c.pages*c.size).toNat,0,0⟩):=fun w' hw' =>
   (arena_New (some mb) 0 0 c.pages c.size w' (fun b e=>by cases e; exact (hNy.grow hw').m) hmay).mono fun v w3 ⟨A,x1,x2,x3,x4,x5,x6,x7⟩=>⟨x7.mono fun _ _ h=>h.elim,hw'.trans x7,A,x1,x2,by have:=hw'.size; omega,by have:=hw'.size; omega,by have:=hw'.size; omega,x6⟩
  refine Goes.drawn (q:=16) (fun z=>z=xb) hTT mixed (by kernel_rfl) rfl ?_
  intro hB
  have hbx:¬ b=xb:=by have:=lt_of_heap (kz.heap' hb2); omega
  refine Drawn.loadb hTT hB rfl hby (by first | exact fun h=>h | (intro h; omega) | assumption) rfl rfl ?_
  refine Drawn.loadb hTT hB rfl hby (by first | exact fun h=>h | (intro h; omega) | assumption) rfl rfl ?_
  refine Drawn.turn1 hB rfl ?_
  intro w3 hw3
  refine Turn.loadb hTT hB rfl (hw3.heap' hxb) rfl rfl ?_
  have hdA':=fun w' (hw':Chg None' w3 w')=>hdA w' (hw3.trans hw')
  refine Drawn.callQ hB rfl rfl (hdA') ?_
  rintro _ w4 hs4 ⟨hw4,A,rfl,hAm,hA1,hA2,hA3,hA4⟩
  refine Drawn.adv hTT hB rfl ?_
  refine Drawn.turn1 hB rfl ?_
  intro w5 hw5
  refine Turn.store hTT hB rfl ((hw4.trans hw5).heap' hxb) (by first | (intro h; exact rfl) | (intro h; omega)) rfl rfl rfl ?_
  intro w6 hxb6 hs6 hz6
  refine Drawn.nil hB ?_
  intro w7 hw7
  refine Goes.adv hTT 400 rfl ?_
  replace hxb6:w6.heap[xb]? = some (.cells (newL c p g cap mb tm vb (.pointer (some ⟨A.ab,0,none⟩)) (.pointer none) (.pointer none)).toArray 88 (0,0)):=hxb6
  have s02:=hw02.size
  have szz:=kz.size
  have szy:=hwy.size
  have s4:=hw4.size
  have s5:=hw5.size
  have s7:=hw7.size
  have lg:=lt_of_heap hN.g
  have lm:=lt_of_heap hN.m.1
  have lt':=hN.t.lt
  have lv:=lt_of_heap hN.v
  have lx:=lt_of_heap hxb
  have hw05:Chg None' w w5:=(((hw02.trans kz).trans hwy).trans hw4).trans hw5
  have hw07:Chg None' w w7:=(hw05.since hs6 (fun z hz e=>by omega)).trans hw7
  have hN7:NewB c w7 g cap r mb tm vb:=((hNy.grow (hw4.trans hw5)).note hs6 (by omega) (by omega) (by omega) (by omega)).grow hw7
  have hA7:ArOk w7 A ⟨zeros (c.pages*c.size).toNat,0,0⟩:=((hA4.grow hw5).chg hs6 (fun b' hb' e=>by
   rcases hb' with h | h | h | h
   ·omega
   ·omega
   ·omega
   ·rw [hAm] at h; have:=Option.some.inj h; omega)).grow hw7
  have hb7:=hw7.heap' (hs6.heap ((hw4.trans hw5).heap' hby) hbx)
  have hx7:=hw7.heap' hxb6
  have la:=lt_of_heap hA7.obj
  have ld:=lt_of_heap hA7.dat
  have lc:=lt_of_heap hA7.cap
  have hdR:∀ w',Chg None' w7 w'→Does Tryz.prog 48 #[.agg (confL c p).toArray,.pointer (some ⟨mb,0,none⟩)] w' (fun v w3=>Chg (fun z=>z=xb) w' w3∧Chg None' w7 w3 ∧ ∃ Fr R,v = .tuple #[rmV R,.int .i64 0]∧R.c=c∧R.p=p∧R.mo=some mb∧R.lap=0∧(R.X=fun z=>z=g)∧RmSt Fr w3 R (newRm c 0) ∧ ∀ z,Fr z→w7.heap.size≤z∨z=mb):=fun w' hw'=>by
   have hm':=(hN7.grow hw').m
   have far:∀ {a:Option Addr} {l:List Int},Rd .i64 w a l→Far (fun z=>z=mb) w' a l:=fun hr=>⟨hr.chg (hw07.trans hw'),fun hl b1 off s1 e hz=>by have:=hr.block hl e; omega⟩
   refine (room_New c p (some mb) 0 0 (fun z=>z=g) w' (hc.chg (hw07.trans hw')) (ht.grow (hw07.trans hw')) (fun z e=>⟨by have:=hw'.size; omega,fun e2=>by have e3:=Option.some.inj e2; exact kd_ne (kd_cells hN.g) (kd_meter hN.m) (by decide) (e.symm.trans e3.symm)⟩) (fun b1 e=>by cases e; exact ⟨hm',far hc.classes,far hc.keep⟩) (by decide)).mono fun v w3 ⟨x1,x2⟩ => ?_
   rw [if_pos hm] at x2
   obtain ⟨Fr,R,y1,y2,y3,y4,y5,y6,y7,y8⟩:=x2
   exact ⟨x1.mono fun _ _ h=>h.elim,hw'.trans x1,Fr,R,y4,y1,y2,y3,y7,y8,y5,fun z hz=>(y6 z hz).imp (fun h=>by have:=hw'.size; omega) (fun h=>(Option.some.inj h).symm)⟩
  refine Goes.drawn (q:=13) (fun z=>z=xb) hTT mixed (by kernel_rfl) rfl ?_
  intro hB
  refine Drawn.loads hTT hB rfl hb7 (by first | exact fun h=>h | (intro h; omega) | assumption) rfl rfl ?_
  refine Drawn.turn1 hB rfl ?_
  intro w8 hw8
  refine Turn.loadb hTT hB rfl (hw8.heap' hx7) rfl rfl ?_
  have hdR':=fun w' (hw':Chg None' w8 w')=>hdR w' (hw8.trans hw')
  refine Drawn.callQ hB rfl rfl (hdR') ?_
  rintro _ w9 hs9 ⟨hw9,Fr,R,rfl,hRc,hRp,hRm,hRl,hRX,hR9,hFr⟩
  refine Drawn.adv hTT hB rfl ?_
  refine Drawn.turn1 hB rfl ?_
  intro w10 hw10
  refine Turn.store hTT hB rfl ((hw9.trans hw10).heap' hx7) (by first | (intro h; exact rfl) | (intro h; omega)) rfl rfl rfl ?_
  intro w11 hxb11 hs11 hz11
  refine Drawn.nil hB ?_
  intro w12 hw12
  refine Goes.adv hTT 400 rfl ?_
  replace hxb11:w11.heap[xb]? = some (.cells (newL c p g cap mb tm vb (.pointer (some ⟨A.ab,0,none⟩)) (rmV R) (.pointer none)).toArray 88 (0,0)):=hxb11
  have s9:=hw9.size
  have s10:=hw10.size
  have s12:=hw12.size
  have hxF:¬ Fr xb:=fun hz=>(hFr xb hz).elim (by omega) (by omega)
  have hw710:=hw9.trans hw10
  have hw010:=hw07.trans hw710
  have hw012:Chg None' w w12:=(hw010.since hs11 (fun z hz e=>by omega)).trans hw12
  have hxp:∀ {a r2 v2:Value},newL c p g cap mb tm vb a r2 v2 = .int .i64 c.size::(newL c p g cap mb tm vb a r2 v2).tail:=rfl
  have hcr:ConfOk w R.c R.p:=by rw [hRc,hRp]; exact hc
  have hR12:RmSt Fr w12 R (newRm c 0):=((hR9.grow hw10).apart hcr ht (hw710.heap' hx7) (by omega) hxF (by decide) hs11).grow hw12
  have hN12:=((hN7.grow hw710).note hs11 (by omega) (by omega) (by omega) (by omega)).grow hw12
  have hA12:=((hA7.grow hw710).chg hs11 (fun b' hb' e=>by
   rcases hb' with h | h | h | h
   ·omega
   ·omega
   ·omega
   ·rw [hAm] at h; have:=Option.some.inj h; omega)).grow hw12
  have hx12:=hw12.heap' hxb11
  have hb12:=hw12.heap' (hs11.heap (hw710.heap' hb7) hbx)
  have hbl:((zeros (c.pages*c.size).toNat).length:Int)=c.size*c.pages:=by
   rw [zeros_length,Int.mul_comm]
   exact Int.toNat_of_nonneg (Int.mul_nonneg (by have:=hmf.size; omega) (by have:=hmf.pages; omega))
  have hdV:∀ w',Chg None' w12 w'→Does Tryz.prog 49 #[.agg (confL c p).toArray,.pointer (some ⟨A.ab,0,none⟩),.pointer (some ⟨mb,0,none⟩)] w' (fun v w3=>Chg (fun z=>z=xb) w' w3∧Chg None' w12 w3 ∧ ∃ vw,v = .tuple #[.pointer (some ⟨vw,0,none⟩),.int .i64 0]∧w12.heap.size≤vw∧VwOk w3 ⟨vw,c,p,A.ab,some mb⟩):=fun w' hw'=>by
   have hvn:=view_New c p A ⟨zeros (c.pages*c.size).toNat,0,0⟩ w' (hc.chg (hw012.trans hw')) (hA12.grow hw')
   rw [hAm] at hvn
   refine hvn.mono fun v w3 ⟨x1,x2⟩ => ?_
   rw [if_pos ⟨hm,hbl⟩] at x2
   obtain ⟨vw,y1,y2,y3⟩:=x2
   exact ⟨x1.mono fun _ _ h=>h.elim,hw'.trans x1,vw,y1,by have:=hw'.size; omega,y3⟩
  refine Goes.drawn (q:=17) (fun z=>z=xb) hTT mixed (by kernel_rfl) rfl ?_
  intro hB
  refine Drawn.loads hTT hB rfl hb12 (by first | exact fun h=>h | (intro h; omega) | assumption) rfl rfl ?_
  refine Drawn.turn2 hB rfl ?_ ?_
  all_goals
   intro w13 hw13
   refine Turn.loadb hTT hB rfl (hw13.heap' hx12) rfl rfl ?_
   refine Drawn.turn1 hB rfl ?_
   intro w14 hw14
   refine Turn.loadb hTT hB rfl ((hw13.trans hw14).heap' hx12) rfl rfl ?_
   have hdV':=fun w' (hw':Chg None' w14 w')=>hdV w' ((hw13.trans hw14).trans hw')
   refine Drawn.callQ hB rfl rfl (hdV') ?_
   rintro _ w15 hs15 ⟨hw15,vw,rfl,hvw,hV⟩
   refine Drawn.adv hTT hB rfl ?_
   refine Drawn.turn1 hB rfl ?_
   intro w16 hw16
   refine Turn.store hTT hB rfl ((hw15.trans hw16).heap' hx12) (by first | (intro h; exact rfl) | (intro h; omega)) rfl rfl rfl ?_
   intro w17 hxb17 hs17 hz17
   refine Drawn.nil hB ?_
   intro w18 hw18
   refine Goes.adv hTT 400 rfl ?_
   have hw1216:=hw15.trans hw16
   have hx18:=hw18.heap' hxb17
   have l12:=lt_of_heap hx12
   have s1216:=hw1216.size
   have hw018:Chg None' w w18:=((hw012.trans hw1216).since hs17 (fun z hz e=>by omega)).trans hw18
   have hR18:RmSt Fr w18 R (newRm c 0):=((hR12.grow hw1216).apart hcr ht (hw1216.heap' hx12) (by omega) hxF (by decide) hs17).grow hw18
   have hN18:=((hN12.grow hw1216).note hs17 (by omega) (by omega) (by omega) (by omega)).grow hw18
   have hA18:=((hA12.grow hw1216).chg hs17 (fun b' hb' e=>by
    rcases hb' with h | h | h | h
    ·omega
    ·omega
    ·omega
    ·rw [hAm] at h; have:=Option.some.inj h; omega)).grow hw18
   have hV18:VwOk w18 ⟨vw,c,p,A.ab,some mb⟩:=⟨hw18.heap' (hs17.heap (hw16.heap' hV.obj) (by simp only; omega)),hc.chg hw018,hm⟩
   have hFv:¬ Fr vw:=fun hz=>by have:=hR12.low vw hz; omega
   obtain ⟨F,Fr2,S,mo,eS,hS,hSc,hSl,hSF⟩:=sto_new (w7:=w7) hc ht hw018 hm hx18 hN18 hA18 hAm hR18 hRc hRp hRm hRl hRX hV18 hFr hFv hw07.size (by omega) (by omega) (by omega) (by omega) (by omega) (by omega) (by omega)
   exact Goes.ret2 hTT rfl Tryz.func11 rfl rfl rfl ⟨F,Fr2,S,mo,by rw [eS],hS,hSc,hSl,hSF,hw018⟩
end Go.Proofs.YtnaoiegcobineaaGreatDoor
namespace Go.Proofs.YtnaoiegcobineaaGreatDoor
open Go.RowKit
structure Fixed (n:Nat) (S:Sto):Prop where
 ab:S.A.ab<n
 mc:S.A.mc<n
 vb:S.v.vb<n
 rb:S.R.rb<n
 sb:S.R.sb<n
 tab:0<n
 ca:∀ b off s,S.p.ca=some ⟨b,off,s⟩→b<n
 ka:∀ b off s,S.p.ka=some ⟨b,off,s⟩→b<n
section
variable {F Fr:Nat→Prop} {w w':World} {S:Sto} {s:StM} {by':Int} {mo:Mo}
theorem StoOk.fixed (h:StoOk F Fr w S s by' mo):Fixed w.heap.size S:=by
 have hrm:=h.room
 have hmf:=may_facts hrm.may
 have hrc:=h.rc
 rw [hrc] at hmf
 exact ⟨lt_of_heap h.ar.obj,lt_of_heap h.ar.cap,lt_of_heap h.vw.obj,lt_of_heap hrm.obj,World.block_lt_of_cell? w _ (hrm.sl 0 (by have:=hmf.n; have:=hrm.ok.n; rw [hrc] at this; omega)),World.block_lt_of_cell? w _ (hrm.tab 0 (by decide)),
  fun b off s e=>h.ca.1.block (by have:=hmf.n; omega) e,fun b off s e=>h.ka.1.block (by have:=hmf.keep; have:=hmf.n; omega) e⟩
theorem StoOk.one (h:StoOk F Fr w S s by' mo) {b:Nat} (he:ExtS F w S b) (hc:Chg (fun z=>z=b) w w'):StoOk F Fr w' S s by' mo:=by
 refine h.other hc (fun z e=>e▸he) ?_
 obtain ⟨t,hk,ht⟩:=he.kd
 intro al hal k sz q hq
 obtain ⟨al0,a1,a2,a3,a4⟩:=h.th
 have:=a1.uniq hal
 subst this
 by_cases hk':∀ (o:Nat) t,s.th[o]? = some (some t)→(o:Int)≠k
 ·rw [a4 k hk'] at hq; cases hq
 ·simp only [Classical.not_forall,Decidable.not_not] at hk'
  obtain ⟨o,t1,g1,g2⟩:=hk'
  obtain ⟨q1,_,b2,_,_,b5⟩:=a3 o t1 g1
  rw [g2,hq] at b2
  have e:=thL_inj (Option.some.inj b2)
  rw [e]
  intro b' off s' e' hz
  have:=b5 b' off s' e'
  rw [hz,hk] at this
  exact ht.2.2 (Option.some.inj (Option.some.inj this))
theorem StoOk.boxed (h:StoOk F Fr w S s by' mo) {n b t:Nat} (hf:Fixed n S) (hb:n≤b) (hF:¬ F b) (hk:kd w b=some (some t)) (ht:t≠264∧t≠260∧t≠3) (hc:Chg (fun z=>z=b) w w'):StoOk F Fr w' S s by' mo:=by
 obtain ⟨f1,f2,f3,f4,f5,f6,f7,f8⟩:=hf
 exact h.one ⟨hF,⟨by omega,by omega,by omega,by omega,by omega,by omega⟩,fun off s e=>by have:=f7 _ _ _ e; omega,fun off s e=>by have:=f8 _ _ _ e; omega,t,hk,ht⟩ hc
theorem StoOk.old (h:StoOk F Fr w S s by' mo) {b t:Nat} {v:Value} {l:List Value} {fz:Nat × Nat} (hb:w.heap[b]? = some (.cells (v::l).toArray t fz)) (hF:¬ F b) (ht:(t≠264∧t≠260∧t≠3)∧t≠145∧t≠80∧t≠157∧t≠152) (hv:∀ x,v≠sfV x) (htab:0≠b) (hca:∀ off s,S.p.ca≠some ⟨b,off,s⟩) (hka:∀ off s,S.p.ka≠some ⟨b,off,s⟩) (hc:Chg (fun z=>z=b) w w'):StoOk F Fr w' S s by' mo:=by
 have hrm:=h.room
 have hmf:=may_facts hrm.may
 have hkb:=kd_cells hb
 have ne:∀ {a t':Nat},kd w a=some (some t')→t≠t'→a≠b:=fun ha hne=>kd_ne ha hkb (fun e=>hne (Option.some.inj (Option.some.inj e)).symm)
 have hs1:w.cell? ⟨S.R.sb,0,none⟩=some (sfV (S.R.S 0)):=hrm.sl 0 (by have:=hmf.n; have:=hrm.ok.n; omega)
 refine h.one ⟨hF,⟨ne (kd_cells h.ar.obj) ht.2.1,ne (kd_cells h.ar.cap) ht.2.2.1,ne (kd_cells h.vw.obj) ht.2.2.2.1,ne (kd_cells hrm.obj) ht.2.2.2.2,fun e => ?_,htab⟩,hca,hka,t,hkb,ht.1⟩ hc
 rw [e,cell_of hb] at hs1
 exact hv _ (Option.some.inj hs1)
end
structure Lv (c:Conf) (n0:Nat) (w0 w:World) (F:Nat→Prop) (S:Sto) (s:StM):Prop where
 ok:∃ Fr mo,StoOk F Fr w S s (stBytes s) mo
 inv:s.Ok c
 sc:S.c=c
 fx:Fixed n0 S
 base:∀ z,F z→w0.heap.size≤z
 chg:Chg None' w0 w
def LvTo (c:Conf) (n0:Nat) (w0 w:World) (F:Nat→Prop) (S:Sto) (s:StM) (w':World):Prop := ∃ F',Lv c n0 w0 w' F' S s∧(∀ z,F' z→F z∨w.heap.size≤z)∧Chg F w w'
section
variable {c:Conf} {n0:Nat} {w0 w w':World} {F:Nat→Prop} {S:Sto} {s s':StM}
theorem Lv.low (h:Lv c n0 w0 w F S s):∀ z,F z→z<w.heap.size:=by obtain ⟨_,_,h1⟩:=h.ok; exact h1.low
theorem Lv.grow (h:Lv c n0 w0 w F S s) (hc:Chg None' w w'):Lv c n0 w0 w' F S s:=by
 obtain ⟨Fr,mo,h1⟩:=h.ok
 exact {h with ok:=⟨Fr,mo,h1.grow hc⟩,chg:=h.chg.trans hc}
theorem Lv.box (h:Lv c n0 w0 w F S s) {b t:Nat} (hb:n0≤b) (hF:¬ F b) (hk:kd w b=some (some t)) (ht:t≠264∧t≠260∧t≠3) (hc:Chg (fun z=>z=b) w w') (h0:w0.heap.size≤b):Lv c n0 w0 w' F S s:=by
 obtain ⟨Fr,mo,h1⟩:=h.ok
 exact {h with ok:=⟨Fr,mo,h1.boxed h.fx hb hF hk ht hc⟩,chg:=h.chg.since hc (fun z hz e=>by omega)}
theorem Lv.to (h:Lv c n0 w0 w F S s) (ht:StTo F w w' S s' (stBytes s')) (hi:s'.Ok c):LvTo c n0 w0 w F S s' w':=by
 obtain ⟨F',Fr',mo',h1,h2,h3⟩:=ht
 have hs:=h.chg.size
 exact ⟨F',⟨⟨Fr',mo',h1⟩,hi,h.sc,h.fx,fun z hz=>(h2 z hz).elim (h.base z) (fun g=>by omega),h.chg.since h3 (fun z hz e=>by have:=h.base z e; omega)⟩,h2,h3⟩
theorem Lv.self (h:Lv c n0 w0 w F S s) (hc:Chg None' w w'):LvTo c n0 w0 w F S s w':=⟨F,h.grow hc,fun _ h => .inl h,hc.mono fun _ _ h=>h.elim⟩
end
end Go.Proofs.YtnaoiegcobineaaGreatDoor
namespace Go.Proofs.YtnaoiegcobineaaGreatDoor
open Go.RowKit
theorem Rd.keepI {w w':World} {a:Option Addr} {l:List Int} {q t:Nat} {c:Array Value} {fz:Nat × Nat} (hr:Rd .i64 w a l) (hq:w.heap[q]? = some (.cells c t fz)) (hc:∀ x ∈ c.toList,∀ z,x ≠ .int .i64 z) (hs:Chg (fun b=>b=q) w w'):Rd .i64 w' a l:=fun j hj=>by
 obtain ⟨b,off,e,hcell⟩:=hr j hj
 refine ⟨b,off,e,hs.cell hcell (fun hx => ?_)⟩
 subst hx
 rw [cell_of hq] at hcell
 exact hc _ (Array.mem_toList_iff.2 (Array.mem_of_getElem? hcell)) _ rfl
theorem RpOk.keep {w w':World} {r:RP} {pl:PlM} (h:RpOk w r pl) {q t:Nat} {c:Array Value} {fz:Nat × Nat} (hq:w.heap[q]? = some (.cells c t fz)) (hc:∀ x ∈ c.toList,∀ z,x ≠ .int .i64 z) (hs:Chg (fun b=>b=q) w w'):RpOk w' r pl :=
 ⟨⟨⟨h.o.ok.rd.keepI hq hc hs,h.o.ok.len⟩,h.o.cap,h.o.lt.grow hs.size⟩,⟨⟨h.f.ok.rd.keepI hq hc hs,h.f.ok.len⟩,h.f.cap,h.f.lt.grow hs.size⟩,h.eo,h.ef⟩
end Go.Proofs.YtnaoiegcobineaaGreatDoor
namespace Go.Proofs.YtnaoiegcobineaaGreatDoor
open Go.RowKit
structure TR where
 size:Int
 q:Plc
def trL (t:TR):List Value := .int .i64 t.size::plcL t.q
structure VR where
 is:Bool
 who:Int
 pf:Int
 fa:Int
 pt:Int
 ta:Int
 sa:Option Addr
 sl:Nat
 sc:Nat
 st:Int
 f:Int
 t:Int
 size:Int
 gone:Int
def vrwL (v:VR):List Value := [.bool v.is,.int .i64 v.who,.int .i64 v.pf,.int .i64 v.fa,.int .i64 v.pt,.int .i64 v.ta,.slice v.sa v.sl v.sc,.int .i64 v.st,.int .i64 v.f,.int .i64 v.t,.int .i64 v.size,.int .i64 v.gone]
theorem trL_len (t:TR):(trL t).length=5:=rfl
theorem vrwL_len (t:VR):(vrwL t).length=12:=rfl
abbrev tr0:TR:=⟨0,q0⟩
abbrev vr0:VR:=⟨false,0,0,0,0,0,none,0,0,0,0,0,0,0⟩
structure SR where
 c:Conf
 cp:ConfAt
 keep:List Int
 ka:Option Addr
 kcap:Nat
 ra:RA
 rr:RR
 ts:List TR
 ta:Option Addr
 tcap:Nat
 ms:List VR
 ma:Option Addr
 mcap:Nat
def srL (r:SR):List Value:=confL r.c r.cp ++ [.slice r.ka r.keep.length r.kcap]++raL r.ra++rrL r.rr ++ [.slice r.ta r.ts.length r.tcap,.slice r.ma r.ms.length r.mcap]
def tRel (x:Option ThM) (t:TR):Prop:=t.size=szT x ∧ ∀ y,x=some y→plcP t.q=y.q
def vRel (x:Option MvM) (v:VR):Prop:=v.is=x.isSome ∧ ∀ m,x=some m→v.who=m.who∧v.pf=m.pf∧v.fa=m.fa∧v.pt=m.pt∧v.ta=m.ta∧v.f=m.f∧v.t=m.t∧v.size=m.size∧v.gone=m.gone
abbrev rm0 (M:RmM):RmM:={M with tot:=0}
structure SrOk (w:World) (r:SR) (s:StM):Prop where
 conf:ConfOk w r.c r.cp
 kr:Rd .i64 w r.ka r.keep
 ke:r.keep=s.keep
 ra:RaOk w r.ra
 rb:r.ra.bs=s.bs
 rs:r.ra.steps=s.rm.tot
 la:ALt w r.ra.a
 lk:ALt w r.ka
 rr:RrOk w r.rr (rm0 s.rm)
 rc:r.rr.c=r.c
 rp:r.rr.cp=r.cp
 tr:Rows trL 5 w r.ta r.ts
 tl:ALt w r.ta
 tc:r.ts.length≤r.tcap
 tn:r.ts.length=s.th.length
 te:∀ (o:Nat) x t,s.th[o]? = some x→r.ts[o]? = some t→tRel x t
 tq:∀ t ∈ r.ts,PlcOk w t.q∧ALt w t.q.pa
 mr:Rows vrwL 12 w r.ma r.ms
 ml:ALt w r.ma
 mc:r.ms.length≤r.mcap
 mn:r.ms.length=s.mv.length
 me:∀ (k:Nat) x v,s.mv[k]? = some x→r.ms[k]? = some v→vRel x v
structure SrOut (S:Nat→Prop) (r:SR):Prop where
 k:OutA S r.ka
 ra:OutA S r.ra.a
 rr:RrOut S r.rr
 ta:OutA S r.ta
 tq:∀ t ∈ r.ts,OutA S t.q.pa
 ma:OutA S r.ma
theorem SrOk.grow {w w':World} {r:SR} {s:StM} (h:SrOk w r s) (hc:Chg None' w w'):SrOk w' r s :=
 {h with conf:=h.conf.chg hc,kr:=h.kr.chg hc,ra:=h.ra.grow hc,la:=h.la.grow hc.size,lk:=h.lk.grow hc.size,rr:=h.rr.grow hc,tr:=h.tr.chg hc,tl:=h.tl.grow hc.size,tq:=fun t ht=>⟨(h.tq t ht).1.grow hc,(h.tq t ht).2.grow hc.size⟩,mr:=h.mr.chg hc,ml:=h.ml.grow hc.size}
theorem SrOk.far {w w':World} {r:SR} {s:StM} {S:Nat→Prop} (h:SrOk w r s) (ho:SrOut S r) (hcf:ConfOk w' r.c r.cp) (hc:Chg S w w'):SrOk w' r s :=
 {h with conf:=hcf,kr:=h.kr.far ho.k hc,ra:=⟨h.ra.rd.far ho.ra hc,h.ra.len,h.ra.lc,h.ra.rng⟩,la:=h.la.grow hc.size,lk:=h.lk.grow hc.size,rr:=h.rr.far ho.rr hc,tr:=h.tr.far ho.ta hc,tl:=h.tl.grow hc.size,tq:=fun t ht=>⟨⟨(h.tq t ht).1.rd.far (ho.tq t ht) hc,(h.tq t ht).1.len⟩,(h.tq t ht).2.grow hc.size⟩,mr:=h.mr.far ho.ma hc,ml:=h.ml.grow hc.size}
def SKeep (w:World) (r r':SR):Prop:=r'.c=r.c∧r'.cp=r.cp ∧ ∀ S:Nat→Prop,(∀ z,S z→z<w.heap.size)→SrOut S r→SrOut S r'
theorem SKeep.refl (w:World) (r:SR):SKeep w r r:=⟨rfl,rfl,fun _ _ h=>h⟩
theorem SKeep.trans {w w1:World} {r r1 r2:SR} (h:SKeep w r r1) (h':SKeep w1 r1 r2) (hs:w.heap.size≤w1.heap.size):SKeep w r r2:=⟨h'.1.trans h.1,h'.2.1.trans h.2.1,fun S hS ho =>
 h'.2.2 S (fun z hz=>by have:=hS z hz; omega) (h.2.2 S hS ho)⟩
abbrev srBox (w:World) (b:Nat) (r:SR):Prop:=w.heap[b]? = some (.cells (srL r).toArray 48 (0,0))
theorem SrOk.out {w:World} {r:SR} {s:StM} {S:Nat→Prop} (h:SrOk w r s) (hs:∀ z,S z→w.heap.size≤z):SrOut S r:=⟨h.lk.out hs,h.la.out hs,h.rr.out hs,h.tl.out hs,fun t ht=>(h.tq t ht).2.out hs,h.ml.out hs⟩
theorem SrOk.box {w w2 w' w'':World} {r r':SR} {s s':StM} {qb:Nat} (h:SrOk w r s) (hk:SKeep w2 r r') (h':SrOk w' r' s') (hw:w.heap.size≤qb) (hq:qb<w2.heap.size) (hc:Chg (fun z=>z=qb) w' w'') (hcc:Chg None' w w''):SrOk w'' r' s':=by
 have ho:=hk.2.2 (fun z=>z=qb) (fun z e=>e▸hq) (h.out fun z e=>e▸hw)
 refine h'.far ho ?_ hc
 have:=h.conf.chg hcc
 rw [hk.1,hk.2.1]
 exact this
def SrTo (w:World) (r:SR) (s':StM) (r':SR) (w':World):Prop:=SrOk w' r' s'∧SKeep w r r'∧Chg None' w w'
theorem SrTo.self {w w':World} {r:SR} {s:StM} (h:SrOk w r s) (hc:Chg None' w w'):SrTo w r s r w':=⟨h.grow hc,.refl w r,hc⟩
theorem SrTo.trans {w w1 w2:World} {r r1 r2:SR} {s1 s2:StM} (h:SrTo w r s1 r1 w1) (h':SrTo w1 r1 s2 r2 w2):SrTo w r s2 r2 w2:=⟨h'.1,h.2.1.trans h'.2.1 h.2.2.size,h.2.2.trans h'.2.2⟩
end Go.Proofs.YtnaoiegcobineaaGreatDoor
namespace Go.Proofs.YtnaoiegcobineaaGreatDoor
open Go.RowKit
section
variable {w:World} {r:SR} {s:StM} {pd:Option (Nat × PlcM)}
end
end Go.Proofs.YtnaoiegcobineaaGreatDoor
namespace Go.Proofs.YtnaoiegcobineaaGreatDoor
open Go.RowKit
end Go.Proofs.YtnaoiegcobineaaGreatDoor
namespace Go.Proofs.YtnaoiegcobineaaGreatDoor
open Go.RowKit
end Go.Proofs.YtnaoiegcobineaaGreatDoor
namespace Go.Proofs.YtnaoiegcobineaaGreatDoor
open Go.RowKit
end Go.Proofs.YtnaoiegcobineaaGreatDoor
namespace Go.Proofs.YtnaoiegcobineaaGreatDoor
open Go.RowKit
end Go.Proofs.YtnaoiegcobineaaGreatDoor
namespace Go.Proofs.YtnaoiegcobineaaGreatDoor
open Go.RowKit
end Go.Proofs.YtnaoiegcobineaaGreatDoor
namespace Go.Proofs.YtnaoiegcobineaaGreatDoor
open Go.RowKit
end Go.Proofs.YtnaoiegcobineaaGreatDoor
namespace Go.Proofs.YtnaoiegcobineaaGreatDoor
open Go.RowKit
end Go.Proofs.YtnaoiegcobineaaGreatDoor
namespace Go.Proofs.YtnaoiegcobineaaGreatDoor
open Go.RowKit
end Go.Proofs.YtnaoiegcobineaaGreatDoor
namespace Go.Proofs.YtnaoiegcobineaaGreatDoor
open Go.RowKit
end Go.Proofs.YtnaoiegcobineaaGreatDoor
namespace Go.Proofs.YtnaoiegcobineaaGreatDoor
open Go.RowKit
end Go.Proofs.YtnaoiegcobineaaGreatDoor
namespace Go.Proofs.YtnaoiegcobineaaGreatDoor
open Go.RowKit
theorem Own.rd8 {base n:Nat} {w:World} {v:Value} {l:List Int} (h:Own base 5 1 w v n (l.map (Value.int .u8))) (hn:l.length=n):∃ a cap,v = .slice a n cap∧Rd .u8 w a l ∧ ∀ b off s,a=some ⟨b,off,s⟩→base≤b∧b<w.heap.size:=by
 rcases h.2 with ⟨rfl,h2⟩ | ⟨g,cap,cur,rfl,hg,hh,hcap,hm2,_,hx2⟩
 ·subst h2
  have:l = []:=List.length_eq_zero_iff.1 hn
  subst this
  exact ⟨none,0,rfl,Rd.nil _ _ _,(by intro b off s e; cases e)⟩
 ·exact ⟨_,cap,rfl,Rd.of_take hh (by rw [hn]; rw [Nat.mul_one] at hx2; exact hx2),(by intro b off s e; cases e; exact ⟨hg,lt_of_heap hh⟩)⟩
end Go.Proofs.YtnaoiegcobineaaGreatDoor
namespace Go.Proofs.YtnaoiegcobineaaGreatDoor
open Go.RowKit
end Go.Proofs.YtnaoiegcobineaaGreatDoor
namespace Go.Proofs.YtnaoiegcobineaaGreatDoor
open Go.RowKit
section
variable {c:Conf} {s:StM} {pd:Option (Nat × PlcM)}
end
end Go.Proofs.YtnaoiegcobineaaGreatDoor
namespace Go.Proofs.YtnaoiegcobineaaGreatDoor
open Go.RowKit
structure Act22 where
 kind:Int
 own:Int
 a:Int
 b:Int
 bs:List Int
 ba:Option Addr
 bc:Nat
def act22L (u:Act22):List Value := [.int .u8 u.kind,.int .i64 u.own,.int .i64 u.a,.int .i64 u.b,.slice u.ba u.bs.length u.bc]
structure Act22Ok (w:World) (u:Act22):Prop where
 kind:0≤u.kind∧u.kind<256
 a : -9223372036854775808≤u.a∧u.a≤9223372036854775807
 b : -9223372036854775808≤u.b∧u.b≤9223372036854775807
 rd:Rd .u8 w u.ba u.bs
 rng:InB u.bs
 lc:u.bs.length≤u.bc
 len:u.bc≤9223372036854775807
theorem Act22Ok.grow {w w':World} {u:Act22} (h:Act22Ok w u) (hc:Chg None' w w'):Act22Ok w' u:=⟨h.kind,h.a,h.b,h.rd.chg hc,h.rng,h.lc,h.len⟩
def do22E (c:Conf) (s:StM) (u:Act22):Int:=if u.kind % 7=0 then stAllocE c s u.own u.a else if u.kind % 7=1 then ownedE s u.own else if u.kind % 7=2 then stResizeE c s u.own u.a else if u.kind % 7=3 then withinE s u.own u.a u.b else if u.kind % 7=4 then withinE s u.own u.a u.bs.length else if u.kind % 7=5 then 0 else stSetE s u.own u.a
def do22S (c:Conf) (s:StM) (u:Act22):StM:=if u.kind % 7=0 then stAlloc c s u.own u.a else if u.kind % 7=1 then stFree c s u.own else if u.kind % 7=2 then stResize c s u.own u.a else if u.kind % 7=3 then stRead c s u.own u.a u.b else if u.kind % 7=4 then stWrite c s u.own u.a u.bs else if u.kind % 7=5 then stTick c s else stSet s u.own u.a
def do22B (c:Conf) (s:StM) (u:Act22):List Int:=if u.kind % 7=3 then stReadB c s u.own u.a u.b else []
theorem StM.OkP.do22 {c:Conf} {s:StM} (h:s.Ok c) (u:Act22) (hu:InB u.bs):(do22S c s u).Ok c:=by
 unfold do22S
 split
 ·exact h.alloc _ _
 split
 ·exact h.free _
 split
 ·exact h.resize _ _
 split
 ·exact h.read _ _ _
 split
 ·exact h.write _ _ hu
 split
 ·exact h.tick
 ·exact h.set _ _
end Go.Proofs.YtnaoiegcobineaaGreatDoor
namespace Go.Proofs.YtnaoiegcobineaaGreatDoor
open Go.RowKit
theorem ref22_Few (a:Option Addr) (cap:Nat) (xs:List Act22) (w:World) (hr:Rows act22L 5 w a xs) (hl:xs.length≤9223372036854775807) :
 Does Tryz.prog 18 #[.slice a xs.length cap] w (fun v w' => ∃ b,v = .bool b∧(b=true→xs.length≤20 ∧ ∀ x ∈ xs,x.bs.length≤100)∧w=w'):=by
 refine Does.enter Tryz.func18 rfl Tryz.ntmps18 rfl rfl ?_
 refine Goes.adv hTT 400 rfl ?_
 refine Goes.loop (α:=Nat) (fun k => [(0,false,.slice a xs.length cap),(3,false,.int .i64 k)])
  (fun k w'=>w'=w∧k≤xs.length∧k≤21 ∧ ∀ j (h:j<xs.length),j<k→xs[j].bs.length≤100) (fun k=>21 - k) 0 ⟨rfl,rfl,trivial⟩ ⟨rfl,Nat.zero_le _,by omega,fun _ _ h=>by omega⟩ ?_
 rintro k w1 ⟨hw,hk,hk17,hpre⟩ ih
 subst hw
 refine Goes.adv hTT 400 rfl ?_
 have hend:¬ (k<xs.length∧k<21)→xs.length≤20 → ∀ x ∈ xs,x.bs.length≤100:=fun h1 h2 x hx=>by
  obtain ⟨j,hj,rfl⟩:=List.getElem_of_mem hx
  exact hpre j hj (by omega)
 refine Goes.fork hTT rfl rfl rfl (fun h1 => ?_) (fun h1 => ?_)
 ·refine Goes.fork hTT rfl rfl rfl (fun h2 => ?_) (fun h2 => ?_)
  ·have g1:k<xs.length:=by have:=of_decide_eq_true h1; omega
   have g2:k<21:=by have:=of_decide_eq_true h2; omega
   obtain ⟨b,off,rfl,hcell⟩:=hr.at g1
   refine Goes.index hTT rfl (j:=(k*5)) (by omega) (by omega) (by first | rfl | omega | (simp; done) | (simp; omega)) rfl ?_
   refine Goes.load hTT rfl (hcell 4 _ rfl) rfl ?_
   refine Goes.fork hTT rfl rfl rfl (fun h3 => ?_) (fun h3 => ?_)
   ·exact Goes.ret1 hTT rfl Tryz.func18 rfl rfl ⟨false,rfl,(fun h=>Bool.noConfusion h),rfl⟩
   ·have g3:=of_decide_eq_false h3
    refine Goes.arith hTT rfl (w64 (by omega)) rfl ?_
    exact ih (k+1) _ _ ⟨rfl,by omega,by omega,fun j hj hjk=>by
     by_cases e:j=k
     ·subst e; omega
     ·exact hpre j hj (by omega)⟩ (by omega) ⟨rfl,rfl,trivial⟩
  ·have g2:=of_decide_eq_false h2
   exact Goes.ret1 hTT rfl Tryz.func18 rfl rfl ⟨_,rfl,fun h=>by have:=of_decide_eq_true h; exact ⟨by omega,hend (by omega) (by omega)⟩,rfl⟩
 ·have g1:=of_decide_eq_false h1
  exact Goes.ret1 hTT rfl Tryz.func18 rfl rfl ⟨_,rfl,fun h=>by have:=of_decide_eq_true h; exact ⟨by omega,hend (by omega) (by omega)⟩,rfl⟩
end Go.Proofs.YtnaoiegcobineaaGreatDoor
namespace Go.Proofs.YtnaoiegcobineaaGreatDoor
open Go.RowKit
section
variable {c:Conf} {n0:Nat} {w0 w:World} {F:Nat→Prop} {S:Sto} {s:StM}
theorem Lv.ofE (h:Lv c n0 w0 w F S s) {s':StM} {e:Int} (hi:s'.Ok c) {P:Program} {k:FuncId} {args:Array Value} (hd:Does P k args w (StE F w S s' e)):Does P k args w (fun v w'=>v = .int .i64 e∧LvTo c n0 w0 w F S s' w') :=
 hd.mono fun v w' ⟨e1,ht⟩=>⟨e1,h.to ht hi⟩
theorem lv_Alloc (h:Lv c n0 w0 w F S s) (o size:Int):Does Tryz.prog 38 #[stoV S,.int .i64 o,.int .i64 size] w (fun v w'=>v = .int .i64 (stAllocE c s o size)∧LvTo c n0 w0 w F S (stAlloc c s o size) w'):=by
 obtain ⟨Fr,mo,h1⟩:=h.ok
 have hd:=store_Alloc h1 (by rw [h.sc]; exact h.inv) o size
 rw [h.sc] at hd
 exact h.ofE (h.inv.alloc o size) hd
theorem lv_Free (h:Lv c n0 w0 w F S s) (o:Int):Does Tryz.prog 39 #[stoV S,.int .i64 o] w (fun v w'=>v = .int .i64 (ownedE s o)∧LvTo c n0 w0 w F S (stFree c s o) w'):=by
 obtain ⟨Fr,mo,h1⟩:=h.ok
 have hd:=store_Free h1 (by rw [h.sc]; exact h.inv) o
 rw [h.sc] at hd
 exact h.ofE (h.inv.free o) hd
theorem lv_Resize (h:Lv c n0 w0 w F S s) (o size:Int):Does Tryz.prog 40 #[stoV S,.int .i64 o,.int .i64 size] w (fun v w'=>v = .int .i64 (stResizeE c s o size)∧LvTo c n0 w0 w F S (stResize c s o size) w'):=by
 obtain ⟨Fr,mo,h1⟩:=h.ok
 have hd:=store_Resize h1 (by rw [h.sc]; exact h.inv) o size
 rw [h.sc] at hd
 exact h.ofE (h.inv.resize o size) hd
theorem lv_Write (h:Lv c n0 w0 w F S s) (o i:Int) (a:Option Addr) (cap:Nat) (l:List Int) (hi : -9223372036854775808≤i∧i≤9223372036854775807) (hr:Rd .u8 w a l) (hlc:l.length≤cap) (hl:l.length≤9223372036854775807) (hin:InB l) (hout:0<l.length→OutA F a):Does Tryz.prog 41 #[stoV S,.int .i64 o,.int .i64 i,.slice a l.length cap] w (fun v w'=>v = .int .i64 (withinE s o i l.length)∧LvTo c n0 w0 w F S (stWrite c s o i l) w'):=by
 obtain ⟨Fr,mo,h1⟩:=h.ok
 have hd:=store_Write h1 (by rw [h.sc]; exact h.inv) o i a cap l hi hr hlc hl hin hout
 rw [h.sc] at hd
 exact h.ofE (h.inv.write o i hin) hd
theorem lv_Read (h:Lv c n0 w0 w F S s) (o i n:Int) (hi : -9223372036854775808≤i∧i≤9223372036854775807) (hn : -9223372036854775808≤n∧n≤9223372036854775807):Does Tryz.prog 26 #[stoV S,.int .i64 o,.int .i64 i,.int .i64 n] w
 (fun v w' => ∃ a cap,v = .tuple #[.slice a (stReadB c s o i n).length cap,.int .i64 (withinE s o i n)]∧Rd .u8 w' a (stReadB c s o i n)∧(∀ b off s',a=some ⟨b,off,s'⟩→w.heap.size≤b∧b<w'.heap.size)∧LvTo c n0 w0 w F S (stRead c s o i n) w'):=by
 obtain ⟨Fr,mo,h1⟩:=h.ok
 have hd:=store_Read h1 (by rw [h.sc]; exact h.inv) o i n hi hn
 rw [h.sc] at hd
 refine hd.mono fun v w' ⟨u,e,ho,ht⟩ => ?_
 obtain ⟨a,cap,e2,hr,ha⟩:=ho.rd8 rfl
 exact ⟨a,cap,by rw [e,e2],hr,ha,h.to ht (h.inv.read o i n)⟩
theorem lv_Tick (h:Lv c n0 w0 w F S s):Does Tryz.prog 37 #[stoV S] w (fun v w'=>v = .int .i64 0∧LvTo c n0 w0 w F S (stTick c s) w'):=by
 obtain ⟨Fr,mo,h1⟩:=h.ok
 have hd:=store_Tick h1 (by rw [h.sc]; exact h.inv)
 rw [h.sc] at hd
 exact h.ofE h.inv.tick hd
theorem lv_Set (h:Lv c n0 w0 w F S s) (k keep:Int):Does Tryz.prog 42 #[stoV S,.int .i64 k,.int .i64 keep] w (fun v w'=>v = .int .i64 (stSetE s k keep)∧LvTo c n0 w0 w F S (stSet s k keep) w'):=by
 obtain ⟨Fr,mo,h1⟩:=h.ok
 exact h.ofE (h.inv.set k keep) (store_Set h1 (by rw [h.sc]; exact h.inv) k keep)
theorem lv_Steps (h:Lv c n0 w0 w F S s):Does Tryz.prog 15 #[stoV S] w (fun v w'=>v = .int .i64 (s.rm.tot - S.R.lap)∧Lv c n0 w0 w' F (S.relap s.rm.tot) s∧Chg F w w'):=by
 obtain ⟨Fr,mo,h1⟩:=h.ok
 refine (store_Steps h1).mono fun v w' ⟨e,h2,hc⟩=>⟨e,⟨⟨Fr,mo,h2⟩,h.inv,h.sc,?_,h.base,h.chg.since hc (fun z hz e=>by have:=h.base z e; have:=h.chg.size; omega)⟩,hc⟩
 obtain ⟨f1,f2,f3,f4,f5,f6,f7,f8⟩:=h.fx
 exact ⟨f1,f2,f3,f4,f5,f6,f7,f8⟩
theorem lv_Held (h:Lv c n0 w0 w F S s):Does Tryz.prog 13 #[stoV S] w (Grow (.int .i64 (heldM s.rm.pl:Nat)) w):=by obtain ⟨Fr,mo,h1⟩:=h.ok; exact store_Held h1
theorem lv_Bytes (h:Lv c n0 w0 w F S s):Does Tryz.prog 14 #[stoV S] w (Grow (.int .i64 (stBytes s)) w):=by obtain ⟨Fr,mo,h1⟩:=h.ok; exact store_Bytes h1
theorem lv_Open (h:Lv c n0 w0 w F S s) (k:Int):Does Tryz.prog 28 #[stoV S,.int .i64 k] w (Grow (.int .i64 (rmOpen s.rm k:Nat)) w):=by obtain ⟨Fr,mo,h1⟩:=h.ok; exact store_Open h1 k
theorem lv_Left (h:Lv c n0 w0 w F S s) (k:Int):Does Tryz.prog 27 #[stoV S,.int .i64 k] w (Grow (.int .i64 (stLeft s k:Nat)) w):=by obtain ⟨Fr,mo,h1⟩:=h.ok; exact store_Left h1 (by rw [h.sc]; exact h.inv) k
theorem lv_Size (h:Lv c n0 w0 w F S s) (o:Int):Does Tryz.prog 25 #[stoV S,.int .i64 o] w (Grow (.int .i64 (stSize s o)) w):=by obtain ⟨Fr,mo,h1⟩:=h.ok; exact store_Size h1 (by rw [h.sc]; exact h.inv) o
end
theorem newSt_ok {c:Conf} (hm:mayB c=true) (hA:RmAll c (newRm c 0)):(newSt c).Ok c:=by
 have hf:=may_facts hm
 have hth:∀ (o:Nat) t,(newSt c).th[o]?≠some (some t):=fun o t e=>by
  have:=List.mem_of_getElem? e
  simp only [newSt,List.mem_replicate] at this
  cases this.2
 have hmv:∀ (o:Nat) t,(newSt c).mv[o]?≠some (some t):=fun o t e=>by
  have:=List.mem_of_getElem? e
  simp only [newSt,List.mem_replicate] at this
  cases this.2
 have hmB:=hm
 unfold mayB at hmB
 simp only [Bool.and_eq_true,decide_eq_true_eq,withinM,Bool.not_eq_true'] at hmB
 refine ⟨hm,hA,hf.keep,fun x hx => ?_,?_,zeros_in _,?_,List.length_replicate,fun o t h=>absurd h (hth o t),fun o t h=>absurd h (hth o t),fun o t h=>absurd h (hth o t),fun o _ t _ h=>absurd h (hth o t),fun k m h=>absurd h (hmv k m),fun k n a h=>absurd ?_ h,(by rintro _ _ ⟨⟩),(by rintro _ _ ⟨⟩)⟩
 ·have h1:=hmB.1.1.1.1.2.2
  rw [List.any_eq_false] at h1
  have:=h1 x hx
  unfold keepBad withinM at this
  simp at this
  omega
 ·show ((zeros _).length:Int)=_
  rw [zeros_length]
  exact Int.toNat_of_nonneg (Int.mul_nonneg (by have:=hf.size; omega) (by have:=hf.pages; omega))
 ·show ((List.replicate c.slots.toNat none).length:Int)=_
  rw [List.length_replicate]
  exact Int.toNat_of_nonneg (by omega)
 ·unfold rmOwner
  split
  ·rfl
  ·rename_i x hx
   unfold rmGet at hx
   split at hx
   ·obtain ⟨_,e⟩:=newShs_get hx
    rw [e]
    rfl
   ·cases hx
theorem newSt_bytes (c:Conf):stBytes (newSt c)=0:=by
 rw [stBytes_eq]
 show ((List.replicate c.slots.toNat (none:Option ThM)).map szT).sum=0
 generalize c.slots.toNat=n
 induction n with
 |zero=>rfl
 |succ n ih=>rw [List.replicate_succ,List.map_cons,List.sum_cons,ih]; rfl
theorem lv_New (c:Conf) (p:ConfAt) (w:World) (hc:ConfOk w c p) (ht:TabAt w) (hm:mayB c=true):Does Tryz.prog 11 #[.agg (confL c p).toArray] w (fun v w' => ∃ F S,v = .tuple #[stoV S,.int .i64 0]∧Lv c w'.heap.size w w' F S (newSt c)∧S.R.lap=0∧S.p=p∧Chg None' w w'):=by
 refine (store_New c p w hc ht hm).mono fun v w' ⟨F,Fr,S,mo,e,h1,⟨h2,hp⟩,h3,h4,h5⟩=>⟨F,S,e,?_,h3,hp,h5⟩
 have hr:=h1.room
 have hok:=hr.ok
 rw [h1.rc,h2] at hok
 exact ⟨⟨Fr,mo,by rw [newSt_bytes]; exact h1⟩,newSt_ok hm ⟨hok,hr.mok,hr.mpos⟩,h2,h1.fixed,h4,h5⟩
end Go.Proofs.YtnaoiegcobineaaGreatDoor
namespace Go.Proofs.YtnaoiegcobineaaGreatDoor
open Go.RowKit
def smallC22:Conf:=⟨64,4,[32],[0],8,5,3,128⟩
def hello22:List Int := [104,101,108,108,111]
def aw22x0:StM:=newSt smallC22
def aw22x1:StM:=stAlloc smallC22 aw22x0 0 20
def aw22x2:StM:=stAlloc smallC22 aw22x1 1 20
def aw22x3:StM:=stAlloc smallC22 aw22x2 2 20
def aw22x4:StM:=stAlloc smallC22 aw22x3 3 20
def aw22x5:StM:=stWrite smallC22 aw22x4 3 0 hello22
def aw22x6:StM:=stFree smallC22 aw22x5 0
def aw22x7:StM:=stFree smallC22 aw22x6 2
def aw22x8:StM:=stTick smallC22 aw22x7
def aw22x9:StM:=stTick smallC22 aw22x8
def aw22x10:StM:=stTick smallC22 aw22x9
def aw22x11:StM:=stRead smallC22 aw22x10 3 0 6
theorem aw22_may:mayB smallC22=true:=by kernel_rfl
theorem aw22_a0:stAllocE smallC22 aw22x0 0 20=0:=by kernel_rfl
theorem aw22_a1:stAllocE smallC22 aw22x1 1 20=0:=by kernel_rfl
theorem aw22_a2:stAllocE smallC22 aw22x2 2 20=0:=by kernel_rfl
theorem aw22_a3:stAllocE smallC22 aw22x3 3 20=0:=by kernel_rfl
theorem aw22_w:withinE aw22x4 3 0 5=0:=by kernel_rfl
theorem aw22_f:ownedE aw22x5 0=0:=by kernel_rfl
theorem aw22_f2:ownedE aw22x6 2=0:=by kernel_rfl
theorem aw22_t:aw22x7.rm.tot - aw22x6.rm.tot=14:=by kernel_rfl
theorem aw22_l:stLeft aw22x7 0=24:=by kernel_rfl
theorem aw22_r:withinE aw22x10 3 0 6=0:=by kernel_rfl
theorem aw22_rb:stReadB smallC22 aw22x10 3 0 6 = [104,101,108,108,111,0]:=by kernel_rfl
theorem aw22_l2:stLeft aw22x11 0=0:=by kernel_rfl
theorem aw22_h:heldM aw22x11.rm.pl=1:=by kernel_rfl
theorem aw22_o:rmOpen aw22x11.rm 0=0:=by kernel_rfl
theorem aw22_b:stBytes aw22x11=40:=by kernel_rfl
theorem aw22_s:stSize aw22x11 3=20:=by kernel_rfl
end Go.Proofs.YtnaoiegcobineaaGreatDoor
namespace Go.Proofs.YtnaoiegcobineaaGreatDoor
open Go.RowKit
end Go.Proofs.YtnaoiegcobineaaGreatDoor
namespace Go.Proofs.YtnaoiegcobineaaGreatDoor
open Go.RowKit
end Go.Proofs.YtnaoiegcobineaaGreatDoor
namespace Go.Proofs.YtnaoiegcobineaaGreatDoor
open Go.RowKit
theorem Rd.of22 {k:IntKind} {w:World} {b:Nat} {c:Array Value} {t:TypeId} {fz:Nat × Nat} {zs:List Int} (h:w.heap[b]? = some (.cells c t fz)) (hc:c=(zs.map (Value.int k)).toArray):Rd k w (some ⟨b,0,none⟩) zs:=fun i hi =>
 ⟨b,0,rfl,by rw [cell_of h,hc]; simp [hi]⟩
theorem law22_small (w:World):Does Tryz.prog 43 #[] w (fun v w' => ∃ p,v = .agg (confL smallC22 p).toArray∧ConfOk w' smallC22 p∧Chg None' w w'):=by
 refine Does.enter Tryz.func43 rfl Tryz.ntmps43 rfl rfl ?_
 refine Goes.adv hTT 400 rfl ?_
 refine Goes.alloc hTT rfl ?_
 intro b w1 e1 hb hw1 hz1
 refine Goes.adv hTT 400 rfl ?_
 refine Goes.buildSlice hTT rfl ?_
 intro b2 w2 e2 hb2 hw2 hz2
 refine Goes.adv hTT 400 rfl ?_
 refine Goes.buildSlice hTT rfl ?_
 intro b3 w3 e3 hb3 hw3 hz3
 refine Goes.adv hTT 400 rfl ?_
 refine Goes.build hTT rfl rfl ?_
 refine Goes.store hTT rfl (hw3.heap' (hw2.heap' hb)) rfl rfl ?_
 intro w4 hb4 hw4 hz4
 refine Goes.adv hTT 400 rfl ?_
 have hc:ConfOk w4 smallC22 ⟨some ⟨b2,0,none⟩,1,some ⟨b3,0,none⟩,1⟩ :=
  ⟨Rd.of22 (hw4.heap (hw3.heap' hb2) (by omega)) rfl,Rd.of22 (hw4.heap hb3 (by omega)) rfl,by decide,by decide,by unfold In64; decide⟩
 exact Goes.ret hTT rfl Tryz.func43 (ResOk.cell rfl rfl rfl hb4 rfl .nil) ⟨⟨some ⟨b2,0,none⟩,1,some ⟨b3,0,none⟩,1⟩,rfl,hc,((hw1.trans hw2).trans hw3).since hw4 (fun k hk hk'=>by omega)⟩
def awA (k:Nat):StM:=if k=0 then aw22x0 else if k=1 then aw22x1 else if k=2 then aw22x2 else if k=3 then aw22x3 else aw22x4
theorem awA_next {k:Nat} (h:k<4):stAllocE smallC22 (awA k) (k:Nat) 20=0∧stAlloc smallC22 (awA k) (k:Nat) 20=awA (k+1):=by
 obtain rfl | rfl | rfl | rfl:k=0∨k=1∨k=2∨k=3:=by omega
 ·exact ⟨aw22_a0,rfl⟩
 ·exact ⟨aw22_a1,rfl⟩
 ·exact ⟨aw22_a2,rfl⟩
 ·exact ⟨aw22_a3,rfl⟩
def awT (k:Nat):StM:=if k=0 then aw22x7 else if k=1 then aw22x8 else if k=2 then aw22x9 else aw22x10
theorem awT_next {k:Nat} (h:k<3):stTick smallC22 (awT k)=awT (k+1):=by
 obtain rfl | rfl | rfl:k=0∨k=1∨k=2:=by omega
 ·rfl
 ·rfl
 ·rfl
set_option maxRecDepth 100000 in
theorem law22_awake (w:World) (ht:TabAt w):Does Tryz.prog 10 #[] w (Grow (.bool true) w):=by
 refine Does.enter Tryz.func10 rfl Tryz.ntmps10 rfl rfl ?_
 refine Goes.adv hTT 400 rfl ?_
 refine Goes.call rfl (law22_small w) ?_
 rintro _ w1 ⟨p,rfl,hc1,hw1⟩
 refine Goes.adv hTT 400 rfl ?_
 refine Goes.call rfl (lv_New smallC22 p w1 hc1 (ht.grow hw1) aw22_may) ?_
 rintro _ w2 ⟨F,S,rfl,h2,hlap,_,hw2⟩
 refine Goes.adv hTT 400 rfl ?_
 obtain ⟨n0,hn0⟩:∃ n0,n0=w2.heap.size:=⟨_,rfl⟩
 rw [← hn0] at h2
 refine Goes.loop (α:=Nat) (fun k => [(1,false,stoV S),(2,false,.int .i64 0),(3,false,.int .i64 k)])
  (fun k w'=>k≤4 ∧ ∃ F,Lv smallC22 n0 w1 w' F S (awA k)) (fun k=>4 - k) 0 ⟨rfl,rfl,rfl,trivial⟩ ⟨Nat.zero_le _,F,h2⟩ ?_
 rintro k w3 ⟨hk,F3,h3⟩ ih
 refine Goes.adv hTT 400 rfl ?_
 refine Goes.fork hTT rfl rfl rfl (fun g1 => ?_) (fun g1 => ?_)
 ·have g1:=of_decide_eq_true g1
  have hk4:k<4:=by omega
  obtain ⟨a1,a2⟩:=awA_next hk4
  refine Goes.call rfl (lv_Alloc h3 (k:Nat) 20) ?_
  rintro _ w4 ⟨rfl,F4,h4,_,_⟩
  refine Goes.adv hTT 400 rfl ?_
  rw [a1]
  rw [a2] at h4
  refine Goes.no hTT rfl rfl rfl ?_
  refine Goes.arith hTT rfl (w64 (by omega)) rfl ?_
  exact ih (k+1) _ _ ⟨by omega,F4,h4⟩ (by omega) ⟨rfl,rfl,rfl,trivial⟩
 ·have g1:=of_decide_eq_false g1
  obtain rfl:k=4:=by omega
  refine Goes.buildSlice hTT rfl ?_
  intro hb w4 e4 hhb hw4 hz4
  refine Goes.adv hTT 400 rfl ?_
  refine Goes.mark hTT rfl hhb ?_
  intro w5 fz5 hhb5 hs5 hz5
  refine Goes.adv hTT 400 rfl ?_
  rw [show awA 4=aw22x4 from rfl] at h3
  have hw35:Chg None' w3 w5:=hw4.since hs5 (fun z hz e=>by omega)
  have h5:=h3.grow hw35
  have hbF:¬ F3 hb:=fun hz=>by have:=h3.low _ hz; omega
  have hT6:=lv_Write h5 3 0 (some ⟨hb,0,none⟩) 5 hello22 (by decide) (Rd.of22 hhb5 rfl) (by decide) (by decide) (by unfold InB; decide) (fun _ b off s e hz=>by cases e; exact hbF hz)
  rw [show withinE aw22x4 3 0 (hello22.length:Nat)=0 from aw22_w] at hT6
  refine Goes.call rfl (hT6) ?_
  rintro _ w6 ⟨rfl,F6,h6,_,_⟩
  refine Goes.adv hTT 400 rfl ?_
  replace h6:Lv smallC22 n0 w1 w6 F6 S aw22x5:=h6
  have hT7:=lv_Free h6 0
  rw [aw22_f] at hT7
  refine Goes.call rfl (hT7) ?_
  rintro _ w7 ⟨rfl,F7,h7,_,_⟩
  refine Goes.adv hTT 400 rfl ?_
  replace h7:Lv smallC22 n0 w1 w7 F7 S aw22x6:=h7
  refine Goes.call rfl (lv_Steps h7) ?_
  rintro _ w8 ⟨rfl,h8,_⟩
  refine Goes.adv hTT 400 rfl ?_
  obtain ⟨S1,eS1⟩:∃ S1,S1=S.relap aw22x6.rm.tot:=⟨_,rfl⟩
  rw [← eS1] at h8
  rw [show stoV S=stoV S1 by rw [eS1]; rfl]
  have hT9:=lv_Free h8 2
  rw [aw22_f2] at hT9
  refine Goes.call rfl (hT9) ?_
  rintro _ w9 ⟨rfl,F9,h9,_,_⟩
  refine Goes.adv hTT 400 rfl ?_
  replace h9:Lv smallC22 n0 w1 w9 F9 S1 aw22x7:=h9
  refine Goes.call rfl (lv_Steps h9) ?_
  rintro _ w10 ⟨e10,h10,_⟩
  refine Goes.adv hTT 400 rfl ?_
  rw [show S1.R.lap=aw22x6.rm.tot by rw [eS1]; rfl,aw22_t] at e10
  subst e10
  have hT11:=lv_Left h10 0
  rw [aw22_l] at hT11
  refine Goes.call rfl (hT11) ?_
  rintro _ w11 ⟨rfl,hw11⟩
  refine Goes.adv hTT 400 rfl ?_
  have h11:=h10.grow hw11
  obtain ⟨S2,eS2⟩:∃ S2,S2=S1.relap aw22x7.rm.tot:=⟨_,rfl⟩
  rw [← eS2] at h11
  rw [show stoV S1=stoV S2 by rw [eS2]; rfl]
  refine Goes.loop (α:=Nat) (fun k => [(1,false,stoV S2),(2,false,.int .i64 0),(4,false,.int .i64 0),(5,false,.int .i64 0),(6,false,.int .i64 0),(7,false,.int .i64 14),(8,false,.int .i64 24),(9,false,.int .i64 k)])
   (fun k w'=>k≤3 ∧ ∃ F,Lv smallC22 n0 w1 w' F S2 (awT k)) (fun k=>3 - k) 0 ⟨rfl,rfl,rfl,rfl,rfl,rfl,rfl,rfl,trivial⟩ ⟨Nat.zero_le _,F9,h11⟩ ?_
  rintro k w12 ⟨hk2,F12,h12⟩ ih2
  refine Goes.adv hTT 400 rfl ?_
  refine Goes.fork hTT rfl rfl rfl (fun g2 => ?_) (fun g2 => ?_)
  ·have g2:=of_decide_eq_true g2
   have hk3:k<3:=by omega
   refine Goes.call rfl (lv_Tick h12) ?_
   rintro _ w13 ⟨rfl,F13,h13,_,_⟩
   refine Goes.adv hTT 400 rfl ?_
   rw [awT_next hk3] at h13
   refine Goes.arith hTT rfl (w64 (by omega)) rfl ?_
   exact ih2 (k+1) _ _ ⟨by omega,F13,h13⟩ (by omega) ⟨rfl,rfl,rfl,rfl,rfl,rfl,rfl,rfl,trivial⟩
  ·have g2:=of_decide_eq_false g2
   obtain rfl:k=3:=by omega
   rw [show awT 3=aw22x10 from rfl] at h12
   have hT13:=lv_Read h12 3 0 6 (by decide) (by decide)
   rw [aw22_r,aw22_rb] at hT13
   refine Goes.call rfl (hT13) ?_
   rintro _ w13 ⟨a13,cap13,rfl,hr13,_,F13,h13,_,_⟩
   refine Goes.adv hTT 400 rfl ?_
   replace h13:Lv smallC22 n0 w1 w13 F13 S2 aw22x11:=h13
   have hT14:=lv_Left h13 0
   rw [aw22_l2] at hT14
   refine Goes.yes hTT rfl rfl rfl ?_
   refine Goes.yes hTT rfl rfl rfl ?_
   refine Goes.yes hTT rfl rfl rfl ?_
   refine Goes.yes hTT rfl rfl rfl ?_
   refine Goes.yes hTT rfl rfl rfl ?_
   refine Goes.yes hTT rfl rfl rfl ?_
   refine Goes.call rfl (hT14) ?_
   rintro _ w14 ⟨rfl,hw14⟩
   refine Goes.adv hTT 400 rfl ?_
   refine Goes.yes hTT rfl rfl rfl ?_
   have h14:=h13.grow hw14
   have hT15:=lv_Held h14
   rw [aw22_h] at hT15
   refine Goes.call rfl (hT15) ?_
   rintro _ w15 ⟨rfl,hw15⟩
   refine Goes.adv hTT 400 rfl ?_
   refine Goes.yes hTT rfl rfl rfl ?_
   have h15:=h14.grow hw15
   have hT16:=lv_Open h15 0
   rw [aw22_o] at hT16
   refine Goes.call rfl (hT16) ?_
   rintro _ w16 ⟨rfl,hw16⟩
   refine Goes.adv hTT 400 rfl ?_
   refine Goes.yes hTT rfl rfl rfl ?_
   refine Goes.yes hTT rfl rfl rfl ?_
   have h16:=h15.grow hw16
   refine Goes.bstrN hTT ([104,101,108,108,111,0]) rfl rfl ((((hr13.chg hw14).chg hw15).chg hw16)) rfl ?_
   refine Goes.streq hTT rfl (rfl) rfl ?_
   refine Goes.yes hTT rfl rfl rfl ?_
   have hT17:=lv_Bytes h16
   rw [aw22_b] at hT17
   refine Goes.call rfl (hT17) ?_
   rintro _ w17 ⟨rfl,hw17⟩
   refine Goes.adv hTT 400 rfl ?_
   refine Goes.yes hTT rfl rfl rfl ?_
   have h17:=h16.grow hw17
   have hT18:=lv_Size h17 3
   rw [aw22_s] at hT18
   refine Goes.call rfl (hT18) ?_
   rintro _ w18 ⟨rfl,hw18⟩
   refine Goes.adv hTT 400 rfl ?_
   exact Goes.ret1 hTT rfl Tryz.func10 rfl rfl ⟨rfl,(hw1.trans h17.chg).trans hw18⟩
end Go.Proofs.YtnaoiegcobineaaGreatDoor
namespace Go.Proofs.YtnaoiegcobineaaGreatDoor
open Go.RowKit
theorem zero_trs:∀ n,zeroRow [.int .i64 0,.int .i64 0,.int .i64 0,.int .i64 0,.slice none 0 0] n=fl trL (List.replicate n tr0)
 |0=>rfl
 |n+1=>by rw [zeroRow,zero_trs n,List.replicate_succ]; rfl
theorem zero_vrs:∀ n,zeroRow (vrwL vr0) n=fl vrwL (List.replicate n vr0)
 |0=>rfl
 |n+1=>by rw [zeroRow,zero_vrs n,List.replicate_succ]; rfl
set_option maxRecDepth 100000 in
theorem ref22_New (c:Conf) (p:ConfAt) (w:World) (hc:ConfOk w c p) (hm:mayB c=true) (hp:c.pages≤512):Does Tryz.prog 61 #[.agg (confL c p).toArray] w
 (fun v w' => ∃ r,v = .tuple #[.agg (srL r).toArray,.int .i64 0]∧r.c=c∧r.cp=p∧SrOk w' r (newSt c)∧(∀ S:Nat→Prop,(∀ z,S z→z<w.heap.size)→OutA S p.ka→SrOut S r)∧Chg None' w w'):=by
 have hf0:=may_facts hm
 have hma:arMay c.pages c.size=true:=by
  obtain ⟨m1,m2,m3⟩:=mayFacts hm
  exact arMay_iff.2 (by omega)
 have hps:0<c.pages*c.size:=Int.mul_pos (by have:=hf0.pages; omega) (by have:=hf0.size; omega)
 have em:mayM c=0:=by unfold mayM; rw [if_pos hm]
 have hf:=may_facts hm
 have hfn:=hf.n
 obtain ⟨N,hN⟩:=Int.eq_ofNat_of_zero_le (show 0≤c.slots by
  have:=hm
  unfold mayB at this
  simp only [Bool.and_eq_true,decide_eq_true_eq,withinM] at this
  omega)
 have hsl:c.slots≤4096:=by
  have:=hm
  unfold mayB at this
  simp only [Bool.and_eq_true,decide_eq_true_eq,withinM] at this
  omega
 refine Does.enter Tryz.func61 rfl Tryz.ntmps61 rfl rfl ?_
 refine Goes.adv hTT 400 rfl ?_
 refine Goes.alloc hTT rfl ?_
 intro b w1 e1 hb hw1 hz1
 refine Goes.adv hTT 400 rfl ?_
 refine Goes.alloc hTT rfl ?_
 intro qb w2 e2 hqb hw2 hz2
 refine Goes.adv hTT 400 rfl ?_
 replace hb:w1.heap[b]? = some (.cells (confL c p).toArray 24 (0,0)):=hb
 have hb2:=hw2.heap' hb
 refine Goes.loads hTT rfl hb2 rfl rfl ?_
 refine Goes.call rfl (ref03_May c p w2 (hc.chg (hw1.trans hw2))) ?_
 rintro _ w3 ⟨rfl,hw3⟩
 refine Goes.adv hTT 400 rfl ?_
 rw [em]
 have hb3:=hw3.heap' hb2
 have hqb3:=hw3.heap' hqb
 have hw03:=(hw1.trans hw2).trans hw3
 refine Goes.no hTT rfl rfl rfl ?_
 refine Goes.loadb hTT rfl hb3 rfl rfl ?_
 refine Goes.loadb hTT rfl hb3 rfl rfl ?_
 refine Goes.call rfl (ref06_New c.pages c.size w3 hma) ?_
 rintro _ w4 ⟨ab,rfl,hab,hra4,hw4⟩
 refine Goes.adv hTT 400 rfl ?_
 obtain ⟨r1,er1⟩:∃ r1:RA,r1=⟨some ⟨ab,0,none⟩,(c.pages*c.size).toNat,zeros (c.pages*c.size).toNat,0⟩:=⟨_,rfl⟩
 rw [← er1] at hra4 ⊢
 refine Goes.alloc hTT rfl ?_
 intro t4 w5 e5 ht4 hw5 hz5
 refine Goes.adv hTT 400 rfl ?_
 refine Goes.store hTT rfl ht4 rfl rfl ?_
 intro w6 ht4' hs6 hz6
 refine Goes.adv hTT 400 rfl ?_
 replace ht4':w6.heap[t4]? = some (.cells (raL r1).toArray 38 (0,0)):=ht4'
 have ht46:=ht4'
 have hw36:Chg None' w3 w6:=(hw4.trans hw5).since hs6 (fun z hz e=>by have:=hw4.size; omega)
 have hb6:=hw36.heap' hb3
 have hqb6:=hw36.heap' hqb3
 refine Goes.loads hTT rfl hb6 rfl rfl ?_
 refine Goes.call rfl (ref20_New c p w6 (hc.chg (hw03.trans hw36)) hm hp) ?_
 rintro _ w7 ⟨r2,rfl,k1,k2,k3,k4,hw7⟩
 refine Goes.adv hTT 400 rfl ?_
 refine Goes.alloc hTT rfl ?_
 intro t6 w8 e8 ht6 hw8 hz8
 refine Goes.adv hTT 400 rfl ?_
 refine Goes.store hTT rfl ht6 rfl rfl ?_
 intro w9 ht69 hs9 hz9
 refine Goes.adv hTT 400 rfl ?_
 replace ht69:rrBox w9 t6 r2:=ht69
 have hw69:Chg None' w6 w9:=(hw7.trans hw8).since hs9 (fun z hz e=>by have:=hw7.size; omega)
 have hb9:=hw69.heap' hb6
 have ht49:=hw69.heap' ht46
 refine Goes.drawn (q:=12) None' hTT mixed (by kernel_rfl) rfl ?_
 intro hB
 refine Drawn.loads hTT hB rfl hb9 (by first | exact fun h=>h | (intro h; omega) | assumption) rfl rfl ?_
 refine Drawn.loadb hTT hB rfl hb9 (by first | exact fun h=>h | (intro h; omega) | assumption) rfl rfl ?_
 refine Drawn.loads hTT hB rfl ht49 (by first | exact fun h=>h | (intro h; omega) | assumption) rfl rfl ?_
 refine Drawn.loads hTT hB rfl ht69 (by first | exact fun h=>h | (intro h; omega) | assumption) rfl rfl ?_
 refine Drawn.loadb hTT hB rfl hb9 (by first | exact fun h=>h | (intro h; omega) | assumption) rfl rfl ?_
 refine Drawn.loadb hTT hB rfl hb9 (by first | exact fun h=>h | (intro h; omega) | assumption) rfl rfl ?_
 rw [hN]
 refine Drawn.turn2 hB rfl ?_ ?_
 ·intro wa ka
  refine Turn.make hTT hB rfl rfl rfl (Nat.le_refl _) (show 56*N≤140737488355328 by omega) (by omega) (fun _=>rfl) ?_
  intro tb wb etb htb hwb hzb
  refine Drawn.turn1 hB rfl ?_
  intro wc hwc
  refine Turn.make hTT hB rfl rfl rfl (Nat.le_refl _) (show 112*c.classes.length≤140737488355328 by omega) (by omega) (fun _=>rfl) ?_
  intro vb wd evb hvb hwd hzd
  refine Drawn.nil hB ?_
  intro we hwe
  refine Goes.adv hTT 400 rfl ?_
  have za:=ka.size
  have zc:=hwc.size
  have zwb:=hwb.size
  have zwd:=hwd.size
  have hTB:we.heap[tb]? = some (.cells (fl trL (List.replicate N tr0)).toArray 119 (0,0)):=by rw [← zero_trs]; exact ((hwc.trans hwd).trans hwe).heap' htb
  have hVB:we.heap[vb]? = some (.cells (fl vrwL (List.replicate c.classes.length vr0)).toArray 127 (0,0)):=by rw [← zero_vrs]; exact hwe.heap' hvb
  have hw9e:Chg None' w9 we:=(((ka.trans hwb).trans hwc).trans hwd).trans hwe
  have z36:=hw36.size
  have z23:=hw3.size
  have z69:=hw69.size
  have z9e:=hw9e.size
  have z3:=hw03.size
  obtain ⟨r9,er9⟩:∃ r9:SR,r9=⟨c,p,c.keep,p.ka,p.kc,r1,r2,List.replicate N tr0,some ⟨tb,0,none⟩,N,List.replicate c.classes.length vr0,some ⟨vb,0,none⟩,c.classes.length⟩:=⟨_,rfl⟩
  have hw0e:=((hw03.trans hw36).trans hw69).trans hw9e
  have hqbe:=(hw69.trans hw9e).heap' hqb6
  have lq:=lt_of_heap hqb
  refine Goes.build hTT rfl rfl ?_
  refine Goes.store hTT rfl hqbe rfl rfl ?_
  intro wz hqz hsz hzz
  refine Goes.adv hTT 400 rfl ?_
  replace hqz:srBox wz qb r9:=by
   have e1:(List.replicate N tr0).length=N:=List.length_replicate
   have e2:(List.replicate c.classes.length vr0).length=c.classes.length:=List.length_replicate
   rw [er9]
   unfold srBox srL
   simp only [e1,e2]
   rw [← hN] at hqz
   exact hqz
  have hw0z:Chg None' w wz:=hw0e.since hsz (fun z hz e=>by omega)
  have hq7:=hw7.size
  have hRR:RrOk wz r2 (newRm c 0):=by
   have h1:=(k3.grow ((hw8.since hs9 (fun z hz e=>by omega)).trans hw9e))
   exact h1.far (k4 _ (fun z e=>by have:=lt_of_heap hqb6; omega)) hsz
  have hrae:RaOk we r1:=((hra4.grow (hw5.since hs6 (fun z hz e=>by omega))).grow hw69).grow hw9e
  have ho1:OutA (fun z=>z=qb) r1.a:=by rw [er1]; intro b' off s e hz; cases e; have:=lt_of_heap hqb3; omega
  have hraz:RaOk wz r1:=⟨hrae.rd.far ho1 hsz,hrae.len,hrae.lc,hrae.rng⟩
  have hkl:c.keep.length=c.classes.length:=hf.keep
  have hALk:ALt w p.ka:=fun b' off s e=>hc.keep.block (by omega) e
  have hok:SrOk wz r9 (newSt c):=by
   rw [er9]
   exact {
    conf:=hc.chg hw0z
    kr:=(hc.chg hw0z).keep
    ke:=rfl
    ra:=hraz
    rb:=by rw [er1]; show zeros _=zeros _; rw [Int.mul_comm]
    rs:=by rw [er1]; rfl
    la:=fun b' off s e=>hraz.rd.block (by rw [er1]; show 0<(zeros _).length; rw [zeros_length]; omega) e
    lk:=hALk.grow hw0z.size
    rr:=hRR
    rc:=k1
    rp:=k2
    tr:=rows_at (rest := []) (by rw [List.append_nil]; exact hsz.heap hTB (by omega)) trL_len
    tl:=by intro b' off s e; cases e; exact lt_of_heap (hsz.heap hTB (by omega))
    tc:=by rw [List.length_replicate]; exact Nat.le_refl _
    tn:=by show (List.replicate N tr0).length=(List.replicate c.slots.toNat none).length; rw [List.length_replicate,List.length_replicate,hN]; rfl
    te:=fun o x t h1 h2=>by
     have e1:=(List.getElem?_replicate ..).symm.trans h1
     have e2:=(List.getElem?_replicate ..).symm.trans h2
     split at e1 <;> split at e2 <;> first | (cases e1; done) | (cases e2; done) | (cases e1; cases e2; exact ⟨rfl,fun y e=>by cases e⟩)
    tq:=fun t ht=>by rw [List.eq_of_mem_replicate ht]; exact ⟨plcOk_nil _ _ _,fun _ _ _ e=>by cases e⟩
    mr:=rows_at (rest := []) (by rw [List.append_nil]; exact hsz.heap hVB (by omega)) vrwL_len
    ml:=by intro b' off s e; cases e; exact lt_of_heap (hsz.heap hVB (by omega))
    mc:=by rw [List.length_replicate]; exact Nat.le_refl _
    mn:=by show (List.replicate _ vr0).length=(List.replicate _ none).length; rw [List.length_replicate,List.length_replicate]
    me:=fun o x t h1 h2=>by
     have e1:=(List.getElem?_replicate ..).symm.trans h1
     have e2:=(List.getElem?_replicate ..).symm.trans h2
     split at e1 <;> split at e2 <;> first | (cases e1; done) | (cases e2; done) | (cases e1; cases e2; exact ⟨rfl,fun y e=>by cases e⟩)}
  have hout:∀ S:Nat→Prop,(∀ z,S z→z<w.heap.size)→OutA S p.ka→SrOut S r9:=fun S hS hk=>by
   rw [er9]
   refine ⟨hk,?_,k4 S (fun z hz=>by have:=hS z hz; omega),?_,fun t ht => ?_,?_⟩
   ·rw [er1]; intro b' off s e hz; cases e; have:=hS _ hz; omega
   ·intro b' off s e hz; cases e; have:=hS _ hz; omega
   ·rw [List.eq_of_mem_replicate ht]; intro b' off s e; cases e
   ·intro b' off s e hz; cases e; have:=hS _ hz; omega
  exact Goes.ret hTT rfl Tryz.func61 (ResOk.cell rfl rfl rfl hqz rfl (.tmp rfl .nil)) ⟨r9,rfl,by rw [er9],by rw [er9],hok,hout,hw0z⟩
 ·intro wa ka
  refine Turn.make hTT hB rfl rfl rfl (Nat.le_refl _) (show 112*c.classes.length≤140737488355328 by omega) (by omega) (fun _=>rfl) ?_
  intro vb wb evb hvb hwb hzb
  refine Drawn.turn1 hB rfl ?_
  intro wc hwc
  refine Turn.make hTT hB rfl rfl rfl (Nat.le_refl _) (show 56*N≤140737488355328 by omega) (by omega) (fun _=>rfl) ?_
  intro tb wd etb htb hwd hzd
  refine Drawn.nil hB ?_
  intro we hwe
  refine Goes.adv hTT 400 rfl ?_
  have za:=ka.size
  have zc:=hwc.size
  have zwb:=hwb.size
  have zwd:=hwd.size
  have hTB:we.heap[tb]? = some (.cells (fl trL (List.replicate N tr0)).toArray 119 (0,0)):=by rw [← zero_trs]; exact hwe.heap' htb
  have hVB:we.heap[vb]? = some (.cells (fl vrwL (List.replicate c.classes.length vr0)).toArray 127 (0,0)):=by rw [← zero_vrs]; exact ((hwc.trans hwd).trans hwe).heap' hvb
  have hw9e:Chg None' w9 we:=(((ka.trans hwb).trans hwc).trans hwd).trans hwe
  have z36:=hw36.size
  have z23:=hw3.size
  have z69:=hw69.size
  have z9e:=hw9e.size
  have z3:=hw03.size
  obtain ⟨r9,er9⟩:∃ r9:SR,r9=⟨c,p,c.keep,p.ka,p.kc,r1,r2,List.replicate N tr0,some ⟨tb,0,none⟩,N,List.replicate c.classes.length vr0,some ⟨vb,0,none⟩,c.classes.length⟩:=⟨_,rfl⟩
  have hw0e:=((hw03.trans hw36).trans hw69).trans hw9e
  have hqbe:=(hw69.trans hw9e).heap' hqb6
  have lq:=lt_of_heap hqb
  refine Goes.build hTT rfl rfl ?_
  refine Goes.store hTT rfl hqbe rfl rfl ?_
  intro wz hqz hsz hzz
  refine Goes.adv hTT 400 rfl ?_
  replace hqz:srBox wz qb r9:=by
   have e1:(List.replicate N tr0).length=N:=List.length_replicate
   have e2:(List.replicate c.classes.length vr0).length=c.classes.length:=List.length_replicate
   rw [er9]
   unfold srBox srL
   simp only [e1,e2]
   rw [← hN] at hqz
   exact hqz
  have hw0z:Chg None' w wz:=hw0e.since hsz (fun z hz e=>by omega)
  have hq7:=hw7.size
  have hRR:RrOk wz r2 (newRm c 0):=by
   have h1:=(k3.grow ((hw8.since hs9 (fun z hz e=>by omega)).trans hw9e))
   exact h1.far (k4 _ (fun z e=>by have:=lt_of_heap hqb6; omega)) hsz
  have hrae:RaOk we r1:=((hra4.grow (hw5.since hs6 (fun z hz e=>by omega))).grow hw69).grow hw9e
  have ho1:OutA (fun z=>z=qb) r1.a:=by rw [er1]; intro b' off s e hz; cases e; have:=lt_of_heap hqb3; omega
  have hraz:RaOk wz r1:=⟨hrae.rd.far ho1 hsz,hrae.len,hrae.lc,hrae.rng⟩
  have hkl:c.keep.length=c.classes.length:=hf.keep
  have hALk:ALt w p.ka:=fun b' off s e=>hc.keep.block (by omega) e
  have hok:SrOk wz r9 (newSt c):=by
   rw [er9]
   exact {
    conf:=hc.chg hw0z
    kr:=(hc.chg hw0z).keep
    ke:=rfl
    ra:=hraz
    rb:=by rw [er1]; show zeros _=zeros _; rw [Int.mul_comm]
    rs:=by rw [er1]; rfl
    la:=fun b' off s e=>hraz.rd.block (by rw [er1]; show 0<(zeros _).length; rw [zeros_length]; omega) e
    lk:=hALk.grow hw0z.size
    rr:=hRR
    rc:=k1
    rp:=k2
    tr:=rows_at (rest := []) (by rw [List.append_nil]; exact hsz.heap hTB (by omega)) trL_len
    tl:=by intro b' off s e; cases e; exact lt_of_heap (hsz.heap hTB (by omega))
    tc:=by rw [List.length_replicate]; exact Nat.le_refl _
    tn:=by show (List.replicate N tr0).length=(List.replicate c.slots.toNat none).length; rw [List.length_replicate,List.length_replicate,hN]; rfl
    te:=fun o x t h1 h2=>by
     have e1:=(List.getElem?_replicate ..).symm.trans h1
     have e2:=(List.getElem?_replicate ..).symm.trans h2
     split at e1 <;> split at e2 <;> first | (cases e1; done) | (cases e2; done) | (cases e1; cases e2; exact ⟨rfl,fun y e=>by cases e⟩)
    tq:=fun t ht=>by rw [List.eq_of_mem_replicate ht]; exact ⟨plcOk_nil _ _ _,fun _ _ _ e=>by cases e⟩
    mr:=rows_at (rest := []) (by rw [List.append_nil]; exact hsz.heap hVB (by omega)) vrwL_len
    ml:=by intro b' off s e; cases e; exact lt_of_heap (hsz.heap hVB (by omega))
    mc:=by rw [List.length_replicate]; exact Nat.le_refl _
    mn:=by show (List.replicate _ vr0).length=(List.replicate _ none).length; rw [List.length_replicate,List.length_replicate]
    me:=fun o x t h1 h2=>by
     have e1:=(List.getElem?_replicate ..).symm.trans h1
     have e2:=(List.getElem?_replicate ..).symm.trans h2
     split at e1 <;> split at e2 <;> first | (cases e1; done) | (cases e2; done) | (cases e1; cases e2; exact ⟨rfl,fun y e=>by cases e⟩)}
  have hout:∀ S:Nat→Prop,(∀ z,S z→z<w.heap.size)→OutA S p.ka→SrOut S r9:=fun S hS hk=>by
   rw [er9]
   refine ⟨hk,?_,k4 S (fun z hz=>by have:=hS z hz; omega),?_,fun t ht => ?_,?_⟩
   ·rw [er1]; intro b' off s e hz; cases e; have:=hS _ hz; omega
   ·intro b' off s e hz; cases e; have:=hS _ hz; omega
   ·rw [List.eq_of_mem_replicate ht]; intro b' off s e; cases e
   ·intro b' off s e hz; cases e; have:=hS _ hz; omega
  exact Goes.ret hTT rfl Tryz.func61 (ResOk.cell rfl rfl rfl hqz rfl (.tmp rfl .nil)) ⟨r9,rfl,by rw [er9],by rw [er9],hok,hout,hw0z⟩
end Go.Proofs.YtnaoiegcobineaaGreatDoor
namespace Go.Proofs.YtnaoiegcobineaaGreatDoor
open Go.RowKit
theorem LvTo.up {c:Conf} {n0:Nat} {w0 w w1:World} {F:Nat→Prop} {S:Sto} {s:StM} {w':World} (h:LvTo c n0 w0 w1 F S s w') (hc:Chg None' w w1):LvTo c n0 w0 w F S s w':=by
 obtain ⟨F',h1,h2,h3⟩:=h
 have:=hc.size
 exact ⟨F',h1,fun z hz=>(h2 z hz).imp id (by omega),(hc.mono fun _ _ h=>h.elim).trans h3⟩
set_option maxRecDepth 100000 in
theorem law22_do {c:Conf} {n0:Nat} {w0 w:World} {F:Nat→Prop} {S:Sto} {s:StM} (h:Lv c n0 w0 w F S s) (u:Act22) (hu:Act22Ok w u) (hout:0<u.bs.length→OutA F u.ba):Does Tryz.prog 20 #[stoV S,.agg (act22L u).toArray] w
 (fun v w' => ∃ a cap,v = .tuple #[.slice a (do22B c s u).length cap,.int .i64 (do22E c s u)]∧Rd .u8 w' a (do22B c s u)∧(∀ b off s',a=some ⟨b,off,s'⟩→w.heap.size≤b∧b<w'.heap.size)∧LvTo c n0 w0 w F S (do22S c s u) w'):=by
 have hk:=hu.kind
 refine Does.enter Tryz.func20 rfl Tryz.ntmps20 rfl rfl ?_
 refine Goes.adv hTT 400 rfl ?_
 refine Goes.alloc hTT rfl ?_
 intro ub w1 e1 hub hw1 hz1
 refine Goes.adv hTT 400 rfl ?_
 replace hub:w1.heap[ub]? = some (.cells (act22L u).toArray 54 (0,0)):=hub
 have h1:=h.grow hw1
 refine Goes.loadb hTT rfl hub rfl rfl ?_
 refine Goes.div hTT rfl (by omega) (rem_ (by omega)) rfl ?_
 by_cases k0:u.kind % 7=0
 ·have eE:do22E c s u=stAllocE c s u.own u.a:=by unfold do22E; rw [if_pos k0]
  have eS:do22S c s u=stAlloc c s u.own u.a:=by unfold do22S; rw [if_pos k0]
  have eB:do22B c s u = []:=by unfold do22B; rw [if_neg (by omega)]
  refine Goes.yes hTT rfl (decide_eq_true k0) rfl ?_
  refine Goes.loadb hTT rfl hub rfl rfl ?_
  refine Goes.loadb hTT rfl hub rfl rfl ?_
  refine Goes.call rfl (lv_Alloc h1 u.own u.a) ?_
  rintro _ w2 ⟨rfl,hT⟩
  refine Goes.adv hTT 400 rfl ?_
  have hnil:∀ {w'},Rd .u8 w' none []:=Rd.nil _ _ _
  rw [eB]
  exact Goes.ret2 hTT rfl Tryz.func20 rfl rfl rfl ⟨none,0,by rw [eE]; rfl,Rd.nil _ _ _,(by intro b off s' e; cases e),by rw [eS]; exact hT.up hw1⟩
 by_cases k1:u.kind % 7=1
 ·have eE:do22E c s u=ownedE s u.own:=by unfold do22E; rw [if_neg k0,if_pos k1]
  have eS:do22S c s u=stFree c s u.own:=by unfold do22S; rw [if_neg k0,if_pos k1]
  have eB:do22B c s u = []:=by unfold do22B; rw [if_neg (by omega)]
  refine Goes.no hTT rfl (decide_eq_false k0) rfl ?_
  refine Goes.yes hTT rfl (decide_eq_true k1) rfl ?_
  refine Goes.loadb hTT rfl hub rfl rfl ?_
  refine Goes.call rfl (lv_Free h1 u.own) ?_
  rintro _ w2 ⟨rfl,hT⟩
  refine Goes.adv hTT 400 rfl ?_
  have hnil:∀ {w'},Rd .u8 w' none []:=Rd.nil _ _ _
  rw [eB]
  exact Goes.ret2 hTT rfl Tryz.func20 rfl rfl rfl ⟨none,0,by rw [eE]; rfl,Rd.nil _ _ _,(by intro b off s' e; cases e),by rw [eS]; exact hT.up hw1⟩
 by_cases k2:u.kind % 7=2
 ·have eE:do22E c s u=stResizeE c s u.own u.a:=by unfold do22E; rw [if_neg k0,if_neg k1,if_pos k2]
  have eS:do22S c s u=stResize c s u.own u.a:=by unfold do22S; rw [if_neg k0,if_neg k1,if_pos k2]
  have eB:do22B c s u = []:=by unfold do22B; rw [if_neg (by omega)]
  refine Goes.no hTT rfl (decide_eq_false k0) rfl ?_
  refine Goes.no hTT rfl (decide_eq_false k1) rfl ?_
  refine Goes.yes hTT rfl (decide_eq_true k2) rfl ?_
  refine Goes.loadb hTT rfl hub rfl rfl ?_
  refine Goes.loadb hTT rfl hub rfl rfl ?_
  refine Goes.call rfl (lv_Resize h1 u.own u.a) ?_
  rintro _ w2 ⟨rfl,hT⟩
  refine Goes.adv hTT 400 rfl ?_
  have hnil:∀ {w'},Rd .u8 w' none []:=Rd.nil _ _ _
  rw [eB]
  exact Goes.ret2 hTT rfl Tryz.func20 rfl rfl rfl ⟨none,0,by rw [eE]; rfl,Rd.nil _ _ _,(by intro b off s' e; cases e),by rw [eS]; exact hT.up hw1⟩
 by_cases k3:u.kind % 7=3
 ·have eE:do22E c s u=withinE s u.own u.a u.b:=by unfold do22E; rw [if_neg k0,if_neg k1,if_neg k2,if_pos k3]
  have eS:do22S c s u=stRead c s u.own u.a u.b:=by unfold do22S; rw [if_neg k0,if_neg k1,if_neg k2,if_pos k3]
  have eB:do22B c s u=stReadB c s u.own u.a u.b:=by unfold do22B; rw [if_pos k3]
  refine Goes.no hTT rfl (decide_eq_false k0) rfl ?_
  refine Goes.no hTT rfl (decide_eq_false k1) rfl ?_
  refine Goes.no hTT rfl (decide_eq_false k2) rfl ?_
  refine Goes.yes hTT rfl (decide_eq_true k3) rfl ?_
  refine Goes.loadb hTT rfl hub rfl rfl ?_
  refine Goes.loadb hTT rfl hub rfl rfl ?_
  refine Goes.loadb hTT rfl hub rfl rfl ?_
  refine Goes.call rfl (lv_Read h1 u.own u.a u.b hu.a hu.b) ?_
  rintro _ w2 ⟨a2,cap2,rfl,hr2,ha2,hT⟩
  refine Goes.adv hTT 400 rfl ?_
  rw [eB,eE,eS]
  exact Goes.ret2 hTT rfl Tryz.func20 rfl rfl rfl ⟨a2,cap2,rfl,hr2,(fun b off s' e=>⟨by have:=(ha2 b off s' e).1; have:=hw1.size; omega,(ha2 b off s' e).2⟩),hT.up hw1⟩
 by_cases k4:u.kind % 7=4
 ·have eE:do22E c s u=withinE s u.own u.a u.bs.length:=by unfold do22E; rw [if_neg k0,if_neg k1,if_neg k2,if_neg k3,if_pos k4]
  have eS:do22S c s u=stWrite c s u.own u.a u.bs:=by unfold do22S; rw [if_neg k0,if_neg k1,if_neg k2,if_neg k3,if_pos k4]
  have eB:do22B c s u = []:=by unfold do22B; rw [if_neg (by omega)]
  refine Goes.no hTT rfl (decide_eq_false k0) rfl ?_
  refine Goes.no hTT rfl (decide_eq_false k1) rfl ?_
  refine Goes.no hTT rfl (decide_eq_false k2) rfl ?_
  refine Goes.no hTT rfl (decide_eq_false k3) rfl ?_
  refine Goes.yes hTT rfl (decide_eq_true k4) rfl ?_
  refine Goes.loadb hTT rfl hub rfl rfl ?_
  refine Goes.loadb hTT rfl hub rfl rfl ?_
  refine Goes.loadb hTT rfl hub rfl rfl ?_
  refine Goes.call rfl (lv_Write h1 u.own u.a u.ba u.bc u.bs hu.a (hu.rd.chg hw1) hu.lc (by have:=hu.lc; have:=hu.len; omega) hu.rng hout) ?_
  rintro _ w2 ⟨rfl,hT⟩
  refine Goes.adv hTT 400 rfl ?_
  have hnil:∀ {w'},Rd .u8 w' none []:=Rd.nil _ _ _
  rw [eB]
  exact Goes.ret2 hTT rfl Tryz.func20 rfl rfl rfl ⟨none,0,by rw [eE]; rfl,Rd.nil _ _ _,(by intro b off s' e; cases e),by rw [eS]; exact hT.up hw1⟩
 by_cases k5:u.kind % 7=5
 ·have eE:do22E c s u=0:=by unfold do22E; rw [if_neg k0,if_neg k1,if_neg k2,if_neg k3,if_neg k4,if_pos k5]
  have eS:do22S c s u=stTick c s:=by unfold do22S; rw [if_neg k0,if_neg k1,if_neg k2,if_neg k3,if_neg k4,if_pos k5]
  have eB:do22B c s u = []:=by unfold do22B; rw [if_neg (by omega)]
  refine Goes.no hTT rfl (decide_eq_false k0) rfl ?_
  refine Goes.no hTT rfl (decide_eq_false k1) rfl ?_
  refine Goes.no hTT rfl (decide_eq_false k2) rfl ?_
  refine Goes.no hTT rfl (decide_eq_false k3) rfl ?_
  refine Goes.no hTT rfl (decide_eq_false k4) rfl ?_
  refine Goes.yes hTT rfl (decide_eq_true k5) rfl ?_
  refine Goes.call rfl (lv_Tick h1) ?_
  rintro _ w2 ⟨rfl,hT⟩
  refine Goes.adv hTT 400 rfl ?_
  have hnil:∀ {w'},Rd .u8 w' none []:=Rd.nil _ _ _
  rw [eB]
  exact Goes.ret2 hTT rfl Tryz.func20 rfl rfl rfl ⟨none,0,by rw [eE]; rfl,Rd.nil _ _ _,(by intro b off s' e; cases e),by rw [eS]; exact hT.up hw1⟩
 ·have eE:do22E c s u=stSetE s u.own u.a:=by unfold do22E; rw [if_neg k0,if_neg k1,if_neg k2,if_neg k3,if_neg k4,if_neg k5]
  have eS:do22S c s u=stSet s u.own u.a:=by unfold do22S; rw [if_neg k0,if_neg k1,if_neg k2,if_neg k3,if_neg k4,if_neg k5]
  have eB:do22B c s u = []:=by unfold do22B; rw [if_neg (by omega)]
  refine Goes.no hTT rfl (decide_eq_false k0) rfl ?_
  refine Goes.no hTT rfl (decide_eq_false k1) rfl ?_
  refine Goes.no hTT rfl (decide_eq_false k2) rfl ?_
  refine Goes.no hTT rfl (decide_eq_false k3) rfl ?_
  refine Goes.no hTT rfl (decide_eq_false k4) rfl ?_
  refine Goes.no hTT rfl (decide_eq_false k5) rfl ?_
  refine Goes.loadb hTT rfl hub rfl rfl ?_
  refine Goes.loadb hTT rfl hub rfl rfl ?_
  refine Goes.call rfl (lv_Set h1 u.own u.a) ?_
  rintro _ w2 ⟨rfl,hT⟩
  refine Goes.adv hTT 400 rfl ?_
  have hnil:∀ {w'},Rd .u8 w' none []:=Rd.nil _ _ _
  rw [eB]
  exact Goes.ret2 hTT rfl Tryz.func20 rfl rfl rfl ⟨none,0,by rw [eE]; rfl,Rd.nil _ _ _,(by intro b off s' e; cases e),by rw [eS]; exact hT.up hw1⟩
set_option maxRecDepth 100000 in
theorem law22_begin (c:Conf) (p:ConfAt) (w:World) (hc:ConfOk w c p) (ht:TabAt w) (hm:mayB c=true) (hp:c.pages≤512) (hk:ALt w p.ka):Does Tryz.prog 19 #[.agg (confL c p).toArray] w
 (fun v w' => ∃ F S r n0,v = .tuple #[stoV S,.agg (srL r).toArray]∧n0≤w'.heap.size∧Lv c n0 w w' F S (newSt c)∧S.R.lap=0∧SrOk w' r (newSt c)∧r.c=c∧(∀ T:Nat→Prop,(∀ z,T z→z<w.heap.size∨F z)→OutA T p.ka→SrOut T r)):=by
 refine Does.enter Tryz.func19 rfl Tryz.ntmps19 rfl rfl ?_
 refine Goes.adv hTT 400 rfl ?_
 refine Goes.alloc hTT rfl ?_
 intro b w1 e1 hb hw1 hz1
 refine Goes.adv hTT 400 rfl ?_
 refine Goes.alloc hTT rfl ?_
 intro qb w2 e2 hqb hw2 hz2
 refine Goes.adv hTT 400 rfl ?_
 replace hb:w1.heap[b]? = some (.cells (confL c p).toArray 24 (0,0)):=hb
 have hb2:=hw2.heap' hb
 have hw02:=hw1.trans hw2
 refine Goes.loads hTT rfl hb2 rfl rfl ?_
 refine Goes.call rfl (lv_New c p w2 (hc.chg hw02) (ht.grow hw02) hm) ?_
 rintro _ w3 ⟨F,S,rfl,h3,hlap,hSp,hw3⟩
 refine Goes.adv hTT 400 rfl ?_
 have hb3:=hw3.heap' hb2
 have hw03:=hw02.trans hw3
 refine Goes.loads hTT rfl hb3 rfl rfl ?_
 refine Goes.call rfl (ref22_New c p w3 (hc.chg hw03) hm hp) ?_
 rintro _ w4 ⟨r,rfl,hrc,hrp,hr4,hout,hw4⟩
 refine Goes.adv hTT 400 rfl ?_
 refine Goes.alloc hTT rfl ?_
 intro xb w5 e5 hxb hw5 hz5
 refine Goes.adv hTT 400 rfl ?_
 refine Goes.store hTT rfl hxb rfl rfl ?_
 intro w6 hxb6 hs6 hz6
 refine Goes.adv hTT 400 rfl ?_
 replace hxb6:srBox w6 xb r:=hxb6
 have hw46:Chg None' w4 w6:=hw5.since hs6 (fun z hz e=>by omega)
 refine Goes.drawn (q:=3) None' hTT mixed (by kernel_rfl) rfl ?_
 intro hB
 refine Drawn.loads hTT hB rfl hxb6 (by first | exact fun h=>h | (intro h; omega) | assumption) rfl rfl ?_
 refine Drawn.nil hB ?_
 intro w7 hw7
 refine Goes.adv hTT 400 rfl ?_
 have hqb7:=(hw4.trans (hw46.trans hw7)).heap' (hw3.heap' hqb)
 have hw37:=hw4.trans (hw46.trans hw7)
 have h7:=h3.grow hw37
 have lqb:=lt_of_heap hqb
 have s02:=hw02.size
 have s2:=hw2.size
 have s3:=hw3.size
 have s37:=hw37.size
 refine Goes.store hTT rfl hqb7 rfl rfl ?_
 intro w8 hqb8 hs8 hz8
 refine Goes.adv hTT 400 rfl ?_
 replace hqb8:srBox w8 qb r:=hqb8
 have hqF:¬ F qb:=fun hz=>by have:=h3.base qb hz; omega
 have hw08:Chg None' w w8:=(hw03.trans hw37).since hs8 (fun z hz e=>by omega)
 have tl:0<w.heap.size:=by have:=World.block_lt_of_cell? w _ (ht 0 (by decide)); exact this
 have hmf:=may_facts hm
 have hL8:Lv c w3.heap.size w w8 F S (newSt c):=by
  obtain ⟨Fr,mo,k1⟩:=h7.ok
  have hzero:w7.heap[qb]? = some (.cells (Value.int .i64 0::(srL r).tail).toArray 48 (0,0)) ∨ ∃ l,w7.heap[qb]? = some (.cells (Value.int .i64 0::l).toArray 48 (0,0)) := .inr ⟨_,hqb7⟩
  obtain ⟨l,hz⟩:∃ l,w7.heap[qb]? = some (.cells (Value.int .i64 0::l).toArray 48 (0,0)):=⟨_,hqb7⟩
  have k2:=k1.old hz hqF (by decide) (fun x e=>by cases e) (by omega) (by rw [hSp]; intro off s' e; have:=hc.classes.block (by have:=hmf.n; omega) e; omega) (by rw [hSp]; intro off s' e; have:=hk _ _ _ e; omega) hs8
  exact ⟨⟨Fr,mo,k2⟩,h7.inv,h7.sc,h7.fx,fun z hz=>by have:=h7.base z hz; omega,hw08⟩
 have ho:SrOut (fun z=>z=qb) r:=hout _ (fun z e=>by omega) (fun b' off s' e hz=>by have:=hk _ _ _ e; omega)
 have hr8:SrOk w8 r (newSt c):=(hr4.grow (hw46.trans hw7)).far ho (by rw [hrc,hrp]; exact hc.chg hw08) hs8
 have s8:=hs8.size
 exact Goes.ret hTT rfl Tryz.func19 (ResOk.tmp rfl (ResOk.cell rfl rfl rfl hqb8 rfl .nil)) ⟨F,S,r,w3.heap.size,rfl,by omega,hL8,hlap,hr8,hrc,fun T hT hk'=>hout T (fun z hz=>(hT z hz).elim (by omega) (fun hz=>h3.low z hz)) hk'⟩
end Go.Proofs.YtnaoiegcobineaaGreatDoor
namespace Go.Proofs.YtnaoiegcobineaaGreatDoor
open Go.RowKit
def OnceP (q:Plc):Prop:=q.cls = -1 → ∀ i k,k<i→i<q.pages.length→q.pages.getD i 0≠q.pages.getD k 0
theorem where_inj {c:Conf} {q:Plc} {i k:Nat} (hm:mayB c=true) (hin:viewIs c q=true) (ho:OnceP q) (hi:(i:Int)<viewHolds c q) (hk:(k:Int)<viewHolds c q) (h:whereM c q i=whereM c q k):i=k:=by
 obtain ⟨m1,m2,m3⟩:=mayFacts hm
 unfold whereM at h
 by_cases hcl:q.cls = -1
 ·rw [if_pos hcl,if_pos hcl] at h
  have hho:viewHolds c q=(q.pages.length:Int)*c.size:=by unfold viewHolds; rw [if_pos hin,if_pos hcl]
  rw [hho] at hi hk
  obtain ⟨sz,hsz⟩:=Int.eq_ofNat_of_zero_le (show 0≤c.size by omega)
  have hpos:1≤sz:=by omega
  rw [hsz] at hi hk h
  simp only [Int.toNat_natCast] at h
  have hi':i<q.pages.length*sz:=by exact_mod_cast hi
  have hk':k<q.pages.length*sz:=by exact_mod_cast hk
  have di:i / sz<q.pages.length:=Nat.div_lt_of_lt_mul (by rw [Nat.mul_comm]; exact hi')
  have dk:k / sz<q.pages.length:=Nat.div_lt_of_lt_mul (by rw [Nat.mul_comm]; exact hk')
  have ri:=Nat.mod_lt i hpos
  have rk:=Nat.mod_lt k hpos
  have ei:=Nat.div_add_mod i sz
  have ek:=Nat.div_add_mod k sz
  obtain ⟨a,ha⟩:∃ a,a=q.pages.getD (i / sz) 0:=⟨_,rfl⟩
  obtain ⟨b,hb⟩:∃ b,b=q.pages.getD (k / sz) 0:=⟨_,rfl⟩
  rw [← ha,← hb] at h
  have hab:a=b:=by
   rcases Int.lt_trichotomy a b with g | g | g
   ·exfalso
    have:(a+1)*(sz:Int)≤b*sz:=Int.mul_le_mul_of_nonneg_right (by omega) (by omega)
    rw [Int.add_mul] at this
    omega
   ·exact g
   ·exfalso
    have:(b+1)*(sz:Int)≤a*sz:=Int.mul_le_mul_of_nonneg_right (by omega) (by omega)
    rw [Int.add_mul] at this
    omega
  have hd:i / sz=k / sz:=by
   rcases Nat.lt_trichotomy (i / sz) (k / sz) with g | g | g
   ·exact absurd (by rw [← ha,← hb,hab]) (ho hcl _ _ g dk)
   ·exact g
   ·exact absurd (by rw [← ha,← hb,hab]) (ho hcl _ _ g di)
  rw [hab] at h
  rw [hd] at ei
  omega
 ·rw [if_neg hcl,if_neg hcl] at h
  omega
theorem layM_get {c:Conf} {q:Plc} {bs l:List Int} {at':Nat} (hm:mayB c=true) (hin:viewIs c q=true) (ho:OnceP q) (hlen:(bs.length:Int)=c.size*c.pages):∀ (k:Nat),((at'+k:Nat):Int)≤viewHolds c q →
 ∀ j,j<k→(layM c q bs at' l k).getD (whereM c q (at'+j)).toNat 0=l.getD j 0
 |0,_=>fun j h=>absurd h (Nat.not_lt_zero _)
 |k+1,hk=>fun j hj=>by
  have hwk:=where_in (i:=at'+k) hm hin (by omega)
  have hwj:=where_in (i:=at'+j) hm hin (by omega)
  have hll:=layM_len c q bs at' l k
  show (List.set _ _ _).getD _ 0=_
  by_cases e:j=k
  ·subst e
   rw [List.getD_eq_getElem?_getD,List.getElem?_set_self (by omega)]
   rfl
  ·have hne:(whereM c q (at'+k)).toNat≠(whereM c q (at'+j)).toNat:=fun h=>by
    have:at'+k=at'+j:=where_inj hm hin ho (by omega) (by omega) (by omega)
    omega
   rw [List.getD_eq_getElem?_getD,List.getElem?_set_ne hne,← List.getD_eq_getElem?_getD]
   exact layM_get hm hin ho hlen k (by omega) j (by omega)
theorem layM_far {c:Conf} {q:Plc} {bs l:List Int} {at' x:Nat}:∀ (k:Nat),(∀ j,j<k→(whereM c q (at'+j)).toNat≠x)→(layM c q bs at' l k).getD x 0=bs.getD x 0
 |0,_=>rfl
 |k+1,h=>by
  show (List.set _ _ _).getD _ 0=_
  rw [List.getD_eq_getElem?_getD,List.getElem?_set_ne (h k (by omega)),← List.getD_eq_getElem?_getD]
  exact layM_far k fun j hj=>h j (by omega)
end Go.Proofs.YtnaoiegcobineaaGreatDoor
namespace Go.Proofs.YtnaoiegcobineaaGreatDoor
open Go.RowKit
theorem pg_uniq {s P Q r r':Int} (h1:0≤r∧r<s) (h2:0≤r'∧r'<s) (h:P*s+r=Q*s+r'):P=Q∧r=r':=by
 rcases Int.lt_trichotomy P Q with g | g | g
 ·have:(P+1)*s≤Q*s:=Int.mul_le_mul_of_nonneg_right (by omega) (by omega)
  rw [Int.add_mul,Int.one_mul] at this
  omega
 ·subst g; exact ⟨rfl,by omega⟩
 ·have:(Q+1)*s≤P*s:=Int.mul_le_mul_of_nonneg_right (by omega) (by omega)
  rw [Int.add_mul,Int.one_mul] at this
  omega
def PlIn (M:RmM) (q:PlcM):Prop:=(q.cls ≠ -1∧q.pages = []∧rmOwner M q.cls q.page q.idx ≠ -1) ∨ ∃ n r,(n,r) ∈ M.lg∧q=⟨-1,(n:Nat),0,natsI r⟩
section
variable {c:Conf} {s:StM} {pd:Option (Nat × PlcM)}
theorem blk_page (h:RmAll c s.rm) {k n a:Int} (ho:rmOwner s.rm k n a ≠ -1):∃ pn:Nat,n=pn∧pn<s.rm.pl.own.length∧s.rm.pl.own.getD pn 0=k∧0≤k∧k<s.rm.shs.length:=by
 obtain ⟨j,x,rfl,hj,hx,e,_⟩:=rmOwner_in h ho
 obtain ⟨m,p,rfl,hm,_⟩:=owner_in (h.mok.sh j x hx).1 (by rw [e]; exact ho)
 obtain ⟨h1,h2⟩:=(h.mok.sh j x hx).2 _ hm
 have h3:=(h.ok.each j x hx).1
 have h4:=h.ok.n
 exact ⟨m,rfl,h1,h2.trans h3,by omega,by omega⟩
structure AtF (c:Conf) (M:RmM) (q:PlcM) (i:Nat) (pn:Nat) (r:Int):Prop where
 at':whereM c q.plc i=pn*c.size+r
 r:0≤r∧r<c.size
 own:M.pl.own.getD pn 0=if q.cls = -1 then (M.shs.length:Int) else q.cls
theorem at_small (h:s.OkP c pd) {q:PlcM} (hc:q.cls ≠ -1) (hp:q.pages = []) (ho:rmOwner s.rm q.cls q.page q.idx ≠ -1) {i:Nat} (hi:(i:Int)<viewHolds c q.plc):∃ pn:Nat,q.page=pn∧AtF c s.rm q i pn (q.idx*clsM c q.cls+i)∧(i:Int)<clsM c q.cls∧0≤q.idx:=by
 obtain ⟨g1,g2⟩:=small_is h ho
 have eq:q=⟨q.cls,q.page,q.idx,[]⟩:=by cases q; simp only at hp; rw [hp]
 rw [eq] at hi
 rw [g2] at hi
 obtain ⟨pn,e,_,e2,_,_⟩:=blk_page h.rm ho
 obtain ⟨k,pg,ix,c1,c2,c3,d1,d2,d3,d4,d5,d6,d7,d8⟩:=is_small h.may g1 hc
 have c1':q.cls=k:=c1
 have c2':q.page=pg:=c2
 have c3':q.idx=ix:=c3
 refine ⟨pn,e,⟨?_,?_,?_⟩,hi,by omega⟩
 ·rw [eq] at g1
  have e0:whereM c q.plc i=viewAt c q.plc+i:=by unfold whereM; rw [if_neg (show ¬ q.plc.cls = -1 from hc)]
  have e1:viewAt c q.plc=q.page*c.size+q.idx*clsM c q.cls:=by unfold viewAt; rw [if_pos ⟨by rw [eq]; exact g1,hc⟩]; rfl
  rw [e0,e1,e,Int.add_assoc]
 ·rw [c1'] at hi ⊢; rw [c3']; omega
 ·rw [if_neg hc]; exact e2
theorem at_large (h:s.OkP c pd) {n:Nat} {r:List Nat} (hm:(n,r) ∈ s.rm.lg) {i:Nat} (hi:(i:Int)<viewHolds c (PlcM.plc ⟨-1,(n:Nat),0,natsI r⟩)):∃ j:Nat,∃ hj:j<r.length,i / c.size.toNat=j∧AtF c s.rm ⟨-1,(n:Nat),0,natsI r⟩ i r[j] ((i % c.size.toNat:Nat):Int):=by
 obtain ⟨m1,m2,m3⟩:=mayFacts h.may
 have hz:1≤c.size.toNat:=by omega
 have ez:((c.size.toNat:Nat):Int)=c.size:=Int.toNat_of_nonneg (by omega)
 have hl:viewHolds c (PlcM.plc ⟨-1,(n:Nat),0,natsI r⟩)≤r.length*c.size:=by
  unfold viewHolds
  split
  ·show (if (-1:Int) = -1 then ((natsI r).length:Int)*c.size else _)≤_
   rw [if_pos rfl,natsI_length]; exact Int.le_refl _
  ·exact Int.mul_nonneg (by omega) (by omega)
 have hi2:i<r.length*c.size.toNat:=by
  have h1:(i:Int)<r.length*c.size:=by omega
  rw [← ez] at h1
  exact_mod_cast h1
 have hj:i / c.size.toNat<r.length:=(Nat.div_lt_iff_lt_mul (by omega)).2 hi2
 refine ⟨i / c.size.toNat,hj,rfl,?_,?_,?_⟩
 ·unfold whereM
  rw [if_pos (show (PlcM.plc ⟨-1,(n:Nat),0,natsI r⟩).cls = -1 from rfl)]
  show (natsI r).getD (i / c.size.toNat) 0*c.size+_=_
  unfold natsI
  rw [List.getD_eq_getElem?_getD,List.getElem?_map,List.getElem?_eq_getElem hj]
  rfl
 ·have:=Nat.mod_lt i (show 0<c.size.toNat by omega)
  omega
 ·rw [if_pos rfl]
  exact (h.rm.ok.lg _ (mem_lgAll hm (List.mem_cons_of_mem _ (List.getElem_mem hj)))).2
theorem lg_apart:∀ {l:List (Nat × List Nat)} {n n':Nat} {r r':List Nat} {m:Nat},(lgAll l).Nodup→(n,r) ∈ l→(n',r') ∈ l→m ∈ n::r→m ∈ n'::r'→n=n'∧r=r'
 |[],_,_,_,_,_,_,h,_,_,_=>by cases h
 |e::l,n,n',r,r',m,hn,h1,h2,g1,g2=>by
  have hd:lgAll (e::l)=(e.1::e.2)++lgAll l:=by unfold lgAll; rw [List.flatMap_cons]
  rw [hd,List.nodup_append] at hn
  obtain ⟨_,n2,n3⟩:=hn
  rcases List.mem_cons.1 h1 with e1 | h1'
  ·rcases List.mem_cons.1 h2 with e2 | h2'
   ·have:=e1.trans e2.symm
    exact ⟨(Prod.mk.inj this).1,(Prod.mk.inj this).2⟩
   ·exact absurd rfl (n3 m (by rw [← e1]; exact g1) m (mem_lgAll h2' g2))
  ·rcases List.mem_cons.1 h2 with e2 | h2'
   ·exact absurd rfl (n3 m (by rw [← e2]; exact g2) m (mem_lgAll h1' g1))
   ·exact lg_apart n2 h1' h2' g1 g2
theorem apart (h:s.OkP c pd) {q q':PlcM} (h1:PlIn s.rm q) (h2:PlIn s.rm q') (hne:q≠q') {i j:Nat} (hi:(i:Int)<viewHolds c q.plc) (hj:(j:Int)<viewHolds c q'.plc):whereM c q.plc i≠whereM c q'.plc j:=fun e=>by
 rcases h1 with ⟨a1,a2,a3⟩ | ⟨n,r,a1,rfl⟩
 ·obtain ⟨pn,p1,⟨p2,p3,p4⟩,p5,p6⟩:=at_small h a1 a2 a3 hi
  rcases h2 with ⟨b1,b2,b3⟩ | ⟨n',r',b1,rfl⟩
  ·obtain ⟨pn',q1,⟨q2,q3,q4⟩,q5,q6⟩:=at_small h b1 b2 b3 hj
   obtain ⟨u1,u2⟩:=pg_uniq p3 q3 (by rw [← p2,← q2]; exact e)
   have u1':pn=pn':=by omega
   subst u1'
   rw [if_neg a1] at p4
   rw [if_neg b1,p4] at q4
   rw [← q4] at u2 q5
   obtain ⟨v1,v2⟩:=pg_uniq ⟨by omega,p5⟩ ⟨by omega,q5⟩ u2
   refine hne ?_
   obtain ⟨c1,n1,i1,g1⟩:=q
   obtain ⟨c2,n2,i2,g2⟩:=q'
   simp only at *
   rw [q4,p1,q1,v1,a2,b2]
  ·obtain ⟨j',hj',_,q2,q3,q4⟩:=at_large h b1 hj
   obtain ⟨u1,_⟩:=pg_uniq p3 q3 (by rw [← p2,← q2]; exact e)
   have u1':pn=r'[j']:=by omega
   rw [if_neg a1] at p4
   rw [if_pos rfl,← u1',p4] at q4
   obtain ⟨_,_,_,_,_,x⟩:=blk_page h.rm a3
   omega
 ·obtain ⟨i',hi',_,p2,p3,p4⟩:=at_large h a1 hi
  rcases h2 with ⟨b1,b2,b3⟩ | ⟨n',r',b1,rfl⟩
  ·obtain ⟨pn',q1,⟨q2,q3,q4⟩,q5,q6⟩:=at_small h b1 b2 b3 hj
   obtain ⟨u1,_⟩:=pg_uniq p3 q3 (by rw [← p2,← q2]; exact e)
   have u1':r[i']=pn':=by omega
   rw [if_neg b1] at q4
   rw [if_pos rfl,u1',q4] at p4
   obtain ⟨_,_,_,_,_,x⟩:=blk_page h.rm b3
   omega
  ·obtain ⟨j',hj',_,q2,q3,q4⟩:=at_large h b1 hj
   obtain ⟨u1,_⟩:=pg_uniq p3 q3 (by rw [← p2,← q2]; exact e)
   have u1':r[i']=r'[j']:=by omega
   obtain ⟨v1,v2⟩:=lg_apart h.rm.ok.nd a1 b1 (List.mem_cons_of_mem _ (List.getElem_mem hi')) (by rw [u1']; exact List.mem_cons_of_mem _ (List.getElem_mem hj'))
   exact hne (by rw [v1,v2])
theorem once_in (h:s.OkP c pd) {q:PlcM} (h1:PlIn s.rm q):OnceP q.plc:=fun hc i k hki hi=>by
 rcases h1 with ⟨a1,_⟩ | ⟨n,r,a1,rfl⟩
 ·exact absurd hc a1
 ·have hn:=lg_nodup h.rm.ok a1
  rw [List.nodup_cons] at hn
  have hl:(natsI r).length=r.length:=natsI_length r
  have hi':i<r.length:=by rw [← hl]; exact hi
  show (natsI r).getD i 0≠(natsI r).getD k 0
  unfold natsI
  rw [List.getD_eq_getElem?_getD,List.getD_eq_getElem?_getD,List.getElem?_map,List.getElem?_map,List.getElem?_eq_getElem hi',List.getElem?_eq_getElem (show k<r.length by omega)]
  intro e
  have e':r[i]=r[k]:=Int.ofNat_inj.1 e
  have:=(List.getElem_inj hn.2).1 e'
  omega
end
end Go.Proofs.YtnaoiegcobineaaGreatDoor
namespace Go.Proofs.YtnaoiegcobineaaGreatDoor
open Go.RowKit
section
variable {c:Conf} {s:StM} {pd:Option (Nat × PlcM)}
theorem thing_in (h:s.OkP c pd) {o:Nat} {t:ThM} (ht:s.th[o]? = some (some t)):PlIn s.rm t.q:=by
 by_cases hp:pickM c.classes t.size = -1
 ·obtain ⟨n,r,h1,h2,_⟩:=h.large o t ht hp
  exact .inr ⟨n,r,h1,h2⟩
 ·obtain ⟨h1,h2,h3⟩:=h.small o t ht hp
  exact .inl ⟨by rw [h1]; exact hp,h2,by rw [h3]; omega⟩
theorem things_apart (h:s.OkP c pd) {o o':Nat} {t t':ThM} (ht:s.th[o]? = some (some t)) (ht':s.th[o']? = some (some t')) (hne:o≠o'):t.q≠t'.q:=fun e=>by
 by_cases hc:t.q.cls = -1
 ·exact hne (h.linj o o' t t' ht ht' hc (by rw [← e]; exact hc) (by rw [e]))
 ·obtain ⟨_,_,h3⟩:=h.small o t ht (cls_small h ht hc)
  obtain ⟨_,_,g3⟩:=h.small o' t' ht' (cls_small h ht' (by rw [← e]; exact hc))
  rw [e,g3] at h3
  omega
structure MvF (c:Conf) (s:StM) (k:Nat) (m:MvM):Prop where
 fin:PlIn s.rm ⟨(k:Nat),m.pf,m.fa,[]⟩
 tin:PlIn s.rm ⟨(k:Nat),m.pt,m.ta,[]⟩
 ne:(⟨(k:Nat),m.pf,m.fa,[]⟩:PlcM)≠⟨(k:Nat),m.pt,m.ta,[]⟩
 f:∀ i:Nat,whereM c (PlcM.plc ⟨(k:Nat),m.pf,m.fa,[]⟩) i=(m.f+i:Nat)
 t:∀ i:Nat,whereM c (PlcM.plc ⟨(k:Nat),m.pt,m.ta,[]⟩) i=(m.t+i:Nat)
 hf:viewHolds c (PlcM.plc ⟨(k:Nat),m.pf,m.fa,[]⟩)=m.size
 ht:viewHolds c (PlcM.plc ⟨(k:Nat),m.pt,m.ta,[]⟩)=m.size
 th:∀ (o:Nat) t,s.th[o]? = some (some t)→(⟨(k:Nat),m.pt,m.ta,[]⟩:PlcM)≠t.q
 who:∃ (o:Nat),∃ t,m.who=o∧s.th[o]? = some (some t)∧t.q=⟨(k:Nat),m.pf,m.fa,[]⟩
theorem where_blk {k n a:Int} (hk:k ≠ -1) (i:Nat):whereM c (PlcM.plc ⟨k,n,a,[]⟩) i=blkAt c k n a+i:=by
 unfold whereM
 rw [if_neg (show ¬ (PlcM.plc ⟨k,n,a,[]⟩).cls = -1 from hk)]
 rfl
theorem mv_facts22 (h:s.OkP c pd) {k:Nat} {m:MvM} (hm:s.mv[k]? = some (some m)):MvF c s k m:=by
 obtain ⟨⟨o,t,e1,e2,e3⟩,a2,a3,a4,a5,a6,a7⟩:=h.mv k m hm
 have hkn:((k:Nat):Int) ≠ -1:=by omega
 have hfo:rmOwner s.rm (k:Nat) m.pf m.fa ≠ -1:=by
  have:=(h.small o t e2 (cls_small h e2 (by rw [e3]; exact hkn))).2.2
  rw [e3] at this
  simp only at this
  omega
 have hto:rmOwner s.rm (k:Nat) m.pt m.ta ≠ -1:=by rw [a2,e1]; omega
 refine ⟨.inl ⟨hkn,rfl,hfo⟩,.inl ⟨hkn,rfl,hto⟩,fun e => ?_,fun i => ?_,fun i => ?_,?_,?_,fun o' t' g e => ?_,⟨o,t,e1,e2,e3⟩⟩
 ·have e':=PlcM.mk.inj e
  exact a3 ⟨e'.2.1,e'.2.2.1⟩
 ·rw [where_blk hkn,← a4]; omega
 ·rw [where_blk hkn,← a5]; omega
 ·rw [(small_is h hfo).2,a6]
 ·rw [(small_is h hto).2,a6]
 ·have g3:=(h.small o' t' g (cls_small h g (by rw [← e]; exact hkn))).2.2
  rw [← e] at g3
  simp only at g3
  have eo:o'=o:=by omega
  subst eo
  rw [e2] at g
  cases g
  rw [e3] at e
  have e':=PlcM.mk.inj e
  exact a3 ⟨e'.2.1.symm,e'.2.2.1.symm⟩
def OnlyAt (c:Conf) (q:PlcM) (bs bs':List Int):Prop := ∀ p:Nat,(∀ i:Nat,(i:Int)<viewHolds c q.plc→(whereM c q.plc i).toNat≠p)→bs'.getD p 0=bs.getD p 0
theorem is_of_holds {q:Plc} {i:Nat} (hi:(i:Int)<viewHolds c q):viewIs c q=true:=by
 unfold viewHolds at hi
 split at hi
 ·assumption
 ·omega
theorem only_other (h:s.OkP c pd) {q q':PlcM} (hq:PlIn s.rm q) (hq':PlIn s.rm q') (hne:q≠q') {bs bs':List Int} (ho:OnlyAt c q bs bs') {i:Nat} (hi:(i:Int)<viewHolds c q'.plc):bs'.getD (whereM c q'.plc i).toNat 0=bs.getD (whereM c q'.plc i).toNat 0:=ho _ fun j hj e=>by
 have h1:=where_in h.may (is_of_holds hj) hj
 have h2:=where_in h.may (is_of_holds hi) hi
 exact apart h hq hq' hne hj hi (by omega)
theorem only_put {q:PlcM} {bs x:List Int} {i:Nat} (hl:(i+x.length:Int)≤viewHolds c q.plc):OnlyAt c q bs (layM c q.plc bs i x x.length):=fun p hp=>layM_far _ fun j hj=>hp (i+j) (by omega)
theorem cpB_get22 {bs:List Int} {t f n j:Nat} (hf:f+n≤bs.length) (ht:t+n≤bs.length):(cpB bs t f n).getD j 0=if j<t then bs.getD j 0 else if j<t+n then bs.getD (f+(j - t)) 0 else bs.getD j 0:=by
 unfold cpB
 rw [wrB_getD (by rw [sub_length hf]; exact ht),sub_length hf]
 by_cases h1:j<t
 ·rw [if_pos h1,if_pos h1]
 ·rw [if_neg h1,if_neg h1]
  by_cases h2:j<t+n
  ·rw [if_pos h2,if_pos h2,sub_getD (by omega)]
  ·rw [if_neg h2,if_neg h2]
theorem only_cp (h:s.OkP c pd) {k:Nat} {m:MvM} (hm:s.mv[k]? = some (some m)) {bs:List Int} (hl:bs.length=s.bs.length) {g n:Nat} (hg:g+n≤m.size):OnlyAt c ⟨(k:Nat),m.pt,m.ta,[]⟩ bs (cpB bs (m.t+g) (m.f+g) n):=fun p hp=>by
 obtain ⟨l1,l2,l3,l4⟩:=mv_lies h hm
 have M:=mv_facts22 h hm
 rw [cpB_get22 (by omega) (by omega)]
 split
 ·rfl
 ·split
  ·exact absurd (by rw [M.t]; show m.t+(p - m.t)=p; omega) (hp (p - m.t) (by rw [M.ht]; omega))
  ·rfl
structure BI (c:Conf) (s:StM) (own:List (List Int)):Prop where
 len:own.length=s.th.length
 no:∀ o:Nat,s.th[o]? = some none→own[o]? = some []
 yes:∀ (o:Nat) t,s.th[o]? = some (some t) → ∃ l,own[o]? = some l∧(l.length:Int)=t.size ∧ ∀ i:Nat,(i:Int)<viewHolds c t.q.plc→s.bs.getD (whereM c t.q.plc i).toNat 0=l.getD i 0
 mv:∀ (k:Nat) m,s.mv[k]? = some (some m) → ∀ i:Nat,i<m.gone→s.bs.getD (m.t+i) 0=s.bs.getD (m.f+i) 0
variable {own:List (List Int)}
theorem BI.of (h:BI c s own) {s':StM} (e1:s'.th=s.th) (e2:s'.bs=s.bs) (e3:s'.mv=s.mv):BI c s' own:=⟨by rw [e1]; exact h.len,by rw [e1]; exact h.no,by rw [e1,e2]; exact h.yes,by rw [e2,e3]; exact h.mv⟩
theorem BI.begin (h:BI c s own) (k:Nat):BI c (stBegin c s k) own:=by
 unfold stBegin
 split
 ·refine ⟨h.len,h.no,h.yes,fun j m hj i hi => ?_⟩
  rcases set_opt hj with ⟨_,e,_⟩ | ⟨_,hj⟩
  ·cases e; exact absurd hi (Nat.not_lt_zero _)
  ·exact h.mv j m hj i hi
 ·exact h
theorem mv_copy (h:s.OkP c pd) {k:Nat} {m:MvM} (hm:s.mv[k]? = some (some m)) {bs:List Int} (hl:bs.length=s.bs.length) {g n:Nat} (hg:g+n≤m.size) {i:Nat} (hi:i<m.size) :
 (cpB bs (m.t+g) (m.f+g) n).getD (m.f+i) 0=bs.getD (m.f+i) 0∧(cpB bs (m.t+g) (m.f+g) n).getD (m.t+i) 0=if g≤i∧i<g+n then bs.getD (m.f+i) 0 else bs.getD (m.t+i) 0:=by
 obtain ⟨l1,l2,l3,l4⟩:=mv_lies h hm
 rw [cpB_get22 (by omega) (by omega),cpB_get22 (by omega) (by omega)]
 refine ⟨?_,?_⟩
 ·split
  ·rfl
  ·split
   ·omega
   ·rfl
 ·by_cases h1:i<g
  ·rw [if_pos (by omega),if_neg (by omega)]
  ·rw [if_neg (by omega)]
   by_cases h2:i<g+n
   ·rw [if_pos (by omega),if_pos (by omega),show m.f+g+(m.t+i - (m.t+g))=m.f+i by omega]
   ·rw [if_neg (by omega),if_neg (by omega)]
theorem mv_other (h:s.OkP c pd) {k j:Nat} {m m':MvM} (hm:s.mv[k]? = some (some m)) (hj:s.mv[j]? = some (some m')) (hne:j≠k) {bs bs':List Int} (ho:OnlyAt c ⟨(k:Nat),m.pt,m.ta,[]⟩ bs bs') {i:Nat} (hi:i<m'.size):bs'.getD (m'.t+i) 0=bs.getD (m'.t+i) 0∧bs'.getD (m'.f+i) 0=bs.getD (m'.f+i) 0:=by
 have M:=mv_facts22 h hm
 have M':=mv_facts22 h hj
 have n1:(⟨(k:Nat),m.pt,m.ta,[]⟩:PlcM)≠⟨(j:Nat),m'.pt,m'.ta,[]⟩:=fun e=>hne (by have:=(PlcM.mk.inj e).1; omega)
 have n2:(⟨(k:Nat),m.pt,m.ta,[]⟩:PlcM)≠⟨(j:Nat),m'.pf,m'.fa,[]⟩:=fun e=>hne (by have:=(PlcM.mk.inj e).1; omega)
 have h1:=only_other h M.tin M'.tin n1 ho (i:=i) (by rw [M'.ht]; omega)
 have h2:=only_other h M.tin M'.fin n2 ho (i:=i) (by rw [M'.hf]; omega)
 rw [M'.t,Int.toNat_natCast] at h1
 rw [M'.f,Int.toNat_natCast] at h2
 exact ⟨h1,h2⟩
theorem stepB_eq (bs:List Int) (f t g k:Nat) (hf:f+g+k≤bs.length) (ht:t+g+k≤bs.length):∀ p,(stepB bs f t g k).getD p 0=(cpB bs (t+g) (f+g) k).getD p 0:=fun p=>by
 unfold stepB
 split
 ·rename_i h0
  subst h0
  rw [cpB_get22 (by omega) (by omega)]
  split
  ·rfl
  ·rw [if_neg (by omega)]
 ·rfl
theorem BI.go (h:BI c s own) (hs:s.Ok c) (k:Nat) (n:Int):BI c (stGo s k n) own:=by
 unfold stGo
 cases hg:stMv s (k:Nat) with
 |none=>exact h
 |some m =>
  obtain ⟨j,ej,hj,hm⟩:=mv_some hg
  obtain rfl:k=j:=by omega
  obtain ⟨l1,l2,l3,l4⟩:=mv_lies hs hm
  have M:=mv_facts22 hs hm
  have hgn:=goN_le m n
  have hgl:=(hs.mv k m hm).2.2.2.2.2.2
  have eb:∀ p,(stStep s m n).bs.getD p 0=(cpB s.bs (m.t+m.gone) (m.f+m.gone) (goN m n)).getD p 0:=stepB_eq _ _ _ _ _ (by omega) (by omega)
  have hO:OnlyAt c ⟨(k:Nat),m.pt,m.ta,[]⟩ s.bs (stStep s m n).bs:=fun p hp=>by rw [eb]; exact only_cp hs hm rfl (by omega) p hp
  have yes:∀ (o:Nat) t,s.th[o]? = some (some t) → ∃ l,own[o]? = some l∧(l.length:Int)=t.size ∧ ∀ i:Nat,(i:Int)<viewHolds c t.q.plc→(stStep s m n).bs.getD (whereM c t.q.plc i).toNat 0=l.getD i 0:=fun o t ht=>by
   obtain ⟨l,a1,a2,a3⟩:=h.yes o t ht
   exact ⟨l,a1,a2,fun i hi=>(only_other hs M.tin (thing_in hs ht) (M.th o t ht) hO hi).trans (a3 i hi)⟩
  have gone:∀ i:Nat,i<m.gone+goN m n→(stStep s m n).bs.getD (m.t+i) 0=(stStep s m n).bs.getD (m.f+i) 0:=fun i hi=>by
   rw [eb,eb]
   obtain ⟨c1,c2⟩:=mv_copy hs hm (bs:=s.bs) rfl (g:=m.gone) (n:=goN m n) (by omega) (i:=i) (by omega)
   rw [c1,c2]
   split
   ·rfl
   ·exact h.mv k m hm i (by omega)
  have others:∀ (j:Nat) m',j≠k→s.mv[j]? = some (some m') → ∀ i:Nat,i<m'.gone→(stStep s m n).bs.getD (m'.t+i) 0=(stStep s m n).bs.getD (m'.f+i) 0:=fun j m' hne hj i hi=>by
   have hgl':=(hs.mv j m' hj).2.2.2.2.2.2
   obtain ⟨c1,c2⟩:=mv_other hs hm hj hne hO (i:=i) (by omega)
   rw [c1,c2]
   exact h.mv j m' hj i hi
  simp only
  split
  ·refine ⟨h.len,h.no,yes,fun j m' hj i hi => ?_⟩
   rcases set_opt hj with ⟨rfl,e,_⟩ | ⟨hne,hj⟩
   ·cases e; exact gone i hi
   ·exact others j m' hne hj i hi
  ·rename_i hlt
   obtain ⟨o,t,e1,e2,e3⟩:=M.who
   have hwn:m.who.toNat=o:=by omega
   have hsz:stSize s m.who=t.size:=by rw [e1]; exact stSize_of e2
   rw [hwn,hsz]
   refine ⟨by show own.length=(s.th.set _ _).length; rw [List.length_set]; exact h.len,fun o1 h1 => ?_,fun o1 t1 h1 => ?_,fun j m' hj i hi => ?_⟩
   ·replace h1:(s.th.set o (some ⟨t.size,⟨(k:Nat),m.pt,m.ta,[]⟩⟩))[o1]? = some none:=h1
    by_cases e:o=o1
    ·subst e
     rw [List.getElem?_set_self (List.getElem?_eq_some_iff.1 e2).1] at h1
     cases h1
    ·rw [List.getElem?_set_ne e] at h1
     exact h.no o1 h1
   ·rcases tset h1 with ⟨rfl,rfl⟩ | ⟨_,h1⟩
    ·obtain ⟨l,a1,a2,a3⟩:=yes o1 t e2
     refine ⟨l,a1,a2,fun i hi => ?_⟩
     replace hi:(i:Int)<viewHolds c (PlcM.plc ⟨(k:Nat),m.pt,m.ta,[]⟩):=hi
     rw [M.ht] at hi
     have a4:=a3 i (by rw [e3,M.hf]; exact hi)
     rw [e3,M.f,Int.toNat_natCast] at a4
     show (stStep s m n).bs.getD (whereM c (PlcM.plc ⟨(k:Nat),m.pt,m.ta,[]⟩) i).toNat 0=_
     rw [M.t,Int.toNat_natCast,gone i (by omega)]
     exact a4
    ·exact yes o1 t1 h1
   ·rcases set_opt hj with ⟨_,e,_⟩ | ⟨hne,hj⟩
    ·cases e
    ·exact others j m' hne hj i hi
theorem BI.finish (h:BI c s own) (hs:s.Ok c) (κ:Int):BI c (stFinish s κ) own:=by
 unfold stFinish
 split
 ·exact h
 ·exact h.go hs _ _
theorem BI.clear (h:BI c s own) {o:Nat} {q:PlcM} (hs:s.OkP c (some (o,q))):BI c (stClear c s q) own:=by
 have h1:BI c {s with rm:=rmDrop s.rm q} own:=h.of rfl rfl rfl
 unfold stClear
 split
 ·exact h1
 ·exact (h1.begin _).go (StM.OkP.begin hs.dropped _) _ _
theorem BI.away (h:BI c s own) (o:Nat):BI c {s with th:=s.th.set o none} (own.set o []):=by
 refine ⟨by show (own.set o []).length=(s.th.set o none).length; rw [List.length_set,List.length_set]; exact h.len,fun o1 h1 => ?_,fun o1 t1 h1 => ?_,h.mv⟩
 ·replace h1:(s.th.set o none)[o1]? = some none:=h1
  by_cases e:o=o1
  ·subst e
   have:=(List.getElem?_eq_some_iff.1 h1).1
   rw [List.length_set,← h.len] at this
   rw [List.getElem?_set_self this]
  ·rw [List.getElem?_set_ne e] at h1 ⊢
   exact h.no o1 h1
 ·rcases set_opt h1 with ⟨_,e,_⟩ | ⟨hne,h1⟩
  ·cases e
  ·rw [List.getElem?_set_ne (Ne.symm hne)]
   exact h.yes o1 t1 h1
end
end Go.Proofs.YtnaoiegcobineaaGreatDoor
namespace Go.Proofs.YtnaoiegcobineaaGreatDoor
open Go.RowKit
theorem zeros_getD (n i:Nat):(zeros n).getD i 0=0:=by
 unfold zeros
 rw [List.getD_eq_getElem?_getD,List.getElem?_replicate]
 split <;> rfl
section
variable {c:Conf} {s:StM} {pd:Option (Nat × PlcM)} {own:List (List Int)}
theorem layS_mv {o size:Int} {k:Nat} {m:MvM} (h:(layS c s o size).mv[k]? = some (some m)):s.mv[k]? = some (some m):=by
 unfold layS at h
 split at h
 ·rcases set_opt h with ⟨_,e,_⟩ | ⟨_,h⟩
  ·cases e
  ·exact h
 ·exact h
theorem layS_bs {o size:Int}:(layS c s o size).bs=s.bs:=by unfold layS; split <;> rfl
theorem mv_places (h:s.OkP c pd) {j:Nat} {m:MvM} (hj:s.mv[j]? = some (some m)) {o:Nat} {t:ThM} (ht:s.th[o]? = some (some t)) (hne:m.who≠o) {bs bs':List Int} (hO:OnlyAt c t.q bs bs') {i:Nat} (hi:i<m.size):bs'.getD (m.t+i) 0=bs.getD (m.t+i) 0∧bs'.getD (m.f+i) 0=bs.getD (m.f+i) 0:=by
 have M:=mv_facts22 h hj
 obtain ⟨o2,t2,e1,e2,e3⟩:=M.who
 have h1:=only_other h (thing_in h ht) M.tin (fun e=>M.th o t ht e.symm) hO (i:=i) (by rw [M.ht]; omega)
 have h2:=only_other h (thing_in h ht) M.fin (fun e=>things_apart h ht e2 (by omega) (e.trans e3.symm)) hO (i:=i) (by rw [M.hf]; omega)
 rw [M.t,Int.toNat_natCast] at h1
 rw [M.f,Int.toNat_natCast] at h2
 exact ⟨h1,h2⟩
theorem BI.lay (h:BI c s own) (hs:s.OkP c pd) {o:Nat} {size:Int} {pd2:Option (Nat × PlcM)} (ho:s.th[o]? = some none) (hz:1≤size) (hL:(stLay c s (o:Nat) size).OkP c pd2):BI c (stLay c s (o:Nat) size) (own.set o (zeros size.toNat)):=by
 have hol:=(List.getElem?_eq_some_iff.1 ho).1
 obtain ⟨Q,eQ⟩:∃ Q,Q=layQ c s (o:Nat) size:=⟨_,rfl⟩
 have eT:(stLay c s (o:Nat) size).th=s.th.set o (some ⟨size,Q⟩):=by rw [eQ]; show s.th.set (o:Int).toNat _=_; rw [Int.toNat_natCast]
 have hT:(stLay c s (o:Nat) size).th[o]? = some (some ⟨size,Q⟩):=by rw [eT,List.getElem?_set_self hol]
 obtain ⟨pv,ph,pf⟩:=place_holds hL hT
 replace pv:viewIs c Q.plc=true:=pv
 have eB:(stLay c s (o:Nat) size).bs=layM c Q.plc s.bs 0 (zeros (viewHolds c Q.plc).toNat) (zeros (viewHolds c Q.plc).toNat).length:=by
  rw [eQ]
  show layM c _ (layS c s (o:Nat) size).bs 0 _ _=_
  rw [layS_bs]
 have hhb:=viewHolds_bound (c:=c) (q:=Q.plc) hs.may pf
 have hO:OnlyAt c Q s.bs (stLay c s (o:Nat) size).bs:=by rw [eB]; exact only_put (by rw [zeros_length]; omega)
 refine ⟨by rw [eT,List.length_set,List.length_set]; exact h.len,fun o1 h1 => ?_,fun o1 t1 h1 => ?_,fun j m hj i hi => ?_⟩
 ·rw [eT] at h1
  by_cases e:o=o1
  ·subst e; rw [List.getElem?_set_self hol] at h1; cases h1
  ·rw [List.getElem?_set_ne e] at h1 ⊢; exact h.no o1 h1
 ·by_cases e:o=o1
  ·subst e
   rw [hT] at h1
   cases h1
   refine ⟨zeros size.toNat,by rw [List.getElem?_set_self (by rw [h.len]; exact hol)],by rw [zeros_length]; show ((size.toNat:Nat):Int)=size; omega,fun i hi => ?_⟩
   replace hi:(i:Int)<viewHolds c Q.plc:=hi
   have hg:=layM_get (l:=zeros (viewHolds c Q.plc).toNat) (bs:=s.bs) (at':=0) hs.may pv (once_in hL (thing_in hL hT)) hs.bl (zeros (viewHolds c Q.plc).toNat).length (by rw [zeros_length]; omega) i (by rw [zeros_length]; omega)
   rw [Nat.zero_add] at hg
   rw [eB,zeros_getD]
   exact hg.trans (zeros_getD _ _)
  ·have h2:=h1
   rw [eT,List.getElem?_set_ne e] at h1
   rw [List.getElem?_set_ne e]
   obtain ⟨l,a1,a2,a3⟩:=h.yes o1 t1 h1
   exact ⟨l,a1,a2,fun i hi=>(only_other hL (thing_in hL hT) (thing_in hL h2) (things_apart hL hT h2 e) hO hi).trans (a3 i hi)⟩
 ·have hj0:s.mv[j]? = some (some m):=layS_mv hj
  obtain ⟨⟨o3,t3,g1,g2,_⟩,_⟩:=hs.mv j m hj0
  have hgl:=(hs.mv j m hj0).2.2.2.2.2.2
  have h3:o3≠o:=fun e=>by rw [e,ho] at g2; cases g2
  obtain ⟨c1,c2⟩:=mv_places hL hj hT (by rw [g1]; omega) hO (i:=i) (by omega)
  rw [c1,c2]
  exact h.mv j m hj0 i hi
structure PutF (c:Conf) (s s':StM) (o:Nat) (t:ThM) (i:Nat) (x:List Int):Prop where
 th:s'.th=s.th
 mv:s'.mv=s.mv
 other:∀ (o1:Nat) t1,s.th[o1]? = some (some t1)→o1≠o → ∀ p:Nat,(p:Int)<viewHolds c t1.q.plc→s'.bs.getD (whereM c t1.q.plc p).toNat 0=s.bs.getD (whereM c t1.q.plc p).toNat 0
 own:∀ p:Nat,(p:Int)<viewHolds c t.q.plc→s'.bs.getD (whereM c t.q.plc p).toNat 0=if i≤p∧p<i+x.length then x.getD (p - i) 0 else s.bs.getD (whereM c t.q.plc p).toNat 0
 go:∀ (k:Nat) m,s.mv[k]? = some (some m) → ∀ j:Nat,j<m.gone→s'.bs.getD (m.t+j) 0=s'.bs.getD (m.f+j) 0
theorem put_own (hs:s.OkP c pd) {o:Nat} {t:ThM} (ht:s.th[o]? = some (some t)) {i:Nat} {x:List Int} (hle:(i+x.length:Int)≤viewHolds c t.q.plc) {p:Nat} (hp:(p:Int)<viewHolds c t.q.plc) :
 (layM c t.q.plc s.bs i x x.length).getD (whereM c t.q.plc p).toNat 0=if i≤p∧p<i+x.length then x.getD (p - i) 0 else s.bs.getD (whereM c t.q.plc p).toNat 0:=by
 have hin:=is_of_holds hp
 have honce:=once_in hs (thing_in hs ht)
 split
 ·rename_i hr
  have hg:=layM_get (l:=x) (bs:=s.bs) (at':=i) hs.may hin honce hs.bl x.length (by omega) (p - i) (by omega)
  rw [show i+(p - i)=p by omega] at hg
  exact hg
 ·rename_i hr
  refine layM_far _ fun j hj e => ?_
  have w1:=where_in (i:=i+j) hs.may hin (by omega)
  have w2:=where_in (i:=p) hs.may hin hp
  have:=where_inj hs.may hin honce (i:=i+j) (k:=p) (by omega) hp (by omega)
  omega
theorem put_facts (h:BI c s own) (hs:s.OkP c pd) {o:Nat} {t:ThM} (ht:s.th[o]? = some (some t)) {i:Nat} {x:List Int} (hle:(i+x.length:Int)≤viewHolds c t.q.plc) (hsz:∀ m,stMv s t.q.cls=some m→i+x.length≤m.size) :
 PutF c s (stWrote (stPut c s t.q i x) (o:Nat) i x.length) o t i x:=by
 have hO:=only_put (c:=c) (q:=t.q) (bs:=s.bs) (x:=x) (i:=i) hle
 obtain ⟨b1,eb1⟩:∃ b1,b1=layM c t.q.plc s.bs i x x.length:=⟨_,rfl⟩
 have hb1:b1.length=s.bs.length:=by rw [eb1,layM_len]
 have oth:∀ (o1:Nat) t1,s.th[o1]? = some (some t1)→o1≠o → ∀ p:Nat,(p:Int)<viewHolds c t1.q.plc→b1.getD (whereM c t1.q.plc p).toNat 0=s.bs.getD (whereM c t1.q.plc p).toNat 0:=fun o1 t1 h1 hne p hp=>by
  rw [eb1]; exact only_other hs (thing_in hs ht) (thing_in hs h1) (things_apart hs ht h1 (Ne.symm hne)) hO hp
 have ow:∀ p:Nat,(p:Int)<viewHolds c t.q.plc→b1.getD (whereM c t.q.plc p).toNat 0=if i≤p∧p<i+x.length then x.getD (p - i) 0 else s.bs.getD (whereM c t.q.plc p).toNat 0:=fun p hp=>by
  rw [eb1]; exact put_own hs ht hle hp
 have gs:∀ (k:Nat) m,s.mv[k]? = some (some m)→m.gone<m.size:=fun k m hk=>(hs.mv k m hk).2.2.2.2.2.2
 have mvo:∀ (k:Nat) m,s.mv[k]? = some (some m)→m.who≠(o:Nat) → ∀ j:Nat,j<m.gone→b1.getD (m.t+j) 0=b1.getD (m.f+j) 0:=fun k m hk hne j hj=>by
  have:=gs k m hk
  obtain ⟨c1,c2⟩:=mv_places hs hk ht hne hO (i:=j) (by omega)
  rw [eb1,c1,c2]
  exact h.mv k m hk j hj
 have at':∀ (k:Nat) m,s.mv[k]? = some (some m)→m.who=(o:Nat)→t.q=⟨(k:Nat),m.pf,m.fa,[]⟩:=fun k m hk e=>by
  obtain ⟨o2,t2,g1,g2,g3⟩:=(mv_facts22 hs hk).who
  have:o2=o:=by omega
  subst this
  rw [ht] at g2; cases g2
  exact g3
 have eq:stQ (stPut c s t.q i x) (o:Nat)=t.q:=stQ_of (s:=stPut c s t.q i x) ht
 unfold stWrote
 rw [eq]
 show PutF c s (match stMv s t.q.cls with | some m=>if m.who=(o:Nat) then chgTot {stPut c s t.q i x with bs:=wroteB (layM c t.q.plc s.bs i x x.length) m.f m.t m.gone i x.length} (wroteK i x.length m.gone) else stPut c s t.q i x | none=>stPut c s t.q i x) o t i x
 rw [← eb1]
 have plain:(∀ (k:Nat) m,s.mv[k]? = some (some m)→m.who≠(o:Nat))→PutF c s (stPut c s t.q i x) o t i x:=fun hno =>
  ⟨rfl,rfl,fun o1 t1 h1 hne p hp=>by show (layM c t.q.plc s.bs i x x.length).getD _ 0=_; rw [← eb1]; exact oth o1 t1 h1 hne p hp,fun p hp=>by show (layM c t.q.plc s.bs i x x.length).getD _ 0=_; rw [← eb1]; exact ow p hp,fun k m hk j hj=>by show (layM c t.q.plc s.bs i x x.length).getD _ 0=(layM c t.q.plc s.bs i x x.length).getD _ 0; rw [← eb1]; exact mvo k m hk (hno k m hk) j hj⟩
 cases hm:stMv s t.q.cls with
 |none =>
  refine plain fun k m hk e => ?_
  have e2:=at' k m hk e
  rw [e2] at hm
  have:stMv s (k:Nat)=none:=hm
  rw [mv_of hk] at this
  cases this
 |some m =>
  obtain ⟨k,ek,hkl,hk⟩:=mv_some hm
  simp only
  split
  ·rename_i hw
   obtain ⟨l1,l2,l3,l4⟩:=mv_lies hs hk
   have M:=mv_facts22 hs hk
   have hsz':=hsz m hm
   have hg:=gs k m hk
   have etq:=at' k m hk hw
   obtain ⟨K,eK⟩:∃ K,K=wroteK i x.length m.gone:=⟨_,rfl⟩
   have hK:K=min (i+x.length) m.gone - i:=eK
   have ew:∀ p,(wroteB b1 m.f m.t m.gone i x.length).getD p 0=(cpB b1 (m.t+i) (m.f+i) K).getD p 0:=fun p=>by
    unfold wroteB
    rw [← eK]
    split
    ·rename_i h0
     rw [h0,cpB_get22 (by omega) (by omega)]
     split
     ·rfl
     ·rw [if_neg (by omega)]
    ·rfl
   have hO2:OnlyAt c ⟨(k:Nat),m.pt,m.ta,[]⟩ b1 (wroteB b1 m.f m.t m.gone i x.length):=fun p hp=>by rw [ew]; exact only_cp hs hk hb1 (g:=i) (n:=K) (by omega) p hp
   have fplace:∀ j:Nat,j<m.size→b1.getD (m.f+j) 0=if i≤j∧j<i+x.length then x.getD (j - i) 0 else s.bs.getD (m.f+j) 0:=fun j hj=>by
    have h1:=ow j (by rw [etq,M.hf]; omega)
    rw [etq,M.f,Int.toNat_natCast] at h1
    exact h1
   refine ⟨rfl,rfl,fun o1 t1 h1 hne p hp => ?_,fun p hp => ?_,fun k' m' hk' j hj => ?_⟩
   ·exact (only_other hs M.tin (thing_in hs h1) (M.th o1 t1 h1) hO2 hp).trans (oth o1 t1 h1 hne p hp)
   ·exact (only_other hs M.tin (thing_in hs ht) (M.th o t ht) hO2 hp).trans (ow p hp)
   ·show (wroteB b1 m.f m.t m.gone i x.length).getD _ 0=(wroteB b1 m.f m.t m.gone i x.length).getD _ 0
    by_cases ekk:k'=k
    ·subst ekk
     rw [hk] at hk'; cases hk'
     rw [ew,ew]
     obtain ⟨c1,c2⟩:=mv_copy hs hk (bs:=b1) hb1 (g:=i) (n:=K) (by omega) (i:=j) (by omega)
     rw [c1,c2]
     split
     ·rfl
     ·rename_i hr
      have h1:=only_other hs (thing_in hs ht) M.tin (fun e=>M.th o t ht e.symm) hO (i:=j) (by rw [M.ht]; omega)
      rw [M.t,Int.toNat_natCast,← eb1] at h1
      rw [h1,fplace j (by omega),if_neg (by omega)]
      exact h.mv k' m hk j hj
    ·have hg':=gs k' m' hk'
     obtain ⟨c1,c2⟩:=mv_other hs hk hk' ekk hO2 (i:=j) (by omega)
     rw [c1,c2]
     refine mvo k' m' hk' (fun e=>ekk ?_) j hj
     have e2:=at' k' m' hk' e
     rw [etq] at e2
     have:=(PlcM.mk.inj e2).1
     omega
  ·rename_i hw
   refine plain fun k' m' hk' e=>hw ?_
   have e2:=at' k' m' hk' e
   rw [e2] at hm
   have:stMv s (k':Nat)=some m:=hm
   rw [mv_of hk'] at this
   cases this
   exact e
theorem BI.put (h:BI c s own) {s':StM} {o:Nat} {t:ThM} (ht:s.th[o]? = some (some t)) {i:Nat} {x:List Int} (P:PutF c s s' o t i x) {l l':List Int} {size:Int} (hl:own[o]? = some l) (hl':(l'.length:Int)=size)
 (hb:∀ p:Nat,(p:Int)<viewHolds c t.q.plc→(if i≤p∧p<i+x.length then x.getD (p - i) 0 else s.bs.getD (whereM c t.q.plc p).toNat 0)=l'.getD p 0) {s2:StM} (e1:s2.th=s'.th.set o (some ⟨size,t.q⟩)) (e2:s2.bs=s'.bs) (e3:s2.mv=s'.mv):BI c s2 (own.set o l'):=by
 have hol:=(List.getElem?_eq_some_iff.1 ht).1
 refine ⟨by rw [e1,P.th,List.length_set,List.length_set]; exact h.len,fun o1 h1 => ?_,fun o1 t1 h1 => ?_,fun k m hk j hj => ?_⟩
 ·rw [e1,P.th] at h1
  by_cases e:o=o1
  ·subst e; rw [List.getElem?_set_self hol] at h1; cases h1
  ·rw [List.getElem?_set_ne e] at h1 ⊢; exact h.no o1 h1
 ·rw [e1,P.th] at h1
  rcases tset h1 with ⟨rfl,rfl⟩ | ⟨hne,h1⟩
  ·refine ⟨l',by rw [List.getElem?_set_self (by rw [h.len]; exact hol)],hl',fun p hp => ?_⟩
   rw [e2]
   exact (P.own p hp).trans (hb p hp)
  ·obtain ⟨l1,a1,a2,a3⟩:=h.yes o1 t1 h1
   refine ⟨l1,by rw [List.getElem?_set_ne (Ne.symm hne)]; exact a1,a2,fun p hp => ?_⟩
   rw [e2]
   exact (P.other o1 t1 h1 hne p hp).trans (a3 p hp)
 ·rw [e2]
  rw [e3,P.mv] at hk
  exact P.go k m hk j hj
end
end Go.Proofs.YtnaoiegcobineaaGreatDoor
