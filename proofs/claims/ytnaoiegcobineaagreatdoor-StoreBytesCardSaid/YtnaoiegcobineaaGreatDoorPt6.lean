/-
  Texts put together: By4, Laws22d, Laws22e, Laws22f.
-/
import Derived.Test.YtnaoiegcobineaaGreatDoorPt5
import Derived.Test.YtnaoiegcobineaaGreatDoorQRule9
set_option linter.unusedVariables false
namespace Go.Proofs.YtnaoiegcobineaaGreatDoor
open Go.RowKit
def resz (l:List Int) (n:Nat):List Int:=l.take n++zeros (n - l.length)
theorem resz_length (l:List Int) (n:Nat):(resz l n).length=n:=by unfold resz; rw [List.length_append,List.length_take,zeros_length]; omega
theorem getD_far {l:List Int} {i:Nat} (h:l.length≤i):l.getD i 0=0:=by rw [List.getD_eq_getElem?_getD,List.getElem?_eq_none h]; rfl
theorem resz_getD (l:List Int) (n i:Nat):(resz l n).getD i 0=if i<n then l.getD i 0 else 0:=by
 by_cases h:i<n
 ·rw [if_pos h]
  unfold resz
  by_cases hl:i<l.length
  ·rw [List.getD_eq_getElem?_getD,List.getElem?_append_left (by rw [List.length_take]; omega),List.getElem?_take_of_lt h,← List.getD_eq_getElem?_getD]
  ·rw [List.getD_eq_getElem?_getD,List.getElem?_append_right (by rw [List.length_take]; omega),← List.getD_eq_getElem?_getD,zeros_getD,getD_far (by omega)]
 ·rw [if_neg h,getD_far (by rw [resz_length]; omega)]
def aft (own:List (List Int)) (u:Act22):List (List Int):=if u.kind % 7=0 then own.set u.own.toNat (zeros u.a.toNat) else if u.kind % 7=1 then own.set u.own.toNat [] else if u.kind % 7=2 then own.set u.own.toNat (resz (own.getD u.own.toNat []) u.a.toNat) else if u.kind % 7=4 then own.set u.own.toNat (wrB (own.getD u.own.toNat []) u.a.toNat u.bs) else own
theorem set_same {α:Type} {l:List α} {o:Nat} {v:α} (h:l[o]? = some v):l.set o v=l:=by
 refine List.ext_getElem? fun i => ?_
 by_cases e:o=i
 ·subst e; rw [List.getElem?_set_self (List.getElem?_eq_some_iff.1 h).1,h]
 ·rw [List.getElem?_set_ne e]
section
variable {c:Conf} {s:StM} {pd:Option (Nat × PlcM)} {own:List (List Int)}
theorem BI.tickTo (h:BI c s own) (hs:s.Ok c):∀ n,BI c (tickTo c s n).1 own
 |0=>h
 |n+1=>by
  rw [tickTo_succ]
  have ih:=BI.tickTo h hs n
  have hk:=hs.tickTo n
  unfold tickK
  split
  ·exact ih
  ·split
   ·exact ih.begin n
   ·exact (ih.begin n).go (StM.OkP.begin hk n) n _
theorem wrote_setTh {o:Nat} {t1:ThM} {i n:Nat} (ho:o<s.th.length) (hq:stQ s (o:Nat)=t1.q):stWrote (stSetTh s (o:Nat) t1) (o:Nat) i n=stSetTh (stWrote s (o:Nat) i n) (o:Nat) t1:=by
 have e:stQ (stSetTh s (o:Nat) t1) (o:Nat)=t1.q:=stQ_of (by show (s.th.set (o:Int).toNat _)[o]? = _; rw [Int.toNat_natCast,List.getElem?_set_self ho])
 have e2:stMv (stSetTh s (o:Nat) t1) t1.q.cls=stMv s t1.q.cls:=rfl
 unfold stWrote
 rw [e,hq,e2]
 split
 ·split <;> rfl
 ·rfl
theorem hold_cls (h:s.OkP c pd) {o:Nat} {t:ThM} (ht:s.th[o]? = some (some t)) {m:MvM} (hm:stMv s t.q.cls=some m):t.size≤m.size:=by
 obtain ⟨k,ek,_,hk⟩:=mv_some hm
 exact hold_small h hk ht ek
theorem BI.alloc (h:BI c s own) (hs:s.Ok c) {o size:Int} (hE:stAllocE c s o size=0):BI c (stAlloc c s o size) (own.set o.toNat (zeros size.toNat)):=by
 obtain ⟨j,rfl,_,hn,hf⟩:=alloc_0 hE
 unfold stAlloc
 rw [if_pos hE,Int.toNat_natCast]
 exact h.lay hs hn (fits_cases hf).1.1 (StM.OkP.lay hs hn hf (fun _ _ e=>by cases e))
theorem BI.free (h:BI c s own) (hs:s.Ok c) {o:Int} (hE:ownedE s o=0):BI c (stFree c s o) (own.set o.toNat []):=by
 obtain ⟨j,t,rfl,ht⟩:=owned_0 hE
 unfold stFree
 rw [if_neg (fun e=>e hE),stQ_of ht,Int.toNat_natCast]
 obtain ⟨t',h1,_,_,_,h2⟩:=fin_who hs ht
 rw [stQ_of h1]
 exact ((h.finish hs t.q.cls).away j).clear ((fin_facts hs t.q.cls).ok.away h1 h2)
theorem BI.write (h:BI c s own) (hs:s.Ok c) {o i:Int} {x:List Int} (hE:withinE s o i x.length=0):BI c (stWrite c s o i x) (own.set o.toNat (wrB (own.getD o.toNat []) i.toNat x)):=by
 obtain ⟨j,t,rfl,ht,h1,h2,h3⟩:=within_0 hE
 obtain ⟨i',rfl⟩:=Int.eq_ofNat_of_zero_le h1
 obtain ⟨pv,ph,pf⟩:=place_holds hs ht
 obtain ⟨l,a1,a2,a3⟩:=h.yes j t ht
 have P:=put_facts h hs ht (i:=i') (x:=x) (by omega) (fun m hm=>by have:=hold_cls hs ht hm; omega)
 have el:own.getD j []=l:=by rw [List.getD_eq_getElem?_getD,a1]; rfl
 unfold stWrite
 rw [if_pos hE,stQ_of ht,Int.toNat_natCast,Int.toNat_natCast,el]
 refine h.put ht P a1 (l':=wrB l i' x) (size:=t.size) (by rw [wrB_length (by omega)]; exact a2) (fun p hp => ?_) (set_same (by rw [P.th]; exact ht)).symm rfl rfl
 rw [wrB_getD (by omega),a3 p hp]
 by_cases g1:p<i'
 ·rw [if_neg (by omega),if_pos g1]
 ·rw [if_neg g1]
  by_cases g2:p<i'+x.length
  ·rw [if_pos (by omega),if_pos g2]
  ·rw [if_neg (by omega),if_neg g2]
theorem BI.sized (h:BI c s own) (hs:s.Ok c) {o:Nat} {t:ThM} (ht:s.th[o]? = some (some t)) {l:List Int} (hl:own[o]? = some l) {size:Int} (hz:1≤size):BI c (if size<t.size then stWrote (stSetTh (stPut c s t.q size.toNat (zeros (t.size - size).toNat)) (o:Nat) ⟨size,t.q⟩) (o:Nat) size.toNat (t.size - size).toNat else stSetTh s (o:Nat) ⟨size,t.q⟩) (own.set o (resz l size.toNat)):=by
 have hol:=(List.getElem?_eq_some_iff.1 ht).1
 obtain ⟨pv,ph,pf⟩:=place_holds hs ht
 obtain ⟨l2,a1,a2,a3⟩:=h.yes o t ht
 rw [hl] at a1
 cases a1
 obtain ⟨z,rfl⟩:=Int.eq_ofNat_of_zero_le (show 0≤size by omega)
 rw [Int.toNat_natCast]
 split
 ·rename_i hlt
  obtain ⟨d,ed⟩:=Int.eq_ofNat_of_zero_le (show 0≤t.size - z by omega)
  rw [ed,Int.toNat_natCast]
  have P:=put_facts h hs ht (i:=z) (x:=zeros d) (by rw [zeros_length]; omega) (fun m hm=>by have:=hold_cls hs ht hm; rw [zeros_length]; omega)
  rw [zeros_length] at P
  have hsq:stQ (stPut c s t.q z (zeros d)) (o:Nat)=t.q:=stQ_of (s:=stPut c s t.q z (zeros d)) ht
  rw [wrote_setTh (t1:=⟨(z:Nat),t.q⟩) (by exact hol) hsq]
  refine h.put ht P hl (l':=resz l z) (size:=(z:Nat)) (by rw [resz_length]) (fun p hp => ?_) (by show (stWrote _ _ _ _).th.set (o:Int).toNat _=_; rw [Int.toNat_natCast]) rfl rfl
  rw [resz_getD,zeros_length,zeros_getD,a3 p hp]
  by_cases g1:p<z
  ·rw [if_neg (by omega),if_pos g1]
  ·rw [if_neg g1]
   split
   ·rfl
   ·exact getD_far (by omega)
 ·rename_i hlt
  refine h.put ht (s':=s) (i:=0) (x := []) ⟨rfl,rfl,fun _ _ _ _ _ _=>rfl,fun p _=>by rw [if_neg (by simp)],h.mv⟩ hl (l':=resz l z) (size:=(z:Nat)) (by rw [resz_length]) (fun p hp => ?_) (by show s.th.set (o:Int).toNat _=_; rw [Int.toNat_natCast]) rfl rfl
  rw [if_neg (by simp),resz_getD,a3 p hp]
  split
  ·rfl
  ·exact getD_far (by omega)
theorem told_own {q:Plc} {bs l:List Int} {m:Nat} (hm:m≤l.length) (h:∀ i:Nat,i<m→bs.getD (whereM c q i).toNat 0=l.getD i 0):toldM c q bs 0 m=l.take m:=by
 refine List.ext_getElem? fun i => ?_
 unfold toldM
 rw [List.getElem?_map]
 by_cases hi:i<m
 ·rw [List.getElem?_range hi,List.getElem?_take_of_lt hi,Option.map_some,Nat.zero_add,h i hi,List.getD_eq_getElem?_getD,List.getElem?_eq_getElem (by omega)]
  rfl
 ·rw [List.getElem?_eq_none (by simpa using hi),List.getElem?_eq_none (by rw [List.length_take]; omega)]
  rfl
theorem BI.moveTo (h:BI c s own) (hs:s.Ok c) {o:Nat} {t:ThM} (ht:s.th[o]? = some (some t)) {l:List Int} (hl:own[o]? = some l) {size:Int} (hz:1≤size) (hst:staysB c t.size size=false) (hf:stFits c s size=0):BI c (stMoveTo c s (o:Nat) size) (own.set o (resz l size.toNat)):=by
 obtain ⟨t',M1,M2,M3,M4,M5,M6,M7,M8⟩:=move_facts22 hs ht hst hf
 obtain ⟨t2,f1,_,_,_,f5⟩:=fin_who hs ht
 obtain ⟨s1,es1⟩:∃ s1,s1=stFinish s t.q.cls:=⟨_,rfl⟩
 have h1:BI c s1 own:=by rw [es1]; exact h.finish hs _
 rw [← es1] at M1 M2 M6 M7 M8 f5
 obtain ⟨l2,a1,a2,a3⟩:=h1.yes o t' M2
 rw [hl] at a1
 cases a1
 obtain ⟨z,rfl⟩:=Int.eq_ofNat_of_zero_le (show 0≤size by omega)
 have htz:=hs.size o t ht
 obtain ⟨m,em⟩:=Int.eq_ofNat_of_zero_le (show 0≤min t.size (z:Int) by omega)
 rw [em,Int.toNat_natCast] at M8
 have hol:=(List.getElem?_eq_some_iff.1 M2).1
 obtain ⟨pv,ph,pf⟩:=place_holds M1 M2
 have hb:toldM c t'.q.plc s1.bs 0 m=l.take m:=told_own (by omega) (fun i hi=>a3 i (by omega))
 have e0:chgTot {s1 with th:=s1.th.set o none} (chargeM c t'.q.plc 0 m)={chgTot s1 (chargeM c t'.q.plc 0 m) with th:=(chgTot s1 (chargeM c t'.q.plc 0 m)).th.set o none}:=rfl
 obtain ⟨s3,es3⟩:∃ s3,s3=stLay c (chgTot s1 (chargeM c t'.q.plc 0 m)) (o:Nat) (z:Nat):=⟨_,rfl⟩
 have hL0:stLay c (chgTot {s1 with th:=s1.th.set o none} (chargeM c t'.q.plc 0 m)) (o:Nat) (z:Nat)=s3:=by rw [es3,e0,lay_away]
 have h3:BI c s3 (own.set o (zeros z)):=by
  have h2:=((h1.away o).of (s':=chgTot {s1 with th:=s1.th.set o none} (chargeM c t'.q.plc 0 m)) rfl rfl rfl).lay (M6.tot _) (o:=o) (size:=(z:Nat)) (by show (s1.th.set o none)[o]? = _; rw [List.getElem?_set_self hol]) hz (by rw [hL0,es3]; exact M8)
  rw [hL0,List.set_set,Int.toNat_natCast] at h2
  exact h2
 rw [← es3] at M8
 obtain ⟨Q,eQ⟩:∃ Q,Q=layQ c (chgTot s1 (chargeM c t'.q.plc 0 m)) (o:Nat) (z:Nat):=⟨_,rfl⟩
 have ht3:s3.th[o]? = some (some ⟨(z:Nat),Q⟩):=by
  rw [es3,eQ]
  show (s1.th.set (o:Int).toNat _)[o]? = _
  rw [Int.toNat_natCast,List.getElem?_set_self hol]
 obtain ⟨qv,qh,qf⟩:=place_holds M8 ht3
 replace qh:(z:Int)≤viewHolds c Q.plc:=qh
 have hlm:(l.take m).length=m:=by rw [List.length_take]; omega
 have P:=put_facts h3 M8 ht3 (i:=0) (x:=l.take m) (by rw [hlm]; show (0+m:Int)≤viewHolds c Q.plc; omega) (fun m' hm'=>by have:=hold_cls M8 ht3 hm'; simp only at this; rw [hlm]; omega)
 have ew:stWrote (stPut c s3 Q 0 (l.take m)) (o:Nat) 0 (l.take m).length=stPut c s3 Q 0 (l.take m):=by
  unfold stWrote
  split
  ·rename_i m' hm'
   rw [if_neg]
   intro e
   obtain ⟨k,_,_,hk⟩:=mv_some hm'
   refine f5 k m' ?_ e
   rw [es3] at hk
   have hk':(layS c (chgTot s1 (chargeM c t'.q.plc 0 m)) (o:Nat) (z:Nat)).mv[k]? = some (some m'):=hk
   have hk2:(chgTot s1 (chargeM c t'.q.plc 0 m)).mv[k]? = some (some m'):=layS_mv hk'
   exact hk2
  ·rfl
 replace P:PutF c s3 (stWrote (stPut c s3 Q 0 (l.take m)) (o:Nat) 0 (l.take m).length) o ⟨(z:Nat),Q⟩ 0 (l.take m):=P
 rw [ew] at P
 obtain ⟨l3,b1,b2,b3⟩:=h3.yes o _ ht3
 rw [List.getElem?_set_self (by rw [h.len,← (fin_facts hs t.q.cls).keep.2.1,← es1]; exact hol)] at b1
 cases b1
 have h4:BI c (stPut c s3 Q 0 (l.take m)) ((own.set o (zeros z)).set o (resz l z)):=by
  refine h3.put ht3 P (List.getElem?_set_self (by rw [h.len,← (fin_facts hs t.q.cls).keep.2.1,← es1]; exact hol)) (l':=resz l z) (size:=(z:Nat)) (by rw [resz_length]) (fun p hp => ?_) (set_same (by rw [P.th]; exact ht3)).symm rfl rfl
  rw [b3 p hp,zeros_getD,resz_getD,hlm]
  by_cases g1:p<m
  ·rw [if_pos (by omega),if_pos (by omega),Nat.sub_zero,List.getD_eq_getElem?_getD,List.getElem?_take_of_lt g1,← List.getD_eq_getElem?_getD]
  ·rw [if_neg (by omega)]
   split
   ·exact (getD_far (by omega)).symm
   ·rfl
 rw [List.set_set] at h4
 unfold stMoveTo
 simp only
 rw [stQ_of ht,stSize_of ht,← es1,stQ_of M2,em,Int.toNat_natCast,Int.toNat_natCast,← es3,stQ_of ht3,hb]
 refine h4.clear (o:=o) ?_
 exact StM.OkP.put M8 _ _ (by rw [← hb]; exact toldM_in M1.bi _ _)
theorem BI.do22 (h:BI c s own) (hs:s.Ok c) (u:Act22):BI c (do22S c s u) (if do22E c s u=0 then aft own u else own):=by
 unfold do22S do22E aft
 by_cases k0:u.kind % 7=0
 ·simp only [if_pos k0]
  split
  ·rename_i hE; exact h.alloc hs hE
  ·rename_i hE; unfold stAlloc; rw [if_neg hE]; exact h
 simp only [if_neg k0]
 by_cases k1:u.kind % 7=1
 ·simp only [if_pos k1]
  split
  ·rename_i hE; exact h.free hs hE
  ·rename_i hE; unfold stFree; rw [if_pos hE]; exact h
 simp only [if_neg k1]
 by_cases k2:u.kind % 7=2
 ·simp only [if_pos k2]
  split
  ·rename_i hE
   obtain ⟨j,t,ej,ht,hr,hcase⟩:=resize_0 hE
   rw [ej] at hE ⊢
   obtain ⟨l,a1,a2,a3⟩:=h.yes j t ht
   have el:own.getD j []=l:=by rw [List.getD_eq_getElem?_getD,a1]; rfl
   unfold stResize
   rw [if_neg (fun e=>e hE),stSize_of ht,stQ_of ht,Int.toNat_natCast,el]
   rcases hcase with hst | ⟨hst,hf⟩
   ·rw [if_pos hst]
    exact h.sized hs ht a1 hr.1
   ·rw [if_neg (by rw [hst]; decide)]
    exact h.moveTo hs ht a1 hr.1 hst hf
  ·rename_i hE; unfold stResize; rw [if_pos hE]; exact h
 simp only [if_neg k2]
 by_cases k3:u.kind % 7=3
 ·have k4:¬ u.kind % 7=4:=by omega
  simp only [if_pos k3,if_neg k4,ite_self]
  unfold stRead
  split
  ·exact h.of rfl rfl rfl
  ·exact h
 simp only [if_neg k3]
 by_cases k4:u.kind % 7=4
 ·simp only [if_pos k4]
  split
  ·rename_i hE; exact h.write hs hE
  ·rename_i hE; unfold stWrite; rw [if_neg hE]; exact h
 simp only [if_neg k4,ite_self]
 split
 ·exact h.tickTo hs _
 ·unfold stSet
  split
  ·exact h.of rfl rfl rfl
  ·exact h
theorem BI.new (c:Conf):BI c (newSt c) (List.replicate c.slots.toNat []):=by
 refine ⟨by show (List.replicate _ _).length=(List.replicate c.slots.toNat none).length; rw [List.length_replicate,List.length_replicate],fun o h => ?_,fun o t h => ?_,fun o t h => ?_⟩
 ·have:=(List.getElem?_eq_some_iff.1 h).1
  replace this:o<(List.replicate c.slots.toNat (none:Option ThM)).length:=this
  rw [List.length_replicate] at this
  rw [List.getElem?_replicate,if_pos this]
 ·have:=List.mem_of_getElem? h
  simp only [newSt,List.mem_replicate] at this
  cases this.2
 ·have:=List.mem_of_getElem? h
  simp only [newSt,List.mem_replicate] at this
  cases this.2
theorem BI.told (h:BI c s own) (hs:s.Ok c) (o:Nat) (ho:o<s.th.length):∃ l,own[o]? = some l∧(l.length:Int)=stSize s (o:Nat)∧(withinE s (o:Nat) 0 l.length=0↔0<l.length)∧stReadB c s (o:Nat) 0 l.length=l:=by
 cases hg:s.th[o] with
 |none =>
  have hn:s.th[o]? = some none:=by rw [List.getElem?_eq_getElem ho,hg]
  have hT:stTh s (o:Nat)=none:=by unfold stTh; rw [if_pos (by omega),Int.toNat_natCast,List.getD_eq_getElem?_getD,hn]; rfl
  have hE:ownedE s (o:Nat)=9:=by unfold ownedE; rw [if_neg (by omega),hT]
  have hW:withinE s (o:Nat) 0 ([]:List Int).length=9:=by unfold withinE; rw [if_pos (by rw [hE]; decide),hE]
  refine ⟨[],h.no o hn,by unfold stSize; rw [hT]; rfl,by rw [hW]; simp,by unfold stReadB; rw [hW]; rfl⟩
 |some t =>
  have ht:s.th[o]? = some (some t):=by rw [List.getElem?_eq_getElem ho,hg]
  obtain ⟨l,a1,a2,a3⟩:=h.yes o t ht
  have hz:=hs.size o t ht
  obtain ⟨pv,ph,pf⟩:=place_holds hs ht
  have hW:withinE s (o:Nat) 0 l.length=0:=by
   unfold withinE
   rw [if_neg (by rw [owned_yes ht]; decide),stSize_of ht,if_neg (by omega)]
  refine ⟨l,a1,by rw [stSize_of ht]; exact a2,by rw [hW]; simp; omega,?_⟩
  unfold stReadB
  rw [if_pos hW,stQ_of ht]
  have:=told_own (c:=c) (q:=t.q.plc) (bs:=s.bs) (l:=l) (m:=l.length) (Nat.le_refl _) (fun i hi=>a3 i (by omega))
  rw [List.take_length] at this
  exact this
end
end Go.Proofs.YtnaoiegcobineaaGreatDoor
namespace Go.Proofs.YtnaoiegcobineaaGreatDoor
open Go.RowKit
structure Fine (c:Conf) (own:List (List Int)) (u:Act22):Prop where
 o:u.kind % 7≤4 → ∃ j:Nat,u.own=j∧j<own.length
 a:u.kind % 7=0∨u.kind % 7=2→1≤u.a∧u.a≤c.most
 w:u.kind % 7=4 → ∃ j:Nat,u.own=j∧0≤u.a∧u.a+u.bs.length≤((own.getD j []).length:Int)∧0<(own.getD j []).length
theorem fine_of {c:Conf} {s:StM} {own:List (List Int)} {u:Act22} (h:BI c s own) (hs:s.Ok c) (hk:0≤u.kind) (hE:do22E c s u=0):Fine c own u:=by
 have hl:=h.len
 unfold do22E at hE
 by_cases k0:u.kind % 7=0
 ·rw [if_pos k0] at hE
  obtain ⟨j,e,hj,_,hf⟩:=alloc_0 hE
  exact ⟨fun _=>⟨j,e,by omega⟩,fun _=>(fits_cases hf).1,fun h4=>by omega⟩
 rw [if_neg k0] at hE
 by_cases k1:u.kind % 7=1
 ·rw [if_pos k1] at hE
  obtain ⟨j,t,e,ht⟩:=owned_0 hE
  have:=(List.getElem?_eq_some_iff.1 ht).1
  exact ⟨fun _=>⟨j,e,by omega⟩,fun h4=>by omega,fun h4=>by omega⟩
 rw [if_neg k1] at hE
 by_cases k2:u.kind % 7=2
 ·rw [if_pos k2] at hE
  obtain ⟨j,t,e,ht,hr,_⟩:=resize_0 hE
  have:=(List.getElem?_eq_some_iff.1 ht).1
  exact ⟨fun _=>⟨j,e,by omega⟩,fun _=>hr,fun h4=>by omega⟩
 rw [if_neg k2] at hE
 by_cases k3:u.kind % 7=3
 ·rw [if_pos k3] at hE
  obtain ⟨j,t,e,ht,_⟩:=within_0 hE
  have:=(List.getElem?_eq_some_iff.1 ht).1
  exact ⟨fun _=>⟨j,e,by omega⟩,fun h4=>by omega,fun h4=>by omega⟩
 rw [if_neg k3] at hE
 by_cases k4:u.kind % 7=4
 ·rw [if_pos k4] at hE
  obtain ⟨j,t,e,ht,h1,h2,h3⟩:=within_0 hE
  have:=(List.getElem?_eq_some_iff.1 ht).1
  obtain ⟨l,a1,a2,_⟩:=h.yes j t ht
  exact ⟨fun _=>⟨j,e,by omega⟩,fun h4=>by omega,fun _=>⟨j,e,h1,by rw [List.getD_eq_getElem?_getD,a1]; show _≤(l.length:Int); omega,by rw [List.getD_eq_getElem?_getD,a1]; show 0<l.length; have:=hs.size j t ht; omega⟩⟩
 exact ⟨fun h4=>by omega,fun h4=>by omega,fun h4=>absurd h4 k4⟩
structure Bt where
 a:Option Addr
 cap:Nat
 l:List Int
def btL (x:Bt):List Value := [.slice x.a x.l.length x.cap]
theorem btL_len (x:Bt):(btL x).length=1:=rfl
theorem btL_plain (x:Bt):∀ v ∈ btL x,v.oneCell'=true:=fun v hv=>by
 rw [List.mem_singleton.1 hv]; rfl
structure BtOk (F:Nat→Prop) (w:World) (x:Bt):Prop where
 rd:Rd .u8 w x.a x.l
 out:OutA F x.a
 lt:ALt w x.a
 len:x.l.length≤8388608
structure OwnR (F:Nat→Prop) (w:World) (a:Option Addr) (xs:List Bt):Prop where
 rows:Rows btL 1 w a xs
 out:OutA F a
 lt:ALt w a
 each:∀ x ∈ xs,BtOk F w x
theorem BtOk.grow {F:Nat→Prop} {w w':World} {x:Bt} (h:BtOk F w x) (hc:Chg None' w w'):BtOk F w' x:=⟨h.rd.chg hc,h.out,h.lt.grow hc.size,h.len⟩
theorem OwnR.grow {F:Nat→Prop} {w w':World} {a:Option Addr} {xs:List Bt} (h:OwnR F w a xs) (hc:Chg None' w w'):OwnR F w' a xs:=⟨h.rows.chg hc,h.out,h.lt.grow hc.size,fun x hx=>(h.each x hx).grow hc⟩
theorem OwnR.step {F F':Nat→Prop} {w w':World} {a:Option Addr} {xs:List Bt} (h:OwnR F w a xs) (hF:∀ z,F' z→F z∨w.heap.size≤z) (hc:Chg F w w'):OwnR F' w' a xs:=by
 have up:∀ {a:Option Addr},OutA F a→ALt w a→OutA F' a:=fun ho hl b off s e hz=>(hF b hz).elim (ho b off s e) (fun g=>by have:=hl b off s e; omega)
 exact ⟨h.rows.far h.out hc,up h.out h.lt,h.lt.grow hc.size,fun x hx=>by
  obtain ⟨h1,h2,h3,h4⟩:=h.each x hx
  exact ⟨h1.far h2 hc,up h2 h3,h3.grow hc.size,h4⟩⟩
set_option maxRecDepth 100000 in
theorem law22_odd (c:Conf) (p:ConfAt) (F:Nat→Prop) (a:Option Addr) (cap:Nat) (xs:List Bt) (u:Act22) (w:World) (hx:OwnR F w a xs) (hl:xs.length≤4096) (hu:Act22Ok w u) (hf:Fine c (xs.map (·.l)) u):Does Tryz.prog 23 #[.agg (confL c p).toArray,.slice a xs.length cap,.agg (act22L u).toArray] w (Grow (.bool false) w):=by
 have hk:=hu.kind
 refine Does.enter Tryz.func23 rfl Tryz.ntmps23 rfl rfl ?_
 refine Goes.adv hTT 400 rfl ?_
 refine Goes.alloc hTT rfl ?_
 intro cb w1 e1 hcb hw1 hz1
 refine Goes.adv hTT 400 rfl ?_
 refine Goes.alloc hTT rfl ?_
 intro ub w2 e2 hub hw2 hz2
 refine Goes.adv hTT 400 rfl ?_
 replace hcb:w1.heap[cb]? = some (.cells (confL c p).toArray 24 (0,0)):=hcb
 replace hub:w2.heap[ub]? = some (.cells (act22L u).toArray 54 (0,0)):=hub
 have hcb2:=hw2.heap' hcb
 have hw02:=hw1.trans hw2
 refine Goes.loadb hTT rfl hub rfl rfl ?_
 refine Goes.div hTT rfl (by omega) (rem_ (by omega)) rfl ?_
 by_cases k4:u.kind % 7≤4
 ·obtain ⟨j,ej,hj⟩:=hf.o k4
  rw [List.length_map] at hj
  refine Goes.no hTT rfl (decide_eq_false (by omega)) rfl ?_
  refine Goes.loadb hTT rfl hub rfl rfl ?_
  refine Goes.no hTT rfl (decide_eq_false (by omega)) rfl ?_
  refine Goes.loadb hTT rfl hub rfl rfl ?_
  refine Goes.no hTT rfl (decide_eq_false (show ¬ ((xs.length:Int)≤u.own) by omega)) rfl ?_
  by_cases k0:u.kind % 7=0
  ·have ha:=hf.a (.inl k0)
   refine Goes.yes hTT rfl (decide_eq_true k0) rfl ?_
   refine Goes.yes hTT rfl rfl rfl ?_
   refine Goes.loadb hTT rfl hub rfl rfl ?_
   refine Goes.no hTT rfl (decide_eq_false (by omega)) rfl ?_
   refine Goes.loadb hTT rfl hub rfl rfl ?_
   refine Goes.loadb hTT rfl hcb2 rfl rfl ?_
   refine Goes.no hTT rfl (decide_eq_false (by omega)) rfl ?_
   by_cases k4':u.kind % 7=4
   ·obtain ⟨j',ej',wa,wl,_⟩:=hf.w k4'
    obtain rfl:j=j':=by omega
    have el:(xs.map (·.l)).getD j []=xs[j].l:=by rw [List.getD_eq_getElem?_getD,List.getElem?_map,List.getElem?_eq_getElem hj]; rfl
    rw [el] at wl
    obtain ⟨b0,off,ea,hcell⟩:=hx.rows j xs[j] (List.getElem?_eq_getElem hj)
    have hlen:=(hx.each xs[j] (List.getElem_mem hj)).len
    have hcell2:∀ i v,(btL xs[j])[i]? = some v→w2.cell? ⟨b0,off+j*1+i,none⟩=some v:=fun i v hv=>hw02.cell (hcell i v hv) id
    refine Goes.drawn (q:=19) None' hTT mixed (by kernel_rfl) rfl ?_
    intro hB
    refine Drawn.yes hTT hB rfl (decide_eq_true k4') rfl ?_
    refine Drawn.loadb hTT hB rfl hub (by first | exact fun h=>h | (intro h; omega) | assumption) rfl rfl ?_
    refine Drawn.no hTT hB rfl (decide_eq_false (by omega)) rfl ?_
    refine Drawn.loadb hTT hB rfl hub (by first | exact fun h=>h | (intro h; omega) | assumption) rfl rfl ?_
    refine Drawn.loadb hTT hB rfl hub (by first | exact fun h=>h | (intro h; omega) | assumption) rfl rfl ?_
    rw [ej,ea]
    refine Drawn.index hTT hB rfl (j:=(j*1)) (by omega) (by omega) (by first | rfl | omega | (simp; done) | (simp; omega)) rfl ?_
    refine Drawn.load hTT hB rfl (hcell2 0 _ rfl) (by first | exact fun h=>h | (intro h; omega) | assumption) rfl ?_
    refine Drawn.loadb hTT hB rfl hub (by first | exact fun h=>h | (intro h; omega) | assumption) rfl rfl ?_
    refine Drawn.arith hTT hB rfl (w64 (by omega)) rfl ?_
    refine Drawn.nil hB ?_
    intro w3 hw3
    refine Goes.adv hTT 400 rfl ?_
    exact Goes.ret1 hTT rfl Tryz.func23 rfl rfl ⟨congrArg Value.bool (decide_eq_false (by omega)),hw02.trans hw3⟩
   ·refine Goes.drawn (q:=19) None' hTT mixed (by kernel_rfl) rfl ?_
    intro hB
    refine Drawn.no hTT hB rfl (decide_eq_false k4') rfl ?_
    refine Drawn.nil hB ?_
    intro w3 hw3
    refine Goes.adv hTT 400 rfl ?_
    exact Goes.ret1 hTT rfl Tryz.func23 rfl rfl ⟨rfl,hw02.trans hw3⟩
  ·refine Goes.no hTT rfl (decide_eq_false k0) rfl ?_
   by_cases k2:u.kind % 7=2
   ·have ha:=hf.a (.inr k2)
    refine Goes.yes hTT rfl (decide_eq_true k2) rfl ?_
    refine Goes.loadb hTT rfl hub rfl rfl ?_
    refine Goes.no hTT rfl (decide_eq_false (by omega)) rfl ?_
    refine Goes.loadb hTT rfl hub rfl rfl ?_
    refine Goes.loadb hTT rfl hcb2 rfl rfl ?_
    refine Goes.no hTT rfl (decide_eq_false (by omega)) rfl ?_
    by_cases k4':u.kind % 7=4
    ·obtain ⟨j',ej',wa,wl,_⟩:=hf.w k4'
     obtain rfl:j=j':=by omega
     have el:(xs.map (·.l)).getD j []=xs[j].l:=by rw [List.getD_eq_getElem?_getD,List.getElem?_map,List.getElem?_eq_getElem hj]; rfl
     rw [el] at wl
     obtain ⟨b0,off,ea,hcell⟩:=hx.rows j xs[j] (List.getElem?_eq_getElem hj)
     have hlen:=(hx.each xs[j] (List.getElem_mem hj)).len
     have hcell2:∀ i v,(btL xs[j])[i]? = some v→w2.cell? ⟨b0,off+j*1+i,none⟩=some v:=fun i v hv=>hw02.cell (hcell i v hv) id
     refine Goes.drawn (q:=19) None' hTT mixed (by kernel_rfl) rfl ?_
     intro hB
     refine Drawn.yes hTT hB rfl (decide_eq_true k4') rfl ?_
     refine Drawn.loadb hTT hB rfl hub (by first | exact fun h=>h | (intro h; omega) | assumption) rfl rfl ?_
     refine Drawn.no hTT hB rfl (decide_eq_false (by omega)) rfl ?_
     refine Drawn.loadb hTT hB rfl hub (by first | exact fun h=>h | (intro h; omega) | assumption) rfl rfl ?_
     refine Drawn.loadb hTT hB rfl hub (by first | exact fun h=>h | (intro h; omega) | assumption) rfl rfl ?_
     rw [ej,ea]
     refine Drawn.index hTT hB rfl (j:=(j*1)) (by omega) (by omega) (by first | rfl | omega | (simp; done) | (simp; omega)) rfl ?_
     refine Drawn.load hTT hB rfl (hcell2 0 _ rfl) (by first | exact fun h=>h | (intro h; omega) | assumption) rfl ?_
     refine Drawn.loadb hTT hB rfl hub (by first | exact fun h=>h | (intro h; omega) | assumption) rfl rfl ?_
     refine Drawn.arith hTT hB rfl (w64 (by omega)) rfl ?_
     refine Drawn.nil hB ?_
     intro w3 hw3
     refine Goes.adv hTT 400 rfl ?_
     exact Goes.ret1 hTT rfl Tryz.func23 rfl rfl ⟨congrArg Value.bool (decide_eq_false (by omega)),hw02.trans hw3⟩
    ·refine Goes.drawn (q:=19) None' hTT mixed (by kernel_rfl) rfl ?_
     intro hB
     refine Drawn.no hTT hB rfl (decide_eq_false k4') rfl ?_
     refine Drawn.nil hB ?_
     intro w3 hw3
     refine Goes.adv hTT 400 rfl ?_
     exact Goes.ret1 hTT rfl Tryz.func23 rfl rfl ⟨rfl,hw02.trans hw3⟩
   ·refine Goes.no hTT rfl (decide_eq_false k2) rfl ?_
    by_cases k4':u.kind % 7=4
    ·obtain ⟨j',ej',wa,wl,_⟩:=hf.w k4'
     obtain rfl:j=j':=by omega
     have el:(xs.map (·.l)).getD j []=xs[j].l:=by rw [List.getD_eq_getElem?_getD,List.getElem?_map,List.getElem?_eq_getElem hj]; rfl
     rw [el] at wl
     obtain ⟨b0,off,ea,hcell⟩:=hx.rows j xs[j] (List.getElem?_eq_getElem hj)
     have hlen:=(hx.each xs[j] (List.getElem_mem hj)).len
     have hcell2:∀ i v,(btL xs[j])[i]? = some v→w2.cell? ⟨b0,off+j*1+i,none⟩=some v:=fun i v hv=>hw02.cell (hcell i v hv) id
     refine Goes.drawn (q:=19) None' hTT mixed (by kernel_rfl) rfl ?_
     intro hB
     refine Drawn.yes hTT hB rfl (decide_eq_true k4') rfl ?_
     refine Drawn.loadb hTT hB rfl hub (by first | exact fun h=>h | (intro h; omega) | assumption) rfl rfl ?_
     refine Drawn.no hTT hB rfl (decide_eq_false (by omega)) rfl ?_
     refine Drawn.loadb hTT hB rfl hub (by first | exact fun h=>h | (intro h; omega) | assumption) rfl rfl ?_
     refine Drawn.loadb hTT hB rfl hub (by first | exact fun h=>h | (intro h; omega) | assumption) rfl rfl ?_
     rw [ej,ea]
     refine Drawn.index hTT hB rfl (j:=(j*1)) (by omega) (by omega) (by first | rfl | omega | (simp; done) | (simp; omega)) rfl ?_
     refine Drawn.load hTT hB rfl (hcell2 0 _ rfl) (by first | exact fun h=>h | (intro h; omega) | assumption) rfl ?_
     refine Drawn.loadb hTT hB rfl hub (by first | exact fun h=>h | (intro h; omega) | assumption) rfl rfl ?_
     refine Drawn.arith hTT hB rfl (w64 (by omega)) rfl ?_
     refine Drawn.nil hB ?_
     intro w3 hw3
     refine Goes.adv hTT 400 rfl ?_
     exact Goes.ret1 hTT rfl Tryz.func23 rfl rfl ⟨congrArg Value.bool (decide_eq_false (by omega)),hw02.trans hw3⟩
    ·refine Goes.drawn (q:=19) None' hTT mixed (by kernel_rfl) rfl ?_
     intro hB
     refine Drawn.no hTT hB rfl (decide_eq_false k4') rfl ?_
     refine Drawn.nil hB ?_
     intro w3 hw3
     refine Goes.adv hTT 400 rfl ?_
     exact Goes.ret1 hTT rfl Tryz.func23 rfl rfl ⟨rfl,hw02.trans hw3⟩
 ·refine Goes.yes hTT rfl (decide_eq_true (by omega)) rfl ?_
  exact Goes.ret1 hTT rfl Tryz.func23 rfl rfl ⟨rfl,hw02⟩
end Go.Proofs.YtnaoiegcobineaaGreatDoor
namespace Go.Proofs.YtnaoiegcobineaaGreatDoor
open Go.RowKit
theorem wrB_resz (l:List Int) (n:Nat):wrB (zeros n) 0 (l.take n)=resz l n:=by
 unfold wrB resz zeros
 simp
 omega
theorem bytes_fl (l:List Int):l.map (Value.int .u8)=fl (fun x => [Value.int .u8 x]) l:=by
 induction l with
 |nil=>rfl
 |cons a l ih=>rw [List.map_cons,ih]; rfl
theorem setV1r {l:List Int} {r:List Value} {i:Nat} {x:Int} (hi:i<l.length):setV (l.map (Value.int .u8)++r) i [.int .u8 x]=some ((l.set i x).map (Value.int .u8)++r):=by
 rw [bytes_fl,bytes_fl]
 have:=fl_set (cells:=fun x => [Value.int .u8 x]) (sz:=1) (xs:=l) (k:=i) (y:=x) (rest:=r) (fun _=>rfl) hi
 rw [Nat.zero_add,Nat.mul_one] at this
 exact this
theorem OwnR.at {F:Nat→Prop} {w:World} {a:Option Addr} {xs:List Bt} (h:OwnR F w a xs) {j:Nat} (hj:j<xs.length):∃ b off,a=some ⟨b,off,none⟩ ∧ ∀ i v,(btL xs[j])[i]? = some v→w.cell? ⟨b,off+j*1+i,none⟩=some v:=h.rows j xs[j] (List.getElem?_eq_getElem hj)
theorem owned_at {xs:List Bt} {j:Nat} (hj:j<xs.length):(xs.map (·.l)).getD j []=xs[j].l:=by rw [List.getD_eq_getElem?_getD,List.getElem?_map,List.getElem?_eq_getElem hj]; rfl
theorem OwnR.set {F:Nat→Prop} {w wS:World} {a:Option Addr} {xs:List Bt} {g:Nat} {t:TypeId} {rest:List Value} (h:OwnR F w a xs) (hF:∀ z,F z→z<w.heap.size) (hc:Chg None' w wS) {j:Nat} {y:Bt} (hg:wS.heap[g]? = some (.cells (fl btL (xs.set j y)++rest).toArray t (0,0))) (hgl:w.heap.size≤g) (hy:BtOk F wS y):OwnR F wS (some ⟨g,0,none⟩) (xs.set j y) :=
 ⟨rows_at hg btL_len,fun b off s e hz=>by cases e; have:=hF _ hz; omega,fun b off s e=>by cases e; exact lt_of_heap hg,fun x hx=>(List.mem_or_eq_of_mem_set hx).elim (fun hx=>(h.each x hx).grow hc) (fun e=>e▸hy)⟩
theorem btSet {xs:List Bt} {rest:List Value} {j:Nat} (y:Bt) {v:Value} (hv:btL y = [v]) (hj:j<xs.length):setV (fl btL xs++rest) (0+j*1) [v]=some (fl btL (xs.set j y)++rest):=by
 rw [← hv]
 exact fl_set btL_len hj
set_option maxRecDepth 100000 in
theorem law22_after (c:Conf) (F:Nat→Prop) (a:Option Addr) (cap:Nat) (xs:List Bt) (u:Act22) (w:World) (hx:OwnR F w a xs) (hl:1≤xs.length∧xs.length≤4096) (hF:∀ z,F z→z<w.heap.size) (hu:Act22Ok w u) (hf:Fine c (xs.map (·.l)) u) (hm:c.most≤2097152):Does Tryz.prog 24 #[.slice a xs.length cap,.agg (act22L u).toArray] w
 (fun v w' => ∃ a' cap' xs',v = .slice a' xs'.length cap'∧xs'.length=xs.length∧xs'.map (·.l)=aft (xs.map (·.l)) u∧OwnR F w' a' xs'∧Chg None' w w'):=by
 have hk:=hu.kind
 have hml:maxLen=9223372036854775807:=rfl
 refine Does.enter Tryz.func24 rfl Tryz.ntmps24 rfl rfl ?_
 refine Goes.adv hTT 400 rfl ?_
 refine Goes.alloc hTT rfl ?_
 intro ub w1 e1 hub hw1 hz1
 refine Goes.adv hTT 400 rfl ?_
 replace hub:w1.heap[ub]? = some (.cells (act22L u).toArray 54 (0,0)):=hub
 refine Goes.buildSlice hTT rfl ?_
 intro b2 w2 e2 hb2 hw2 hz2
 refine Goes.adv hTT 400 rfl ?_
 have hw02:=hw1.trans hw2
 have ho:Own w1.heap.size 36 1 w2 (.slice (some ⟨b2,0,none⟩) 0 0) 0 (fl btL []):=Own.empty (by omega) hb2
 refine Goes.appendA (base:=w1.heap.size) (xs:=fl btL []) (news:=fl btL xs) hTT rfl ho hw2.size hx.rows.noneA (fl_length btL_len xs) ((hx.rows.chg hw02).news btL_len (by decide)) (fl_plain btL_plain xs) ⟨by omega,by show (0+xs.length)*24≤_; omega⟩ ?_
 intro v3 w3 ho3 hs3 hv3
 replace ho3:Own w1.heap.size 36 1 w3 v3 xs.length (fl btL xs):=by
  have h:=ho3
  rw [fl_nil,List.nil_append,Nat.zero_add] at h
  exact h
 have hs23:=ho.since hw2 (Nat.le_refl _) hs3
 obtain ⟨g,cap3,cur,rfl,hg1,hg2,hg3,hg4,hg5⟩:=ho3.form (by omega)
 have hcur:cur.toList=fl btL xs++cur.toList.drop (xs.length*1):=by
  have e:=List.take_append_drop (xs.length*1) cur.toList
  rw [hg5] at e
  exact e.symm
 obtain ⟨rest,hrest⟩:∃ rest,rest=cur.toList.drop (xs.length*1):=⟨_,rfl⟩
 rw [← hrest] at hcur
 have hgA:w3.heap[g]? = some (.cells (fl btL xs++rest).toArray 36 (0,0)):=by rw [← hcur]; exact hg2
 have hw03:Chg None' w w3:=hw1.trans hs23
 have z1:=hw1.size
 have hgl:w.heap.size≤g:=by omega
 have hub3:=hs23.heap' hub
 have lub:=lt_of_heap hub
 have lg:=lt_of_heap hgA
 have z3:=hw03.size
 have hmap:(xs.map (·.l)).length=xs.length:=List.length_map ..
 refine Goes.adv hTT 400 rfl ?_
 refine Goes.loadb hTT rfl hub3 rfl rfl ?_
 refine Goes.div hTT rfl (by omega) (rem_ (by omega)) rfl ?_
 by_cases k0:u.kind % 7=0
 ·obtain ⟨j,ej,hj⟩:=hf.o (by omega)
  rw [hmap] at hj
  obtain ⟨n,en⟩:=Int.eq_ofNat_of_zero_le (show 0≤u.a by have:=hf.a (.inl k0); omega)
  have ha:=hf.a (.inl k0)
  refine Goes.yes hTT rfl (decide_eq_true k0) rfl ?_
  refine Goes.drawn (q:=6) None' hTT mixed (by kernel_rfl) rfl ?_
  intro hB
  refine Drawn.loadb hTT hB rfl hub3 (by first | exact fun h=>h | (intro h; omega) | assumption) rfl rfl ?_
  refine Drawn.loadb hTT hB rfl hub3 (by first | exact fun h=>h | (intro h; omega) | assumption) rfl rfl ?_
  rw [ej,en]
  refine Drawn.turn1 hB rfl ?_
  intro w4 hw4
  refine Turn.make hTT hB rfl rfl rfl (Nat.le_refl _) (show 1*n≤140737488355328 by omega) (by omega) (fun _=>rfl) ?_
  intro nb w5 e5 hnb hw5 hz5
  refine Drawn.nil hB ?_
  intro w6 hw6
  refine Goes.adv hTT 400 rfl ?_
  have hw36:=(hw4.trans hw5).trans hw6
  have hzz:(zeroRow (cellsL (Value.int .u8 0)) n)=(zeros n).map (Value.int .u8):=zeroRow_zeros _
  have hnb6:=hw6.heap' hnb
  have s36:=hw36.size
  have z4:=hw4.size
  obtain ⟨y,ey⟩:∃ y:Bt,y=⟨some ⟨nb,0,none⟩,n,zeros n⟩:=⟨_,rfl⟩
  refine Goes.index hTT rfl (j:=(j*1)) (by omega) (by omega) (by first | rfl | omega | (simp; done) | (simp; omega)) rfl ?_
  refine Goes.store hTT rfl (hw36.heap' hgA) (btSet y (by rw [ey]; unfold btL; rw [zeros_length]) hj) rfl ?_
  intro wS hgS hsS hzS
  refine Goes.adv hTT 400 rfl ?_
  have hcS:Chg None' w wS:=(hw03.trans hw36).since hsS (fun z hz e=>by omega)
  have hnbS:=hsS.heap hnb6 (by omega)
  have l6:=lt_of_heap hnbS
  have hyk:BtOk F wS y:=(by rw [ey]; exact ⟨RdU.of hnbS (by rw [hzz]),fun b off s e hz=>by cases e; have:=hF _ hz; omega,fun b off s e=>by cases e; exact l6,by show (zeros n).length≤_; rw [zeros_length]; omega⟩)
  exact Goes.ret1 hTT rfl Tryz.func24 rfl rfl ⟨some ⟨g,0,none⟩,cap3,xs.set j y,by rw [List.length_set],List.length_set,by rw [List.map_set]; unfold aft; exact (by rw [if_pos k0,ej,en,Int.toNat_natCast,Int.toNat_natCast,ey]),hx.set hF (hcS) hgS hgl hyk,hcS⟩
 ·refine Goes.no hTT rfl (decide_eq_false k0) rfl ?_
  by_cases k1:u.kind % 7=1
  ·obtain ⟨j,ej,hj⟩:=hf.o (by omega)
   rw [hmap] at hj
   obtain ⟨y,ey⟩:∃ y:Bt,y=⟨none,0,[]⟩:=⟨_,rfl⟩
   refine Goes.yes hTT rfl (decide_eq_true k1) rfl ?_
   refine Goes.loadb hTT rfl hub3 rfl rfl ?_
   rw [ej]
   refine Goes.index hTT rfl (j:=(j*1)) (by omega) (by omega) (by first | rfl | omega | (simp; done) | (simp; omega)) rfl ?_
   refine Goes.store hTT rfl hgA (btSet y (by rw [ey]; rfl) hj) rfl ?_
   intro wS hgS hsS hzS
   refine Goes.adv hTT 400 rfl ?_
   have hcS:Chg None' w wS:=hw03.since hsS (fun z hz e=>by omega)
   have hyk:BtOk F wS y:=(by rw [ey]; exact ⟨Rd.nil _ _ _,fun b off s e=>by (cases e),fun b off s e=>by (cases e),by decide⟩)
   exact Goes.ret1 hTT rfl Tryz.func24 rfl rfl ⟨some ⟨g,0,none⟩,cap3,xs.set j y,by rw [List.length_set],List.length_set,by rw [List.map_set]; unfold aft; exact (by rw [if_neg k0,if_pos k1,ej,Int.toNat_natCast,ey]),hx.set hF (hcS) hgS hgl hyk,hcS⟩
  ·refine Goes.no hTT rfl (decide_eq_false k1) rfl ?_
   by_cases k2:u.kind % 7=2
   ·obtain ⟨j,ej,hj⟩:=hf.o (by omega)
    rw [hmap] at hj
    obtain ⟨n,en⟩:=Int.eq_ofNat_of_zero_le (show 0≤u.a by have:=hf.a (.inr k2); omega)
    have ha:=hf.a (.inr k2)
    refine Goes.yes hTT rfl (decide_eq_true k2) rfl ?_
    refine Goes.loadb hTT rfl hub3 rfl rfl ?_
    rw [en]
    refine Goes.make hTT (m:=n) (k:=n) rfl rfl rfl (Nat.le_refl _) (show 1*n≤140737488355328 by omega) (by omega) ?_
    intro nb w4 e4 hnb hw4 hz4
    refine Goes.adv hTT 400 rfl ?_
    obtain ⟨b0,off,rfl,hcell⟩:=hx.at hj
    have hzz:(zeroRow (cellsL (Value.int .u8 0)) n)=(zeros n).map (Value.int .u8):=zeroRow_zeros _
    rw [hzz] at hnb
    have hj0:=hx.each xs[j] (List.getElem_mem hj)
    have hlt:(xs[j].l.take n).length=min n xs[j].l.length:=List.length_take ..
    have hzl:=zeros_length n
    refine Goes.loop (α:=Nat) (fun k => [(0,false,.slice (some ⟨b0,off,none⟩) xs.length cap),(3,false,.pointer (some ⟨ub,0,none⟩)),(5,false,.slice (some ⟨g,0,none⟩) xs.length cap3),(6,false,.slice (some ⟨nb,0,none⟩) n n),(7,false,.int .i64 k)])
     (fun k w'=>k≤(xs[j].l.take n).length∧w'.heap[nb]? = some (.cells ((partW (zeros n) 0 (xs[j].l.take n) k).map (Value.int .u8)).toArray 5 (0,0))∧Chg None' w3 w') (fun k=>(xs[j].l.take n).length - k) 0 ⟨rfl,rfl,rfl,rfl,rfl,trivial⟩ ⟨Nat.zero_le _,by rw [partW_zero]; exact hnb,hw4⟩ ?_
    rintro k w5 ⟨hkk,hnb5,hw35⟩ ih
    have hub5:=hw35.heap' hub3
    have hc5:∀ i v,(btL xs[j])[i]? = some v→w5.cell? ⟨b0,off+j*1+i,none⟩=some v:=fun i v hv=>(hw03.trans hw35).cell (hcell i v hv) id
    have hpl:(partW (zeros n) 0 (xs[j].l.take n) k).length=n:=by rw [partW_length (by omega),hzl]
    have s35:=hw35.size
    refine Goes.adv hTT 400 rfl ?_
    refine Goes.fork hTT rfl rfl rfl (fun h1 => ?_) (fun h1 => ?_)
    ·have h1:=of_decide_eq_true h1
     refine Goes.loadb hTT rfl hub5 rfl rfl ?_
     rw [ej]
     refine Goes.index hTT rfl (j:=(j*1)) (by omega) (by omega) (by first | rfl | omega | (simp; done) | (simp; omega)) rfl ?_
     refine Goes.load hTT rfl (hc5 0 _ rfl) rfl ?_
     refine Goes.fork hTT rfl rfl rfl (fun h2 => ?_) (fun h2 => ?_)
     ·have h2:=of_decide_eq_true h2
      obtain ⟨b1,off1,ea1,hc1⟩:=hj0.rd k (by omega)
      refine Goes.loadb hTT rfl hub5 rfl rfl ?_
      rw [ej]
      refine Goes.index hTT rfl (j:=(j*1)) (by omega) (by omega) (by first | rfl | omega | (simp; done) | (simp; omega)) rfl ?_
      refine Goes.load hTT rfl (hc5 0 _ rfl) rfl ?_
      rw [ea1]
      refine Goes.index hTT rfl (j:=k) (by omega) (by omega) (by first | rfl | omega | (simp; done) | (simp; omega)) rfl ?_
      refine Goes.load hTT rfl ((hw03.trans hw35).cell hc1 id) rfl ?_
      refine Goes.index hTT rfl (j:=k) (by omega) (by omega) (by first | rfl | omega | (simp; done) | (simp; omega)) rfl ?_
      refine Goes.store hTT rfl hnb5 (setV1 (by rw [hpl]; omega)) rfl ?_
      intro w6 hnb6 hs6 hz6
      refine Goes.adv hTT 400 rfl ?_
      have hst:=partW_step (l:=xs[j].l.take n) (i:=0) (bs:=zeros n) (k:=k) (by omega) (by omega)
      rw [show (xs[j].l.take n).getD k 0=xs[j].l.getD k 0 by rw [List.getD_eq_getElem?_getD,List.getElem?_take_of_lt (by omega),← List.getD_eq_getElem?_getD]] at hst
      rw [hst] at hnb6
      refine Goes.arith hTT rfl (w64 (by omega)) rfl ?_
      exact ih (k+1) _ _ ⟨by omega,hnb6,hw35.since hs6 (fun z hz e=>by omega)⟩ (by omega) ⟨rfl,rfl,rfl,rfl,rfl,trivial⟩
     ·have h2:=of_decide_eq_false h2
      obtain rfl:k=(xs[j].l.take n).length:=by omega
      rw [partW_all,wrB_resz] at hnb5
      refine Goes.loadb hTT rfl hub5 rfl rfl ?_
      rw [ej]
      obtain ⟨y,ey⟩:∃ y:Bt,y=⟨some ⟨nb,0,none⟩,n,resz xs[j].l n⟩:=⟨_,rfl⟩
      refine Goes.index hTT rfl (j:=(j*1)) (by omega) (by omega) (by first | rfl | omega | (simp; done) | (simp; omega)) rfl ?_
      refine Goes.store hTT rfl (hw35.heap' hgA) (btSet y (by rw [ey]; unfold btL; rw [resz_length]) hj) rfl ?_
      intro wS hgS hsS hzS
      refine Goes.adv hTT 400 rfl ?_
      have hcS:Chg None' w wS:=(hw03.trans hw35).since hsS (fun z hz e=>by omega)
      have hnbS:=hsS.heap hnb5 (by omega)
      have l6:=lt_of_heap hnbS
      have hyk:BtOk F wS y:=(by rw [ey]; exact ⟨RdU.of hnbS rfl,fun b off s e hz=>by cases e; have:=hF _ hz; omega,fun b off s e=>by cases e; exact l6,by show (resz xs[j].l n).length≤_; rw [resz_length]; omega⟩)
      exact Goes.ret1 hTT rfl Tryz.func24 rfl rfl ⟨some ⟨g,0,none⟩,cap3,xs.set j y,by rw [List.length_set],List.length_set,by rw [List.map_set]; unfold aft; exact (by rw [if_neg k0,if_neg k1,if_pos k2,ej,en,Int.toNat_natCast,Int.toNat_natCast,ey,owned_at hj]),hx.set hF (hcS) hgS hgl hyk,hcS⟩
    ·have h1:=of_decide_eq_false h1
     obtain rfl:k=(xs[j].l.take n).length:=by omega
     rw [partW_all,wrB_resz] at hnb5
     refine Goes.loadb hTT rfl hub5 rfl rfl ?_
     rw [ej]
     obtain ⟨y,ey⟩:∃ y:Bt,y=⟨some ⟨nb,0,none⟩,n,resz xs[j].l n⟩:=⟨_,rfl⟩
     refine Goes.index hTT rfl (j:=(j*1)) (by omega) (by omega) (by first | rfl | omega | (simp; done) | (simp; omega)) rfl ?_
     refine Goes.store hTT rfl (hw35.heap' hgA) (btSet y (by rw [ey]; unfold btL; rw [resz_length]) hj) rfl ?_
     intro wS hgS hsS hzS
     refine Goes.adv hTT 400 rfl ?_
     have hcS:Chg None' w wS:=(hw03.trans hw35).since hsS (fun z hz e=>by omega)
     have hnbS:=hsS.heap hnb5 (by omega)
     have l6:=lt_of_heap hnbS
     have hyk:BtOk F wS y:=(by rw [ey]; exact ⟨RdU.of hnbS rfl,fun b off s e hz=>by cases e; have:=hF _ hz; omega,fun b off s e=>by cases e; exact l6,by show (resz xs[j].l n).length≤_; rw [resz_length]; omega⟩)
     exact Goes.ret1 hTT rfl Tryz.func24 rfl rfl ⟨some ⟨g,0,none⟩,cap3,xs.set j y,by rw [List.length_set],List.length_set,by rw [List.map_set]; unfold aft; exact (by rw [if_neg k0,if_neg k1,if_pos k2,ej,en,Int.toNat_natCast,Int.toNat_natCast,ey,owned_at hj]),hx.set hF (hcS) hgS hgl hyk,hcS⟩
   ·refine Goes.no hTT rfl (decide_eq_false k2) rfl ?_
    by_cases k4:u.kind % 7=4
    ·obtain ⟨j,ej,hj⟩:=hf.o (by omega)
     rw [hmap] at hj
     obtain ⟨j',ej',wa,wl,wp⟩:=hf.w k4
     obtain rfl:j=j':=by omega
     rw [owned_at hj] at wl wp
     obtain ⟨A,eA⟩:=Int.eq_ofNat_of_zero_le wa
     obtain ⟨b0,off,rfl,hcell⟩:=hx.at hj
     have hj0:=hx.each xs[j] (List.getElem_mem hj)
     have hjl:=hj0.len
     refine Goes.yes hTT rfl (decide_eq_true k4) rfl ?_
     refine Goes.buildSlice hTT rfl ?_
     intro c0 w4 ec0 hc0 hw4 hz4
     refine Goes.adv hTT 400 rfl ?_
     have hub4:=hw4.heap' hub3
     have hw04:=hw03.trans hw4
     refine Goes.loadb hTT rfl hub4 rfl rfl ?_
     rw [ej]
     refine Goes.index hTT rfl (j:=(j*1)) (by omega) (by omega) (by first | rfl | omega | (simp; done) | (simp; omega)) rfl ?_
     refine Goes.load hTT rfl (hw04.cell (hcell 0 _ rfl) id) rfl ?_
     have ho4:Own w3.heap.size 5 1 w4 (.slice (some ⟨c0,0,none⟩) 0 0) 0 []:=Own.empty (by omega) hc0
     refine Goes.appendA (base:=w3.heap.size) (xs := []) (news:=xs[j].l.map (Value.int .u8)) hTT rfl ho4 hw4.size hj0.rd.noneA (by simp) (hj0.rd.chg hw04).cellsA plain_ints ⟨by omega,by show (0+xs[j].l.length)*1≤_; omega⟩ ?_
     intro v5 w5 ho5 hs5 hv5
     replace ho5:Own w3.heap.size 5 1 w5 v5 xs[j].l.length (xs[j].l.map (Value.int .u8)):=by
      have h:=ho5
      rw [List.nil_append,Nat.zero_add] at h
      exact h
     have hs35:=ho4.since hw4 (Nat.le_refl _) hs5
     obtain ⟨nb,cap5,cur5,rfl,hn1,hn2,hn3,hn4,hn5⟩:=ho5.form (by omega)
     have hcur5:cur5.toList=xs[j].l.map (Value.int .u8)++cur5.toList.drop (xs[j].l.length*1):=by
      have e:=List.take_append_drop (xs[j].l.length*1) cur5.toList
      rw [hn5] at e
      exact e.symm
     obtain ⟨rest5,hrest5⟩:∃ rest5,rest5=cur5.toList.drop (xs[j].l.length*1):=⟨_,rfl⟩
     rw [← hrest5] at hcur5
     have hnA:w5.heap[nb]? = some (.cells (xs[j].l.map (Value.int .u8)++rest5).toArray 5 (0,0)):=by rw [← hcur5]; exact hn2
     have z35:=hs35.size
     refine Goes.adv hTT 400 rfl ?_
     refine Goes.loop (α:=Nat) (fun k => [(3,false,.pointer (some ⟨ub,0,none⟩)),(5,false,.slice (some ⟨g,0,none⟩) xs.length cap3),(8,false,.slice (some ⟨nb,0,none⟩) xs[j].l.length cap5),(9,false,.int .i64 k)])
      (fun k w'=>k≤u.bs.length∧w'.heap[nb]? = some (.cells ((partW xs[j].l A u.bs k).map (Value.int .u8)++rest5).toArray 5 (0,0))∧Chg None' w3 w') (fun k=>u.bs.length - k) 0 ⟨rfl,rfl,rfl,rfl,trivial⟩ ⟨Nat.zero_le _,by rw [partW_zero]; exact hnA,hs35⟩ ?_
     rintro k w6 ⟨hkk,hnb6,hw36⟩ ih
     have hub6:=hw36.heap' hub3
     have hpl:(partW xs[j].l A u.bs k).length=xs[j].l.length:=partW_length (by omega)
     have s36:=hw36.size
     refine Goes.adv hTT 400 rfl ?_
     refine Goes.loadb hTT rfl hub6 rfl rfl ?_
     refine Goes.fork hTT rfl rfl rfl (fun h1 => ?_) (fun h1 => ?_)
     ·have h1:=of_decide_eq_true h1
      have h1b:k<u.bs.length:=by omega
      obtain ⟨b1,off1,ea1,hc1⟩:=hu.rd k h1b
      refine Goes.drawn (q:=10) None' hTT mixed (by kernel_rfl) rfl ?_
      intro hB
      refine Drawn.loadb hTT hB rfl hub6 (by first | exact fun h=>h | (intro h; omega) | assumption) rfl rfl ?_
      rw [eA]
      refine Drawn.arith hTT hB rfl (w64 (by omega)) rfl ?_
      refine Drawn.loadb hTT hB rfl hub6 (by first | exact fun h=>h | (intro h; omega) | assumption) rfl rfl ?_
      rw [ea1]
      refine Drawn.index hTT hB rfl (j:=k) (by omega) (by omega) (by first | rfl | omega | (simp; done) | (simp; omega)) rfl ?_
      refine Drawn.load hTT hB rfl ((hw03.trans hw36).cell hc1 id) (by first | exact fun h=>h | (intro h; omega) | assumption) rfl ?_
      refine Drawn.nil hB ?_
      intro w7 hw7
      refine Goes.adv hTT 400 rfl ?_
      refine Goes.index hTT rfl (j:=(A+k)) (by omega) (by omega) (by first | rfl | omega | (simp; done) | (simp; omega)) rfl ?_
      refine Goes.store hTT rfl (hw7.heap' hnb6) (setV1r (by rw [hpl]; omega)) rfl ?_
      intro w8 hnb8 hs8 hz8
      refine Goes.adv hTT 400 rfl ?_
      have hst:=partW_step (l:=u.bs) (i:=A) (bs:=xs[j].l) (k:=k) (by omega) h1b
      rw [show 0+(A+k)=A+k by omega,hst] at hnb8
      refine Goes.arith hTT rfl (w64 (by omega)) rfl ?_
      exact ih (k+1) _ _ ⟨by omega,hnb8,(hw36.trans hw7).since hs8 (fun z hz e=>by omega)⟩ (by omega) ⟨rfl,rfl,rfl,rfl,trivial⟩
     ·have h1:=of_decide_eq_false h1
      obtain rfl:k=u.bs.length:=by omega
      rw [partW_all] at hnb6
      obtain ⟨y,ey⟩:∃ y:Bt,y=⟨some ⟨nb,0,none⟩,cap5,wrB xs[j].l A u.bs⟩:=⟨_,rfl⟩
      have hwl:(wrB xs[j].l A u.bs).length=xs[j].l.length:=wrB_length (by omega)
      refine Goes.loadb hTT rfl hub6 rfl rfl ?_
      rw [ej]
      refine Goes.index hTT rfl (j:=(j*1)) (by omega) (by omega) (by first | rfl | omega | (simp; done) | (simp; omega)) rfl ?_
      refine Goes.store hTT rfl (hw36.heap' hgA) (btSet y (by rw [ey]; unfold btL; rw [hwl]) hj) rfl ?_
      intro wS hgS hsS hzS
      refine Goes.adv hTT 400 rfl ?_
      have hcS:Chg None' w wS:=(hw03.trans hw36).since hsS (fun z hz e=>by omega)
      have hnbS:=hsS.heap hnb6 (by omega)
      have l6:=lt_of_heap hnbS
      have hrdS:Rd .u8 wS (some ⟨nb,0,none⟩) (wrB xs[j].l A u.bs):=Rd.of_take hnbS (by rw [List.toList_toArray,hwl,← hwl,List.take_left' (by rw [List.length_map])])
      have hyk:BtOk F wS y:=(by rw [ey]; exact ⟨hrdS,fun b off s e hz=>by cases e; have:=hF _ hz; omega,fun b off s e=>by cases e; exact l6,by show (wrB xs[j].l A u.bs).length≤_; rw [hwl]; exact hjl⟩)
      exact Goes.ret1 hTT rfl Tryz.func24 rfl rfl ⟨some ⟨g,0,none⟩,cap3,xs.set j y,by rw [List.length_set],List.length_set,by rw [List.map_set]; unfold aft; exact (by rw [if_neg k0,if_neg k1,if_neg k2,if_pos k4,ej,eA,Int.toNat_natCast,Int.toNat_natCast,ey,owned_at hj]),hx.set hF (hcS) hgS hgl hyk,hcS⟩
    ·refine Goes.no hTT rfl (decide_eq_false k4) rfl ?_
     exact Goes.ret1 hTT rfl Tryz.func24 rfl rfl ⟨some ⟨g,0,none⟩,cap3,xs,rfl,rfl,by unfold aft; rw [if_neg k0,if_neg k1,if_neg k2,if_neg k4],⟨rows_at hgA btL_len,fun b off s e hz=>by cases e; have:=hF _ hz; omega,fun b off s e=>by cases e; exact lg,fun x hx'=>(hx.each x hx').grow hw03⟩,hw03⟩
end Go.Proofs.YtnaoiegcobineaaGreatDoor
namespace Go.Proofs.YtnaoiegcobineaaGreatDoor
open Go.RowKit
theorem zero_bts:∀ n,zeroRow [.slice none 0 0] n=fl btL (List.replicate n ⟨none,0,[]⟩)
 |0=>rfl
 |n+1=>by rw [zeroRow,zero_bts n,List.replicate_succ]; rfl
theorem Lv.slots {c:Conf} {n0:Nat} {w0 w:World} {F:Nat→Prop} {S:Sto} {s:StM} (h:Lv c n0 w0 w F S s):(s.th.length:Int)=c.slots:=h.inv.tl
structure ByS (c:Conf) (n0:Nat) (wB w:World) (S:Sto) (oa:Option Addr) (N:Nat) (F:Nat→Prop) (s:StM) (ys:List Bt):Prop where
 lv:Lv c n0 wB w F S s
 bi:BI c s (ys.map (·.l))
 own:OwnR F w oa ys
 len:ys.length=N
theorem same_if {W:Int} {n:Nat} (h:W=0↔0<n):(!((W == 0) == decide ((n:Int) > 0)))=false:=by
 by_cases hn:0<n
 ·rw [h.2 hn,decide_eq_true (show (n:Int) > 0 by omega)]; rfl
 ·have e:(W == 0)=false:=by simpa using fun e=>hn (h.1 e)
  rw [e,decide_eq_false (show ¬ (n:Int) > 0 by omega)]; rfl
set_option maxRecDepth 100000 in
theorem law_StoreBytes (c:Conf) (p:ConfAt) (sa:Option Addr) (sc:Nat) (xs:List Act22) (w:World) (ht:TabAt w) (hc:ConfOk w c p) (hrs:Rows act22L 5 w sa xs) (hl:xs.length≤9223372036854775807) (hxs:∀ x ∈ xs,Act22Ok w x):Does Tryz.prog 5 #[.agg (confL c p).toArray,.slice sa xs.length sc] w (Grow (.bool true) w):=by
 refine Does.enter Tryz.func5 rfl Tryz.ntmps5 rfl rfl ?_
 refine Goes.adv hTT 400 rfl ?_
 refine Goes.alloc hTT rfl ?_
 intro cb w1 e1 hcb hw1 hz1
 refine Goes.adv hTT 400 rfl ?_
 replace hcb:w1.heap[cb]? = some (.cells (confL c p).toArray 24 (0,0)):=hcb
 refine Goes.call rfl (law22_awake w1 (ht.grow hw1)) ?_
 rintro _ w2 ⟨rfl,hw2⟩
 refine Goes.adv hTT 400 rfl ?_
 have hw02:=hw1.trans hw2
 have hcb2:=hw2.heap' hcb
 refine Goes.loads hTT rfl hcb2 rfl rfl ?_
 refine Goes.call rfl (ref03_Few c p w2 (hc.chg hw02)) ?_
 rintro _ w3 ⟨rfl,hw3⟩
 refine Goes.adv hTT 400 rfl ?_
 have hw03:=hw02.trans hw3
 have hcb3:=hw3.heap' hcb2
 cases hf:fewM c with
 |false =>
  refine Goes.yes hTT rfl rfl rfl ?_
  exact Goes.ret1 hTT rfl Tryz.func5 rfl rfl ⟨rfl,hw03⟩
 |true =>
 obtain ⟨hm,hsz,hpg⟩:=few_may hf
 have hmf:=may_facts hm
 refine Goes.no hTT rfl rfl rfl ?_
 refine Goes.call rfl (ref22_Few sa sc xs w3 (hrs.chg hw03) hl) ?_
 rintro _ w4 ⟨b0,rfl,hb0,rfl⟩
 refine Goes.adv hTT 400 rfl ?_
 refine Goes.fork hTT rfl rfl rfl (fun g0 => ?_) (fun g0 => ?_)
 ·exact Goes.ret1 hTT rfl Tryz.func5 rfl rfl ⟨rfl,hw03⟩
 obtain ⟨hx20,hx100⟩:=hb0 (by simpa using g0)
 have hka:ALt w p.ka:=fun b off s e=>hc.keep.block (by have:=hmf.keep; have:=hmf.n; omega) e
 refine Goes.loads hTT rfl hcb3 rfl rfl ?_
 refine Goes.call rfl (law22_begin c p w3 (hc.chg hw03) (ht.grow hw03) hm (by omega) (hka.grow hw03.size)) ?_
 rintro _ w5 ⟨F,S,r,n0,rfl,hn0,h5,hlap,hr5,hrc,hout⟩
 refine Goes.adv hTT 400 rfl ?_
 have hcb5:=h5.chg.heap' hcb3
 refine Goes.alloc hTT rfl ?_
 intro xb w6 e6 hxb hw6 hz6
 refine Goes.adv hTT 400 rfl ?_
 refine Goes.store hTT rfl hxb rfl rfl ?_
 intro w7 hxb7 hs7 hz7
 refine Goes.adv hTT 400 rfl ?_
 have hw57:Chg None' w5 w7:=hw6.since hs7 (fun z hz e=>by omega)
 have h7:=h5.grow hw57
 have hcb7:=hw57.heap' hcb5
 obtain ⟨N,hN⟩:=Int.eq_ofNat_of_zero_le (show 0≤c.slots by
  have:=hm
  unfold mayB at this
  simp only [Bool.and_eq_true,decide_eq_true_eq,withinM] at this
  omega)
 have hsl:c.slots≤4096∧1≤c.slots:=by
  have:=hm
  unfold mayB at this
  simp only [Bool.and_eq_true,decide_eq_true_eq,withinM] at this
  omega
 refine Goes.loadb hTT rfl hcb7 rfl rfl ?_
 rw [hN]
 refine Goes.make hTT (m:=N) (k:=N) rfl rfl rfl (Nat.le_refl _) (show 24*N≤140737488355328 by omega) (by omega) ?_
 intro ob w8 e8 hob hw8 hz8
 refine Goes.adv hTT 400 rfl ?_
 replace hob:w8.heap[ob]? = some (.cells (zeroRow [.slice none 0 0] N).toArray 36 (0,0)):=hob
 rw [zero_bts] at hob
 have h8:=h7.grow hw8
 have hcb8:=hw8.heap' hcb7
 have z5:=hw57.size
 have hw38:Chg None' w3 w8:=h8.chg
 have hBY:ByS c n0 w3 w8 S (some ⟨ob,0,none⟩) N F (newSt c) (List.replicate N ⟨none,0,[]⟩):=⟨h8,by
  have:=BI.new c
  rw [hN,Int.toNat_natCast] at this
  rw [List.map_replicate]
  exact this,⟨rows_at (rest := []) (by rw [List.append_nil]; exact hob) btL_len,fun b off s e hz=>by cases e; have:=h7.low _ hz; omega,fun b off s e=>by cases e; exact lt_of_heap hob,fun x hx=>by rw [List.eq_of_mem_replicate hx]; exact ⟨Rd.nil _ _ _,fun _ _ _ e=>by (cases e),fun _ _ _ e=>by (cases e),by decide⟩⟩,List.length_replicate⟩
 refine Goes.loop (α:=Nat × Option Addr × Nat) (fun x => [(1,false,.slice sa xs.length sc),(2,false,.pointer (some ⟨cb,0,none⟩)),(5,false,.bool true),(6,false,stoV S),(8,false,.slice x.2.1 N x.2.2),(9,false,.int .i64 x.1)])
  (fun x w'=>x.1≤xs.length ∧ ∃ F s ys,ByS c n0 w3 w' S x.2.1 N F s ys) (fun x=>xs.length - x.1) (0,some ⟨ob,0,none⟩,N) ⟨rfl,rfl,rfl,rfl,rfl,rfl,trivial⟩ ⟨Nat.zero_le _,F,_,_,hBY⟩ ?_
 rintro ⟨k,oa,oc⟩ w9 ⟨hk,F9,s9,ys,hB9⟩ ih
 simp only at hk hB9
 obtain ⟨h9,hbi9,hown9,hlen9⟩:=hB9
 have hcb9:=h9.chg.heap' hcb3
 have hw09:=hw03.trans h9.chg
 refine Goes.adv hTT 400 rfl ?_
 refine Goes.fork hTT rfl rfl rfl (fun g1 => ?_) (fun g1 => ?_)
 ·have g1:=of_decide_eq_true g1
  have hkl:k<xs.length:=by omega
  obtain ⟨ab,aoff,rfl,hcell⟩:=hrs.at hkl
  have hu:=hxs xs[k] (List.getElem_mem hkl)
  have hcell9:∀ i v,(act22L xs[k])[i]? = some v→w9.cell? ⟨ab,aoff+k*5+i,none⟩=some v:=fun i v hv=>hw09.cell (hcell i v hv) id
  refine Goes.index hTT rfl (j:=(k*5)) (by omega) (by omega) (by first | rfl | omega | (simp; done) | (simp; omega)) rfl ?_
  refine Goes.loadC hTT ((act22L xs[k])) rfl (by first | rfl | (simp; done) | (simp [*]; done) | (simp; omega)) (hcell9) rfl ?_
  have houtu:0<xs[k].bs.length→OutA F9 xs[k].ba:=fun hp b off s e hz=>by
   have:=hu.rd.block hp e
   have:=h9.base _ hz
   have:=hw03.size
   omega
  refine Goes.call rfl (law22_do h9 xs[k] (hu.grow hw09) houtu) ?_
  rintro _ w10 ⟨a10,cap10,rfl,hr10,ha10,F10,h10,hF10,hc10⟩
  refine Goes.adv hTT 400 rfl ?_
  have hbi10:=hbi9.do22 h9.inv xs[k]
  have hown10:=hown9.step hF10 hc10
  have hcb10:=h10.chg.heap' hcb3
  have hw010:=hw03.trans h10.chg
  have hcell10:∀ i v,(act22L xs[k])[i]? = some v→w10.cell? ⟨ab,aoff+k*5+i,none⟩=some v:=fun i v hv=>hw010.cell (hcell i v hv) id
  by_cases hE:do22E c s9 xs[k]=0
  ·have hfi:=fine_of hbi9 h9.inv hu.kind.1 hE
   rw [if_pos hE] at hbi10
   rw [hE]
   refine Goes.drawn (q:=9) None' hTT mixed (by kernel_rfl) rfl ?_
   intro hB
   refine Drawn.yes hTT hB rfl rfl rfl ?_
   refine Drawn.loads hTT hB rfl hcb10 (by first | exact fun h=>h | (intro h; omega) | assumption) rfl rfl ?_
   refine Drawn.index hTT hB rfl (j:=(k*5)) (by omega) (by omega) (by first | rfl | omega | (simp; done) | (simp; omega)) rfl ?_
   refine Drawn.loadC hTT hB ((act22L xs[k])) rfl (by first | rfl | (simp; done) | (simp [*]; done) | (simp; omega)) (hcell10) (by first | exact fun h=>h | (intro h; omega) | assumption) rfl ?_
   refine Drawn.nil hB ?_
   intro w11 hw11
   refine Goes.adv hTT 400 rfl ?_
   have hodd:=law22_odd c p F10 oa oc ys xs[k] w11 (hown10.grow hw11) (by omega) (hu.grow (hw010.trans hw11)) hfi
   rw [hlen9] at hodd
   refine Goes.call rfl (hodd) ?_
   rintro _ w12 ⟨rfl,hw12⟩
   refine Goes.adv hTT 400 rfl ?_
   have hw1012:=hw11.trans hw12
   refine Goes.no hTT rfl rfl rfl ?_
   refine Goes.yes hTT rfl rfl rfl ?_
   refine Goes.index hTT rfl (j:=(k*5)) (by omega) (by omega) (by first | rfl | omega | (simp; done) | (simp; omega)) rfl ?_
   refine Goes.loadC hTT ((act22L xs[k])) rfl (by first | rfl | (simp; done) | (simp [*]; done) | (simp; omega)) ((fun i v hv=>hw1012.cell (hcell10 i v hv) id)) rfl ?_
   have haft:=law22_after c F10 oa oc ys xs[k] w12 (hown10.grow hw1012) (by omega) (fun z hz=>by have:=h10.low z hz; have:=hw1012.size; omega) (hu.grow (hw010.trans hw1012)) hfi hmf.most.2
   rw [hlen9] at haft
   refine Goes.call rfl (haft) ?_
   rintro _ w13 ⟨oa2,oc2,ys2,rfl,hl2,hm2,hown13,hw13⟩
   refine Goes.adv hTT 400 rfl ?_
   have hB13:ByS c n0 w3 w13 S oa2 N F10 (do22S c s9 xs[k]) ys2:=⟨(h10.grow hw1012).grow hw13,by rw [hm2]; exact hbi10,hown13,hl2⟩
   rw [hl2]
   obtain ⟨ob2,oo2,eob2,_⟩:=(hB13).own.at (j:=0) (by rw [(hB13).len]; omega)
   refine Goes.loop (α:=Nat) (fun i => [(1,false,.slice (some ⟨ab,aoff,none⟩) xs.length sc),(2,false,.pointer (some ⟨cb,0,none⟩)),(5,false,.bool true),(6,false,stoV S),(8,false,.slice oa2 N oc2),(9,false,.int .i64 k),(12,false,.int .i64 i)])
    (fun i w'=>i≤N ∧ ∃ F s,ByS c n0 w3 w' S oa2 N F s ys2) (fun i=>N - i) 0 ⟨rfl,rfl,rfl,rfl,rfl,rfl,rfl,trivial⟩ ⟨Nat.zero_le _,_,_,hB13⟩ ?_
   rintro i w20 ⟨hi,F20,s20,hB20⟩ ih2
   obtain ⟨h20,hbi20,hown20,hlen20⟩:=hB20
   refine Goes.adv hTT 400 rfl ?_
   refine Goes.fork hTT rfl rfl rfl (fun g2 => ?_) (fun g2 => ?_)
   ·have g2:=of_decide_eq_true g2
    have hiN:i<(ys2).length:=by omega
    obtain ⟨l,d1,d2,d3,d4⟩:=hbi20.told h20.inv i (by have:=hbi20.len; rw [List.length_map] at this; omega)
    have el:l=(ys2)[i].l:=by
     rw [List.getElem?_map,List.getElem?_eq_getElem hiN] at d1
     exact (Option.some.inj d1).symm
    subst el
    obtain ⟨b8,o8,e8',hcell20⟩:=hown20.at hiN
    have hyi:=hown20.each _ (List.getElem_mem hiN)
    have hyl:=hyi.len
    rw [e8']
    refine Goes.drawn (q:=8) None' hTT mixed (by kernel_rfl) rfl ?_
    intro hB
    refine Drawn.call hTT hB rfl (fun w' hw'=>(lv_Size (h20.grow hw') (i:Nat))) rfl ?_
    refine Drawn.index hTT hB rfl (j:=(i*1)) (by omega) (by omega) (by first | rfl | omega | (simp; done) | (simp; omega)) rfl ?_
    refine Drawn.load hTT hB rfl (hcell20 0 _ rfl) (by first | exact fun h=>h | (intro h; omega) | assumption) rfl ?_
    refine Drawn.nil hB ?_
    intro w21 hw21
    refine Goes.adv hTT 400 rfl ?_
    rw [← d2]
    refine Goes.no hTT rfl (bne_self_eq_false _) rfl ?_
    have hc21:∀ j v,(btL (ys2)[i])[j]? = some v→w21.cell? ⟨b8,o8+i*1+j,none⟩=some v:=fun j v hv=>hw21.cell (hcell20 j v hv) id
    refine Goes.index hTT rfl (j:=(i*1)) (by omega) (by omega) (by first | rfl | omega | (simp; done) | (simp; omega)) rfl ?_
    refine Goes.load hTT rfl (hc21 0 _ rfl) rfl ?_
    refine Goes.call rfl (lv_Read (h20.grow hw21) (i:Nat) 0 ((ys2)[i].l.length:Nat) (by decide) (by omega)) ?_
    rintro _ w22 ⟨a22,cap22,rfl,hr22,ha22,F22,h22,hF22,hc22⟩
    refine Goes.adv hTT 400 rfl ?_
    have hown22:=(hown20.grow hw21).step hF22 hc22
    rw [d4] at hr22 ⊢
    obtain ⟨b9,o9,e9',hcell22⟩:=hown22.at hiN
    rw [e8'] at e9'
    cases e9'
    have hri:=(hown22.each _ (List.getElem_mem hiN)).rd
    refine Goes.drawn (q:=17) None' hTT mixed (by kernel_rfl) rfl ?_
    intro hB
    refine Drawn.index hTT hB rfl (j:=(i*1)) (by omega) (by omega) (by first | rfl | omega | (simp; done) | (simp; omega)) rfl ?_
    refine Drawn.load hTT hB rfl (hcell22 0 _ rfl) (by first | exact fun h=>h | (intro h; omega) | assumption) rfl ?_
    refine Drawn.no hTT hB rfl (same_if d3) rfl ?_
    refine Drawn.bstrN hTT hB ((ys2)[i].l) rfl rfl (⟨hr22,fun _ _ _ _ _ h=>h⟩) rfl ?_
    refine Drawn.index hTT hB rfl (j:=(i*1)) (by omega) (by omega) (by first | rfl | omega | (simp; done) | (simp; omega)) rfl ?_
    refine Drawn.load hTT hB rfl (hcell22 0 _ rfl) (by first | exact fun h=>h | (intro h; omega) | assumption) rfl ?_
    refine Drawn.bstrN hTT hB ((ys2)[i].l) rfl rfl (⟨hri,fun _ _ _ _ _ h=>h⟩) rfl ?_
    refine Drawn.nil hB ?_
    intro w23 hw23
    refine Goes.adv hTT 400 rfl ?_
    refine Goes.streq hTT rfl (rfl) rfl ?_
    refine Goes.arith hTT rfl (w64 (by omega)) rfl ?_
    rw [← e8']
    have hbi22:BI c (stRead c s20 (i:Nat) 0 ((ys2)[i].l.length:Nat)) ((ys2).map (·.l)):=hbi20.of (by unfold stRead; split <;> rfl) (by unfold stRead; split <;> rfl) (by unfold stRead; split <;> rfl)
    exact ih2 (i+1) _ _ ⟨by omega,F22,_,h22.grow hw23,hbi22,hown22.grow hw23,hlen20⟩ (by omega) ⟨rfl,rfl,rfl,rfl,rfl,rfl,rfl,trivial⟩
   ·have g2:=of_decide_eq_false g2
    refine Goes.arith hTT rfl (w64 (by omega)) rfl ?_
    exact ih (k+1,oa2,oc2) _ _ ⟨by show k+1≤_; omega,F20,s20,ys2,h20,hbi20,hown20,hlen20⟩ (by simp only; omega) ⟨rfl,rfl,rfl,rfl,rfl,rfl,trivial⟩
  ·rw [if_neg hE] at hbi10
   refine Goes.drawn (q:=9) None' hTT mixed (by kernel_rfl) rfl ?_
   intro hB
   refine Drawn.no hTT hB rfl (by simpa using hE) rfl ?_
   refine Drawn.nil hB ?_
   intro w11 hw11
   refine Goes.adv hTT 400 rfl ?_
   have hB11:ByS c n0 w3 w11 S oa N F10 (do22S c s9 xs[k]) ys:=⟨h10.grow hw11,hbi10,hown10.grow hw11,hlen9⟩
   refine Goes.no hTT rfl (by simpa using hE) rfl ?_
   obtain ⟨ob2,oo2,eob2,_⟩:=(hB11).own.at (j:=0) (by rw [(hB11).len]; omega)
   refine Goes.loop (α:=Nat) (fun i => [(1,false,.slice (some ⟨ab,aoff,none⟩) xs.length sc),(2,false,.pointer (some ⟨cb,0,none⟩)),(5,false,.bool true),(6,false,stoV S),(8,false,.slice oa N oc),(9,false,.int .i64 k),(12,false,.int .i64 i)])
    (fun i w'=>i≤N ∧ ∃ F s,ByS c n0 w3 w' S oa N F s ys) (fun i=>N - i) 0 ⟨rfl,rfl,rfl,rfl,rfl,rfl,rfl,trivial⟩ ⟨Nat.zero_le _,_,_,hB11⟩ ?_
   rintro i w20 ⟨hi,F20,s20,hB20⟩ ih2
   obtain ⟨h20,hbi20,hown20,hlen20⟩:=hB20
   refine Goes.adv hTT 400 rfl ?_
   refine Goes.fork hTT rfl rfl rfl (fun g2 => ?_) (fun g2 => ?_)
   ·have g2:=of_decide_eq_true g2
    have hiN:i<(ys).length:=by omega
    obtain ⟨l,d1,d2,d3,d4⟩:=hbi20.told h20.inv i (by have:=hbi20.len; rw [List.length_map] at this; omega)
    have el:l=(ys)[i].l:=by
     rw [List.getElem?_map,List.getElem?_eq_getElem hiN] at d1
     exact (Option.some.inj d1).symm
    subst el
    obtain ⟨b8,o8,e8',hcell20⟩:=hown20.at hiN
    have hyi:=hown20.each _ (List.getElem_mem hiN)
    have hyl:=hyi.len
    rw [e8']
    refine Goes.drawn (q:=8) None' hTT mixed (by kernel_rfl) rfl ?_
    intro hB
    refine Drawn.call hTT hB rfl (fun w' hw'=>(lv_Size (h20.grow hw') (i:Nat))) rfl ?_
    refine Drawn.index hTT hB rfl (j:=(i*1)) (by omega) (by omega) (by first | rfl | omega | (simp; done) | (simp; omega)) rfl ?_
    refine Drawn.load hTT hB rfl (hcell20 0 _ rfl) (by first | exact fun h=>h | (intro h; omega) | assumption) rfl ?_
    refine Drawn.nil hB ?_
    intro w21 hw21
    refine Goes.adv hTT 400 rfl ?_
    rw [← d2]
    refine Goes.no hTT rfl (bne_self_eq_false _) rfl ?_
    have hc21:∀ j v,(btL (ys)[i])[j]? = some v→w21.cell? ⟨b8,o8+i*1+j,none⟩=some v:=fun j v hv=>hw21.cell (hcell20 j v hv) id
    refine Goes.index hTT rfl (j:=(i*1)) (by omega) (by omega) (by first | rfl | omega | (simp; done) | (simp; omega)) rfl ?_
    refine Goes.load hTT rfl (hc21 0 _ rfl) rfl ?_
    refine Goes.call rfl (lv_Read (h20.grow hw21) (i:Nat) 0 ((ys)[i].l.length:Nat) (by decide) (by omega)) ?_
    rintro _ w22 ⟨a22,cap22,rfl,hr22,ha22,F22,h22,hF22,hc22⟩
    refine Goes.adv hTT 400 rfl ?_
    have hown22:=(hown20.grow hw21).step hF22 hc22
    rw [d4] at hr22 ⊢
    obtain ⟨b9,o9,e9',hcell22⟩:=hown22.at hiN
    rw [e8'] at e9'
    cases e9'
    have hri:=(hown22.each _ (List.getElem_mem hiN)).rd
    refine Goes.drawn (q:=17) None' hTT mixed (by kernel_rfl) rfl ?_
    intro hB
    refine Drawn.index hTT hB rfl (j:=(i*1)) (by omega) (by omega) (by first | rfl | omega | (simp; done) | (simp; omega)) rfl ?_
    refine Drawn.load hTT hB rfl (hcell22 0 _ rfl) (by first | exact fun h=>h | (intro h; omega) | assumption) rfl ?_
    refine Drawn.no hTT hB rfl (same_if d3) rfl ?_
    refine Drawn.bstrN hTT hB ((ys)[i].l) rfl rfl (⟨hr22,fun _ _ _ _ _ h=>h⟩) rfl ?_
    refine Drawn.index hTT hB rfl (j:=(i*1)) (by omega) (by omega) (by first | rfl | omega | (simp; done) | (simp; omega)) rfl ?_
    refine Drawn.load hTT hB rfl (hcell22 0 _ rfl) (by first | exact fun h=>h | (intro h; omega) | assumption) rfl ?_
    refine Drawn.bstrN hTT hB ((ys)[i].l) rfl rfl (⟨hri,fun _ _ _ _ _ h=>h⟩) rfl ?_
    refine Drawn.nil hB ?_
    intro w23 hw23
    refine Goes.adv hTT 400 rfl ?_
    refine Goes.streq hTT rfl (rfl) rfl ?_
    refine Goes.arith hTT rfl (w64 (by omega)) rfl ?_
    rw [← e8']
    have hbi22:BI c (stRead c s20 (i:Nat) 0 ((ys)[i].l.length:Nat)) ((ys).map (·.l)):=hbi20.of (by unfold stRead; split <;> rfl) (by unfold stRead; split <;> rfl) (by unfold stRead; split <;> rfl)
    exact ih2 (i+1) _ _ ⟨by omega,F22,_,h22.grow hw23,hbi22,hown22.grow hw23,hlen20⟩ (by omega) ⟨rfl,rfl,rfl,rfl,rfl,rfl,rfl,trivial⟩
   ·have g2:=of_decide_eq_false g2
    refine Goes.arith hTT rfl (w64 (by omega)) rfl ?_
    exact ih (k+1,oa,oc) _ _ ⟨by show k+1≤_; omega,F20,s20,ys,h20,hbi20,hown20,hlen20⟩ (by simp only; omega) ⟨rfl,rfl,rfl,rfl,rfl,rfl,trivial⟩
 ·exact Goes.ret1 hTT rfl Tryz.func5 rfl rfl ⟨rfl,hw09⟩
end Go.Proofs.YtnaoiegcobineaaGreatDoor
